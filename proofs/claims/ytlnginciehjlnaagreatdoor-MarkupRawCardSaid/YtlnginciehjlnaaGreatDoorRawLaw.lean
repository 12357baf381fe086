/- The statement MarkupRaw: it returns true at every string and every kind. -/
import Derived.Test.YtlnginciehjlnaaGreatDoorFin
import Derived.Test.YtlnginciehjlnaaGreatDoorRefA
import Derived.OpenShut
set_option linter.unusedVariables false
set_option linter.unusedSimpArgs false
namespace Go.Proofs.YtlnginciehjlnaaGreatDoor
open Go.RowKit
namespace K

theorem findI_none {s : List UInt8} (h : M.idx [60, 47] s = none) : findI [60, 47] s 0 = -1 := by unfold findI; rw [List.drop_zero, h]
theorem findI_some {s : List UInt8} {i : Nat} (h : M.idx [60, 47] s = some i) : findI [60, 47] s 0 = (i : Int) := by unfold findI; rw [List.drop_zero, h]; simp

theorem last_getD {s : List UInt8} (h : s ≠ []) : s.getLast? = some (s.getD (s.length - 1) 0) := by
  rw [List.getLast?_eq_getElem?]
  have : 0 < s.length := List.length_pos_iff.2 h
  rw [List.getElem?_eq_getElem (by omega), List.getD_eq_getElem?_getD, List.getElem?_eq_getElem (by omega)]
  rfl

theorem refUpperL (l m : List UInt8) (w : World) (h : l.length ≤ 1000) (hm : l.map T.upp = m) :
    Calls Tryz.prog 20 #[.string ⟨l.toArray⟩] w fun e w' => e = .returned (.string ⟨m.toArray⟩) ∧ Below w.heap.size w w' := by
  have := T.refUpper ⟨l.toArray⟩ w (by rw [T.bytes_size]; omega)
  rw [T.bytes_toList, hm] at this
  exact this

theorem list_four {α : Type} {l : List α} (h : l.length = 4) : ∃ a b c d, l = [a, b, c, d] := by
  match l, h with
  | [a, b, c, d], _ => exact ⟨a, b, c, d, rfl⟩

set_option maxHeartbeats 4000000 in
set_option maxRecDepth 100000 in
theorem MarkupRaw_0 (s : List UInt8) (kv : Nat) (w : World) (hkv : kv < 256) (hk : kv % 4 = 0) (hs : s.length ≤ 1500) (hr : U.rep s = s) (hn : U.nlr false s = s) (hi : M.idx [60, 47] s = none) (hl : s.getLast? ≠ some 60) (hE : Env w) :
    Calls Tryz.prog 6 #[.string ⟨s.toArray⟩, .int .u8 kv] w fun e w' => e = .returned (.bool true) ∧ Below w.heap.size w w' := by
  have HE := Lib.hid hE
  have hs1 : (s.length : Int) ≤ 1500 := by omega
  have hk1 : (kv : Int) % 4 = 0 := by omega
  have qr := fun W => refRepairS s W (by omega)
  rw [hr] at qr
  have QR := Lib.hid qr
  have qn := fun W => refNewlinesS s W (by omega)
  rw [hn] at qn
  have QN := Lib.hid qn
  have qf := fun W => rFind s [60, 47] 0 W (by omega) (by decide) (by decide) (Nat.zero_le _)
  rw [findI_none hi] at qf
  have QF := Lib.hid (show ∀ W, Calls Tryz.prog 18 #[.string ⟨s.toArray⟩, .int .i64 0, .string ⟨#[60, 47]⟩] W fun e w' => e = .returned (.int .i64 (-1)) ∧ W = w' from qf)
  have ht : toks (M.rawDoc [115, 99, 114, 105, 112, 116] [83, 67, 82, 73, 80, 84] s) = ⟨1, [115, 99, 114, 105, 112, 116], [], false, []⟩ :: ((if s = [] then [] else [.txt 3 (s)]) ++ [⟨2, [115, 99, 114, 105, 112, 116], [], false, []⟩, .txt 3 [122]]) :=
    (toks_plain (M.rawDoc_rep _ _ s (by decide) (by decide) hr) (M.rawDoc_no13 _ _ s (by decide) (by decide) (nlr_no hn))).trans (M.run_rawDoc [115, 99, 114, 105, 112, 116] [83, 67, 82, 73, 80, 84] s (by decide) (by decide) hi hl)
  have QU := Lib.hid (fun W => refUpperL [115, 99, 114, 105, 112, 116] [83, 67, 82, 73, 80, 84] W (by decide) (by decide))
  have a1 : (⟨#[60, 115, 99, 114, 105, 112, 116, 62]⟩ : ByteArray) ++ ⟨s.toArray⟩ = ⟨([60, 115, 99, 114, 105, 112, 116, 62] ++ s).toArray⟩ := T.append_bytes [60, 115, 99, 114, 105, 112, 116, 62] s
  have a2 : (⟨([60, 115, 99, 114, 105, 112, 116, 62] ++ s).toArray⟩ : ByteArray) ++ ⟨#[60, 47]⟩ = ⟨([60, 115, 99, 114, 105, 112, 116, 62] ++ s ++ [60, 47]).toArray⟩ := T.append_bytes _ [60, 47]
  have a3 : (⟨([60, 115, 99, 114, 105, 112, 116, 62] ++ s ++ [60, 47]).toArray⟩ : ByteArray) ++ ⟨#[83, 67, 82, 73, 80, 84]⟩ = ⟨([60, 115, 99, 114, 105, 112, 116, 62] ++ s ++ [60, 47] ++ [83, 67, 82, 73, 80, 84]).toArray⟩ := T.append_bytes _ [83, 67, 82, 73, 80, 84]
  have a4 : (⟨([60, 115, 99, 114, 105, 112, 116, 62] ++ s ++ [60, 47] ++ [83, 67, 82, 73, 80, 84]).toArray⟩ : ByteArray) ++ ⟨#[32, 62, 122]⟩ = ⟨(M.rawDoc [115, 99, 114, 105, 112, 116] [83, 67, 82, 73, 80, 84] s).toArray⟩ := (T.append_bytes _ [32, 62, 122]).trans (by unfold M.rawDoc; simp)
  have b0 : (⟨#[60]⟩ : ByteArray) ++ ⟨#[115, 99, 114, 105, 112, 116]⟩ = ⟨#[60, 115, 99, 114, 105, 112, 116]⟩ := T.append_bytes [60] [115, 99, 114, 105, 112, 116]
  have b0' : (⟨#[60, 115, 99, 114, 105, 112, 116]⟩ : ByteArray) ++ ⟨#[62]⟩ = ⟨#[60, 115, 99, 114, 105, 112, 116, 62]⟩ := T.append_bytes [60, 115, 99, 114, 105, 112, 116] [62]
  have HD := Lib.hid (show (⟨#[60]⟩ : ByteArray) ++ ⟨#[115, 99, 114, 105, 112, 116]⟩ ++ ⟨#[62]⟩ ++ ⟨s.toArray⟩ ++ ⟨#[60, 47]⟩ ++ ⟨#[83, 67, 82, 73, 80, 84]⟩ ++ ⟨#[32, 62, 122]⟩ = ⟨(M.rawDoc [115, 99, 114, 105, 112, 116] [83, 67, 82, 73, 80, 84] s).toArray⟩ by rw [b0, b0', a1, a2, a3, a4])
  clear a1 a2 a3 a4 b0 b0'
  have l1 : ([60, 115, 99, 114, 105, 112, 116, 62] ++ s).length ≤ 1600 := by simp; omega
  have l2 : ([60, 115, 99, 114, 105, 112, 116, 62] ++ s ++ [60, 47]).length ≤ 1600 := by simp; omega
  have l3 : ([60, 115, 99, 114, 105, 112, 116, 62] ++ s ++ [60, 47] ++ [83, 67, 82, 73, 80, 84]).length ≤ 1600 := by simp; omega
  have l4 : (M.rawDoc [115, 99, 114, 105, 112, 116] [83, 67, 82, 73, 80, 84] s).length ≤ 1600 := by unfold M.rawDoc; simp; omega
  have QT := Lib.hid (fun W h => Tokens (M.rawDoc [115, 99, 114, 105, 112, 116] [83, 67, 82, 73, 80, 84] s) W (by omega) h)
  rw [ht] at QT
  generalize M.rawDoc [115, 99, 114, 105, 112, 116] [83, 67, 82, 73, 80, 84] s = doc at *
  generalize [60, 115, 99, 114, 105, 112, 116, 62] ++ s ++ [60, 47] ++ [83, 67, 82, 73, 80, 84] = d3 at *
  generalize [60, 115, 99, 114, 105, 112, 116, 62] ++ s ++ [60, 47] = d2 at *
  generalize [60, 115, 99, 114, 105, 112, 116, 62] ++ s = d1 at *
  have z0 := T.bytes_size s
  have z1' := T.bytes_size d1
  have z2' := T.bytes_size d2
  have z3' := T.bytes_size d3
  clear ht qr qn qf hE hr hn hi
  rcases Decidable.em (s = []) with h0 | h0
  · subst h0
    go_enter Tryz.func6, Tryz.ntmps6
    go_wp2_with fail
    refine (awake _ HE.out).mono ?_
    rintro e w1 ⟨rfl, b1⟩
    go_wp2_with fail
    refine (QR.out _).mono ?_
    rintro e w2 ⟨rfl, b2⟩
    have HE2 := Lib.hid ((HE.out.same b1).same b2)
    have hb2 : Below w.heap.size w w2 := b1.trans (b2.mono b1.size)
    go_wp2_with fail
    refine (QN.out _).mono ?_
    rintro e w2' ⟨rfl, rfl⟩
    go_wp2_with fail
    refine (QF.out _).mono ?_
    rintro e w2' ⟨rfl, rfl⟩
    have hBn : ∀ o, Below w2.heap.size w2 (w2.alloc o) := fun o => (Below.refl _ _).alloc (Nat.le_refl _) _
    go_wp2_with fail
    refine (QU.out _).mono ?_
    rintro e w4 ⟨rfl, b4⟩
    have hb4 : Below w2.heap.size w2 w4 := (hBn _).trans (b4.mono (by simp))
    have HE4 := Lib.hid (HE2.out.same hb4)
    go_wp2_with fail
    rw [show (⟨#[60]⟩ : ByteArray) ++ ⟨#[115, 99, 114, 105, 112, 116]⟩ ++ ⟨#[62]⟩ ++ ⟨#[]⟩ ++ ⟨#[60, 47]⟩ ++ ⟨#[83, 67, 82, 73, 80, 84]⟩ ++ ⟨#[32, 62, 122]⟩ = ⟨doc.toArray⟩ from HD.out]
    refine (QT.out _ HE4.out).mono ?_
    rintro e w5 ⟨v, rfl, ⟨L, hL, ho, hA⟩, b5⟩
    clear hA
    have hbw : Below w.heap.size w w5 := (hb2.trans (hb4.mono hb2.size)).trans (b5.mono (by have := hb2.size; have := hb4.size; omega))
    first | rw [if_pos rfl] at hL | rw [if_pos trivial] at hL
    have h3 : L.length = 3 := by simpa using congrArg List.length hL
    obtain ⟨p0, p1, p2, rfl⟩ := list_three h3
    have hp1 : p1.1 = ⟨2, [115, 99, 114, 105, 112, 116], [], false, []⟩ := by simp at hL; exact hL.2.1
    obtain ⟨ao, cap, rfl, hao⟩ := own_slice ho
    obtain ⟨g, rfl, _⟩ := hao (by simp)
    have c5 : w5.cell? ⟨g, 5, none⟩ = some (.int .i64 2) := by rw [tok_cells ho 5 (by simp)]; simp [tcells, hp1]
    have c6 : w5.cell? ⟨g, 6, none⟩ = some (.string ⟨#[115, 99, 114, 105, 112, 116]⟩) := by rw [tok_cells ho 6 (by simp)]; simp [tcells, hp1]
    clear ho hL
    go_wp2_with fail
    go_ret
    exact ⟨rfl, hbw⟩
  · have hpos : 0 < s.length := List.length_pos_iff.2 h0
    have hpos1 : (0 : Int) < (s.length : Int) := by omega
    have hlast := K.at_getD s (s.length - 1) (by omega) (by rw [T.bytes_size]; omega)
    rw [last_getD h0] at hl
    have hemp : s.isEmpty = false := by cases s with | nil => exact absurd rfl h0 | cons _ _ => rfl
    generalize hL0 : s.getD (s.length - 1) 0 = c at *
    have hc60 : ((c.toNat : Int) == 60) = false := byte_ne (n := 60) (fun h => hl (by rw [h]; rfl)) (by omega)
    clear hl hL0
    go_enter Tryz.func6, Tryz.ntmps6
    go_wp2_with fail
    refine (awake _ HE.out).mono ?_
    rintro e w1 ⟨rfl, b1⟩
    go_wp2_with fail
    refine (QR.out _).mono ?_
    rintro e w2 ⟨rfl, b2⟩
    have HE2 := Lib.hid ((HE.out.same b1).same b2)
    have hb2 : Below w.heap.size w w2 := b1.trans (b2.mono b1.size)
    go_wp2_with fail
    refine (QN.out _).mono ?_
    rintro e w2' ⟨rfl, rfl⟩
    go_wp2_with fail
    refine (QF.out _).mono ?_
    rintro e w2' ⟨rfl, rfl⟩
    have hBn : ∀ o, Below w2.heap.size w2 (w2.alloc o) := fun o => (Below.refl _ _).alloc (Nat.le_refl _) _
    go_wp2_with fail
    refine (QU.out _).mono ?_
    rintro e w4 ⟨rfl, b4⟩
    have hb4 : Below w2.heap.size w2 w4 := (hBn _).trans (b4.mono (by simp))
    have HE4 := Lib.hid (HE2.out.same hb4)
    go_wp2_with fail
    rw [HD.out]
    refine (QT.out _ HE4.out).mono ?_
    rintro e w5 ⟨v, rfl, ⟨L, hL, ho, hA⟩, b5⟩
    clear hA
    have hbw : Below w.heap.size w w5 := (hb2.trans (hb4.mono hb2.size)).trans (b5.mono (by have := hb2.size; have := hb4.size; omega))
    rw [if_neg h0] at hL
    have h4 : L.length = 4 := by simpa using congrArg List.length hL
    obtain ⟨p0, p1, p2, p3, rfl⟩ := list_four h4
    have hp1 : p1.1 = M.Tok.txt 3 (s) := by simp at hL; exact hL.2.1
    have hp2 : p2.1 = ⟨2, [115, 99, 114, 105, 112, 116], [], false, []⟩ := by simp at hL; exact hL.2.2.1
    have hp3 : p3.1 = M.Tok.txt 3 [122] := by simp at hL; exact hL.2.2.2
    obtain ⟨ao, cap, rfl, hao⟩ := own_slice ho
    obtain ⟨g, rfl, _⟩ := hao (by simp)
    have c5 : w5.cell? ⟨g, 5, none⟩ = some (.int .i64 3) := by rw [tok_cells ho 5 (by simp)]; simp [tcells, hp1, M.Tok.txt]
    have c9 : w5.cell? ⟨g, 9, none⟩ = some (.string ⟨(s).toArray⟩) := by rw [tok_cells ho 9 (by simp)]; simp [tcells, hp1, M.Tok.txt]
    have c10 : w5.cell? ⟨g, 10, none⟩ = some (.int .i64 2) := by rw [tok_cells ho 10 (by simp)]; simp [tcells, hp2]
    have c11 : w5.cell? ⟨g, 11, none⟩ = some (.string ⟨#[115, 99, 114, 105, 112, 116]⟩) := by rw [tok_cells ho 11 (by simp)]; simp [tcells, hp2]
    have c19 : w5.cell? ⟨g, 19, none⟩ = some (.string ⟨#[122]⟩) := by rw [tok_cells ho 19 (by simp)]; simp [tcells, hp3, M.Tok.txt]
    clear ho hL
    go_wp2_with fail
    go_ret
    exact ⟨rfl, hbw⟩

set_option maxHeartbeats 4000000 in
set_option maxRecDepth 100000 in
theorem MarkupRaw_1 (s : List UInt8) (kv : Nat) (w : World) (hkv : kv < 256) (hk : kv % 4 = 1) (hs : s.length ≤ 1500) (hr : U.rep s = s) (hn : U.nlr false s = s) (hi : M.idx [60, 47] s = none) (hl : s.getLast? ≠ some 60) (hE : Env w) :
    Calls Tryz.prog 6 #[.string ⟨s.toArray⟩, .int .u8 kv] w fun e w' => e = .returned (.bool true) ∧ Below w.heap.size w w' := by
  have HE := Lib.hid hE
  have hs1 : (s.length : Int) ≤ 1500 := by omega
  have hk1 : (kv : Int) % 4 = 1 := by omega
  have qr := fun W => refRepairS s W (by omega)
  rw [hr] at qr
  have QR := Lib.hid qr
  have qn := fun W => refNewlinesS s W (by omega)
  rw [hn] at qn
  have QN := Lib.hid qn
  have qf := fun W => rFind s [60, 47] 0 W (by omega) (by decide) (by decide) (Nat.zero_le _)
  rw [findI_none hi] at qf
  have QF := Lib.hid (show ∀ W, Calls Tryz.prog 18 #[.string ⟨s.toArray⟩, .int .i64 0, .string ⟨#[60, 47]⟩] W fun e w' => e = .returned (.int .i64 (-1)) ∧ W = w' from qf)
  have ht : toks (M.rawDoc [115, 116, 121, 108, 101] [83, 84, 89, 76, 69] s) = ⟨1, [115, 116, 121, 108, 101], [], false, []⟩ :: ((if s = [] then [] else [.txt 3 (s)]) ++ [⟨2, [115, 116, 121, 108, 101], [], false, []⟩, .txt 3 [122]]) :=
    (toks_plain (M.rawDoc_rep _ _ s (by decide) (by decide) hr) (M.rawDoc_no13 _ _ s (by decide) (by decide) (nlr_no hn))).trans (M.run_rawDoc [115, 116, 121, 108, 101] [83, 84, 89, 76, 69] s (by decide) (by decide) hi hl)
  have QU := Lib.hid (fun W => refUpperL [115, 116, 121, 108, 101] [83, 84, 89, 76, 69] W (by decide) (by decide))
  have a1 : (⟨#[60, 115, 116, 121, 108, 101, 62]⟩ : ByteArray) ++ ⟨s.toArray⟩ = ⟨([60, 115, 116, 121, 108, 101, 62] ++ s).toArray⟩ := T.append_bytes [60, 115, 116, 121, 108, 101, 62] s
  have a2 : (⟨([60, 115, 116, 121, 108, 101, 62] ++ s).toArray⟩ : ByteArray) ++ ⟨#[60, 47]⟩ = ⟨([60, 115, 116, 121, 108, 101, 62] ++ s ++ [60, 47]).toArray⟩ := T.append_bytes _ [60, 47]
  have a3 : (⟨([60, 115, 116, 121, 108, 101, 62] ++ s ++ [60, 47]).toArray⟩ : ByteArray) ++ ⟨#[83, 84, 89, 76, 69]⟩ = ⟨([60, 115, 116, 121, 108, 101, 62] ++ s ++ [60, 47] ++ [83, 84, 89, 76, 69]).toArray⟩ := T.append_bytes _ [83, 84, 89, 76, 69]
  have a4 : (⟨([60, 115, 116, 121, 108, 101, 62] ++ s ++ [60, 47] ++ [83, 84, 89, 76, 69]).toArray⟩ : ByteArray) ++ ⟨#[32, 62, 122]⟩ = ⟨(M.rawDoc [115, 116, 121, 108, 101] [83, 84, 89, 76, 69] s).toArray⟩ := (T.append_bytes _ [32, 62, 122]).trans (by unfold M.rawDoc; simp)
  have b0 : (⟨#[60]⟩ : ByteArray) ++ ⟨#[115, 116, 121, 108, 101]⟩ = ⟨#[60, 115, 116, 121, 108, 101]⟩ := T.append_bytes [60] [115, 116, 121, 108, 101]
  have b0' : (⟨#[60, 115, 116, 121, 108, 101]⟩ : ByteArray) ++ ⟨#[62]⟩ = ⟨#[60, 115, 116, 121, 108, 101, 62]⟩ := T.append_bytes [60, 115, 116, 121, 108, 101] [62]
  have HD := Lib.hid (show (⟨#[60]⟩ : ByteArray) ++ ⟨#[115, 116, 121, 108, 101]⟩ ++ ⟨#[62]⟩ ++ ⟨s.toArray⟩ ++ ⟨#[60, 47]⟩ ++ ⟨#[83, 84, 89, 76, 69]⟩ ++ ⟨#[32, 62, 122]⟩ = ⟨(M.rawDoc [115, 116, 121, 108, 101] [83, 84, 89, 76, 69] s).toArray⟩ by rw [b0, b0', a1, a2, a3, a4])
  clear a1 a2 a3 a4 b0 b0'
  have l1 : ([60, 115, 116, 121, 108, 101, 62] ++ s).length ≤ 1600 := by simp; omega
  have l2 : ([60, 115, 116, 121, 108, 101, 62] ++ s ++ [60, 47]).length ≤ 1600 := by simp; omega
  have l3 : ([60, 115, 116, 121, 108, 101, 62] ++ s ++ [60, 47] ++ [83, 84, 89, 76, 69]).length ≤ 1600 := by simp; omega
  have l4 : (M.rawDoc [115, 116, 121, 108, 101] [83, 84, 89, 76, 69] s).length ≤ 1600 := by unfold M.rawDoc; simp; omega
  have QT := Lib.hid (fun W h => Tokens (M.rawDoc [115, 116, 121, 108, 101] [83, 84, 89, 76, 69] s) W (by omega) h)
  rw [ht] at QT
  generalize M.rawDoc [115, 116, 121, 108, 101] [83, 84, 89, 76, 69] s = doc at *
  generalize [60, 115, 116, 121, 108, 101, 62] ++ s ++ [60, 47] ++ [83, 84, 89, 76, 69] = d3 at *
  generalize [60, 115, 116, 121, 108, 101, 62] ++ s ++ [60, 47] = d2 at *
  generalize [60, 115, 116, 121, 108, 101, 62] ++ s = d1 at *
  have z0 := T.bytes_size s
  have z1' := T.bytes_size d1
  have z2' := T.bytes_size d2
  have z3' := T.bytes_size d3
  clear ht qr qn qf hE hr hn hi
  rcases Decidable.em (s = []) with h0 | h0
  · subst h0
    go_enter Tryz.func6, Tryz.ntmps6
    go_wp2_with fail
    refine (awake _ HE.out).mono ?_
    rintro e w1 ⟨rfl, b1⟩
    go_wp2_with fail
    refine (QR.out _).mono ?_
    rintro e w2 ⟨rfl, b2⟩
    have HE2 := Lib.hid ((HE.out.same b1).same b2)
    have hb2 : Below w.heap.size w w2 := b1.trans (b2.mono b1.size)
    go_wp2_with fail
    refine (QN.out _).mono ?_
    rintro e w2' ⟨rfl, rfl⟩
    go_wp2_with fail
    refine (QF.out _).mono ?_
    rintro e w2' ⟨rfl, rfl⟩
    have hBn : ∀ o, Below w2.heap.size w2 (w2.alloc o) := fun o => (Below.refl _ _).alloc (Nat.le_refl _) _
    go_wp2_with fail
    refine (QU.out _).mono ?_
    rintro e w4 ⟨rfl, b4⟩
    have hb4 : Below w2.heap.size w2 w4 := (hBn _).trans (b4.mono (by simp))
    have HE4 := Lib.hid (HE2.out.same hb4)
    go_wp2_with fail
    rw [show (⟨#[60]⟩ : ByteArray) ++ ⟨#[115, 116, 121, 108, 101]⟩ ++ ⟨#[62]⟩ ++ ⟨#[]⟩ ++ ⟨#[60, 47]⟩ ++ ⟨#[83, 84, 89, 76, 69]⟩ ++ ⟨#[32, 62, 122]⟩ = ⟨doc.toArray⟩ from HD.out]
    refine (QT.out _ HE4.out).mono ?_
    rintro e w5 ⟨v, rfl, ⟨L, hL, ho, hA⟩, b5⟩
    clear hA
    have hbw : Below w.heap.size w w5 := (hb2.trans (hb4.mono hb2.size)).trans (b5.mono (by have := hb2.size; have := hb4.size; omega))
    first | rw [if_pos rfl] at hL | rw [if_pos trivial] at hL
    have h3 : L.length = 3 := by simpa using congrArg List.length hL
    obtain ⟨p0, p1, p2, rfl⟩ := list_three h3
    have hp1 : p1.1 = ⟨2, [115, 116, 121, 108, 101], [], false, []⟩ := by simp at hL; exact hL.2.1
    obtain ⟨ao, cap, rfl, hao⟩ := own_slice ho
    obtain ⟨g, rfl, _⟩ := hao (by simp)
    have c5 : w5.cell? ⟨g, 5, none⟩ = some (.int .i64 2) := by rw [tok_cells ho 5 (by simp)]; simp [tcells, hp1]
    have c6 : w5.cell? ⟨g, 6, none⟩ = some (.string ⟨#[115, 116, 121, 108, 101]⟩) := by rw [tok_cells ho 6 (by simp)]; simp [tcells, hp1]
    clear ho hL
    go_wp2_with fail
    go_ret
    exact ⟨rfl, hbw⟩
  · have hpos : 0 < s.length := List.length_pos_iff.2 h0
    have hpos1 : (0 : Int) < (s.length : Int) := by omega
    have hlast := K.at_getD s (s.length - 1) (by omega) (by rw [T.bytes_size]; omega)
    rw [last_getD h0] at hl
    have hemp : s.isEmpty = false := by cases s with | nil => exact absurd rfl h0 | cons _ _ => rfl
    generalize hL0 : s.getD (s.length - 1) 0 = c at *
    have hc60 : ((c.toNat : Int) == 60) = false := byte_ne (n := 60) (fun h => hl (by rw [h]; rfl)) (by omega)
    clear hl hL0
    go_enter Tryz.func6, Tryz.ntmps6
    go_wp2_with fail
    refine (awake _ HE.out).mono ?_
    rintro e w1 ⟨rfl, b1⟩
    go_wp2_with fail
    refine (QR.out _).mono ?_
    rintro e w2 ⟨rfl, b2⟩
    have HE2 := Lib.hid ((HE.out.same b1).same b2)
    have hb2 : Below w.heap.size w w2 := b1.trans (b2.mono b1.size)
    go_wp2_with fail
    refine (QN.out _).mono ?_
    rintro e w2' ⟨rfl, rfl⟩
    go_wp2_with fail
    refine (QF.out _).mono ?_
    rintro e w2' ⟨rfl, rfl⟩
    have hBn : ∀ o, Below w2.heap.size w2 (w2.alloc o) := fun o => (Below.refl _ _).alloc (Nat.le_refl _) _
    go_wp2_with fail
    refine (QU.out _).mono ?_
    rintro e w4 ⟨rfl, b4⟩
    have hb4 : Below w2.heap.size w2 w4 := (hBn _).trans (b4.mono (by simp))
    have HE4 := Lib.hid (HE2.out.same hb4)
    go_wp2_with fail
    rw [HD.out]
    refine (QT.out _ HE4.out).mono ?_
    rintro e w5 ⟨v, rfl, ⟨L, hL, ho, hA⟩, b5⟩
    clear hA
    have hbw : Below w.heap.size w w5 := (hb2.trans (hb4.mono hb2.size)).trans (b5.mono (by have := hb2.size; have := hb4.size; omega))
    rw [if_neg h0] at hL
    have h4 : L.length = 4 := by simpa using congrArg List.length hL
    obtain ⟨p0, p1, p2, p3, rfl⟩ := list_four h4
    have hp1 : p1.1 = M.Tok.txt 3 (s) := by simp at hL; exact hL.2.1
    have hp2 : p2.1 = ⟨2, [115, 116, 121, 108, 101], [], false, []⟩ := by simp at hL; exact hL.2.2.1
    have hp3 : p3.1 = M.Tok.txt 3 [122] := by simp at hL; exact hL.2.2.2
    obtain ⟨ao, cap, rfl, hao⟩ := own_slice ho
    obtain ⟨g, rfl, _⟩ := hao (by simp)
    have c5 : w5.cell? ⟨g, 5, none⟩ = some (.int .i64 3) := by rw [tok_cells ho 5 (by simp)]; simp [tcells, hp1, M.Tok.txt]
    have c9 : w5.cell? ⟨g, 9, none⟩ = some (.string ⟨(s).toArray⟩) := by rw [tok_cells ho 9 (by simp)]; simp [tcells, hp1, M.Tok.txt]
    have c10 : w5.cell? ⟨g, 10, none⟩ = some (.int .i64 2) := by rw [tok_cells ho 10 (by simp)]; simp [tcells, hp2]
    have c11 : w5.cell? ⟨g, 11, none⟩ = some (.string ⟨#[115, 116, 121, 108, 101]⟩) := by rw [tok_cells ho 11 (by simp)]; simp [tcells, hp2]
    have c19 : w5.cell? ⟨g, 19, none⟩ = some (.string ⟨#[122]⟩) := by rw [tok_cells ho 19 (by simp)]; simp [tcells, hp3, M.Tok.txt]
    clear ho hL
    go_wp2_with fail
    go_ret
    exact ⟨rfl, hbw⟩

set_option maxHeartbeats 4000000 in
set_option maxRecDepth 100000 in
theorem MarkupRaw_2 (s : List UInt8) (kv : Nat) (w : World) (hkv : kv < 256) (hk : kv % 4 = 2) (hs : s.length ≤ 1500) (hr : U.rep s = s) (hn : U.nlr false s = s) (hi : M.idx [60, 47] s = none) (hl : s.getLast? ≠ some 60) (hE : Env w) :
    Calls Tryz.prog 6 #[.string ⟨s.toArray⟩, .int .u8 kv] w fun e w' => e = .returned (.bool true) ∧ Below w.heap.size w w' := by
  have HE := Lib.hid hE
  have hs1 : (s.length : Int) ≤ 1500 := by omega
  have hk1 : (kv : Int) % 4 = 2 := by omega
  have qr := fun W => refRepairS s W (by omega)
  rw [hr] at qr
  have QR := Lib.hid qr
  have qn := fun W => refNewlinesS s W (by omega)
  rw [hn] at qn
  have QN := Lib.hid qn
  have qf := fun W => rFind s [60, 47] 0 W (by omega) (by decide) (by decide) (Nat.zero_le _)
  rw [findI_none hi] at qf
  have QF := Lib.hid (show ∀ W, Calls Tryz.prog 18 #[.string ⟨s.toArray⟩, .int .i64 0, .string ⟨#[60, 47]⟩] W fun e w' => e = .returned (.int .i64 (-1)) ∧ W = w' from qf)
  have ht : toks (M.rawDoc [116, 105, 116, 108, 101] [84, 73, 84, 76, 69] s) = ⟨1, [116, 105, 116, 108, 101], [], false, []⟩ :: ((if s = [] then [] else [.txt 3 (E.decode s)]) ++ [⟨2, [116, 105, 116, 108, 101], [], false, []⟩, .txt 3 [122]]) :=
    (toks_plain (M.rawDoc_rep _ _ s (by decide) (by decide) hr) (M.rawDoc_no13 _ _ s (by decide) (by decide) (nlr_no hn))).trans (M.run_rawDoc [116, 105, 116, 108, 101] [84, 73, 84, 76, 69] s (by decide) (by decide) hi hl)
  have QU := Lib.hid (fun W => refUpperL [116, 105, 116, 108, 101] [84, 73, 84, 76, 69] W (by decide) (by decide))
  have a1 : (⟨#[60, 116, 105, 116, 108, 101, 62]⟩ : ByteArray) ++ ⟨s.toArray⟩ = ⟨([60, 116, 105, 116, 108, 101, 62] ++ s).toArray⟩ := T.append_bytes [60, 116, 105, 116, 108, 101, 62] s
  have a2 : (⟨([60, 116, 105, 116, 108, 101, 62] ++ s).toArray⟩ : ByteArray) ++ ⟨#[60, 47]⟩ = ⟨([60, 116, 105, 116, 108, 101, 62] ++ s ++ [60, 47]).toArray⟩ := T.append_bytes _ [60, 47]
  have a3 : (⟨([60, 116, 105, 116, 108, 101, 62] ++ s ++ [60, 47]).toArray⟩ : ByteArray) ++ ⟨#[84, 73, 84, 76, 69]⟩ = ⟨([60, 116, 105, 116, 108, 101, 62] ++ s ++ [60, 47] ++ [84, 73, 84, 76, 69]).toArray⟩ := T.append_bytes _ [84, 73, 84, 76, 69]
  have a4 : (⟨([60, 116, 105, 116, 108, 101, 62] ++ s ++ [60, 47] ++ [84, 73, 84, 76, 69]).toArray⟩ : ByteArray) ++ ⟨#[32, 62, 122]⟩ = ⟨(M.rawDoc [116, 105, 116, 108, 101] [84, 73, 84, 76, 69] s).toArray⟩ := (T.append_bytes _ [32, 62, 122]).trans (by unfold M.rawDoc; simp)
  have b0 : (⟨#[60]⟩ : ByteArray) ++ ⟨#[116, 105, 116, 108, 101]⟩ = ⟨#[60, 116, 105, 116, 108, 101]⟩ := T.append_bytes [60] [116, 105, 116, 108, 101]
  have b0' : (⟨#[60, 116, 105, 116, 108, 101]⟩ : ByteArray) ++ ⟨#[62]⟩ = ⟨#[60, 116, 105, 116, 108, 101, 62]⟩ := T.append_bytes [60, 116, 105, 116, 108, 101] [62]
  have HD := Lib.hid (show (⟨#[60]⟩ : ByteArray) ++ ⟨#[116, 105, 116, 108, 101]⟩ ++ ⟨#[62]⟩ ++ ⟨s.toArray⟩ ++ ⟨#[60, 47]⟩ ++ ⟨#[84, 73, 84, 76, 69]⟩ ++ ⟨#[32, 62, 122]⟩ = ⟨(M.rawDoc [116, 105, 116, 108, 101] [84, 73, 84, 76, 69] s).toArray⟩ by rw [b0, b0', a1, a2, a3, a4])
  clear a1 a2 a3 a4 b0 b0'
  have l1 : ([60, 116, 105, 116, 108, 101, 62] ++ s).length ≤ 1600 := by simp; omega
  have l2 : ([60, 116, 105, 116, 108, 101, 62] ++ s ++ [60, 47]).length ≤ 1600 := by simp; omega
  have l3 : ([60, 116, 105, 116, 108, 101, 62] ++ s ++ [60, 47] ++ [84, 73, 84, 76, 69]).length ≤ 1600 := by simp; omega
  have l4 : (M.rawDoc [116, 105, 116, 108, 101] [84, 73, 84, 76, 69] s).length ≤ 1600 := by unfold M.rawDoc; simp; omega
  have QT := Lib.hid (fun W h => Tokens (M.rawDoc [116, 105, 116, 108, 101] [84, 73, 84, 76, 69] s) W (by omega) h)
  rw [ht] at QT
  have QD := Lib.hid (fun W => refDecode s W (by omega))
  have hdl : s ≠ [] → (E.decode s) = E.decode s := fun _ => rfl
  generalize M.rawDoc [116, 105, 116, 108, 101] [84, 73, 84, 76, 69] s = doc at *
  generalize [60, 116, 105, 116, 108, 101, 62] ++ s ++ [60, 47] ++ [84, 73, 84, 76, 69] = d3 at *
  generalize [60, 116, 105, 116, 108, 101, 62] ++ s ++ [60, 47] = d2 at *
  generalize [60, 116, 105, 116, 108, 101, 62] ++ s = d1 at *
  have z0 := T.bytes_size s
  have z1' := T.bytes_size d1
  have z2' := T.bytes_size d2
  have z3' := T.bytes_size d3
  clear ht qr qn qf hE hr hn hi
  rcases Decidable.em (s = []) with h0 | h0
  · subst h0
    go_enter Tryz.func6, Tryz.ntmps6
    go_wp2_with fail
    refine (awake _ HE.out).mono ?_
    rintro e w1 ⟨rfl, b1⟩
    go_wp2_with fail
    refine (QR.out _).mono ?_
    rintro e w2 ⟨rfl, b2⟩
    have HE2 := Lib.hid ((HE.out.same b1).same b2)
    have hb2 : Below w.heap.size w w2 := b1.trans (b2.mono b1.size)
    go_wp2_with fail
    refine (QN.out _).mono ?_
    rintro e w2' ⟨rfl, rfl⟩
    go_wp2_with fail
    refine (QF.out _).mono ?_
    rintro e w2' ⟨rfl, rfl⟩
    have hBn : ∀ o, Below w2.heap.size w2 (w2.alloc o) := fun o => (Below.refl _ _).alloc (Nat.le_refl _) _
    go_wp2_with fail
    refine (QD.out _).mono ?_
    rintro e w3 ⟨rfl, b3⟩
    have hb3 : Below w2.heap.size w2 w3 := (hBn _).trans (b3.mono (by simp))
    have HE3 := Lib.hid (HE2.out.same hb3)
    clear b3 hBn
    go_wp2_with fail
    refine (QU.out _).mono ?_
    rintro e w4 ⟨rfl, b4⟩
    have hb4 : Below w2.heap.size w2 w4 := hb3.trans (b4.mono hb3.size)
    have HE4 := Lib.hid (HE2.out.same hb4)
    go_wp2_with fail
    rw [show (⟨#[60]⟩ : ByteArray) ++ ⟨#[116, 105, 116, 108, 101]⟩ ++ ⟨#[62]⟩ ++ ⟨#[]⟩ ++ ⟨#[60, 47]⟩ ++ ⟨#[84, 73, 84, 76, 69]⟩ ++ ⟨#[32, 62, 122]⟩ = ⟨doc.toArray⟩ from HD.out]
    refine (QT.out _ HE4.out).mono ?_
    rintro e w5 ⟨v, rfl, ⟨L, hL, ho, hA⟩, b5⟩
    clear hA
    have hbw : Below w.heap.size w w5 := (hb2.trans (hb4.mono hb2.size)).trans (b5.mono (by have := hb2.size; have := hb4.size; omega))
    first | rw [if_pos rfl] at hL | rw [if_pos trivial] at hL
    have h3 : L.length = 3 := by simpa using congrArg List.length hL
    obtain ⟨p0, p1, p2, rfl⟩ := list_three h3
    have hp1 : p1.1 = ⟨2, [116, 105, 116, 108, 101], [], false, []⟩ := by simp at hL; exact hL.2.1
    obtain ⟨ao, cap, rfl, hao⟩ := own_slice ho
    obtain ⟨g, rfl, _⟩ := hao (by simp)
    have c5 : w5.cell? ⟨g, 5, none⟩ = some (.int .i64 2) := by rw [tok_cells ho 5 (by simp)]; simp [tcells, hp1]
    have c6 : w5.cell? ⟨g, 6, none⟩ = some (.string ⟨#[116, 105, 116, 108, 101]⟩) := by rw [tok_cells ho 6 (by simp)]; simp [tcells, hp1]
    clear ho hL
    go_wp2_with fail
    go_ret
    exact ⟨rfl, hbw⟩
  · have hpos : 0 < s.length := List.length_pos_iff.2 h0
    have hpos1 : (0 : Int) < (s.length : Int) := by omega
    have hlast := K.at_getD s (s.length - 1) (by omega) (by rw [T.bytes_size]; omega)
    rw [last_getD h0] at hl
    have hemp : s.isEmpty = false := by cases s with | nil => exact absurd rfl h0 | cons _ _ => rfl
    generalize hL0 : s.getD (s.length - 1) 0 = c at *
    have hc60 : ((c.toNat : Int) == 60) = false := byte_ne (n := 60) (fun h => hl (by rw [h]; rfl)) (by omega)
    clear hl hL0
    go_enter Tryz.func6, Tryz.ntmps6
    go_wp2_with fail
    refine (awake _ HE.out).mono ?_
    rintro e w1 ⟨rfl, b1⟩
    go_wp2_with fail
    refine (QR.out _).mono ?_
    rintro e w2 ⟨rfl, b2⟩
    have HE2 := Lib.hid ((HE.out.same b1).same b2)
    have hb2 : Below w.heap.size w w2 := b1.trans (b2.mono b1.size)
    go_wp2_with fail
    refine (QN.out _).mono ?_
    rintro e w2' ⟨rfl, rfl⟩
    go_wp2_with fail
    refine (QF.out _).mono ?_
    rintro e w2' ⟨rfl, rfl⟩
    have hBn : ∀ o, Below w2.heap.size w2 (w2.alloc o) := fun o => (Below.refl _ _).alloc (Nat.le_refl _) _
    go_wp2_with fail
    refine (QD.out _).mono ?_
    rintro e w3 ⟨rfl, b3⟩
    have hb3 : Below w2.heap.size w2 w3 := (hBn _).trans (b3.mono (by simp))
    have HE3 := Lib.hid (HE2.out.same hb3)
    clear b3 hBn
    go_wp2_with fail
    refine (QU.out _).mono ?_
    rintro e w4 ⟨rfl, b4⟩
    have hb4 : Below w2.heap.size w2 w4 := hb3.trans (b4.mono hb3.size)
    have HE4 := Lib.hid (HE2.out.same hb4)
    go_wp2_with fail
    rw [HD.out]
    refine (QT.out _ HE4.out).mono ?_
    rintro e w5 ⟨v, rfl, ⟨L, hL, ho, hA⟩, b5⟩
    clear hA
    have hbw : Below w.heap.size w w5 := (hb2.trans (hb4.mono hb2.size)).trans (b5.mono (by have := hb2.size; have := hb4.size; omega))
    rw [if_neg h0] at hL
    have h4 : L.length = 4 := by simpa using congrArg List.length hL
    obtain ⟨p0, p1, p2, p3, rfl⟩ := list_four h4
    have hp1 : p1.1 = M.Tok.txt 3 (E.decode s) := by simp at hL; exact hL.2.1
    have hp2 : p2.1 = ⟨2, [116, 105, 116, 108, 101], [], false, []⟩ := by simp at hL; exact hL.2.2.1
    have hp3 : p3.1 = M.Tok.txt 3 [122] := by simp at hL; exact hL.2.2.2
    obtain ⟨ao, cap, rfl, hao⟩ := own_slice ho
    obtain ⟨g, rfl, _⟩ := hao (by simp)
    have c5 : w5.cell? ⟨g, 5, none⟩ = some (.int .i64 3) := by rw [tok_cells ho 5 (by simp)]; simp [tcells, hp1, M.Tok.txt]
    have c9 : w5.cell? ⟨g, 9, none⟩ = some (.string ⟨(E.decode s).toArray⟩) := by rw [tok_cells ho 9 (by simp)]; simp [tcells, hp1, M.Tok.txt]
    have c10 : w5.cell? ⟨g, 10, none⟩ = some (.int .i64 2) := by rw [tok_cells ho 10 (by simp)]; simp [tcells, hp2]
    have c11 : w5.cell? ⟨g, 11, none⟩ = some (.string ⟨#[116, 105, 116, 108, 101]⟩) := by rw [tok_cells ho 11 (by simp)]; simp [tcells, hp2]
    have c19 : w5.cell? ⟨g, 19, none⟩ = some (.string ⟨#[122]⟩) := by rw [tok_cells ho 19 (by simp)]; simp [tcells, hp3, M.Tok.txt]
    clear ho hL
    go_wp2_with fail
    go_ret
    exact ⟨rfl, hbw⟩

set_option maxHeartbeats 4000000 in
set_option maxRecDepth 100000 in
theorem MarkupRaw_3 (s : List UInt8) (kv : Nat) (w : World) (hkv : kv < 256) (hk : kv % 4 = 3) (hs : s.length ≤ 1500) (hr : U.rep s = s) (hn : U.nlr false s = s) (hi : M.idx [60, 47] s = none) (hl : s.getLast? ≠ some 60) (hE : Env w) :
    Calls Tryz.prog 6 #[.string ⟨s.toArray⟩, .int .u8 kv] w fun e w' => e = .returned (.bool true) ∧ Below w.heap.size w w' := by
  have HE := Lib.hid hE
  have hs1 : (s.length : Int) ≤ 1500 := by omega
  have hk1 : (kv : Int) % 4 = 3 := by omega
  have qr := fun W => refRepairS s W (by omega)
  rw [hr] at qr
  have QR := Lib.hid qr
  have qn := fun W => refNewlinesS s W (by omega)
  rw [hn] at qn
  have QN := Lib.hid qn
  have qf := fun W => rFind s [60, 47] 0 W (by omega) (by decide) (by decide) (Nat.zero_le _)
  rw [findI_none hi] at qf
  have QF := Lib.hid (show ∀ W, Calls Tryz.prog 18 #[.string ⟨s.toArray⟩, .int .i64 0, .string ⟨#[60, 47]⟩] W fun e w' => e = .returned (.int .i64 (-1)) ∧ W = w' from qf)
  have ht : toks (M.rawDoc [116, 101, 120, 116, 97, 114, 101, 97] [84, 69, 88, 84, 65, 82, 69, 65] s) = ⟨1, [116, 101, 120, 116, 97, 114, 101, 97], [], false, []⟩ :: ((if s = [] then [] else [.txt 3 (E.decode s)]) ++ [⟨2, [116, 101, 120, 116, 97, 114, 101, 97], [], false, []⟩, .txt 3 [122]]) :=
    (toks_plain (M.rawDoc_rep _ _ s (by decide) (by decide) hr) (M.rawDoc_no13 _ _ s (by decide) (by decide) (nlr_no hn))).trans (M.run_rawDoc [116, 101, 120, 116, 97, 114, 101, 97] [84, 69, 88, 84, 65, 82, 69, 65] s (by decide) (by decide) hi hl)
  have QU := Lib.hid (fun W => refUpperL [116, 101, 120, 116, 97, 114, 101, 97] [84, 69, 88, 84, 65, 82, 69, 65] W (by decide) (by decide))
  have a1 : (⟨#[60, 116, 101, 120, 116, 97, 114, 101, 97, 62]⟩ : ByteArray) ++ ⟨s.toArray⟩ = ⟨([60, 116, 101, 120, 116, 97, 114, 101, 97, 62] ++ s).toArray⟩ := T.append_bytes [60, 116, 101, 120, 116, 97, 114, 101, 97, 62] s
  have a2 : (⟨([60, 116, 101, 120, 116, 97, 114, 101, 97, 62] ++ s).toArray⟩ : ByteArray) ++ ⟨#[60, 47]⟩ = ⟨([60, 116, 101, 120, 116, 97, 114, 101, 97, 62] ++ s ++ [60, 47]).toArray⟩ := T.append_bytes _ [60, 47]
  have a3 : (⟨([60, 116, 101, 120, 116, 97, 114, 101, 97, 62] ++ s ++ [60, 47]).toArray⟩ : ByteArray) ++ ⟨#[84, 69, 88, 84, 65, 82, 69, 65]⟩ = ⟨([60, 116, 101, 120, 116, 97, 114, 101, 97, 62] ++ s ++ [60, 47] ++ [84, 69, 88, 84, 65, 82, 69, 65]).toArray⟩ := T.append_bytes _ [84, 69, 88, 84, 65, 82, 69, 65]
  have a4 : (⟨([60, 116, 101, 120, 116, 97, 114, 101, 97, 62] ++ s ++ [60, 47] ++ [84, 69, 88, 84, 65, 82, 69, 65]).toArray⟩ : ByteArray) ++ ⟨#[32, 62, 122]⟩ = ⟨(M.rawDoc [116, 101, 120, 116, 97, 114, 101, 97] [84, 69, 88, 84, 65, 82, 69, 65] s).toArray⟩ := (T.append_bytes _ [32, 62, 122]).trans (by unfold M.rawDoc; simp)
  have b0 : (⟨#[60]⟩ : ByteArray) ++ ⟨#[116, 101, 120, 116, 97, 114, 101, 97]⟩ = ⟨#[60, 116, 101, 120, 116, 97, 114, 101, 97]⟩ := T.append_bytes [60] [116, 101, 120, 116, 97, 114, 101, 97]
  have b0' : (⟨#[60, 116, 101, 120, 116, 97, 114, 101, 97]⟩ : ByteArray) ++ ⟨#[62]⟩ = ⟨#[60, 116, 101, 120, 116, 97, 114, 101, 97, 62]⟩ := T.append_bytes [60, 116, 101, 120, 116, 97, 114, 101, 97] [62]
  have HD := Lib.hid (show (⟨#[60]⟩ : ByteArray) ++ ⟨#[116, 101, 120, 116, 97, 114, 101, 97]⟩ ++ ⟨#[62]⟩ ++ ⟨s.toArray⟩ ++ ⟨#[60, 47]⟩ ++ ⟨#[84, 69, 88, 84, 65, 82, 69, 65]⟩ ++ ⟨#[32, 62, 122]⟩ = ⟨(M.rawDoc [116, 101, 120, 116, 97, 114, 101, 97] [84, 69, 88, 84, 65, 82, 69, 65] s).toArray⟩ by rw [b0, b0', a1, a2, a3, a4])
  clear a1 a2 a3 a4 b0 b0'
  have l1 : ([60, 116, 101, 120, 116, 97, 114, 101, 97, 62] ++ s).length ≤ 1600 := by simp; omega
  have l2 : ([60, 116, 101, 120, 116, 97, 114, 101, 97, 62] ++ s ++ [60, 47]).length ≤ 1600 := by simp; omega
  have l3 : ([60, 116, 101, 120, 116, 97, 114, 101, 97, 62] ++ s ++ [60, 47] ++ [84, 69, 88, 84, 65, 82, 69, 65]).length ≤ 1600 := by simp; omega
  have l4 : (M.rawDoc [116, 101, 120, 116, 97, 114, 101, 97] [84, 69, 88, 84, 65, 82, 69, 65] s).length ≤ 1600 := by unfold M.rawDoc; simp; omega
  have QT := Lib.hid (fun W h => Tokens (M.rawDoc [116, 101, 120, 116, 97, 114, 101, 97] [84, 69, 88, 84, 65, 82, 69, 65] s) W (by omega) h)
  rw [ht] at QT
  have QD := Lib.hid (fun W => refDecode s W (by omega))
  have hdl : s ≠ [] → (E.decode s) = E.decode s := fun _ => rfl
  generalize M.rawDoc [116, 101, 120, 116, 97, 114, 101, 97] [84, 69, 88, 84, 65, 82, 69, 65] s = doc at *
  generalize [60, 116, 101, 120, 116, 97, 114, 101, 97, 62] ++ s ++ [60, 47] ++ [84, 69, 88, 84, 65, 82, 69, 65] = d3 at *
  generalize [60, 116, 101, 120, 116, 97, 114, 101, 97, 62] ++ s ++ [60, 47] = d2 at *
  generalize [60, 116, 101, 120, 116, 97, 114, 101, 97, 62] ++ s = d1 at *
  have z0 := T.bytes_size s
  have z1' := T.bytes_size d1
  have z2' := T.bytes_size d2
  have z3' := T.bytes_size d3
  clear ht qr qn qf hE hr hn hi
  rcases Decidable.em (s = []) with h0 | h0
  · subst h0
    go_enter Tryz.func6, Tryz.ntmps6
    go_wp2_with fail
    refine (awake _ HE.out).mono ?_
    rintro e w1 ⟨rfl, b1⟩
    go_wp2_with fail
    refine (QR.out _).mono ?_
    rintro e w2 ⟨rfl, b2⟩
    have HE2 := Lib.hid ((HE.out.same b1).same b2)
    have hb2 : Below w.heap.size w w2 := b1.trans (b2.mono b1.size)
    go_wp2_with fail
    refine (QN.out _).mono ?_
    rintro e w2' ⟨rfl, rfl⟩
    go_wp2_with fail
    refine (QF.out _).mono ?_
    rintro e w2' ⟨rfl, rfl⟩
    have hBn : ∀ o, Below w2.heap.size w2 (w2.alloc o) := fun o => (Below.refl _ _).alloc (Nat.le_refl _) _
    go_wp2_with fail
    refine (QD.out _).mono ?_
    rintro e w3 ⟨rfl, b3⟩
    have hb3 : Below w2.heap.size w2 w3 := (hBn _).trans (b3.mono (by simp))
    have HE3 := Lib.hid (HE2.out.same hb3)
    clear b3 hBn
    go_wp2_with fail
    refine (QU.out _).mono ?_
    rintro e w4 ⟨rfl, b4⟩
    have hb4 : Below w2.heap.size w2 w4 := hb3.trans (b4.mono hb3.size)
    have HE4 := Lib.hid (HE2.out.same hb4)
    go_wp2_with fail
    rw [show (⟨#[60]⟩ : ByteArray) ++ ⟨#[116, 101, 120, 116, 97, 114, 101, 97]⟩ ++ ⟨#[62]⟩ ++ ⟨#[]⟩ ++ ⟨#[60, 47]⟩ ++ ⟨#[84, 69, 88, 84, 65, 82, 69, 65]⟩ ++ ⟨#[32, 62, 122]⟩ = ⟨doc.toArray⟩ from HD.out]
    refine (QT.out _ HE4.out).mono ?_
    rintro e w5 ⟨v, rfl, ⟨L, hL, ho, hA⟩, b5⟩
    clear hA
    have hbw : Below w.heap.size w w5 := (hb2.trans (hb4.mono hb2.size)).trans (b5.mono (by have := hb2.size; have := hb4.size; omega))
    first | rw [if_pos rfl] at hL | rw [if_pos trivial] at hL
    have h3 : L.length = 3 := by simpa using congrArg List.length hL
    obtain ⟨p0, p1, p2, rfl⟩ := list_three h3
    have hp1 : p1.1 = ⟨2, [116, 101, 120, 116, 97, 114, 101, 97], [], false, []⟩ := by simp at hL; exact hL.2.1
    obtain ⟨ao, cap, rfl, hao⟩ := own_slice ho
    obtain ⟨g, rfl, _⟩ := hao (by simp)
    have c5 : w5.cell? ⟨g, 5, none⟩ = some (.int .i64 2) := by rw [tok_cells ho 5 (by simp)]; simp [tcells, hp1]
    have c6 : w5.cell? ⟨g, 6, none⟩ = some (.string ⟨#[116, 101, 120, 116, 97, 114, 101, 97]⟩) := by rw [tok_cells ho 6 (by simp)]; simp [tcells, hp1]
    clear ho hL
    go_wp2_with fail
    go_ret
    exact ⟨rfl, hbw⟩
  · have hpos : 0 < s.length := List.length_pos_iff.2 h0
    have hpos1 : (0 : Int) < (s.length : Int) := by omega
    have hlast := K.at_getD s (s.length - 1) (by omega) (by rw [T.bytes_size]; omega)
    rw [last_getD h0] at hl
    have hemp : s.isEmpty = false := by cases s with | nil => exact absurd rfl h0 | cons _ _ => rfl
    generalize hL0 : s.getD (s.length - 1) 0 = c at *
    have hc60 : ((c.toNat : Int) == 60) = false := byte_ne (n := 60) (fun h => hl (by rw [h]; rfl)) (by omega)
    clear hl hL0
    go_enter Tryz.func6, Tryz.ntmps6
    go_wp2_with fail
    refine (awake _ HE.out).mono ?_
    rintro e w1 ⟨rfl, b1⟩
    go_wp2_with fail
    refine (QR.out _).mono ?_
    rintro e w2 ⟨rfl, b2⟩
    have HE2 := Lib.hid ((HE.out.same b1).same b2)
    have hb2 : Below w.heap.size w w2 := b1.trans (b2.mono b1.size)
    go_wp2_with fail
    refine (QN.out _).mono ?_
    rintro e w2' ⟨rfl, rfl⟩
    go_wp2_with fail
    refine (QF.out _).mono ?_
    rintro e w2' ⟨rfl, rfl⟩
    have hBn : ∀ o, Below w2.heap.size w2 (w2.alloc o) := fun o => (Below.refl _ _).alloc (Nat.le_refl _) _
    go_wp2_with fail
    refine (QD.out _).mono ?_
    rintro e w3 ⟨rfl, b3⟩
    have hb3 : Below w2.heap.size w2 w3 := (hBn _).trans (b3.mono (by simp))
    have HE3 := Lib.hid (HE2.out.same hb3)
    clear b3 hBn
    go_wp2_with fail
    refine (QU.out _).mono ?_
    rintro e w4 ⟨rfl, b4⟩
    have hb4 : Below w2.heap.size w2 w4 := hb3.trans (b4.mono hb3.size)
    have HE4 := Lib.hid (HE2.out.same hb4)
    go_wp2_with fail
    rw [HD.out]
    refine (QT.out _ HE4.out).mono ?_
    rintro e w5 ⟨v, rfl, ⟨L, hL, ho, hA⟩, b5⟩
    clear hA
    have hbw : Below w.heap.size w w5 := (hb2.trans (hb4.mono hb2.size)).trans (b5.mono (by have := hb2.size; have := hb4.size; omega))
    rw [if_neg h0] at hL
    have h4 : L.length = 4 := by simpa using congrArg List.length hL
    obtain ⟨p0, p1, p2, p3, rfl⟩ := list_four h4
    have hp1 : p1.1 = M.Tok.txt 3 (E.decode s) := by simp at hL; exact hL.2.1
    have hp2 : p2.1 = ⟨2, [116, 101, 120, 116, 97, 114, 101, 97], [], false, []⟩ := by simp at hL; exact hL.2.2.1
    have hp3 : p3.1 = M.Tok.txt 3 [122] := by simp at hL; exact hL.2.2.2
    obtain ⟨ao, cap, rfl, hao⟩ := own_slice ho
    obtain ⟨g, rfl, _⟩ := hao (by simp)
    have c5 : w5.cell? ⟨g, 5, none⟩ = some (.int .i64 3) := by rw [tok_cells ho 5 (by simp)]; simp [tcells, hp1, M.Tok.txt]
    have c9 : w5.cell? ⟨g, 9, none⟩ = some (.string ⟨(E.decode s).toArray⟩) := by rw [tok_cells ho 9 (by simp)]; simp [tcells, hp1, M.Tok.txt]
    have c10 : w5.cell? ⟨g, 10, none⟩ = some (.int .i64 2) := by rw [tok_cells ho 10 (by simp)]; simp [tcells, hp2]
    have c11 : w5.cell? ⟨g, 11, none⟩ = some (.string ⟨#[116, 101, 120, 116, 97, 114, 101, 97]⟩) := by rw [tok_cells ho 11 (by simp)]; simp [tcells, hp2]
    have c19 : w5.cell? ⟨g, 19, none⟩ = some (.string ⟨#[122]⟩) := by rw [tok_cells ho 19 (by simp)]; simp [tcells, hp3, M.Tok.txt]
    clear ho hL
    go_wp2_with fail
    go_ret
    exact ⟨rfl, hbw⟩

set_option maxHeartbeats 4000000 in
set_option maxRecDepth 100000 in
theorem MarkupRaw (s : List UInt8) (kz : Int) (w : World) (hs0 : s.length ≤ 9223372036854775807) (hkz : (Lit.int .u8 kz).wf = true) (hE : Env w) :
    Calls Tryz.prog 6 #[.string ⟨s.toArray⟩, .int .u8 kz] w fun e w' => e = .returned (.bool true) ∧ Below w.heap.size w w' := by
  have hbd : 0 ≤ kz ∧ kz ≤ 255 := bounds_u8 hkz
  obtain ⟨kv, rfl⟩ : ∃ kv : Nat, kz = (kv : Int) := ⟨kz.toNat, by omega⟩
  have HE := Lib.hid hE
  by_cases hs : s.length ≤ 1500
  · have hs1 : (s.length : Int) ≤ 1500 := by omega
    have QR := Lib.hid (fun W => refRepairS s W (by omega))
    have QN := Lib.hid (fun W => refNewlinesS s W (by omega))
    cases hr : (U.rep s == s) with
    | false =>
      generalize U.rep s = r at *
      clear hE hbd
      go_enter Tryz.func6, Tryz.ntmps6
      go_wp2_with fail
      refine (awake _ HE.out).mono ?_
      rintro e w1 ⟨rfl, b1⟩
      go_wp2_with fail
      refine (QR.out _).mono ?_
      rintro e w2 ⟨rfl, b2⟩
      have HE2 := Lib.hid ((HE.out.same b1).same b2)
      go_wp2_with fail
      refine (awake _ HE2.out).mono ?_
      rintro e w3 ⟨rfl, b3⟩
      go_wp2_with fail
      go_ret
      have z1 := b1.size
      have z2 := b2.size
      exact ⟨rfl, (b1.trans (b2.mono z1)).trans (b3.mono (by omega))⟩
    | true =>
      have hr2 : U.rep s = s := by simpa using hr
      rw [hr2] at QR
      cases hn : (U.nlr false s == s) with
      | false =>
        clear hr2 hr hE hbd
        generalize U.nlr false s = r at *
        go_enter Tryz.func6, Tryz.ntmps6
        go_wp2_with fail
        refine (awake _ HE.out).mono ?_
        rintro e w1 ⟨rfl, b1⟩
        go_wp2_with fail
        refine (QR.out _).mono ?_
        rintro e w2 ⟨rfl, b2⟩
        have HE2 := Lib.hid ((HE.out.same b1).same b2)
        go_wp2_with fail
        refine (QN.out _).mono ?_
        rintro e w2' ⟨rfl, rfl⟩
        go_wp2_with fail
        refine (awake _ HE2.out).mono ?_
        rintro e w3 ⟨rfl, b3⟩
        go_wp2_with fail
        go_ret
        have z1 := b1.size
        have z2 := b2.size
        exact ⟨rfl, (b1.trans (b2.mono z1)).trans (b3.mono (by omega))⟩
      | true =>
        have hn2 : U.nlr false s = s := by simpa using hn
        rw [hn2] at QN
        cases hi : M.idx [60, 47] s with
        | some i =>
          have qf := fun W => rFind s [60, 47] 0 W (by omega) (by decide) (by decide) (Nat.zero_le _)
          rw [findI_some hi] at qf
          have QF := Lib.hid (show ∀ W, Calls Tryz.prog 18 #[.string ⟨s.toArray⟩, .int .i64 0, .string ⟨#[60, 47]⟩] W fun e w' => e = .returned (.int .i64 (i : Int)) ∧ W = w' from qf)
          have hi0 : (0 : Int) ≤ (i : Int) := by omega
          clear hr2 hr hE hbd hn hn2 hi qf
          go_enter Tryz.func6, Tryz.ntmps6
          go_wp2_with fail
          refine (awake _ HE.out).mono ?_
          rintro e w1 ⟨rfl, b1⟩
          go_wp2_with fail
          refine (QR.out _).mono ?_
          rintro e w2 ⟨rfl, b2⟩
          have HE2 := Lib.hid ((HE.out.same b1).same b2)
          go_wp2_with fail
          refine (QN.out _).mono ?_
          rintro e w2' ⟨rfl, rfl⟩
          go_wp2_with fail
          refine (QF.out _).mono ?_
          rintro e w2' ⟨rfl, rfl⟩
          go_wp2_with fail
          refine (awake _ HE2.out).mono ?_
          rintro e w3 ⟨rfl, b3⟩
          go_wp2_with fail
          go_ret
          have z1 := b1.size
          have z2 := b2.size
          exact ⟨rfl, (b1.trans (b2.mono z1)).trans (b3.mono (by omega))⟩
        | none =>
          by_cases hl : s.getLast? = some 60
          · have h0 : s ≠ [] := by rintro rfl; cases hl
            have qf := fun W => rFind s [60, 47] 0 W (by omega) (by decide) (by decide) (Nat.zero_le _)
            rw [findI_none hi] at qf
            have QF := Lib.hid (show ∀ W, Calls Tryz.prog 18 #[.string ⟨s.toArray⟩, .int .i64 0, .string ⟨#[60, 47]⟩] W fun e w' => e = .returned (.int .i64 (-1)) ∧ W = w' from qf)
            have hpos : 0 < s.length := List.length_pos_iff.2 h0
            have hpos1 : (0 : Int) < (s.length : Int) := by omega
            have hlast := K.at_getD s (s.length - 1) (by omega) (by rw [T.bytes_size]; omega)
            rw [last_getD h0] at hl
            generalize hL0 : s.getD (s.length - 1) 0 = c at *
            have hc60 : ((c.toNat : Int) == 60) = true := byte_is (n := 60) (Option.some.inj hl) (by omega)
            clear hl hL0 hr2 hr hE hbd hn hn2 hi qf h0
            go_enter Tryz.func6, Tryz.ntmps6
            go_wp2_with fail
            refine (awake _ HE.out).mono ?_
            rintro e w1 ⟨rfl, b1⟩
            go_wp2_with fail
            refine (QR.out _).mono ?_
            rintro e w2 ⟨rfl, b2⟩
            have HE2 := Lib.hid ((HE.out.same b1).same b2)
            go_wp2_with fail
            refine (QN.out _).mono ?_
            rintro e w2' ⟨rfl, rfl⟩
            go_wp2_with fail
            refine (QF.out _).mono ?_
            rintro e w2' ⟨rfl, rfl⟩
            go_wp2_with fail
            refine (awake _ HE2.out).mono ?_
            rintro e w3 ⟨rfl, b3⟩
            go_wp2_with fail
            go_ret
            have z1 := b1.size
            have z2 := b2.size
            exact ⟨rfl, (b1.trans (b2.mono z1)).trans (b3.mono (by omega))⟩
          · rcases (by omega : kv % 4 = 0 ∨ kv % 4 = 1 ∨ kv % 4 = 2 ∨ kv % 4 = 3) with hk | hk | hk | hk
            · exact MarkupRaw_0 s kv w (by omega) hk hs hr2 hn2 hi hl hE
            · exact MarkupRaw_1 s kv w (by omega) hk hs hr2 hn2 hi hl hE
            · exact MarkupRaw_2 s kv w (by omega) hk hs hr2 hn2 hi hl hE
            · exact MarkupRaw_3 s kv w (by omega) hk hs hr2 hn2 hi hl hE
  · have hs1 : 1500 < (s.length : Int) := by omega
    clear hs hE hbd
    go_enter Tryz.func6, Tryz.ntmps6
    go_wp2_with fail
    refine (awake _ HE.out).mono ?_
    rintro e w1 ⟨rfl, b1⟩
    have HE1 := Lib.hid (HE.out.same b1)
    go_wp2_with fail
    refine (awake _ HE1.out).mono ?_
    rintro e w2 ⟨rfl, b2⟩
    go_wp2_with fail
    go_ret
    exact ⟨rfl, b1.trans (b2.mono b1.size)⟩

end K
end Go.Proofs.YtlnginciehjlnaaGreatDoor

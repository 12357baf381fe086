/- The reader of selectors: value. The reader of selectors: value, where it is a string. The reader of selectors: sign. The reader of selectors: number. The reader of selectors: number. The reader of selectors: one contract for each reading, whatever comes. What the reference's Lower and Upper come to; the statement TextCases: it returns true at every string. -/
import Derived.Test.YtafkeolpadfjfaaGreatDoorSel3
import Derived.Test.YtafkeolpadfjfaaGreatDoorCut1
import Derived.Test.YtafkeolpadfjfaaGreatDoorSty5
import Derived.RegionTactic
import Derived.BigRegion
import Derived.Test.YtafkeolpadfjfaaGreatDoorCases
set_option linter.unusedVariables false
set_option linter.unusedSimpArgs false
namespace Go.Proofs.YtafkeolpadfjfaaGreatDoor
open Go.RowKit
namespace K
open H
set_option maxHeartbeats 1000000 in
/-- A value that is no string: a name. -/
theorem value_name (b : Nat) (s : List UInt8) (i j : Nat) (bad' : Bool) (v : List UInt8) (w : World) (hs : s.length ≤ 1000000) (hi : i ≤ s.length) (hq : s.getD i 0 ≠ 34 ∧ s.getD i 0 ≠ 39)
  (hn : ∀ w, IsRdr b s i false w → Calls Tryz.prog 165 #[.pointer (some ⟨b, 0, none⟩)] w (RdPost b s j bad' (.string ⟨v.toArray⟩) w)) (hR : IsRdr b s i false w) :
  Calls Tryz.prog 196 #[.pointer (some ⟨b, 0, none⟩)] w (RdPost b s j bad' (.string ⟨v.toArray⟩) w) := by
 have P := Lib.hid (peek b s i false w hs hi hR)
 have HR := Lib.hid hR
 have hlb := lt_of_block hR
 have HN := Lib.hid hn
 have e1 : (((s.getD i 0).toNat : Int) == 34) = false := byte_ne (n := 34) hq.1 (by decide)
 have e2 : (((s.getD i 0).toNat : Int) == 39) = false := byte_ne (n := 39) hq.2 (by decide)
 have n1 : ¬ (((s.getD i 0).toNat : Int) = 34) := by rw [← beq_iff_eq, e1]; exact Bool.false_ne_true
 have n2 : ¬ (((s.getD i 0).toNat : Int) = 39) := by rw [← beq_iff_eq, e2]; exact Bool.false_ne_true
 have m1 : (((s.getD i 0).toNat : Int) != 34) = true := by rw [bne, e1]; rfl
 have m2 : (((s.getD i 0).toNat : Int) != 39) = true := by rw [bne, e2]; rfl
 generalize s.getD i 0 = c at *
 clear hR hn hq
 go_enter Tryz.func196, Tryz.ntmps196
 go_wp2_with fail
 refine (P.out).mono ?_
 rintro en w1 ⟨rfl, n, hw1⟩
 have hr1 : IsRdr b s i false w1 := by rw [hw1]; exact HR.out.drewN _
 have hb1 : But b w w1 := by rw [hw1]; exact (But.refl _ _).drewN _
 have Q := Lib.hid (HN.out w1 hr1)
 clear hr1 hw1
 go_wp2_with fail
 refine (Q.out).mono ?_
 rintro en w2 ⟨rfl, hr2, hb2⟩
 go_wp2_with fail
 go_ret
 exact ⟨rfl, hr2, hb1.trans hb2⟩
end K
end Go.Proofs.YtafkeolpadfjfaaGreatDoor
namespace Go.Proofs.YtafkeolpadfjfaaGreatDoor
open Go.RowKit
namespace K
open H
theorem dw_nil {p : UInt8 → Bool} : ∀ {l : List UInt8}, l.dropWhile p = [] → ∀ x ∈ l, p x = true
 | [], _, _, h => by cases h
 | b :: l, h, x, hx => by
  cases hb : p b with
  | false => rw [List.dropWhile_cons, hb] at h; cases h
  | true =>
   rw [List.dropWhile_cons, hb] at h
   rcases List.mem_cons.1 hx with rfl | h1
   ·exact hb
   ·exact dw_nil h x h1
theorem has_byte (v : List UInt8) (c : UInt8) : decide (0 ≤ Lib.indexByte v c) = decide (c ∈ v) := by
 cases h : v.dropWhile (· != c) with
 | nil =>
  rw [index_none h]
  have : c ∉ v := by
   intro hm
   have h2 := dw_nil h
   simpa using h2 c hm
  simp [this]
 | cons q u =>
  rw [index_some h]
  have h3 := List.takeWhile_append_dropWhile (p := (· != c)) (l := v)
  have hq : q = c := by
   have := List.head_dropWhile_not (p := (· != c)) (l := v) (by rw [h]; simp)
   simpa [h] using this
  have : c ∈ v := by rw [← h3, h, hq]; simp
  simp [this]
set_option maxHeartbeats 1000000 in
theorem value34_open (b : Nat) (s t : List UInt8) (i : Nat)  (w : World) (hs : s.length ≤ 1000000) (hd : s.drop i = 34 :: t) (hu : t.dropWhile (· != 34) = []) (hR : IsRdr b s i false w) :
  Calls Tryz.prog 196 #[.pointer (some ⟨b, 0, none⟩)] w (RdPost b s i true (.string ⟨#[]⟩) w) := by
 have hil : i < s.length := by
  have := congrArg List.length hd
  rw [List.length_drop] at this
  simp at this
  omega
 have P := Lib.hid (peek b s i false w hs (by omega) hR)
 rw [getD_drop hd] at P
 have P : Hid (Calls Tryz.prog 129 #[.pointer (some ⟨b, 0, none⟩)] w fun e w' => e = .returned (.int .u8 34) ∧ ∃ n, w' = w.drewN n) := P
 have HR := Lib.hid hR
 have hlb := lt_of_block hR
 obtain ⟨hc, hf⟩ := cells_of hR
 have c0 : w.cell? ⟨b, 0, none⟩ = some (.string ⟨s.toArray⟩) := hc 0
 have c1 : w.cell? ⟨b, 1, none⟩ = some (.int .i64 i) := hc 1
 have c2 : w.cell? ⟨b, 2, none⟩ = some (.bool false) := hc 2
 have f1 : w.frozen? ⟨b, 1, none⟩ = false := hf 1 (by show 1 < 3; omega)
 have f2 : w.frozen? ⟨b, 2, none⟩ = false := hf 2 (by show 2 < 3; omega)
 have hd1 := drop_more hd
 have ht : t.length ≤ 1000000 := by rw [← hd1, List.length_drop]; omega
 have hx := slice_str s (i + 1) s.length (by omega) (Nat.le_refl _)
 rw [List.take_of_length_le (by rw [List.length_drop]; omega), hd1] at hx
 have Q := Lib.hid (fun W => Cut_none t 34 W ht hu)
 have zs := bytes_size s
 have g1 : IntKind.i64.wrap ((i : Int) + 1) = (i : Int) + 1 := IntWalk.i64_in _ (by omega)
 have g2 : ((i : Int) + 1).toNat = i + 1 := by omega
 have g3 : (0 : Int) ≤ (i : Int) + 1 := by omega
 have g4 : (i : Int) + 1 ≤ (s.length : Int) := by omega
 clear hc hf hR hd hd1 hu
 go_enter Tryz.func196, Tryz.ntmps196
 go_wp2_with fail
 refine (P.out).mono ?_
 rintro en w1 ⟨rfl, n, hw1⟩
 have d0 : w1.cell? ⟨b, 0, none⟩ = some (.string ⟨s.toArray⟩) := by rw [hw1]; exact c0
 have d1 : w1.cell? ⟨b, 1, none⟩ = some (.int .i64 i) := by rw [hw1]; exact c1
 have d2 : w1.cell? ⟨b, 2, none⟩ = some (.bool false) := by rw [hw1]; exact c2
 have e1 : w1.frozen? ⟨b, 1, none⟩ = false := by rw [hw1]; exact f1
 have e2 : w1.frozen? ⟨b, 2, none⟩ = false := by rw [hw1]; exact f2
 have hl1 : b < w1.heap.size := by rw [hw1]; exact hlb
 have HR1 : IsRdr b s i false w1 := by rw [hw1]; exact HR.out.drewN _
 have HB1 : But b w w1 := by rw [hw1]; exact (But.refl _ _).drewN _
 have HR1 := Lib.hid HR1
 have HB1 := Lib.hid HB1
 clear c0 c1 c2 f1 f2 hw1 hlb
 go_wp2_with fail
 go_quiet ((go_at_call 62; exact quietDrew (Q.out _)))
 go_wp2_with fail
 go_ret
 exact ⟨rfl, (HR1.out.drewN _).fail, (HB1.out.drewN _).trans (But.set _ _ _)⟩
set_option maxHeartbeats 1000000 in
theorem value34_line (b : Nat) (s t : List UInt8) (i : Nat) (u : List UInt8) (r : UInt8) (w : World) (hs : s.length ≤ 1000000) (hd : s.drop i = 34 :: t) (hu : t.dropWhile (· != 34) = r :: u) (hl : (10 : UInt8) ∈ t.takeWhile (· != 34)) (hR : IsRdr b s i false w) :
  Calls Tryz.prog 196 #[.pointer (some ⟨b, 0, none⟩)] w (RdPost b s i true (.string ⟨#[]⟩) w) := by
 have hil : i < s.length := by
  have := congrArg List.length hd
  rw [List.length_drop] at this
  simp at this
  omega
 have P := Lib.hid (peek b s i false w hs (by omega) hR)
 rw [getD_drop hd] at P
 have P : Hid (Calls Tryz.prog 129 #[.pointer (some ⟨b, 0, none⟩)] w fun e w' => e = .returned (.int .u8 34) ∧ ∃ n, w' = w.drewN n) := P
 have HR := Lib.hid hR
 have hlb := lt_of_block hR
 obtain ⟨hc, hf⟩ := cells_of hR
 have c0 : w.cell? ⟨b, 0, none⟩ = some (.string ⟨s.toArray⟩) := hc 0
 have c1 : w.cell? ⟨b, 1, none⟩ = some (.int .i64 i) := hc 1
 have c2 : w.cell? ⟨b, 2, none⟩ = some (.bool false) := hc 2
 have f1 : w.frozen? ⟨b, 1, none⟩ = false := hf 1 (by show 1 < 3; omega)
 have f2 : w.frozen? ⟨b, 2, none⟩ = false := hf 2 (by show 2 < 3; omega)
 have hd1 := drop_more hd
 have ht : t.length ≤ 1000000 := by rw [← hd1, List.length_drop]; omega
 have hx := slice_str s (i + 1) s.length (by omega) (Nat.le_refl _)
 rw [List.take_of_length_le (by rw [List.length_drop]; omega), hd1] at hx
 have Q := Lib.hid (fun W => Cut_some t u 34 r W ht hu)
 have QN := Lib.hid (fun W => Tryz.strings_Contains_one ⟨(t.takeWhile (· != 34)).toArray⟩ 10 W)
 rw [bytes_toList, has_byte, decide_eq_true hl] at QN
 have htl : (t.takeWhile (· != 34)).length ≤ t.length := by
  have := List.takeWhile_append_dropWhile (p := (· != 34)) (l := t)
  have := congrArg List.length this
  rw [List.length_append] at this
  omega
 have hil2 : i + 1 + t.length = s.length := by rw [← hd1, List.length_drop]; omega
 generalize t.takeWhile (· != 34) = v at *
 have zv := bytes_size v
 have zs := bytes_size s
 have g1 : IntKind.i64.wrap ((i : Int) + 1) = (i : Int) + 1 := IntWalk.i64_in _ (by omega)
 have g2 : ((i : Int) + 1).toNat = i + 1 := by omega
 have g3 : (0 : Int) ≤ (i : Int) + 1 := by omega
 have g4 : (i : Int) + 1 ≤ (s.length : Int) := by omega
 clear hc hf hR hd hd1 hu hl
 go_enter Tryz.func196, Tryz.ntmps196
 go_wp2_with fail
 refine (P.out).mono ?_
 rintro en w1 ⟨rfl, n, hw1⟩
 have d0 : w1.cell? ⟨b, 0, none⟩ = some (.string ⟨s.toArray⟩) := by rw [hw1]; exact c0
 have d1 : w1.cell? ⟨b, 1, none⟩ = some (.int .i64 i) := by rw [hw1]; exact c1
 have d2 : w1.cell? ⟨b, 2, none⟩ = some (.bool false) := by rw [hw1]; exact c2
 have e1 : w1.frozen? ⟨b, 1, none⟩ = false := by rw [hw1]; exact f1
 have e2 : w1.frozen? ⟨b, 2, none⟩ = false := by rw [hw1]; exact f2
 have hl1 : b < w1.heap.size := by rw [hw1]; exact hlb
 have HR1 : IsRdr b s i false w1 := by rw [hw1]; exact HR.out.drewN _
 have HB1 : But b w w1 := by rw [hw1]; exact (But.refl _ _).drewN _
 have HR1 := Lib.hid HR1
 have HB1 := Lib.hid HB1
 clear c0 c1 c2 f1 f2 hw1 hlb
 go_wp2_with fail
 go_quiet ((go_at_call 62; exact quietDrew (Q.out _)))
 go_wp2_with fail
 refine (QN.out _).mono ?_
 rintro en w2 ⟨rfl, rfl⟩
 go_wp2_with fail
 go_ret
 exact ⟨rfl, (HR1.out.drewN _).fail, (HB1.out.drewN _).trans (But.set _ _ _)⟩
set_option maxHeartbeats 1000000 in
theorem value34_ok (b : Nat) (s t : List UInt8) (i : Nat) (u : List UInt8) (r : UInt8) (w : World) (hs : s.length ≤ 1000000) (hd : s.drop i = 34 :: t) (hu : t.dropWhile (· != 34) = r :: u) (hl : (10 : UInt8) ∉ t.takeWhile (· != 34)) (hR : IsRdr b s i false w) :
  Calls Tryz.prog 196 #[.pointer (some ⟨b, 0, none⟩)] w (RdPost b s (i + (t.takeWhile (· != 34)).length + 2) false (.string ⟨(t.takeWhile (· != 34)).toArray⟩) w) := by
 have hil : i < s.length := by
  have := congrArg List.length hd
  rw [List.length_drop] at this
  simp at this
  omega
 have P := Lib.hid (peek b s i false w hs (by omega) hR)
 rw [getD_drop hd] at P
 have P : Hid (Calls Tryz.prog 129 #[.pointer (some ⟨b, 0, none⟩)] w fun e w' => e = .returned (.int .u8 34) ∧ ∃ n, w' = w.drewN n) := P
 have HR := Lib.hid hR
 have hlb := lt_of_block hR
 obtain ⟨hc, hf⟩ := cells_of hR
 have c0 : w.cell? ⟨b, 0, none⟩ = some (.string ⟨s.toArray⟩) := hc 0
 have c1 : w.cell? ⟨b, 1, none⟩ = some (.int .i64 i) := hc 1
 have c2 : w.cell? ⟨b, 2, none⟩ = some (.bool false) := hc 2
 have f1 : w.frozen? ⟨b, 1, none⟩ = false := hf 1 (by show 1 < 3; omega)
 have f2 : w.frozen? ⟨b, 2, none⟩ = false := hf 2 (by show 2 < 3; omega)
 have hd1 := drop_more hd
 have ht : t.length ≤ 1000000 := by rw [← hd1, List.length_drop]; omega
 have hx := slice_str s (i + 1) s.length (by omega) (Nat.le_refl _)
 rw [List.take_of_length_le (by rw [List.length_drop]; omega), hd1] at hx
 have Q := Lib.hid (fun W => Cut_some t u 34 r W ht hu)
 have QN := Lib.hid (fun W => Tryz.strings_Contains_one ⟨(t.takeWhile (· != 34)).toArray⟩ 10 W)
 rw [bytes_toList, has_byte, decide_eq_false hl] at QN
 have htl : (t.takeWhile (· != 34)).length ≤ t.length := by
  have := List.takeWhile_append_dropWhile (p := (· != 34)) (l := t)
  have := congrArg List.length this
  rw [List.length_append] at this
  omega
 have hil2 : i + 1 + t.length = s.length := by rw [← hd1, List.length_drop]; omega
 generalize t.takeWhile (· != 34) = v at *
 have zv := bytes_size v
 have zs := bytes_size s
 have g1 : IntKind.i64.wrap ((i : Int) + 1) = (i : Int) + 1 := IntWalk.i64_in _ (by omega)
 have g2 : ((i : Int) + 1).toNat = i + 1 := by omega
 have g3 : (0 : Int) ≤ (i : Int) + 1 := by omega
 have g4 : (i : Int) + 1 ≤ (s.length : Int) := by omega
 have g5 : IntKind.i64.wrap ((v.length : Int) + 2) = (v.length : Int) + 2 := IntWalk.i64_in _ (by omega)
 have g6 : IntKind.i64.wrap ((i : Int) + ((v.length : Int) + 2)) = (i : Int) + ((v.length : Int) + 2) := IntWalk.i64_in _ (by omega)
 clear hc hf hR hd hd1 hu hl
 go_enter Tryz.func196, Tryz.ntmps196
 go_wp2_with fail
 refine (P.out).mono ?_
 rintro en w1 ⟨rfl, n, hw1⟩
 have d0 : w1.cell? ⟨b, 0, none⟩ = some (.string ⟨s.toArray⟩) := by rw [hw1]; exact c0
 have d1 : w1.cell? ⟨b, 1, none⟩ = some (.int .i64 i) := by rw [hw1]; exact c1
 have d2 : w1.cell? ⟨b, 2, none⟩ = some (.bool false) := by rw [hw1]; exact c2
 have e1 : w1.frozen? ⟨b, 1, none⟩ = false := by rw [hw1]; exact f1
 have e2 : w1.frozen? ⟨b, 2, none⟩ = false := by rw [hw1]; exact f2
 have hl1 : b < w1.heap.size := by rw [hw1]; exact hlb
 have HR1 : IsRdr b s i false w1 := by rw [hw1]; exact HR.out.drewN _
 have HB1 : But b w w1 := by rw [hw1]; exact (But.refl _ _).drewN _
 have HR1 := Lib.hid HR1
 have HB1 := Lib.hid HB1
 clear c0 c1 c2 f1 f2 hw1 hlb
 go_wp2_with fail
 go_quiet ((go_at_call 62; exact quietDrew (Q.out _)))
 go_wp2_with fail
 refine (QN.out _).mono ?_
 rintro en w2 ⟨rfl, rfl⟩
 go_wp2_with fail
 go_ret
 exact ⟨rfl, (HR1.out.drewN _).place _ (by omega), (HB1.out.drewN _).trans (But.set _ _ _)⟩
set_option maxHeartbeats 1000000 in
theorem value39_open (b : Nat) (s t : List UInt8) (i : Nat)  (w : World) (hs : s.length ≤ 1000000) (hd : s.drop i = 39 :: t) (hu : t.dropWhile (· != 39) = []) (hR : IsRdr b s i false w) :
  Calls Tryz.prog 196 #[.pointer (some ⟨b, 0, none⟩)] w (RdPost b s i true (.string ⟨#[]⟩) w) := by
 have hil : i < s.length := by
  have := congrArg List.length hd
  rw [List.length_drop] at this
  simp at this
  omega
 have P := Lib.hid (peek b s i false w hs (by omega) hR)
 rw [getD_drop hd] at P
 have P : Hid (Calls Tryz.prog 129 #[.pointer (some ⟨b, 0, none⟩)] w fun e w' => e = .returned (.int .u8 39) ∧ ∃ n, w' = w.drewN n) := P
 have HR := Lib.hid hR
 have hlb := lt_of_block hR
 obtain ⟨hc, hf⟩ := cells_of hR
 have c0 : w.cell? ⟨b, 0, none⟩ = some (.string ⟨s.toArray⟩) := hc 0
 have c1 : w.cell? ⟨b, 1, none⟩ = some (.int .i64 i) := hc 1
 have c2 : w.cell? ⟨b, 2, none⟩ = some (.bool false) := hc 2
 have f1 : w.frozen? ⟨b, 1, none⟩ = false := hf 1 (by show 1 < 3; omega)
 have f2 : w.frozen? ⟨b, 2, none⟩ = false := hf 2 (by show 2 < 3; omega)
 have hd1 := drop_more hd
 have ht : t.length ≤ 1000000 := by rw [← hd1, List.length_drop]; omega
 have hx := slice_str s (i + 1) s.length (by omega) (Nat.le_refl _)
 rw [List.take_of_length_le (by rw [List.length_drop]; omega), hd1] at hx
 have Q := Lib.hid (fun W => Cut_none t 39 W ht hu)
 have zs := bytes_size s
 have g1 : IntKind.i64.wrap ((i : Int) + 1) = (i : Int) + 1 := IntWalk.i64_in _ (by omega)
 have g2 : ((i : Int) + 1).toNat = i + 1 := by omega
 have g3 : (0 : Int) ≤ (i : Int) + 1 := by omega
 have g4 : (i : Int) + 1 ≤ (s.length : Int) := by omega
 clear hc hf hR hd hd1 hu
 go_enter Tryz.func196, Tryz.ntmps196
 go_wp2_with fail
 refine (P.out).mono ?_
 rintro en w1 ⟨rfl, n, hw1⟩
 have d0 : w1.cell? ⟨b, 0, none⟩ = some (.string ⟨s.toArray⟩) := by rw [hw1]; exact c0
 have d1 : w1.cell? ⟨b, 1, none⟩ = some (.int .i64 i) := by rw [hw1]; exact c1
 have d2 : w1.cell? ⟨b, 2, none⟩ = some (.bool false) := by rw [hw1]; exact c2
 have e1 : w1.frozen? ⟨b, 1, none⟩ = false := by rw [hw1]; exact f1
 have e2 : w1.frozen? ⟨b, 2, none⟩ = false := by rw [hw1]; exact f2
 have hl1 : b < w1.heap.size := by rw [hw1]; exact hlb
 have HR1 : IsRdr b s i false w1 := by rw [hw1]; exact HR.out.drewN _
 have HB1 : But b w w1 := by rw [hw1]; exact (But.refl _ _).drewN _
 have HR1 := Lib.hid HR1
 have HB1 := Lib.hid HB1
 clear c0 c1 c2 f1 f2 hw1 hlb
 go_wp2_with fail
 go_quiet ((go_at_call 62; exact quietDrew (Q.out _)))
 go_wp2_with fail
 go_ret
 exact ⟨rfl, (HR1.out.drewN _).fail, (HB1.out.drewN _).trans (But.set _ _ _)⟩
set_option maxHeartbeats 1000000 in
theorem value39_line (b : Nat) (s t : List UInt8) (i : Nat) (u : List UInt8) (r : UInt8) (w : World) (hs : s.length ≤ 1000000) (hd : s.drop i = 39 :: t) (hu : t.dropWhile (· != 39) = r :: u) (hl : (10 : UInt8) ∈ t.takeWhile (· != 39)) (hR : IsRdr b s i false w) :
  Calls Tryz.prog 196 #[.pointer (some ⟨b, 0, none⟩)] w (RdPost b s i true (.string ⟨#[]⟩) w) := by
 have hil : i < s.length := by
  have := congrArg List.length hd
  rw [List.length_drop] at this
  simp at this
  omega
 have P := Lib.hid (peek b s i false w hs (by omega) hR)
 rw [getD_drop hd] at P
 have P : Hid (Calls Tryz.prog 129 #[.pointer (some ⟨b, 0, none⟩)] w fun e w' => e = .returned (.int .u8 39) ∧ ∃ n, w' = w.drewN n) := P
 have HR := Lib.hid hR
 have hlb := lt_of_block hR
 obtain ⟨hc, hf⟩ := cells_of hR
 have c0 : w.cell? ⟨b, 0, none⟩ = some (.string ⟨s.toArray⟩) := hc 0
 have c1 : w.cell? ⟨b, 1, none⟩ = some (.int .i64 i) := hc 1
 have c2 : w.cell? ⟨b, 2, none⟩ = some (.bool false) := hc 2
 have f1 : w.frozen? ⟨b, 1, none⟩ = false := hf 1 (by show 1 < 3; omega)
 have f2 : w.frozen? ⟨b, 2, none⟩ = false := hf 2 (by show 2 < 3; omega)
 have hd1 := drop_more hd
 have ht : t.length ≤ 1000000 := by rw [← hd1, List.length_drop]; omega
 have hx := slice_str s (i + 1) s.length (by omega) (Nat.le_refl _)
 rw [List.take_of_length_le (by rw [List.length_drop]; omega), hd1] at hx
 have Q := Lib.hid (fun W => Cut_some t u 39 r W ht hu)
 have QN := Lib.hid (fun W => Tryz.strings_Contains_one ⟨(t.takeWhile (· != 39)).toArray⟩ 10 W)
 rw [bytes_toList, has_byte, decide_eq_true hl] at QN
 have htl : (t.takeWhile (· != 39)).length ≤ t.length := by
  have := List.takeWhile_append_dropWhile (p := (· != 39)) (l := t)
  have := congrArg List.length this
  rw [List.length_append] at this
  omega
 have hil2 : i + 1 + t.length = s.length := by rw [← hd1, List.length_drop]; omega
 generalize t.takeWhile (· != 39) = v at *
 have zv := bytes_size v
 have zs := bytes_size s
 have g1 : IntKind.i64.wrap ((i : Int) + 1) = (i : Int) + 1 := IntWalk.i64_in _ (by omega)
 have g2 : ((i : Int) + 1).toNat = i + 1 := by omega
 have g3 : (0 : Int) ≤ (i : Int) + 1 := by omega
 have g4 : (i : Int) + 1 ≤ (s.length : Int) := by omega
 clear hc hf hR hd hd1 hu hl
 go_enter Tryz.func196, Tryz.ntmps196
 go_wp2_with fail
 refine (P.out).mono ?_
 rintro en w1 ⟨rfl, n, hw1⟩
 have d0 : w1.cell? ⟨b, 0, none⟩ = some (.string ⟨s.toArray⟩) := by rw [hw1]; exact c0
 have d1 : w1.cell? ⟨b, 1, none⟩ = some (.int .i64 i) := by rw [hw1]; exact c1
 have d2 : w1.cell? ⟨b, 2, none⟩ = some (.bool false) := by rw [hw1]; exact c2
 have e1 : w1.frozen? ⟨b, 1, none⟩ = false := by rw [hw1]; exact f1
 have e2 : w1.frozen? ⟨b, 2, none⟩ = false := by rw [hw1]; exact f2
 have hl1 : b < w1.heap.size := by rw [hw1]; exact hlb
 have HR1 : IsRdr b s i false w1 := by rw [hw1]; exact HR.out.drewN _
 have HB1 : But b w w1 := by rw [hw1]; exact (But.refl _ _).drewN _
 have HR1 := Lib.hid HR1
 have HB1 := Lib.hid HB1
 clear c0 c1 c2 f1 f2 hw1 hlb
 go_wp2_with fail
 go_quiet ((go_at_call 62; exact quietDrew (Q.out _)))
 go_wp2_with fail
 refine (QN.out _).mono ?_
 rintro en w2 ⟨rfl, rfl⟩
 go_wp2_with fail
 go_ret
 exact ⟨rfl, (HR1.out.drewN _).fail, (HB1.out.drewN _).trans (But.set _ _ _)⟩
set_option maxHeartbeats 1000000 in
theorem value39_ok (b : Nat) (s t : List UInt8) (i : Nat) (u : List UInt8) (r : UInt8) (w : World) (hs : s.length ≤ 1000000) (hd : s.drop i = 39 :: t) (hu : t.dropWhile (· != 39) = r :: u) (hl : (10 : UInt8) ∉ t.takeWhile (· != 39)) (hR : IsRdr b s i false w) :
  Calls Tryz.prog 196 #[.pointer (some ⟨b, 0, none⟩)] w (RdPost b s (i + (t.takeWhile (· != 39)).length + 2) false (.string ⟨(t.takeWhile (· != 39)).toArray⟩) w) := by
 have hil : i < s.length := by
  have := congrArg List.length hd
  rw [List.length_drop] at this
  simp at this
  omega
 have P := Lib.hid (peek b s i false w hs (by omega) hR)
 rw [getD_drop hd] at P
 have P : Hid (Calls Tryz.prog 129 #[.pointer (some ⟨b, 0, none⟩)] w fun e w' => e = .returned (.int .u8 39) ∧ ∃ n, w' = w.drewN n) := P
 have HR := Lib.hid hR
 have hlb := lt_of_block hR
 obtain ⟨hc, hf⟩ := cells_of hR
 have c0 : w.cell? ⟨b, 0, none⟩ = some (.string ⟨s.toArray⟩) := hc 0
 have c1 : w.cell? ⟨b, 1, none⟩ = some (.int .i64 i) := hc 1
 have c2 : w.cell? ⟨b, 2, none⟩ = some (.bool false) := hc 2
 have f1 : w.frozen? ⟨b, 1, none⟩ = false := hf 1 (by show 1 < 3; omega)
 have f2 : w.frozen? ⟨b, 2, none⟩ = false := hf 2 (by show 2 < 3; omega)
 have hd1 := drop_more hd
 have ht : t.length ≤ 1000000 := by rw [← hd1, List.length_drop]; omega
 have hx := slice_str s (i + 1) s.length (by omega) (Nat.le_refl _)
 rw [List.take_of_length_le (by rw [List.length_drop]; omega), hd1] at hx
 have Q := Lib.hid (fun W => Cut_some t u 39 r W ht hu)
 have QN := Lib.hid (fun W => Tryz.strings_Contains_one ⟨(t.takeWhile (· != 39)).toArray⟩ 10 W)
 rw [bytes_toList, has_byte, decide_eq_false hl] at QN
 have htl : (t.takeWhile (· != 39)).length ≤ t.length := by
  have := List.takeWhile_append_dropWhile (p := (· != 39)) (l := t)
  have := congrArg List.length this
  rw [List.length_append] at this
  omega
 have hil2 : i + 1 + t.length = s.length := by rw [← hd1, List.length_drop]; omega
 generalize t.takeWhile (· != 39) = v at *
 have zv := bytes_size v
 have zs := bytes_size s
 have g1 : IntKind.i64.wrap ((i : Int) + 1) = (i : Int) + 1 := IntWalk.i64_in _ (by omega)
 have g2 : ((i : Int) + 1).toNat = i + 1 := by omega
 have g3 : (0 : Int) ≤ (i : Int) + 1 := by omega
 have g4 : (i : Int) + 1 ≤ (s.length : Int) := by omega
 have g5 : IntKind.i64.wrap ((v.length : Int) + 2) = (v.length : Int) + 2 := IntWalk.i64_in _ (by omega)
 have g6 : IntKind.i64.wrap ((i : Int) + ((v.length : Int) + 2)) = (i : Int) + ((v.length : Int) + 2) := IntWalk.i64_in _ (by omega)
 clear hc hf hR hd hd1 hu hl
 go_enter Tryz.func196, Tryz.ntmps196
 go_wp2_with fail
 refine (P.out).mono ?_
 rintro en w1 ⟨rfl, n, hw1⟩
 have d0 : w1.cell? ⟨b, 0, none⟩ = some (.string ⟨s.toArray⟩) := by rw [hw1]; exact c0
 have d1 : w1.cell? ⟨b, 1, none⟩ = some (.int .i64 i) := by rw [hw1]; exact c1
 have d2 : w1.cell? ⟨b, 2, none⟩ = some (.bool false) := by rw [hw1]; exact c2
 have e1 : w1.frozen? ⟨b, 1, none⟩ = false := by rw [hw1]; exact f1
 have e2 : w1.frozen? ⟨b, 2, none⟩ = false := by rw [hw1]; exact f2
 have hl1 : b < w1.heap.size := by rw [hw1]; exact hlb
 have HR1 : IsRdr b s i false w1 := by rw [hw1]; exact HR.out.drewN _
 have HB1 : But b w w1 := by rw [hw1]; exact (But.refl _ _).drewN _
 have HR1 := Lib.hid HR1
 have HB1 := Lib.hid HB1
 clear c0 c1 c2 f1 f2 hw1 hlb
 go_wp2_with fail
 go_quiet ((go_at_call 62; exact quietDrew (Q.out _)))
 go_wp2_with fail
 refine (QN.out _).mono ?_
 rintro en w2 ⟨rfl, rfl⟩
 go_wp2_with fail
 go_ret
 exact ⟨rfl, (HR1.out.drewN _).place _ (by omega), (HB1.out.drewN _).trans (But.set _ _ _)⟩
end K
end Go.Proofs.YtafkeolpadfjfaaGreatDoor
namespace Go.Proofs.YtafkeolpadfjfaaGreatDoor
open Go.RowKit
namespace K
open H
end K
end Go.Proofs.YtafkeolpadfjfaaGreatDoor
namespace Go.Proofs.YtafkeolpadfjfaaGreatDoor
open Go.RowKit
namespace K
open H
end K
end Go.Proofs.YtafkeolpadfjfaaGreatDoor
namespace Go.Proofs.YtafkeolpadfjfaaGreatDoor
open Go.RowKit
namespace K
open H
end K
end Go.Proofs.YtafkeolpadfjfaaGreatDoor
namespace Go.Proofs.YtafkeolpadfjfaaGreatDoor
open Go.RowKit
namespace K
open H
/-- A reading that failed, or came to x. -/
def Got {β : Type} (bad : Bool) (o : Option β) (x : β) : Prop := (bad = true ∧ o = none) ∨ (bad = false ∧ o = some x)
theorem Got.no {β : Type} {o : Option β} {x : β} (h : o = none) : Got true o x := Or.inl ⟨rfl, h⟩
theorem Got.yes {β : Type} {o : Option β} {x : β} (h : o = some x) : Got false o x := Or.inr ⟨rfl, h⟩
def StrPost (b : Nat) (s : List UInt8) (i : Nat) (o : Option (List UInt8 × List UInt8)) (w : World) (e : Ending) (w' : World) : Prop :=
 ∃ (t : List UInt8) (j : Nat) (bad' : Bool), e = .returned (.string ⟨t.toArray⟩) ∧ IsRdr b s j bad' w' ∧ But b w w' ∧ i ≤ j ∧ j ≤ s.length ∧ t.length ≤ s.length ∧ Hid (Got bad' o (t, s.drop j))
theorem name_any (b : Nat) (s : List UInt8) (i : Nat) (w : World) (hs : s.length ≤ 1000000) (hi : i ≤ s.length) (hR : IsRdr b s i false w) :
  Calls Tryz.prog 165 #[.pointer (some ⟨b, 0, none⟩)] w (StrPost b s i (L.ident (s.drop i)) w) := by
 cases hb : L.begins (s.drop i) with
 | false =>
  refine (name_no b s i w hs hi hb hR).mono ?_
  rintro e w' ⟨rfl, hr, hB⟩
  refine ⟨[], i, true, rfl, hr, hB, Nat.le_refl _, hi, Nat.zero_le _, Lib.hid (Got.no ?_)⟩
  unfold L.ident; rw [hb]; rfl
 | true =>
  refine (name b s i w hs hi hb hR).mono ?_
  rintro e w' ⟨rfl, hr, hB⟩
  refine ⟨_, _, false, rfl, hr, hB, twEnd_ge _ _ _, twEnd_le hi, ?_, Lib.hid (Got.yes ?_)⟩
  ·have := tw_le L.inName (s.drop i); rw [List.length_drop] at this; omega
  ·unfold L.ident; rw [hb, twEnd_drop]; rfl
theorem value_any (b : Nat) (s : List UInt8) (i : Nat) (w : World) (hs : s.length ≤ 1000000) (hi : i ≤ s.length) (hR : IsRdr b s i false w) :
  Calls Tryz.prog 196 #[.pointer (some ⟨b, 0, none⟩)] w (StrPost b s i (L.value (s.drop i)) w) := by
 have hnames : s.getD i 0 ≠ 34 ∧ s.getD i 0 ≠ 39 → Calls Tryz.prog 196 #[.pointer (some ⟨b, 0, none⟩)] w (StrPost b s i (L.ident (s.drop i)) w) := by
  intro hq
  cases hb : L.begins (s.drop i) with
  | false =>
   refine (value_name b s i i true [] w hs hi hq (fun W h => name_no b s i W hs hi hb h) hR).mono ?_
   rintro e w' ⟨rfl, hr, hB⟩
   refine ⟨[], i, true, rfl, hr, hB, Nat.le_refl _, hi, Nat.zero_le _, Lib.hid (Got.no ?_)⟩
   unfold L.ident; rw [hb]; rfl
  | true =>
   refine (value_name b s i _ false _ w hs hi hq (fun W h => name b s i W hs hi hb h) hR).mono ?_
   rintro e w' ⟨rfl, hr, hB⟩
   refine ⟨_, _, false, rfl, hr, hB, twEnd_ge _ _ _, twEnd_le hi, ?_, Lib.hid (Got.yes ?_)⟩
   ·have := tw_le L.inName (s.drop i); rw [List.length_drop] at this; omega
   ·unfold L.ident; rw [hb, twEnd_drop]; rfl
 cases hd : s.drop i with
 | nil =>
  have h := hnames (by rw [getD_past (by have := congrArg List.length hd; rw [List.length_drop] at this; simp at this; omega)]; decide)
  rw [hd] at h
  exact h
 | cons q t =>
  have hlt := lt_drop hd
  have htl : t.length + i + 1 = s.length := by have := congrArg List.length hd; rw [List.length_drop, List.length_cons] at this; omega
  by_cases h34 : q = 34
  ·subst h34
   have hval : L.value (34 :: t) = match t.dropWhile (· != 34) with | [] => none | _ :: u => if (10 : UInt8) ∈ t.takeWhile (· != 34) then none else some (t.takeWhile (· != 34), u) := rfl
   have hln := tw_le (· != 34) t
   rw [hval]
   cases hu : t.dropWhile (· != 34) with
   | nil =>
    refine (value34_open b s t i w hs hd hu hR).mono ?_
    rintro e w' ⟨rfl, hr, hB⟩
    exact ⟨[], i, true, rfl, hr, hB, Nat.le_refl _, hi, Nat.zero_le _, Lib.hid (Got.no rfl)⟩
   | cons r u =>
    by_cases hl : (10 : UInt8) ∈ t.takeWhile (· != 34)
    ·refine (value34_line b s t i u r w hs hd hu hl hR).mono ?_
     rintro e w' ⟨rfl, hr, hB⟩
     exact ⟨[], i, true, rfl, hr, hB, Nat.le_refl _, hi, Nat.zero_le _, Lib.hid (Got.no (by show (if _ then _ else _) = _; rw [if_pos hl]))⟩
    ·refine (value34_ok b s t i u r w hs hd hu hl hR).mono ?_
     rintro e w' ⟨rfl, hr, hB⟩
     have h1 := List.takeWhile_append_dropWhile (p := (· != 34)) (l := t)
     have h2 : (t.takeWhile (· != 34)).length + (u.length + 1) = t.length := by rw [hu] at h1; have := congrArg List.length h1; simpa using this
     refine ⟨_, _, false, rfl, hr, hB, by omega, by omega, by omega, Lib.hid (Got.yes ?_)⟩
     show (if _ then _ else _) = _
     rw [if_neg hl]
     have h3 : s.drop (i + (t.takeWhile (· != 34)).length + 2) = u := by
      rw [show i + (t.takeWhile (· != 34)).length + 2 = i + (1 + ((t.takeWhile (· != 34)).length + 1)) by omega, ← List.drop_drop, hd, ← List.drop_drop]
      show (t.drop _) = u
      rw [← List.drop_drop, drop_tw, hu]; rfl
     rw [h3]
  ·by_cases h39 : q = 39
   ·subst h39
    have hval : L.value (39 :: t) = match t.dropWhile (· != 39) with | [] => none | _ :: u => if (10 : UInt8) ∈ t.takeWhile (· != 39) then none else some (t.takeWhile (· != 39), u) := rfl
    have hln := tw_le (· != 39) t
    rw [hval]
    cases hu : t.dropWhile (· != 39) with
    | nil =>
     refine (value39_open b s t i w hs hd hu hR).mono ?_
     rintro e w' ⟨rfl, hr, hB⟩
     exact ⟨[], i, true, rfl, hr, hB, Nat.le_refl _, hi, Nat.zero_le _, Lib.hid (Got.no rfl)⟩
    | cons r u =>
     by_cases hl : (10 : UInt8) ∈ t.takeWhile (· != 39)
     ·refine (value39_line b s t i u r w hs hd hu hl hR).mono ?_
      rintro e w' ⟨rfl, hr, hB⟩
      exact ⟨[], i, true, rfl, hr, hB, Nat.le_refl _, hi, Nat.zero_le _, Lib.hid (Got.no (by show (if _ then _ else _) = _; rw [if_pos hl]))⟩
     ·refine (value39_ok b s t i u r w hs hd hu hl hR).mono ?_
      rintro e w' ⟨rfl, hr, hB⟩
      have h1 := List.takeWhile_append_dropWhile (p := (· != 39)) (l := t)
      have h2 : (t.takeWhile (· != 39)).length + (u.length + 1) = t.length := by rw [hu] at h1; have := congrArg List.length h1; simpa using this
      refine ⟨_, _, false, rfl, hr, hB, by omega, by omega, by omega, Lib.hid (Got.yes ?_)⟩
      show (if _ then _ else _) = _
      rw [if_neg hl]
      have h3 : s.drop (i + (t.takeWhile (· != 39)).length + 2) = u := by
       rw [show i + (t.takeWhile (· != 39)).length + 2 = i + (1 + ((t.takeWhile (· != 39)).length + 1)) by omega, ← List.drop_drop, hd, ← List.drop_drop]
       show (t.drop _) = u
       rw [← List.drop_drop, drop_tw, hu]; rfl
      rw [h3]
   ·have h := hnames (by rw [getD_drop hd]; exact ⟨h34, h39⟩)
    rw [hd] at h
    have hval : L.value (q :: t) = L.ident (q :: t) := by
     unfold L.value
     simp [h34, h39]
    rw [hval]
    exact h
/-- take, whatever the state. -/
def TakePost (b : Nat) (s p : List UInt8) (i : Nat) (bad : Bool) (w : World) (e : Ending) (w' : World) : Prop :=
 (e = .returned (.bool true) ∧ IsRdr b s (i + p.length) bad w' ∧ But b w w' ∧ Hid (bad = false ∧ p.isPrefixOf (s.drop i) = true)) ∨
 (e = .returned (.bool false) ∧ IsRdr b s i bad w' ∧ But b w w' ∧ Hid (bad = true ∨ p.isPrefixOf (s.drop i) = false))
theorem take_any (b : Nat) (s p : List UInt8) (i : Nat) (bad : Bool) (w : World) (hs : s.length ≤ 1000000) (hp : p.length ≤ 1000) (hi : i ≤ s.length) (hR : IsRdr b s i bad w) :
  Calls Tryz.prog 87 #[.pointer (some ⟨b, 0, none⟩), .string ⟨p.toArray⟩] w (TakePost b s p i bad w) := by
 cases bad with
 | true =>
  refine (take_bad b s p i w hR).mono ?_
  rintro e w' ⟨rfl, hr, hB⟩
  exact Or.inr ⟨rfl, hr, hB, Lib.hid (Or.inl rfl)⟩
 | false =>
  refine (take b s p i w hs hp hi hR).mono ?_
  rintro e w' ⟨rfl, hr, hB⟩
  cases hpr : p.isPrefixOf (s.drop i) with
  | true =>
   rw [hpr] at hr
   exact Or.inl ⟨rfl, hr, hB, Lib.hid ⟨rfl, hpr⟩⟩
  | false =>
   rw [hpr] at hr
   exact Or.inr ⟨rfl, hr, hB, Lib.hid (Or.inr hpr)⟩
theorem prefix_len {p s : List UInt8} (h : p.isPrefixOf s = true) : p.length ≤ s.length := by
 have := List.isPrefixOf_iff_prefix.1 h
 exact this.length_le
def NeedPost (b : Nat) (s p : List UInt8) (i : Nat) (bad : Bool) (w : World) (e : Ending) (w' : World) : Prop :=
 ∃ (j : Nat) (bad' : Bool), e = .returned (.tuple #[]) ∧ IsRdr b s j bad' w' ∧ But b w w' ∧ i ≤ j ∧ j ≤ s.length ∧ Hid ((bad = true → bad' = true) ∧ (bad = false → Got bad' (L.need p (s.drop i)) (s.drop j)))
theorem need_any (b : Nat) (s p : List UInt8) (i : Nat) (bad : Bool) (w : World) (hs : s.length ≤ 1000000) (hp : p.length ≤ 1000) (hi : i ≤ s.length) (hR : IsRdr b s i bad w) :
  Calls Tryz.prog 195 #[.pointer (some ⟨b, 0, none⟩), .string ⟨p.toArray⟩] w (NeedPost b s p i bad w) := by
 cases bad with
 | true =>
  refine (need_bad b s p i w hR).mono ?_
  rintro e w' ⟨rfl, hr, hB⟩
  exact ⟨i, true, rfl, hr, hB, Nat.le_refl _, hi, Lib.hid ⟨fun _ => rfl, fun h => by cases h⟩⟩
 | false =>
  refine (need b s p i w hs hp hi hR).mono ?_
  rintro e w' ⟨rfl, hr, hB⟩
  cases hpr : p.isPrefixOf (s.drop i) with
  | true =>
   have hl := prefix_len hpr
   rw [List.length_drop] at hl
   rw [hpr] at hr
   refine ⟨i + p.length, false, rfl, hr, hB, by omega, by omega, Lib.hid ⟨fun h => (by cases h), fun _ => Got.yes ?_⟩⟩
   unfold L.need; rw [if_pos hpr, List.drop_drop]
  | false =>
   rw [hpr] at hr
   refine ⟨i, true, rfl, hr, hB, Nat.le_refl _, hi, Lib.hid ⟨fun h => (by cases h), fun _ => Got.no ?_⟩⟩
   unfold L.need; rw [hpr]; rfl
/-- space, whatever the state. -/
def SpacePost (b : Nat) (s : List UInt8) (i : Nat) (bad : Bool) (w : World) (e : Ending) (w' : World) : Prop :=
 ∃ j, e = .returned (.bool (decide (i < j))) ∧ IsRdr b s j bad w' ∧ But b w w' ∧ i ≤ j ∧ j ≤ s.length ∧ Hid (s.drop j = L.space (s.drop i))
theorem space_any (b : Nat) (s : List UInt8) (i : Nat) (bad : Bool) (w : World) (hs : s.length ≤ 1000000) (hi : i ≤ s.length) (hR : IsRdr b s i bad w) :
  Calls Tryz.prog 88 #[.pointer (some ⟨b, 0, none⟩)] w (SpacePost b s i bad w) := by
 refine (space b s i bad w hs hi hR).mono ?_
 rintro e w' ⟨rfl, hr, hB⟩
 exact ⟨_, rfl, hr, hB, twEnd_ge _ _ _, twEnd_le hi, Lib.hid (twEnd_drop _ _ _)⟩
end K
end Go.Proofs.YtafkeolpadfjfaaGreatDoor
namespace Go.Proofs.YtafkeolpadfjfaaGreatDoor
open Go.RowKit
namespace T
set_option maxHeartbeats 1000000 in
set_option maxRecDepth 100000 in
theorem refLower (s : ByteArray) (w : World) (hs : s.size ≤ 140737488351232) :
  Calls Tryz.prog 18 #[.string s] w fun e w' => e = .returned (.string ⟨(s.data.toList.map low).toArray⟩) ∧ Below w.heap.size w w' := by
 obtain ⟨cap, W1, hconv, hR0, hB0⟩ := bytes_of s w
 have H0 := Lib.hid hR0
 clear hR0
 go_enter Tryz.func18, Tryz.ntmps18
 go_wp2_with fail
 clear hconv
 go_loopw [4] (fun i wr => MapRel low s w i wr) (fun i _ => s.size - (intOf i).toNat)
 case atStart => exact ⟨0, Nat.zero_le _, rfl, by simpa [mp] using H0.out, hB0⟩
 case round =>
  obtain ⟨k, hk, rfl, hR, hB⟩ := hrel
  have HR := Lib.hid hR
  clear hR
  by_cases hlt : k < s.size
  ·have hl : k < s.data.toList.length := by simpa using hlt
   have hc := HR.out.1 k (by rw [mp_length]; exact hl)
   rw [mp_at low k _ hl] at hc
   have hf := HR.out.2 k (by rw [mp_length]; exact hl)
   have hb := (s.data.toList[k]).toNat_lt
   generalize hx : s.data.toList[k] = x at *
   have HX := Lib.hid hx
   clear hx
   by_cases h1 : 65 ≤ (x.toNat : Int)
   ·by_cases h2 : (x.toNat : Int) ≤ 90
    ·have HE := Lib.hid (low_in x h1 h2)
     go_wp2_with fail
     go_roundw
     case rel =>
      refine ⟨k + 1, by omega, by go_num, ?_, hB.setCell (p := ⟨w.heap.size, k, none⟩) (Nat.le_refl _) _⟩
      have h3 := HR.out.set k (by rw [mp_length]; exact hl) (low x)
      rw [← HX.out, mp_set low k _ hl, HX.out, HE.out] at h3
      exact h3
     case measure => simp [intOf]; omega
    ·have HE := Lib.hid (low_out x (fun h => h2 h.2))
     have h2' : 90 < (x.toNat : Int) := by omega
     clear h2
     go_wp2_with fail
     go_roundw
     case rel =>
      refine ⟨k + 1, by omega, by go_num, ?_, hB⟩
      have h3 := HR.out
      rw [← mp_set low k _ hl, HX.out, HE.out]
      exact h3.same k (by rw [mp_length]; exact hl) x (by rw [mp_at low k _ hl]; exact HX.out)
     case measure => simp [intOf]; omega
   ·have HE := Lib.hid (low_out x (fun h => h1 h.1))
    have h1' : (x.toNat : Int) < 65 := by omega
    clear h1
    go_wp2_with fail
    go_roundw
    case rel =>
     refine ⟨k + 1, by omega, by go_num, ?_, hB⟩
     have h3 := HR.out
     rw [← mp_set low k _ hl, HX.out, HE.out]
     exact h3.same k (by rw [mp_length]; exact hl) x (by rw [mp_at low k _ hl]; exact HX.out)
    case measure => simp [intOf]; omega
  ·have hback := string_of wr w.heap.size s.size cap _ HR.out (by rw [mp_length]; simp)
   rw [mp_all low k _ (by simp; omega)] at hback
   go_wp2_with fail
   go_ret
   exact ⟨rfl, hB⟩
end T
end Go.Proofs.YtafkeolpadfjfaaGreatDoor

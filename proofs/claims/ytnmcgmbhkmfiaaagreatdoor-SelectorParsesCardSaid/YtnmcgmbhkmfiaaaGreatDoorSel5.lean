/- The reader of selectors: value, where it is a string. -/
import Derived.Test.YtnmcgmbhkmfiaaaGreatDoorSel4
set_option linter.unusedVariables false
set_option linter.unusedSimpArgs false
namespace Go.Proofs.YtnmcgmbhkmfiaaaGreatDoor
open Go.RowKit
namespace K
open H

theorem dw_nil {p : UInt8 → Bool} : ∀ {l : List UInt8}, l.dropWhile p = [] → ∀ x ∈ l, p x = true
  | [], _, _, h => by cases h
  | b :: l, h, x, hx => by
    cases hb : p b with
    | false => rw [List.dropWhile_cons, hb] at h; cases h
    | true =>
      rw [List.dropWhile_cons, hb] at h
      rcases List.mem_cons.1 hx with rfl | h1
      · exact hb
      · exact dw_nil h x h1

theorem has_byte (v : List UInt8) (c : UInt8) : decide (0 ≤ Lib.indexByte v c) = decide (c ∈ v) := by
  cases h : v.dropWhile (· != c) with
  | nil =>
    rw [index_none h]
    have : c ∉ v := by
      intro hm
      have h2 := dw_nil h
      simpa using h2 c hm
    simp [this]
  | cons q u =>
    rw [index_some h]
    have h3 := List.takeWhile_append_dropWhile (p := (· != c)) (l := v)
    have hq : q = c := by
      have := List.head_dropWhile_not (p := (· != c)) (l := v) (by rw [h]; simp)
      simpa [h] using this
    have : c ∈ v := by rw [← h3, h, hq]; simp
    simp [this]

set_option maxHeartbeats 1000000 in
theorem value34_open (b : Nat) (s t : List UInt8) (i : Nat)  (w : World) (hs : s.length ≤ 1000000) (hd : s.drop i = 34 :: t) (hu : t.dropWhile (· != 34) = []) (hR : IsRdr b s i false w) :
    Calls Tryz.prog 68 #[.pointer (some ⟨b, 0, none⟩)] w (RdPost b s i true (.string ⟨#[]⟩) w) := by
  have hil : i < s.length := by
    have := congrArg List.length hd
    rw [List.length_drop] at this
    simp at this
    omega
  have P := Lib.hid (peek b s i false w hs (by omega) hR)
  rw [getD_drop hd] at P
  have P : Hid (Calls Tryz.prog 31 #[.pointer (some ⟨b, 0, none⟩)] w fun e w' => e = .returned (.int .u8 34) ∧ ∃ n, w' = w.drewN n) := P
  have HR := Lib.hid hR
  have hlb := lt_of_block hR
  obtain ⟨hc, hf⟩ := cells_of hR
  have c0 : w.cell? ⟨b, 0, none⟩ = some (.string ⟨s.toArray⟩) := hc 0
  have c1 : w.cell? ⟨b, 1, none⟩ = some (.int .i64 i) := hc 1
  have c2 : w.cell? ⟨b, 2, none⟩ = some (.bool false) := hc 2
  have f1 : w.frozen? ⟨b, 1, none⟩ = false := hf 1 (by show 1 < 3; omega)
  have f2 : w.frozen? ⟨b, 2, none⟩ = false := hf 2 (by show 2 < 3; omega)
  have hd1 := drop_more hd
  have ht : t.length ≤ 1000000 := by rw [← hd1, List.length_drop]; omega
  have hx := slice_str s (i + 1) s.length (by omega) (Nat.le_refl _)
  rw [List.take_of_length_le (by rw [List.length_drop]; omega), hd1] at hx
  have Q := Lib.hid (fun W => Cut_none t 34 W ht hu)
  have zs := bytes_size s
  have g1 : IntKind.i64.wrap ((i : Int) + 1) = (i : Int) + 1 := IntWalk.i64_in _ (by omega)
  have g2 : ((i : Int) + 1).toNat = i + 1 := by omega
  have g3 : (0 : Int) ≤ (i : Int) + 1 := by omega
  have g4 : (i : Int) + 1 ≤ (s.length : Int) := by omega
  clear hc hf hR hd hd1 hu
  go_enter Tryz.func68, Tryz.ntmps68
  go_wp2_with fail
  refine (P.out).mono ?_
  rintro en w1 ⟨rfl, n, hw1⟩
  have d0 : w1.cell? ⟨b, 0, none⟩ = some (.string ⟨s.toArray⟩) := by rw [hw1]; exact c0
  have d1 : w1.cell? ⟨b, 1, none⟩ = some (.int .i64 i) := by rw [hw1]; exact c1
  have d2 : w1.cell? ⟨b, 2, none⟩ = some (.bool false) := by rw [hw1]; exact c2
  have e1 : w1.frozen? ⟨b, 1, none⟩ = false := by rw [hw1]; exact f1
  have e2 : w1.frozen? ⟨b, 2, none⟩ = false := by rw [hw1]; exact f2
  have hl1 : b < w1.heap.size := by rw [hw1]; exact hlb
  have HR1 : IsRdr b s i false w1 := by rw [hw1]; exact HR.out.drewN _
  have HB1 : But b w w1 := by rw [hw1]; exact (But.refl _ _).drewN _
  have HR1 := Lib.hid HR1
  have HB1 := Lib.hid HB1
  clear c0 c1 c2 f1 f2 hw1 hlb
  go_wp2_with fail
  go_quiet ((go_at_call 80; exact quietDrew (Q.out _)))
  go_wp2_with fail
  go_ret
  exact ⟨rfl, (HR1.out.drewN _).fail, (HB1.out.drewN _).trans (But.set _ _ _)⟩

set_option maxHeartbeats 1000000 in
theorem value34_line (b : Nat) (s t : List UInt8) (i : Nat) (u : List UInt8) (r : UInt8) (w : World) (hs : s.length ≤ 1000000) (hd : s.drop i = 34 :: t) (hu : t.dropWhile (· != 34) = r :: u) (hl : (10 : UInt8) ∈ t.takeWhile (· != 34)) (hR : IsRdr b s i false w) :
    Calls Tryz.prog 68 #[.pointer (some ⟨b, 0, none⟩)] w (RdPost b s i true (.string ⟨#[]⟩) w) := by
  have hil : i < s.length := by
    have := congrArg List.length hd
    rw [List.length_drop] at this
    simp at this
    omega
  have P := Lib.hid (peek b s i false w hs (by omega) hR)
  rw [getD_drop hd] at P
  have P : Hid (Calls Tryz.prog 31 #[.pointer (some ⟨b, 0, none⟩)] w fun e w' => e = .returned (.int .u8 34) ∧ ∃ n, w' = w.drewN n) := P
  have HR := Lib.hid hR
  have hlb := lt_of_block hR
  obtain ⟨hc, hf⟩ := cells_of hR
  have c0 : w.cell? ⟨b, 0, none⟩ = some (.string ⟨s.toArray⟩) := hc 0
  have c1 : w.cell? ⟨b, 1, none⟩ = some (.int .i64 i) := hc 1
  have c2 : w.cell? ⟨b, 2, none⟩ = some (.bool false) := hc 2
  have f1 : w.frozen? ⟨b, 1, none⟩ = false := hf 1 (by show 1 < 3; omega)
  have f2 : w.frozen? ⟨b, 2, none⟩ = false := hf 2 (by show 2 < 3; omega)
  have hd1 := drop_more hd
  have ht : t.length ≤ 1000000 := by rw [← hd1, List.length_drop]; omega
  have hx := slice_str s (i + 1) s.length (by omega) (Nat.le_refl _)
  rw [List.take_of_length_le (by rw [List.length_drop]; omega), hd1] at hx
  have Q := Lib.hid (fun W => Cut_some t u 34 r W ht hu)
  have QN := Lib.hid (fun W => Tryz.strings_Contains_one ⟨(t.takeWhile (· != 34)).toArray⟩ 10 W)
  rw [bytes_toList, has_byte, decide_eq_true hl] at QN
  have htl : (t.takeWhile (· != 34)).length ≤ t.length := by
    have := List.takeWhile_append_dropWhile (p := (· != 34)) (l := t)
    have := congrArg List.length this
    rw [List.length_append] at this
    omega
  have hil2 : i + 1 + t.length = s.length := by rw [← hd1, List.length_drop]; omega
  generalize t.takeWhile (· != 34) = v at *
  have zv := bytes_size v
  have zs := bytes_size s
  have g1 : IntKind.i64.wrap ((i : Int) + 1) = (i : Int) + 1 := IntWalk.i64_in _ (by omega)
  have g2 : ((i : Int) + 1).toNat = i + 1 := by omega
  have g3 : (0 : Int) ≤ (i : Int) + 1 := by omega
  have g4 : (i : Int) + 1 ≤ (s.length : Int) := by omega
  clear hc hf hR hd hd1 hu hl
  go_enter Tryz.func68, Tryz.ntmps68
  go_wp2_with fail
  refine (P.out).mono ?_
  rintro en w1 ⟨rfl, n, hw1⟩
  have d0 : w1.cell? ⟨b, 0, none⟩ = some (.string ⟨s.toArray⟩) := by rw [hw1]; exact c0
  have d1 : w1.cell? ⟨b, 1, none⟩ = some (.int .i64 i) := by rw [hw1]; exact c1
  have d2 : w1.cell? ⟨b, 2, none⟩ = some (.bool false) := by rw [hw1]; exact c2
  have e1 : w1.frozen? ⟨b, 1, none⟩ = false := by rw [hw1]; exact f1
  have e2 : w1.frozen? ⟨b, 2, none⟩ = false := by rw [hw1]; exact f2
  have hl1 : b < w1.heap.size := by rw [hw1]; exact hlb
  have HR1 : IsRdr b s i false w1 := by rw [hw1]; exact HR.out.drewN _
  have HB1 : But b w w1 := by rw [hw1]; exact (But.refl _ _).drewN _
  have HR1 := Lib.hid HR1
  have HB1 := Lib.hid HB1
  clear c0 c1 c2 f1 f2 hw1 hlb
  go_wp2_with fail
  go_quiet ((go_at_call 80; exact quietDrew (Q.out _)))
  go_wp2_with fail
  refine (QN.out _).mono ?_
  rintro en w2 ⟨rfl, rfl⟩
  go_wp2_with fail
  go_ret
  exact ⟨rfl, (HR1.out.drewN _).fail, (HB1.out.drewN _).trans (But.set _ _ _)⟩

set_option maxHeartbeats 1000000 in
theorem value34_ok (b : Nat) (s t : List UInt8) (i : Nat) (u : List UInt8) (r : UInt8) (w : World) (hs : s.length ≤ 1000000) (hd : s.drop i = 34 :: t) (hu : t.dropWhile (· != 34) = r :: u) (hl : (10 : UInt8) ∉ t.takeWhile (· != 34)) (hR : IsRdr b s i false w) :
    Calls Tryz.prog 68 #[.pointer (some ⟨b, 0, none⟩)] w (RdPost b s (i + (t.takeWhile (· != 34)).length + 2) false (.string ⟨(t.takeWhile (· != 34)).toArray⟩) w) := by
  have hil : i < s.length := by
    have := congrArg List.length hd
    rw [List.length_drop] at this
    simp at this
    omega
  have P := Lib.hid (peek b s i false w hs (by omega) hR)
  rw [getD_drop hd] at P
  have P : Hid (Calls Tryz.prog 31 #[.pointer (some ⟨b, 0, none⟩)] w fun e w' => e = .returned (.int .u8 34) ∧ ∃ n, w' = w.drewN n) := P
  have HR := Lib.hid hR
  have hlb := lt_of_block hR
  obtain ⟨hc, hf⟩ := cells_of hR
  have c0 : w.cell? ⟨b, 0, none⟩ = some (.string ⟨s.toArray⟩) := hc 0
  have c1 : w.cell? ⟨b, 1, none⟩ = some (.int .i64 i) := hc 1
  have c2 : w.cell? ⟨b, 2, none⟩ = some (.bool false) := hc 2
  have f1 : w.frozen? ⟨b, 1, none⟩ = false := hf 1 (by show 1 < 3; omega)
  have f2 : w.frozen? ⟨b, 2, none⟩ = false := hf 2 (by show 2 < 3; omega)
  have hd1 := drop_more hd
  have ht : t.length ≤ 1000000 := by rw [← hd1, List.length_drop]; omega
  have hx := slice_str s (i + 1) s.length (by omega) (Nat.le_refl _)
  rw [List.take_of_length_le (by rw [List.length_drop]; omega), hd1] at hx
  have Q := Lib.hid (fun W => Cut_some t u 34 r W ht hu)
  have QN := Lib.hid (fun W => Tryz.strings_Contains_one ⟨(t.takeWhile (· != 34)).toArray⟩ 10 W)
  rw [bytes_toList, has_byte, decide_eq_false hl] at QN
  have htl : (t.takeWhile (· != 34)).length ≤ t.length := by
    have := List.takeWhile_append_dropWhile (p := (· != 34)) (l := t)
    have := congrArg List.length this
    rw [List.length_append] at this
    omega
  have hil2 : i + 1 + t.length = s.length := by rw [← hd1, List.length_drop]; omega
  generalize t.takeWhile (· != 34) = v at *
  have zv := bytes_size v
  have zs := bytes_size s
  have g1 : IntKind.i64.wrap ((i : Int) + 1) = (i : Int) + 1 := IntWalk.i64_in _ (by omega)
  have g2 : ((i : Int) + 1).toNat = i + 1 := by omega
  have g3 : (0 : Int) ≤ (i : Int) + 1 := by omega
  have g4 : (i : Int) + 1 ≤ (s.length : Int) := by omega
  have g5 : IntKind.i64.wrap ((v.length : Int) + 2) = (v.length : Int) + 2 := IntWalk.i64_in _ (by omega)
  have g6 : IntKind.i64.wrap ((i : Int) + ((v.length : Int) + 2)) = (i : Int) + ((v.length : Int) + 2) := IntWalk.i64_in _ (by omega)
  clear hc hf hR hd hd1 hu hl
  go_enter Tryz.func68, Tryz.ntmps68
  go_wp2_with fail
  refine (P.out).mono ?_
  rintro en w1 ⟨rfl, n, hw1⟩
  have d0 : w1.cell? ⟨b, 0, none⟩ = some (.string ⟨s.toArray⟩) := by rw [hw1]; exact c0
  have d1 : w1.cell? ⟨b, 1, none⟩ = some (.int .i64 i) := by rw [hw1]; exact c1
  have d2 : w1.cell? ⟨b, 2, none⟩ = some (.bool false) := by rw [hw1]; exact c2
  have e1 : w1.frozen? ⟨b, 1, none⟩ = false := by rw [hw1]; exact f1
  have e2 : w1.frozen? ⟨b, 2, none⟩ = false := by rw [hw1]; exact f2
  have hl1 : b < w1.heap.size := by rw [hw1]; exact hlb
  have HR1 : IsRdr b s i false w1 := by rw [hw1]; exact HR.out.drewN _
  have HB1 : But b w w1 := by rw [hw1]; exact (But.refl _ _).drewN _
  have HR1 := Lib.hid HR1
  have HB1 := Lib.hid HB1
  clear c0 c1 c2 f1 f2 hw1 hlb
  go_wp2_with fail
  go_quiet ((go_at_call 80; exact quietDrew (Q.out _)))
  go_wp2_with fail
  refine (QN.out _).mono ?_
  rintro en w2 ⟨rfl, rfl⟩
  go_wp2_with fail
  go_ret
  exact ⟨rfl, (HR1.out.drewN _).place _ (by omega), (HB1.out.drewN _).trans (But.set _ _ _)⟩

set_option maxHeartbeats 1000000 in
theorem value39_open (b : Nat) (s t : List UInt8) (i : Nat)  (w : World) (hs : s.length ≤ 1000000) (hd : s.drop i = 39 :: t) (hu : t.dropWhile (· != 39) = []) (hR : IsRdr b s i false w) :
    Calls Tryz.prog 68 #[.pointer (some ⟨b, 0, none⟩)] w (RdPost b s i true (.string ⟨#[]⟩) w) := by
  have hil : i < s.length := by
    have := congrArg List.length hd
    rw [List.length_drop] at this
    simp at this
    omega
  have P := Lib.hid (peek b s i false w hs (by omega) hR)
  rw [getD_drop hd] at P
  have P : Hid (Calls Tryz.prog 31 #[.pointer (some ⟨b, 0, none⟩)] w fun e w' => e = .returned (.int .u8 39) ∧ ∃ n, w' = w.drewN n) := P
  have HR := Lib.hid hR
  have hlb := lt_of_block hR
  obtain ⟨hc, hf⟩ := cells_of hR
  have c0 : w.cell? ⟨b, 0, none⟩ = some (.string ⟨s.toArray⟩) := hc 0
  have c1 : w.cell? ⟨b, 1, none⟩ = some (.int .i64 i) := hc 1
  have c2 : w.cell? ⟨b, 2, none⟩ = some (.bool false) := hc 2
  have f1 : w.frozen? ⟨b, 1, none⟩ = false := hf 1 (by show 1 < 3; omega)
  have f2 : w.frozen? ⟨b, 2, none⟩ = false := hf 2 (by show 2 < 3; omega)
  have hd1 := drop_more hd
  have ht : t.length ≤ 1000000 := by rw [← hd1, List.length_drop]; omega
  have hx := slice_str s (i + 1) s.length (by omega) (Nat.le_refl _)
  rw [List.take_of_length_le (by rw [List.length_drop]; omega), hd1] at hx
  have Q := Lib.hid (fun W => Cut_none t 39 W ht hu)
  have zs := bytes_size s
  have g1 : IntKind.i64.wrap ((i : Int) + 1) = (i : Int) + 1 := IntWalk.i64_in _ (by omega)
  have g2 : ((i : Int) + 1).toNat = i + 1 := by omega
  have g3 : (0 : Int) ≤ (i : Int) + 1 := by omega
  have g4 : (i : Int) + 1 ≤ (s.length : Int) := by omega
  clear hc hf hR hd hd1 hu
  go_enter Tryz.func68, Tryz.ntmps68
  go_wp2_with fail
  refine (P.out).mono ?_
  rintro en w1 ⟨rfl, n, hw1⟩
  have d0 : w1.cell? ⟨b, 0, none⟩ = some (.string ⟨s.toArray⟩) := by rw [hw1]; exact c0
  have d1 : w1.cell? ⟨b, 1, none⟩ = some (.int .i64 i) := by rw [hw1]; exact c1
  have d2 : w1.cell? ⟨b, 2, none⟩ = some (.bool false) := by rw [hw1]; exact c2
  have e1 : w1.frozen? ⟨b, 1, none⟩ = false := by rw [hw1]; exact f1
  have e2 : w1.frozen? ⟨b, 2, none⟩ = false := by rw [hw1]; exact f2
  have hl1 : b < w1.heap.size := by rw [hw1]; exact hlb
  have HR1 : IsRdr b s i false w1 := by rw [hw1]; exact HR.out.drewN _
  have HB1 : But b w w1 := by rw [hw1]; exact (But.refl _ _).drewN _
  have HR1 := Lib.hid HR1
  have HB1 := Lib.hid HB1
  clear c0 c1 c2 f1 f2 hw1 hlb
  go_wp2_with fail
  go_quiet ((go_at_call 80; exact quietDrew (Q.out _)))
  go_wp2_with fail
  go_ret
  exact ⟨rfl, (HR1.out.drewN _).fail, (HB1.out.drewN _).trans (But.set _ _ _)⟩

set_option maxHeartbeats 1000000 in
theorem value39_line (b : Nat) (s t : List UInt8) (i : Nat) (u : List UInt8) (r : UInt8) (w : World) (hs : s.length ≤ 1000000) (hd : s.drop i = 39 :: t) (hu : t.dropWhile (· != 39) = r :: u) (hl : (10 : UInt8) ∈ t.takeWhile (· != 39)) (hR : IsRdr b s i false w) :
    Calls Tryz.prog 68 #[.pointer (some ⟨b, 0, none⟩)] w (RdPost b s i true (.string ⟨#[]⟩) w) := by
  have hil : i < s.length := by
    have := congrArg List.length hd
    rw [List.length_drop] at this
    simp at this
    omega
  have P := Lib.hid (peek b s i false w hs (by omega) hR)
  rw [getD_drop hd] at P
  have P : Hid (Calls Tryz.prog 31 #[.pointer (some ⟨b, 0, none⟩)] w fun e w' => e = .returned (.int .u8 39) ∧ ∃ n, w' = w.drewN n) := P
  have HR := Lib.hid hR
  have hlb := lt_of_block hR
  obtain ⟨hc, hf⟩ := cells_of hR
  have c0 : w.cell? ⟨b, 0, none⟩ = some (.string ⟨s.toArray⟩) := hc 0
  have c1 : w.cell? ⟨b, 1, none⟩ = some (.int .i64 i) := hc 1
  have c2 : w.cell? ⟨b, 2, none⟩ = some (.bool false) := hc 2
  have f1 : w.frozen? ⟨b, 1, none⟩ = false := hf 1 (by show 1 < 3; omega)
  have f2 : w.frozen? ⟨b, 2, none⟩ = false := hf 2 (by show 2 < 3; omega)
  have hd1 := drop_more hd
  have ht : t.length ≤ 1000000 := by rw [← hd1, List.length_drop]; omega
  have hx := slice_str s (i + 1) s.length (by omega) (Nat.le_refl _)
  rw [List.take_of_length_le (by rw [List.length_drop]; omega), hd1] at hx
  have Q := Lib.hid (fun W => Cut_some t u 39 r W ht hu)
  have QN := Lib.hid (fun W => Tryz.strings_Contains_one ⟨(t.takeWhile (· != 39)).toArray⟩ 10 W)
  rw [bytes_toList, has_byte, decide_eq_true hl] at QN
  have htl : (t.takeWhile (· != 39)).length ≤ t.length := by
    have := List.takeWhile_append_dropWhile (p := (· != 39)) (l := t)
    have := congrArg List.length this
    rw [List.length_append] at this
    omega
  have hil2 : i + 1 + t.length = s.length := by rw [← hd1, List.length_drop]; omega
  generalize t.takeWhile (· != 39) = v at *
  have zv := bytes_size v
  have zs := bytes_size s
  have g1 : IntKind.i64.wrap ((i : Int) + 1) = (i : Int) + 1 := IntWalk.i64_in _ (by omega)
  have g2 : ((i : Int) + 1).toNat = i + 1 := by omega
  have g3 : (0 : Int) ≤ (i : Int) + 1 := by omega
  have g4 : (i : Int) + 1 ≤ (s.length : Int) := by omega
  clear hc hf hR hd hd1 hu hl
  go_enter Tryz.func68, Tryz.ntmps68
  go_wp2_with fail
  refine (P.out).mono ?_
  rintro en w1 ⟨rfl, n, hw1⟩
  have d0 : w1.cell? ⟨b, 0, none⟩ = some (.string ⟨s.toArray⟩) := by rw [hw1]; exact c0
  have d1 : w1.cell? ⟨b, 1, none⟩ = some (.int .i64 i) := by rw [hw1]; exact c1
  have d2 : w1.cell? ⟨b, 2, none⟩ = some (.bool false) := by rw [hw1]; exact c2
  have e1 : w1.frozen? ⟨b, 1, none⟩ = false := by rw [hw1]; exact f1
  have e2 : w1.frozen? ⟨b, 2, none⟩ = false := by rw [hw1]; exact f2
  have hl1 : b < w1.heap.size := by rw [hw1]; exact hlb
  have HR1 : IsRdr b s i false w1 := by rw [hw1]; exact HR.out.drewN _
  have HB1 : But b w w1 := by rw [hw1]; exact (But.refl _ _).drewN _
  have HR1 := Lib.hid HR1
  have HB1 := Lib.hid HB1
  clear c0 c1 c2 f1 f2 hw1 hlb
  go_wp2_with fail
  go_quiet ((go_at_call 80; exact quietDrew (Q.out _)))
  go_wp2_with fail
  refine (QN.out _).mono ?_
  rintro en w2 ⟨rfl, rfl⟩
  go_wp2_with fail
  go_ret
  exact ⟨rfl, (HR1.out.drewN _).fail, (HB1.out.drewN _).trans (But.set _ _ _)⟩

set_option maxHeartbeats 1000000 in
theorem value39_ok (b : Nat) (s t : List UInt8) (i : Nat) (u : List UInt8) (r : UInt8) (w : World) (hs : s.length ≤ 1000000) (hd : s.drop i = 39 :: t) (hu : t.dropWhile (· != 39) = r :: u) (hl : (10 : UInt8) ∉ t.takeWhile (· != 39)) (hR : IsRdr b s i false w) :
    Calls Tryz.prog 68 #[.pointer (some ⟨b, 0, none⟩)] w (RdPost b s (i + (t.takeWhile (· != 39)).length + 2) false (.string ⟨(t.takeWhile (· != 39)).toArray⟩) w) := by
  have hil : i < s.length := by
    have := congrArg List.length hd
    rw [List.length_drop] at this
    simp at this
    omega
  have P := Lib.hid (peek b s i false w hs (by omega) hR)
  rw [getD_drop hd] at P
  have P : Hid (Calls Tryz.prog 31 #[.pointer (some ⟨b, 0, none⟩)] w fun e w' => e = .returned (.int .u8 39) ∧ ∃ n, w' = w.drewN n) := P
  have HR := Lib.hid hR
  have hlb := lt_of_block hR
  obtain ⟨hc, hf⟩ := cells_of hR
  have c0 : w.cell? ⟨b, 0, none⟩ = some (.string ⟨s.toArray⟩) := hc 0
  have c1 : w.cell? ⟨b, 1, none⟩ = some (.int .i64 i) := hc 1
  have c2 : w.cell? ⟨b, 2, none⟩ = some (.bool false) := hc 2
  have f1 : w.frozen? ⟨b, 1, none⟩ = false := hf 1 (by show 1 < 3; omega)
  have f2 : w.frozen? ⟨b, 2, none⟩ = false := hf 2 (by show 2 < 3; omega)
  have hd1 := drop_more hd
  have ht : t.length ≤ 1000000 := by rw [← hd1, List.length_drop]; omega
  have hx := slice_str s (i + 1) s.length (by omega) (Nat.le_refl _)
  rw [List.take_of_length_le (by rw [List.length_drop]; omega), hd1] at hx
  have Q := Lib.hid (fun W => Cut_some t u 39 r W ht hu)
  have QN := Lib.hid (fun W => Tryz.strings_Contains_one ⟨(t.takeWhile (· != 39)).toArray⟩ 10 W)
  rw [bytes_toList, has_byte, decide_eq_false hl] at QN
  have htl : (t.takeWhile (· != 39)).length ≤ t.length := by
    have := List.takeWhile_append_dropWhile (p := (· != 39)) (l := t)
    have := congrArg List.length this
    rw [List.length_append] at this
    omega
  have hil2 : i + 1 + t.length = s.length := by rw [← hd1, List.length_drop]; omega
  generalize t.takeWhile (· != 39) = v at *
  have zv := bytes_size v
  have zs := bytes_size s
  have g1 : IntKind.i64.wrap ((i : Int) + 1) = (i : Int) + 1 := IntWalk.i64_in _ (by omega)
  have g2 : ((i : Int) + 1).toNat = i + 1 := by omega
  have g3 : (0 : Int) ≤ (i : Int) + 1 := by omega
  have g4 : (i : Int) + 1 ≤ (s.length : Int) := by omega
  have g5 : IntKind.i64.wrap ((v.length : Int) + 2) = (v.length : Int) + 2 := IntWalk.i64_in _ (by omega)
  have g6 : IntKind.i64.wrap ((i : Int) + ((v.length : Int) + 2)) = (i : Int) + ((v.length : Int) + 2) := IntWalk.i64_in _ (by omega)
  clear hc hf hR hd hd1 hu hl
  go_enter Tryz.func68, Tryz.ntmps68
  go_wp2_with fail
  refine (P.out).mono ?_
  rintro en w1 ⟨rfl, n, hw1⟩
  have d0 : w1.cell? ⟨b, 0, none⟩ = some (.string ⟨s.toArray⟩) := by rw [hw1]; exact c0
  have d1 : w1.cell? ⟨b, 1, none⟩ = some (.int .i64 i) := by rw [hw1]; exact c1
  have d2 : w1.cell? ⟨b, 2, none⟩ = some (.bool false) := by rw [hw1]; exact c2
  have e1 : w1.frozen? ⟨b, 1, none⟩ = false := by rw [hw1]; exact f1
  have e2 : w1.frozen? ⟨b, 2, none⟩ = false := by rw [hw1]; exact f2
  have hl1 : b < w1.heap.size := by rw [hw1]; exact hlb
  have HR1 : IsRdr b s i false w1 := by rw [hw1]; exact HR.out.drewN _
  have HB1 : But b w w1 := by rw [hw1]; exact (But.refl _ _).drewN _
  have HR1 := Lib.hid HR1
  have HB1 := Lib.hid HB1
  clear c0 c1 c2 f1 f2 hw1 hlb
  go_wp2_with fail
  go_quiet ((go_at_call 80; exact quietDrew (Q.out _)))
  go_wp2_with fail
  refine (QN.out _).mono ?_
  rintro en w2 ⟨rfl, rfl⟩
  go_wp2_with fail
  go_ret
  exact ⟨rfl, (HR1.out.drewN _).place _ (by omega), (HB1.out.drewN _).trans (But.set _ _ _)⟩

end K
end Go.Proofs.YtnmcgmbhkmfiaaaGreatDoor

/- What the small functions of the reference's reader come to. -/
import Derived.Test.YtnmcgmbhkmfiaaaGreatDoorSel9
import Derived.Test.YtnmcgmbhkmfiaaaGreatDoorOwn
set_option linter.unusedVariables false
set_option linter.unusedSimpArgs false
namespace Go.Proofs.YtnmcgmbhkmfiaaaGreatDoor
open Go.RowKit
namespace F
open H K

/-- The reference's reader. -/
def IsRdF (b : Nat) (s : List UInt8) (i : Nat) (bad : Bool) (w : World) : Prop :=
  w.heap[b]? = some (.cells #[.string ⟨s.toArray⟩, .int .i64 i, .bool bad] 51 (0, 0))

theorem IsRdF.below {b : Nat} {s : List UInt8} {i : Nat} {bad : Bool} {w w' : World} (h : IsRdF b s i bad w) (hb : Below w.heap.size w w') : IsRdF b s i bad w' := (hb.block b (lt_of_block h)).trans h
theorem IsRdF.drewN {b : Nat} {s : List UInt8} {i : Nat} {bad : Bool} {w : World} (h : IsRdF b s i bad w) (n : Nat) : IsRdF b s i bad (w.drewN n) := h
theorem IsRdF.place {b : Nat} {s : List UInt8} {i : Nat} {bad : Bool} {w : World} (h : IsRdF b s i bad w) {z : Int} (j : Nat) (hz : z = (j : Int)) : IsRdF b s j bad (w.setCell ⟨b, 1, none⟩ (.int .i64 z)) := by
  subst hz
  exact block_set (o := 1) h
theorem IsRdF.fail {b : Nat} {s : List UInt8} {i : Nat} {bad : Bool} {w : World} (h : IsRdF b s i bad w) : IsRdF b s i true (w.setCell ⟨b, 2, none⟩ (.bool true)) := block_set (o := 2) h
theorem IsRdF.far {b : Nat} {s : List UInt8} {i : Nat} {bad : Bool} {w : World} (h : IsRdF b s i bad w) {k : Nat} (hne : b ≠ k) (o : Nat) (v : Value) : IsRdF b s i bad (w.setCell ⟨k, o, none⟩ v) := (Below.heap_setCell w ⟨k, o, none⟩ v b hne).trans h
theorem IsRdF.alloc {b : Nat} {s : List UInt8} {i : Nat} {bad : Bool} {w : World} (h : IsRdF b s i bad w) (o : Obj) : IsRdF b s i bad (w.alloc o) := (Below.heap_alloc w o b (lt_of_block h)).trans h

def FdPost (b : Nat) (s : List UInt8) (j : Nat) (bad : Bool) (v : Value) (w : World) (e : Ending) (w' : World) : Prop := e = .returned v ∧ IsRdF b s j bad w' ∧ But b w w'

set_option maxHeartbeats 400000 in
theorem digit (c : UInt8) (w : World) :
    Calls Tryz.prog 72 #[.int .u8 c.toNat] w fun e w' => e = .returned (.bool (L.isDig c)) ∧ w = w' := by
  have hc := c.toNat_lt
  go_enter Tryz.func72, Tryz.ntmps72
  go_wp2
  all_goals
    go_ret
    refine ⟨ret_bool ?_, rfl⟩
    unfold L.isDig
    rw [Bool.eq_iff_iff]
    simp
    omega

set_option maxHeartbeats 1000000 in
set_option maxRecDepth 100000 in
theorem first (c : UInt8) (w : World) :
    Calls Tryz.prog 71 #[.int .u8 c.toNat] w fun e w' => e = .returned (.bool (L.first c)) ∧ w = w' := by
  have hc := c.toNat_lt
  have hv : L.first c = decide (c.toNat = 95 ∨ 128 ≤ c.toNat ∨ (97 ≤ c.toNat ∧ c.toNat ≤ 122) ∨ (65 ≤ c.toNat ∧ c.toNat ≤ 90)) := by
    have e1 : (c == 95) = decide (c.toNat = 95) := by
      rw [Bool.eq_iff_iff]; simp [← UInt8.toNat_inj]
    unfold L.first
    rw [e1, Bool.eq_iff_iff]
    simp
  rw [hv]
  clear hv
  go_enter Tryz.func71, Tryz.ntmps71
  go_wp2
  all_goals
    go_ret
    refine ⟨ret_bool ?_, rfl⟩
    rw [Bool.eq_iff_iff]
    simp
    omega

set_option maxHeartbeats 1000000 in
theorem peek (b : Nat) (s : List UInt8) (i n : Nat) (bad : Bool) (w : World) (hs : s.length ≤ 1000000) (hi : i ≤ s.length) (hn : n ≤ 1) (hR : IsRdF b s i bad w) :
    Calls Tryz.prog 36 #[.pointer (some ⟨b, 0, none⟩), .int .i64 n] w fun e w' => e = .returned (.int .u8 (s.getD (i + n) 0).toNat) ∧ ∃ n, w' = w.drewN n := by
  obtain ⟨hc, hf⟩ := cells_of hR
  have c0 : w.cell? ⟨b, 0, none⟩ = some (.string ⟨s.toArray⟩) := hc 0
  have c1 : w.cell? ⟨b, 1, none⟩ = some (.int .i64 i) := hc 1
  have g1 : IntKind.i64.wrap ((i : Int) + (n : Int)) = (i : Int) + (n : Int) := IntWalk.i64_in _ (by omega)
  have g0 : (0 : Int) ≤ (i : Int) + (n : Int) := by omega
  have g3 : ((i : Int) + (n : Int)).toNat = i + n := by omega
  clear hc hf hR
  by_cases hl : i + n < s.length
  · obtain ⟨c, r, hd⟩ := drop_cons hl
    have hx := at_drop hd (by rw [bytes_size]; exact hl)
    have hl1 : (i : Int) + (n : Int) < (s.length : Int) := by omega
    have hl2 : decide ((i : Int) + (n : Int) < (s.length : Int)) = true := decide_eq_true (by omega)
    have zs := bytes_size s
    rw [getD_drop hd]
    clear hd
    go_enter Tryz.func36, Tryz.ntmps36
    go_wp2_with fail
    go_quiet (fail)
    go_wp2_with fail
    go_quiet (fail)
    go_wp2_with fail
    go_ret
    exact ⟨rfl, _, World.drewN_drewN _ _ _⟩
  · have hl1 : (s.length : Int) ≤ (i : Int) + (n : Int) := by omega
    have hl2 : decide ((i : Int) + (n : Int) < (s.length : Int)) = false := decide_eq_false (by omega)
    rw [getD_past (by omega)]
    go_enter Tryz.func36, Tryz.ntmps36
    go_wp2_with fail
    go_quiet (fail)
    go_wp2_with fail
    go_ret
    exact ⟨rfl, _, rfl⟩

/-- take of the reference: one byte, whatever the state. -/
def TakeF (b : Nat) (s : List UInt8) (c : UInt8) (i : Nat) (bad : Bool) (w : World) (e : Ending) (w' : World) : Prop :=
  (e = .returned (.bool true) ∧ IsRdF b s (i + 1) bad w' ∧ But b w w' ∧ i + 1 ≤ s.length ∧ Hid (s.drop i = c :: s.drop (i + 1))) ∨
  (e = .returned (.bool false) ∧ IsRdF b s i bad w' ∧ But b w w' ∧ Hid (∀ r, s.drop i ≠ c :: r))

set_option maxHeartbeats 1000000 in
theorem take (b : Nat) (s : List UInt8) (c : UInt8) (i : Nat) (bad : Bool) (w : World) (hs : s.length ≤ 1000000) (hi : i ≤ s.length) (hR : IsRdF b s i bad w) :
    Calls Tryz.prog 20 #[.pointer (some ⟨b, 0, none⟩), .int .u8 c.toNat] w (TakeF b s c i bad w) := by
  have HR := Lib.hid hR
  obtain ⟨hc, hf⟩ := cells_of hR
  have hlb := lt_of_block hR
  have c0 : w.cell? ⟨b, 0, none⟩ = some (.string ⟨s.toArray⟩) := hc 0
  have c1 : w.cell? ⟨b, 1, none⟩ = some (.int .i64 i) := hc 1
  have f1 : w.frozen? ⟨b, 1, none⟩ = false := hf 1 (by show 1 < 3; omega)
  have hi0 : (0 : Int) ≤ (i : Int) := by omega
  clear hc hf hR
  by_cases hl : i < s.length
  · obtain ⟨d, r, hd⟩ := drop_cons hl
    have hx := at_drop hd (by rw [bytes_size]; exact hl)
    have hl1 : (i : Int) < (s.length : Int) := by omega
    have hl2 : decide (i < s.length) = true := decide_eq_true hl
    have HD := Lib.hid hd
    have hd1 := drop_more hd
    have HD1 := Lib.hid hd1
    clear hd hd1
    by_cases hdc : d = c
    · subst hdc
      go_enter Tryz.func20, Tryz.ntmps20
      go_wp2_with fail
      go_quiet (fail)
      go_wp2_with fail
      go_ret
      exact Or.inl ⟨rfl, (HR.out.drewN _).place (i + 1) (by omega), ((But.refl _ _).drewN _).trans (But.set _ _ _), hl, Lib.hid (by rw [HD1.out, HD.out])⟩
    · have he : ((d.toNat : Int) == (c.toNat : Int)) = false := by
        rw [beq_eq_false_iff_ne]
        intro h
        exact hdc (UInt8.toNat_inj.1 (by omega))
      have he2 : (d.toNat == c.toNat) = false := by
        rw [beq_eq_false_iff_ne]
        intro h
        exact hdc (UInt8.toNat_inj.1 h)
      have HN := Lib.hid hdc
      clear hdc
      go_enter Tryz.func20, Tryz.ntmps20
      go_wp2_with fail
      go_quiet (fail)
      go_wp2_with fail
      go_ret
      exact Or.inr ⟨rfl, HR.out.drewN _, (But.refl _ _).drewN _, Lib.hid (fun q h => HN.out (by rw [HD.out] at h; exact (List.cons.inj h).1))⟩
  · have hl1 : (s.length : Int) ≤ (i : Int) := by omega
    have hl2 : decide (i < s.length) = false := decide_eq_false hl
    have hl3 : decide ((i : Int) < (s.length : Int)) = false := decide_eq_false (by omega)
    have HD : Hid (s.drop i = []) := Lib.hid (List.drop_eq_nil_of_le (by omega))
    go_enter Tryz.func20, Tryz.ntmps20
    go_wp2_with fail
    go_quiet (fail)
    go_wp2_with fail
    go_ret
    exact Or.inr ⟨rfl, HR.out.drewN _, (But.refl _ _).drewN _, Lib.hid (fun q h => by rw [HD.out] at h; cases h)⟩

theorem peek0 (b : Nat) (s : List UInt8) (i : Nat) (bad : Bool) (w : World) (hs : s.length ≤ 1000000) (hi : i ≤ s.length) (hR : IsRdF b s i bad w) :
    Calls Tryz.prog 36 #[.pointer (some ⟨b, 0, none⟩), .int .i64 0] w fun e w' => e = .returned (.int .u8 (s.getD i 0).toNat) ∧ ∃ n, w' = w.drewN n := peek b s i 0 bad w hs hi (by omega) hR
theorem peek1 (b : Nat) (s : List UInt8) (i : Nat) (bad : Bool) (w : World) (hs : s.length ≤ 1000000) (hi : i ≤ s.length) (hR : IsRdF b s i bad w) :
    Calls Tryz.prog 36 #[.pointer (some ⟨b, 0, none⟩), .int .i64 1] w fun e w' => e = .returned (.int .u8 (s.getD (i + 1) 0).toNat) ∧ ∃ n, w' = w.drewN n := peek b s i 1 bad w hs hi (by omega) hR

theorem begins_at (s : List UInt8) (i : Nat) : L.begins (s.drop i) = (L.first (s.getD i 0) || (s.getD i 0 == 45 && L.first (s.getD (i + 1) 0))) := by
  cases hd : s.drop i with
  | nil =>
    have h0 : s.length ≤ i := by have := congrArg List.length hd; rw [List.length_drop] at this; simp at this; omega
    rw [getD_past h0, getD_past (by omega)]; rfl
  | cons c r =>
    have h1 := drop_more hd
    rw [getD_drop hd]
    cases hr : r with
    | nil =>
      rw [hr] at h1
      have h0 : s.length ≤ i + 1 := by have := congrArg List.length h1; rw [List.length_drop] at this; simp at this; omega
      rw [getD_past h0]; rfl
    | cons d u =>
      rw [hr] at h1
      rw [getD_drop h1]; rfl

set_option maxHeartbeats 1000000 in
set_option maxRecDepth 100000 in
theorem begins (b : Nat) (s : List UInt8) (i : Nat) (bad : Bool) (w : World) (hs : s.length ≤ 1000000) (hi : i ≤ s.length) (hR : IsRdF b s i bad w) :
    Calls Tryz.prog 53 #[.pointer (some ⟨b, 0, none⟩)] w fun e w' => e = .returned (.bool (L.begins (s.drop i))) ∧ ∃ n, w' = w.drewN n := by
  have P0 := Lib.hid (fun n => peek0 b s i bad (w.drewN n) hs hi (hR.drewN n))
  have P00 := Lib.hid (peek0 b s i bad w hs hi hR)
  have P1 := Lib.hid (fun n => peek1 b s i bad (w.drewN n) hs hi (hR.drewN n))
  have HV := Lib.hid (begins_at s i)
  generalize L.begins (s.drop i) = X at *
  generalize s.getD i 0 = c at *
  generalize s.getD (i + 1) 0 = d at *
  have Q := Lib.hid (fun W => first c W)
  have Q2 := Lib.hid (fun W => first d W)
  clear hR
  go_enter Tryz.func53, Tryz.ntmps53
  go_wp2_with fail
  refine (P00.out).mono ?_
  rintro e w1 ⟨rfl, n1, rfl⟩
  go_wp2_with fail
  refine (Q.out _).mono ?_
  rintro e w2 ⟨rfl, rfl⟩
  cases hf : L.first c with
  | true =>
    have HX : Hid (X = true) := Lib.hid (by rw [HV.out, hf]; rfl)
    clear HV hf
    go_wp2_with fail
    go_ret
    exact ⟨ret_bool HX.out.symm, _, rfl⟩
  | false =>
    have HX : Hid (X = (c == 45 && L.first d)) := Lib.hid (by rw [HV.out, hf]; rfl)
    clear HV hf
    go_wp2_with fail
    refine (P0.out n1).mono ?_
    rintro e w3 ⟨rfl, n2, hw3⟩
    rw [World.drewN_drewN] at hw3
    subst hw3
    by_cases hc : c = 45
    · have e1 : ((c.toNat : Int) == 45) = true := byte_is (n := 45) hc (by decide)
      have e2 : (c.toNat == 45) = true := by rw [hc]; rfl
      have HY : Hid (X = L.first d) := Lib.hid (by rw [HX.out, hc]; rfl)
      clear HX hc
      go_wp2_with fail
      refine (P1.out _).mono ?_
      rintro e w4 ⟨rfl, n3, hw4⟩
      rw [World.drewN_drewN] at hw4
      subst hw4
      go_wp2_with fail
      refine (Q2.out _).mono ?_
      rintro e w5 ⟨rfl, rfl⟩
      generalize L.first d = fd at *
      go_wp2_with fail
      go_ret
      exact ⟨ret_bool HY.out.symm, _, rfl⟩
    · have e1 : ((c.toNat : Int) == 45) = false := byte_ne (n := 45) hc (by decide)
      have e2 : (c.toNat == 45) = false := by rw [beq_eq_false_iff_ne]; intro h; exact hc (UInt8.toNat_inj.1 h)
      have HY : Hid (X = false) := Lib.hid (by rw [HX.out, show (c == 45) = false by simpa using hc]; rfl)
      clear HX hc
      go_wp2_with fail
      go_ret
      exact ⟨ret_bool HY.out.symm, _, rfl⟩

end F
end Go.Proofs.YtnmcgmbhkmfiaaaGreatDoor

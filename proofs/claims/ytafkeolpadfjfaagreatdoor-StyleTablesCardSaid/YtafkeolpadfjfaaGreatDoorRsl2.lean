/- What the small functions of the reference's reader come to. What the functions of the reference's reader come to: space, ident, value, digits. -/
import Derived.Test.YtafkeolpadfjfaaGreatDoorCaseLaw
import Derived.Test.YtafkeolpadfjfaaGreatDoorOwn
import Derived.Test.YtafkeolpadfjfaaGreatDoorTrim
set_option linter.unusedVariables false
set_option linter.unusedSimpArgs false
namespace Go.Proofs.YtafkeolpadfjfaaGreatDoor
open Go.RowKit
namespace F
open H K
/-- The reference's reader. -/
def IsRdF (b : Nat) (s : List UInt8) (i : Nat) (bad : Bool) (w : World) : Prop :=
 w.heap[b]? = some (.cells #[.string ⟨s.toArray⟩, .int .i64 i, .bool bad] 143 (0, 0))
theorem IsRdF.below {b : Nat} {s : List UInt8} {i : Nat} {bad : Bool} {w w' : World} (h : IsRdF b s i bad w) (hb : Below w.heap.size w w') : IsRdF b s i bad w' := (hb.block b (lt_of_block h)).trans h
theorem IsRdF.drewN {b : Nat} {s : List UInt8} {i : Nat} {bad : Bool} {w : World} (h : IsRdF b s i bad w) (n : Nat) : IsRdF b s i bad (w.drewN n) := h
theorem IsRdF.place {b : Nat} {s : List UInt8} {i : Nat} {bad : Bool} {w : World} (h : IsRdF b s i bad w) {z : Int} (j : Nat) (hz : z = (j : Int)) : IsRdF b s j bad (w.setCell ⟨b, 1, none⟩ (.int .i64 z)) := by
 subst hz
 exact block_set (o := 1) h
theorem IsRdF.fail {b : Nat} {s : List UInt8} {i : Nat} {bad : Bool} {w : World} (h : IsRdF b s i bad w) : IsRdF b s i true (w.setCell ⟨b, 2, none⟩ (.bool true)) := block_set (o := 2) h
theorem IsRdF.far {b : Nat} {s : List UInt8} {i : Nat} {bad : Bool} {w : World} (h : IsRdF b s i bad w) {k : Nat} (hne : b ≠ k) (o : Nat) (v : Value) : IsRdF b s i bad (w.setCell ⟨k, o, none⟩ v) := (Below.heap_setCell w ⟨k, o, none⟩ v b hne).trans h
theorem IsRdF.alloc {b : Nat} {s : List UInt8} {i : Nat} {bad : Bool} {w : World} (h : IsRdF b s i bad w) (o : Obj) : IsRdF b s i bad (w.alloc o) := (Below.heap_alloc w o b (lt_of_block h)).trans h
def FdPost (b : Nat) (s : List UInt8) (j : Nat) (bad : Bool) (v : Value) (w : World) (e : Ending) (w' : World) : Prop := e = .returned v ∧ IsRdF b s j bad w' ∧ But b w w'
set_option maxHeartbeats 400000 in
theorem digit (c : UInt8) (w : World) :
  Calls Tryz.prog 199 #[.int .u8 c.toNat] w fun e w' => e = .returned (.bool (L.isDig c)) ∧ w = w' := by
 have hc := c.toNat_lt
 go_enter Tryz.func199, Tryz.ntmps199
 go_wp2
 all_goals
  go_ret
  refine ⟨ret_bool ?_, rfl⟩
  unfold L.isDig
  rw [Bool.eq_iff_iff]
  simp
  omega
set_option maxHeartbeats 1000000 in
set_option maxRecDepth 100000 in
theorem first (c : UInt8) (w : World) :
  Calls Tryz.prog 198 #[.int .u8 c.toNat] w fun e w' => e = .returned (.bool (L.first c)) ∧ w = w' := by
 have hc := c.toNat_lt
 have hv : L.first c = decide (c.toNat = 95 ∨ 128 ≤ c.toNat ∨ (97 ≤ c.toNat ∧ c.toNat ≤ 122) ∨ (65 ≤ c.toNat ∧ c.toNat ≤ 90)) := by
  have e1 : (c == 95) = decide (c.toNat = 95) := by
   rw [Bool.eq_iff_iff]; simp [← UInt8.toNat_inj]
  unfold L.first
  rw [e1, Bool.eq_iff_iff]
  simp
 rw [hv]
 clear hv
 go_enter Tryz.func198, Tryz.ntmps198
 go_wp2
 all_goals
  go_ret
  refine ⟨ret_bool ?_, rfl⟩
  rw [Bool.eq_iff_iff]
  simp
  omega
set_option maxHeartbeats 1000000 in
theorem peek (b : Nat) (s : List UInt8) (i n : Nat) (bad : Bool) (w : World) (hs : s.length ≤ 1000000) (hi : i ≤ s.length) (hn : n ≤ 1) (hR : IsRdF b s i bad w) :
  Calls Tryz.prog 132 #[.pointer (some ⟨b, 0, none⟩), .int .i64 n] w fun e w' => e = .returned (.int .u8 (s.getD (i + n) 0).toNat) ∧ ∃ n, w' = w.drewN n := by
 obtain ⟨hc, hf⟩ := cells_of hR
 have c0 : w.cell? ⟨b, 0, none⟩ = some (.string ⟨s.toArray⟩) := hc 0
 have c1 : w.cell? ⟨b, 1, none⟩ = some (.int .i64 i) := hc 1
 have g1 : IntKind.i64.wrap ((i : Int) + (n : Int)) = (i : Int) + (n : Int) := IntWalk.i64_in _ (by omega)
 have g0 : (0 : Int) ≤ (i : Int) + (n : Int) := by omega
 have g3 : ((i : Int) + (n : Int)).toNat = i + n := by omega
 clear hc hf hR
 by_cases hl : i + n < s.length
 ·obtain ⟨c, r, hd⟩ := drop_cons hl
  have hx := at_drop hd (by rw [bytes_size]; exact hl)
  have hl1 : (i : Int) + (n : Int) < (s.length : Int) := by omega
  have hl2 : decide ((i : Int) + (n : Int) < (s.length : Int)) = true := decide_eq_true (by omega)
  have zs := bytes_size s
  rw [getD_drop hd]
  clear hd
  go_enter Tryz.func132, Tryz.ntmps132
  go_wp2_with fail
  go_quiet (fail)
  go_wp2_with fail
  go_quiet (fail)
  go_wp2_with fail
  go_ret
  exact ⟨rfl, _, World.drewN_drewN _ _ _⟩
 ·have hl1 : (s.length : Int) ≤ (i : Int) + (n : Int) := by omega
  have hl2 : decide ((i : Int) + (n : Int) < (s.length : Int)) = false := decide_eq_false (by omega)
  rw [getD_past (by omega)]
  go_enter Tryz.func132, Tryz.ntmps132
  go_wp2_with fail
  go_quiet (fail)
  go_wp2_with fail
  go_ret
  exact ⟨rfl, _, rfl⟩
/-- take of the reference: one byte, whatever the state. -/
def TakeF (b : Nat) (s : List UInt8) (c : UInt8) (i : Nat) (bad : Bool) (w : World) (e : Ending) (w' : World) : Prop :=
 (e = .returned (.bool true) ∧ IsRdF b s (i + 1) bad w' ∧ But b w w' ∧ i + 1 ≤ s.length ∧ Hid (s.drop i = c :: s.drop (i + 1))) ∨
 (e = .returned (.bool false) ∧ IsRdF b s i bad w' ∧ But b w w' ∧ Hid (∀ r, s.drop i ≠ c :: r))
set_option maxHeartbeats 1000000 in
theorem take (b : Nat) (s : List UInt8) (c : UInt8) (i : Nat) (bad : Bool) (w : World) (hs : s.length ≤ 1000000) (hi : i ≤ s.length) (hR : IsRdF b s i bad w) :
  Calls Tryz.prog 94 #[.pointer (some ⟨b, 0, none⟩), .int .u8 c.toNat] w (TakeF b s c i bad w) := by
 have HR := Lib.hid hR
 obtain ⟨hc, hf⟩ := cells_of hR
 have hlb := lt_of_block hR
 have c0 : w.cell? ⟨b, 0, none⟩ = some (.string ⟨s.toArray⟩) := hc 0
 have c1 : w.cell? ⟨b, 1, none⟩ = some (.int .i64 i) := hc 1
 have f1 : w.frozen? ⟨b, 1, none⟩ = false := hf 1 (by show 1 < 3; omega)
 have hi0 : (0 : Int) ≤ (i : Int) := by omega
 clear hc hf hR
 by_cases hl : i < s.length
 ·obtain ⟨d, r, hd⟩ := drop_cons hl
  have hx := at_drop hd (by rw [bytes_size]; exact hl)
  have hl1 : (i : Int) < (s.length : Int) := by omega
  have hl2 : decide (i < s.length) = true := decide_eq_true hl
  have HD := Lib.hid hd
  have hd1 := drop_more hd
  have HD1 := Lib.hid hd1
  clear hd hd1
  by_cases hdc : d = c
  ·subst hdc
   go_enter Tryz.func94, Tryz.ntmps94
   go_wp2_with fail
   go_quiet (fail)
   go_wp2_with fail
   go_ret
   exact Or.inl ⟨rfl, (HR.out.drewN _).place (i + 1) (by omega), ((But.refl _ _).drewN _).trans (But.set _ _ _), hl, Lib.hid (by rw [HD1.out, HD.out])⟩
  ·have he : ((d.toNat : Int) == (c.toNat : Int)) = false := by
    rw [beq_eq_false_iff_ne]
    intro h
    exact hdc (UInt8.toNat_inj.1 (by omega))
   have he2 : (d.toNat == c.toNat) = false := by
    rw [beq_eq_false_iff_ne]
    intro h
    exact hdc (UInt8.toNat_inj.1 h)
   have HN := Lib.hid hdc
   clear hdc
   go_enter Tryz.func94, Tryz.ntmps94
   go_wp2_with fail
   go_quiet (fail)
   go_wp2_with fail
   go_ret
   exact Or.inr ⟨rfl, HR.out.drewN _, (But.refl _ _).drewN _, Lib.hid (fun q h => HN.out (by rw [HD.out] at h; exact (List.cons.inj h).1))⟩
 ·have hl1 : (s.length : Int) ≤ (i : Int) := by omega
  have hl2 : decide (i < s.length) = false := decide_eq_false hl
  have hl3 : decide ((i : Int) < (s.length : Int)) = false := decide_eq_false (by omega)
  have HD : Hid (s.drop i = []) := Lib.hid (List.drop_eq_nil_of_le (by omega))
  go_enter Tryz.func94, Tryz.ntmps94
  go_wp2_with fail
  go_quiet (fail)
  go_wp2_with fail
  go_ret
  exact Or.inr ⟨rfl, HR.out.drewN _, (But.refl _ _).drewN _, Lib.hid (fun q h => by rw [HD.out] at h; cases h)⟩
theorem peek0 (b : Nat) (s : List UInt8) (i : Nat) (bad : Bool) (w : World) (hs : s.length ≤ 1000000) (hi : i ≤ s.length) (hR : IsRdF b s i bad w) :
  Calls Tryz.prog 132 #[.pointer (some ⟨b, 0, none⟩), .int .i64 0] w fun e w' => e = .returned (.int .u8 (s.getD i 0).toNat) ∧ ∃ n, w' = w.drewN n := peek b s i 0 bad w hs hi (by omega) hR
theorem peek1 (b : Nat) (s : List UInt8) (i : Nat) (bad : Bool) (w : World) (hs : s.length ≤ 1000000) (hi : i ≤ s.length) (hR : IsRdF b s i bad w) :
  Calls Tryz.prog 132 #[.pointer (some ⟨b, 0, none⟩), .int .i64 1] w fun e w' => e = .returned (.int .u8 (s.getD (i + 1) 0).toNat) ∧ ∃ n, w' = w.drewN n := peek b s i 1 bad w hs hi (by omega) hR
theorem begins_at (s : List UInt8) (i : Nat) : L.begins (s.drop i) = (L.first (s.getD i 0) || (s.getD i 0 == 45 && L.first (s.getD (i + 1) 0))) := by
 cases hd : s.drop i with
 | nil =>
  have h0 : s.length ≤ i := by have := congrArg List.length hd; rw [List.length_drop] at this; simp at this; omega
  rw [getD_past h0, getD_past (by omega)]; rfl
 | cons c r =>
  have h1 := drop_more hd
  rw [getD_drop hd]
  cases hr : r with
  | nil =>
   rw [hr] at h1
   have h0 : s.length ≤ i + 1 := by have := congrArg List.length h1; rw [List.length_drop] at this; simp at this; omega
   rw [getD_past h0]; rfl
  | cons d u =>
   rw [hr] at h1
   rw [getD_drop h1]; rfl
set_option maxHeartbeats 1000000 in
set_option maxRecDepth 100000 in
theorem begins (b : Nat) (s : List UInt8) (i : Nat) (bad : Bool) (w : World) (hs : s.length ≤ 1000000) (hi : i ≤ s.length) (hR : IsRdF b s i bad w) :
  Calls Tryz.prog 168 #[.pointer (some ⟨b, 0, none⟩)] w fun e w' => e = .returned (.bool (L.begins (s.drop i))) ∧ ∃ n, w' = w.drewN n := by
 have P0 := Lib.hid (fun n => peek0 b s i bad (w.drewN n) hs hi (hR.drewN n))
 have P00 := Lib.hid (peek0 b s i bad w hs hi hR)
 have P1 := Lib.hid (fun n => peek1 b s i bad (w.drewN n) hs hi (hR.drewN n))
 have HV := Lib.hid (begins_at s i)
 generalize L.begins (s.drop i) = X at *
 generalize s.getD i 0 = c at *
 generalize s.getD (i + 1) 0 = d at *
 have Q := Lib.hid (fun W => first c W)
 have Q2 := Lib.hid (fun W => first d W)
 clear hR
 go_enter Tryz.func168, Tryz.ntmps168
 go_wp2_with fail
 refine (P00.out).mono ?_
 rintro e w1 ⟨rfl, n1, rfl⟩
 go_wp2_with fail
 refine (Q.out _).mono ?_
 rintro e w2 ⟨rfl, rfl⟩
 cases hf : L.first c with
 | true =>
  have HX : Hid (X = true) := Lib.hid (by rw [HV.out, hf]; rfl)
  clear HV hf
  go_wp2_with fail
  go_ret
  exact ⟨ret_bool HX.out.symm, _, rfl⟩
 | false =>
  have HX : Hid (X = (c == 45 && L.first d)) := Lib.hid (by rw [HV.out, hf]; rfl)
  clear HV hf
  go_wp2_with fail
  refine (P0.out n1).mono ?_
  rintro e w3 ⟨rfl, n2, hw3⟩
  rw [World.drewN_drewN] at hw3
  subst hw3
  by_cases hc : c = 45
  ·have e1 : ((c.toNat : Int) == 45) = true := byte_is (n := 45) hc (by decide)
   have e2 : (c.toNat == 45) = true := by rw [hc]; rfl
   have HY : Hid (X = L.first d) := Lib.hid (by rw [HX.out, hc]; rfl)
   clear HX hc
   go_wp2_with fail
   refine (P1.out _).mono ?_
   rintro e w4 ⟨rfl, n3, hw4⟩
   rw [World.drewN_drewN] at hw4
   subst hw4
   go_wp2_with fail
   refine (Q2.out _).mono ?_
   rintro e w5 ⟨rfl, rfl⟩
   generalize L.first d = fd at *
   go_wp2_with fail
   go_ret
   exact ⟨ret_bool HY.out.symm, _, rfl⟩
  ·have e1 : ((c.toNat : Int) == 45) = false := byte_ne (n := 45) hc (by decide)
   have e2 : (c.toNat == 45) = false := by rw [beq_eq_false_iff_ne]; intro h; exact hc (UInt8.toNat_inj.1 h)
   have HY : Hid (X = false) := Lib.hid (by rw [HX.out, show (c == 45) = false by simpa using hc]; rfl)
   clear HX hc
   go_wp2_with fail
   go_ret
   exact ⟨ret_bool HY.out.symm, _, rfl⟩
end F
end Go.Proofs.YtafkeolpadfjfaaGreatDoor
namespace Go.Proofs.YtafkeolpadfjfaaGreatDoor
open Go.RowKit
namespace T
end T
namespace F
open H K
set_option maxHeartbeats 2000000 in
theorem space (b : Nat) (s : List UInt8) (i : Nat) (bad : Bool) (w : World) (hs : s.length ≤ 1000000) (hi : i ≤ s.length) (hR : IsRdF b s i bad w) :
  Calls Tryz.prog 92 #[.pointer (some ⟨b, 0, none⟩)] w (FdPost b s (twEnd T.sp s i) bad (.bool (decide (i < twEnd T.sp s i))) w) := by
 obtain ⟨E, hE⟩ : ∃ E, twEnd T.sp s i = E := ⟨_, rfl⟩
 have HE := Lib.hid hE
 have HR := Lib.hid hR
 obtain ⟨hc, hf⟩ := cells_of hR
 have hlb := lt_of_block hR
 rw [hE]
 clear hE hR
 go_enter Tryz.func92, Tryz.ntmps92
 go_wp2_with fail
 clear hc hf
 go_loopw [] (fun wr => ∃ k : Nat, IsRdF b s k bad wr ∧ But b w wr ∧ i ≤ k ∧ k ≤ s.length ∧ Hid (twEnd T.sp s k = E)) (fun wr => s.length - (match wr.cell? ⟨b, 1, none⟩ with | some (.int _ q) => q.toNat | _ => 0))
 case atStart => exact ⟨i, HR.out, But.refl _ _, Nat.le_refl _, hi, HE⟩
 case round =>
  obtain ⟨k, hr, hb, hk1, hk2, HK⟩ := hrel
  obtain ⟨hc, hf⟩ := cells_of hr
  have hlr := lt_of_block hr
  have HRr := Lib.hid hr
  have c0 : wr.cell? ⟨b, 0, none⟩ = some (.string ⟨s.toArray⟩) := hc 0
  have c1 : wr.cell? ⟨b, 1, none⟩ = some (.int .i64 k) := hc 1
  have f1 : wr.frozen? ⟨b, 1, none⟩ = false := hf 1 (by show 1 < 3; omega)
  have hk0 : (0 : Int) ≤ (k : Int) := by omega
  clear hr HR HE
  by_cases hlt : k < s.length
  ·have hlt1 : (k : Int) < (s.length : Int) := by omega
   obtain ⟨c, r, hd⟩ := drop_cons hlt
   have hix := at_drop hd (by rw [bytes_size]; exact hlt)
   have q : ∀ W, Calls Tryz.prog 36 #[.int .u8 c.toNat] W fun e w' => e = .returned (.bool (T.sp c)) ∧ W = w' := fun W => T.refSpace c W
   cases hsp : T.sp c with
   | true =>
    rw [hsp] at q
    have Q := Lib.hid q
    have HK' := Lib.hid ((twEnd_step hd hsp).trans HK.out)
    clear q hsp hd HK hc hf
    go_wp2_with fail
    go_quiet ((go_at_call 36; exact quietAdd (Q.out _)))
    go_wp2_with fail
    go_roundw
    case rel => exact ⟨k + 1, (HRr.out.drewN _).place (k + 1) (by omega), (hb.drewN _).trans (But.set _ _ _), by omega, by omega, HK'⟩
    case measure =>
     have h1 := (cells_of ((HRr.out.drewN nq).place (k + 1) (z := (k : Int) + 1) (by omega))).1 1
     have hl := hlt
     rw [h1, c1]
     show s.length - (((k + 1 : Nat) : Int)).toNat < s.length - ((k : Int)).toNat
     omega
   | false =>
    rw [hsp] at q
    have Q := Lib.hid q
    obtain rfl : k = E := (twEnd_stop hd hsp).symm.trans HK.out
    clear q hsp hd HK hc hf
    go_wp2_with fail
    go_quiet ((go_at_call 36; exact quietAdd (Q.out _)))
    go_wp2_with fail
    go_ret
    refine ⟨ret_bool ?_, HRr.out.drewN _, hb.drewN _⟩
    first | (rw [Bool.eq_iff_iff]; simp; done) | (rw [Bool.eq_iff_iff]) | simp
  ·have hge : (s.length : Int) ≤ (k : Int) := by omega
   have hge2 : decide ((k : Int) < (s.length : Int)) = false := decide_eq_false (by omega)
   obtain rfl : k = E := (twEnd_past (by omega)).symm.trans HK.out
   clear HK hc hf
   go_wp2_with fail
   go_quiet (fail)
   go_wp2_with fail
   go_ret
   refine ⟨ret_bool ?_, HRr.out.drewN _, hb.drewN _⟩
   first | (rw [Bool.eq_iff_iff]; simp; done) | (rw [Bool.eq_iff_iff]) | simp
theorem stop_at {p : UInt8 → Bool} {s : List UInt8} {k : Nat} (h : p (s.getD k 0) = false) : twEnd p s k = k := by
 rcases Nat.lt_or_ge k s.length with hl | hl
 ·obtain ⟨c, r, hd⟩ := drop_cons hl
  rw [getD_drop hd] at h
  exact twEnd_stop hd h
 ·exact twEnd_past hl
theorem step_at {p : UInt8 → Bool} {s : List UInt8} {k : Nat} (h0 : p 0 = false) (h : p (s.getD k 0) = true) : k < s.length ∧ twEnd p s (k + 1) = twEnd p s k := by
 rcases Nat.lt_or_ge k s.length with hl | hl
 ·obtain ⟨c, r, hd⟩ := drop_cons hl
  rw [getD_drop hd] at h
  exact ⟨hl, twEnd_step hd h⟩
 ·rw [getD_past hl, h0] at h; cases h
/-- A string was read, or the text is not in the language. -/
def FStr (b : Nat) (s : List UInt8) (i : Nat) (bad : Bool) (o : Option (List UInt8 × List UInt8)) (w : World) (e : Ending) (w' : World) : Prop :=
 ∃ (t : List UInt8) (j : Nat) (bad' : Bool), e = .returned (.string ⟨t.toArray⟩) ∧ IsRdF b s j bad' w' ∧ But b w w' ∧ i ≤ j ∧ j ≤ s.length ∧ t.length ≤ s.length ∧ Hid ((bad = true → bad' = true) ∧ (bad = false → Got bad' o (t, s.drop j)))
theorem space_any (b : Nat) (s : List UInt8) (i : Nat) (bad : Bool) (w : World) (hs : s.length ≤ 1000000) (hi : i ≤ s.length) (hR : IsRdF b s i bad w) :
  Calls Tryz.prog 92 #[.pointer (some ⟨b, 0, none⟩)] w fun e w' => ∃ j, e = .returned (.bool (decide (i < j))) ∧ IsRdF b s j bad w' ∧ But b w w' ∧ i ≤ j ∧ j ≤ s.length ∧ Hid (s.drop j = L.space (s.drop i)) := by
 refine (space b s i bad w hs hi hR).mono ?_
 rintro e w' ⟨rfl, hr, hB⟩
 exact ⟨_, rfl, hr, hB, twEnd_ge _ _ _, twEnd_le hi, Lib.hid (twEnd_drop _ _ _)⟩
set_option maxHeartbeats 2000000 in
set_option maxRecDepth 100000 in
theorem ident (b : Nat) (s : List UInt8) (i : Nat) (bad : Bool) (w : World) (hs : s.length ≤ 1000000) (hi : i ≤ s.length) (hR : IsRdF b s i bad w) :
  Calls Tryz.prog 169 #[.pointer (some ⟨b, 0, none⟩)] w (FStr b s i bad (L.ident (s.drop i)) w) := by
 have HR := Lib.hid hR
 have hlb := lt_of_block hR
 have QB := Lib.hid (begins b s i bad w hs hi hR)
 have HV := Lib.hid (L.ident.eq_1 (s.drop i))
 have hE1 := twEnd_ge L.inName s i
 have hE2 := twEnd_le (p := L.inName) hi
 have hEt := twEnd_take L.inName s i
 have hEd := twEnd_drop L.inName s i
 have hsl := slice_str s i (twEnd L.inName s i) hE1 hE2
 rw [hEt] at hsl
 have HD : Hid ((s.drop i).dropWhile L.inName = s.drop (twEnd L.inName s i)) := Lib.hid hEd.symm
 have hlen : ((s.drop i).takeWhile L.inName).length ≤ s.length := by have := tw_le L.inName (s.drop i); rw [List.length_drop] at this; omega
 have HSl := Lib.hid hsl
 generalize (s.drop i).takeWhile L.inName = tk at *
 generalize (s.drop i).dropWhile L.inName = dk at *
 obtain ⟨E, hE⟩ : ∃ E, twEnd L.inName s i = E := ⟨_, rfl⟩
 rw [hE] at hE1 hE2 HSl HD
 have HE := Lib.hid hE
 generalize L.ident (s.drop i) = o at *
 generalize L.begins (s.drop i) = B at *
 clear hR hEt hEd hsl hE
 go_enter Tryz.func169, Tryz.ntmps169
 go_wp2_with fail
 refine (QB.out).mono ?_
 rintro e w1 ⟨rfl, n1, hw1⟩
 have HR1 : Hid (IsRdF b s i bad w1) := Lib.hid (by rw [hw1]; exact HR.out.drewN n1)
 have HB1 : Hid (But b w w1) := Lib.hid (by rw [hw1]; exact (But.refl _ _).drewN n1)
 clear hw1 QB
 obtain ⟨hc, hf⟩ := cells_of HR1.out
 have hlb1 := lt_of_block HR1.out
 cases B with
 | false =>
  have HO : Hid (o = none) := Lib.hid (by rw [HV.out]; rfl)
  clear HV HE HSl HD hE1 hE2
  go_wp2_with fail
  go_ret
  exact ⟨[], i, true, rfl, HR1.out.fail, HB1.out.trans (But.set _ _ _), Nat.le_refl _, hi, Nat.zero_le _, Lib.hid ⟨fun _ => rfl, fun _ => Got.no HO.out⟩⟩
 | true =>
  have HO : Hid (o = some (tk, s.drop E)) := Lib.hid (by rw [HV.out, ← HD.out]; rfl)
  have c1 : w1.cell? ⟨b, 1, none⟩ = some (.int .i64 i) := hc 1
  clear HV hc hf HD
  go_wp2_with fail
  clear c1
  go_loopw [] (fun wr => ∃ k : Nat, IsRdF b s k bad wr ∧ But b w wr ∧ i ≤ k ∧ k ≤ s.length ∧ Hid (twEnd L.inName s k = E)) (fun wr => s.length - (match wr.cell? ⟨b, 1, none⟩ with | some (.int _ q) => q.toNat | _ => 0))
  case atStart => exact ⟨i, HR1.out, HB1.out, Nat.le_refl _, hi, HE⟩
  case round =>
   obtain ⟨k, hr, hb, hk1, hk2, HK⟩ := hrel
   clear HR1 HB1 hlb1 HE
   have P00 := Lib.hid (peek0 b s k bad wr hs hk2 hr)
   have P0 := Lib.hid (fun n => peek0 b s k bad (wr.drewN n) hs hk2 (hr.drewN n))
   have HRr := Lib.hid hr
   have HBr := Lib.hid hb
   obtain ⟨hcr, hfr⟩ := cells_of hr
   have c1 : wr.cell? ⟨b, 1, none⟩ = some (.int .i64 k) := hcr 1
   have c0 : wr.cell? ⟨b, 0, none⟩ = some (.string ⟨s.toArray⟩) := hcr 0
   have f1 : wr.frozen? ⟨b, 1, none⟩ = false := hfr 1 (by show 1 < 3; omega)
   have hlr := lt_of_block hr
   have HC1 := Lib.hid c1
   have zs := bytes_size s
   have HStop := Lib.hid (fun (h : L.inName (s.getD k 0) = false) => (stop_at h).symm.trans HK.out)
   have HStep := Lib.hid (fun (h : L.inName (s.getD k 0) = true) => step_at (p := L.inName) (by decide) h)
   generalize s.getD k 0 = c at *
   have Q := Lib.hid (fun W => first c W)
   have Q2 := Lib.hid (fun W => digit c W)
   have HIn : Hid (L.inName c = (L.first c || (L.isDig c || c == 45))) := Lib.hid rfl
   clear hr hb hcr hfr
   go_wp2_with fail
   refine (P00.out).mono ?_
   rintro e w2 ⟨rfl, n2, rfl⟩
   go_wp2_with fail
   refine (Q.out _).mono ?_
   rintro e w3 ⟨rfl, rfl⟩
   cases hf1 : L.first c with
   | true =>
    have hin : L.inName c = true := by rw [HIn.out, hf1]; rfl
    obtain ⟨hkl, hst⟩ := HStep.out hin
    have HK' := Lib.hid (hst.trans HK.out)
    clear HStop HStep hin hst HIn hf1
    go_wp2_with fail
    go_roundw
    case rel => exact ⟨k + 1, (HRr.out.drewN _).place (k + 1) (by omega), (HBr.out.drewN _).trans (But.set _ _ _), by omega, by omega, HK'⟩
    case measure =>
     have h1 := (cells_of ((HRr.out.drewN n2).place (k + 1) (z := (k : Int) + 1) (by omega))).1 1
     rw [h1, HC1.out]
     show s.length - (((k + 1 : Nat) : Int)).toNat < s.length - ((k : Int)).toNat
     omega
   | false =>
    go_wp2_with fail
    refine (P0.out n2).mono ?_
    rintro e w4 ⟨rfl, n4, hw4⟩
    rw [World.drewN_drewN] at hw4
    subst hw4
    go_wp2_with fail
    refine (Q2.out _).mono ?_
    rintro e w5 ⟨rfl, rfl⟩
    cases hf2 : L.isDig c with
    | true =>
     have hin : L.inName c = true := by rw [HIn.out, hf1, hf2]; rfl
     obtain ⟨hkl, hst⟩ := HStep.out hin
     have HK' := Lib.hid (hst.trans HK.out)
     clear HStop HStep hin hst HIn hf1 hf2
     go_wp2_with fail
     go_roundw
     case rel => exact ⟨k + 1, (HRr.out.drewN _).place (k + 1) (by omega), (HBr.out.drewN _).trans (But.set _ _ _), by omega, by omega, HK'⟩
     case measure =>
      have h1 := (cells_of ((HRr.out.drewN (n2 + n4)).place (k + 1) (z := (k : Int) + 1) (by omega))).1 1
      rw [h1, HC1.out]
      show s.length - (((k + 1 : Nat) : Int)).toNat < s.length - ((k : Int)).toNat
      omega
    | false =>
     go_wp2_with fail
     refine (P0.out _).mono ?_
     rintro e w6 ⟨rfl, n6, hw6⟩
     rw [World.drewN_drewN] at hw6
     subst hw6
     by_cases h45 : c = 45
     ·have e1 : ((c.toNat : Int) == 45) = true := byte_is (n := 45) h45 (by decide)
      have e2 : (c.toNat == 45) = true := by rw [h45]; rfl
      have hin : L.inName c = true := by rw [h45]; rfl
      obtain ⟨hkl, hst⟩ := HStep.out hin
      have HK' := Lib.hid (hst.trans HK.out)
      clear HStop HStep hin hst HIn hf1 hf2 h45
      go_wp2_with fail
      go_roundw
      case rel => exact ⟨k + 1, (HRr.out.drewN _).place (k + 1) (by omega), (HBr.out.drewN _).trans (But.set _ _ _), by omega, by omega, HK'⟩
      case measure =>
       have h1 := (cells_of ((HRr.out.drewN (n2 + n4 + n6)).place (k + 1) (z := (k : Int) + 1) (by omega))).1 1
       rw [h1, HC1.out]
       show s.length - (((k + 1 : Nat) : Int)).toNat < s.length - ((k : Int)).toNat
       omega
     ·have e1 : ((c.toNat : Int) == 45) = false := byte_ne (n := 45) h45 (by decide)
      have e2 : (c.toNat == 45) = false := by rw [beq_eq_false_iff_ne]; intro h; exact h45 (UInt8.toNat_inj.1 h)
      have hin : L.inName c = false := by rw [HIn.out, hf1, hf2, show (c == 45) = false by simpa using h45]; rfl
      have hkE := HStop.out hin
      clear HStop HStep hin HIn hf1 hf2 h45 HK
      subst hkE
      have hi0 : (0 : Int) ≤ (i : Int) := by omega
      have hik : (i : Int) ≤ (k : Int) := by omega
      have hks : (k : Int) ≤ (s.length : Int) := by omega
      have hslx := HSl.out
      go_wp2_with fail
      go_quiet (fail)
      go_wp2_with fail
      go_ret
      exact ⟨tk, k, bad, rfl, (HRr.out.drewN _).drewN _, (HBr.out.drewN _).drewN _, hk1, hk2, hlen, Lib.hid ⟨fun h => h, fun h => by rw [h]; exact Got.yes HO.out⟩⟩
end F
end Go.Proofs.YtafkeolpadfjfaaGreatDoor

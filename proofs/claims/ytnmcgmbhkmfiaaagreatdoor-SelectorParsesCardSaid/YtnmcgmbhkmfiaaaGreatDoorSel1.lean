/- What the small functions of package selector, and those of its reader, come to. -/
import Derived.Test.YtnmcgmbhkmfiaaaGreatDoorOwn
import Derived.Test.YtnmcgmbhkmfiaaaGreatDoorVcut
import Derived.Test.YtnmcgmbhkmfiaaaGreatDoorSpace
set_option linter.unusedVariables false
set_option linter.unusedSimpArgs false
namespace Go.Proofs.YtnmcgmbhkmfiaaaGreatDoor
open Go.RowKit
namespace K
open H

set_option maxHeartbeats 400000 in
theorem digit (c : UInt8) (w : World) :
    Calls Tryz.prog 66 #[.int .u8 c.toNat] w fun e w' => e = .returned (.bool (L.isDig c)) ∧ w = w' := by
  have hc := c.toNat_lt
  go_enter Tryz.func66, Tryz.ntmps66
  go_wp2
  all_goals
    go_ret
    refine ⟨ret_bool ?_, rfl⟩
    unfold L.isDig
    rw [Bool.eq_iff_iff]
    simp
    omega

set_option maxHeartbeats 1000000 in
set_option maxRecDepth 100000 in
theorem initial (c : UInt8) (w : World) :
    Calls Tryz.prog 64 #[.int .u8 c.toNat] w fun e w' => e = .returned (.bool (L.first c)) ∧ w = w' := by
  have hc := c.toNat_lt
  have hv : L.first c = decide (c.toNat = 95 ∨ 128 ≤ c.toNat ∨ (97 ≤ c.toNat ∧ c.toNat ≤ 122) ∨ (65 ≤ c.toNat ∧ c.toNat ≤ 90)) := by
    have e1 : (c == 95) = decide (c.toNat = 95) := by
      rw [Bool.eq_iff_iff]; simp [← UInt8.toNat_inj]
    unfold L.first
    rw [e1, Bool.eq_iff_iff]
    simp
  rw [hv]
  clear hv
  go_enter Tryz.func64, Tryz.ntmps64
  go_wp2
  all_goals
    go_ret
    refine ⟨ret_bool ?_, rfl⟩
    rw [Bool.eq_iff_iff]
    simp
    omega

/-- The reader: its text, its place, and whether it has met what is not in the language. -/
def IsRdr (b : Nat) (s : List UInt8) (i : Nat) (bad : Bool) (w : World) : Prop :=
  w.heap[b]? = some (.cells #[.string ⟨s.toArray⟩, .int .i64 i, .bool bad] 44 (0, 0))

theorem IsRdr.below {b : Nat} {s : List UInt8} {i : Nat} {bad : Bool} {w w' : World} (h : IsRdr b s i bad w) (hb : Below w.heap.size w w') : IsRdr b s i bad w' := (hb.block b (lt_of_block h)).trans h
theorem IsRdr.drewN {b : Nat} {s : List UInt8} {i : Nat} {bad : Bool} {w : World} (h : IsRdr b s i bad w) (n : Nat) : IsRdr b s i bad (w.drewN n) := h
theorem IsRdr.place {b : Nat} {s : List UInt8} {i : Nat} {bad : Bool} {w : World} (h : IsRdr b s i bad w) {z : Int} (j : Nat) (hz : z = (j : Int)) : IsRdr b s j bad (w.setCell ⟨b, 1, none⟩ (.int .i64 z)) := by
  subst hz
  exact block_set (o := 1) h
theorem IsRdr.fail {b : Nat} {s : List UInt8} {i : Nat} {bad : Bool} {w : World} (h : IsRdr b s i bad w) : IsRdr b s i true (w.setCell ⟨b, 2, none⟩ (.bool true)) := block_set (o := 2) h

set_option maxHeartbeats 1000000 in
theorem peek (b : Nat) (s : List UInt8) (i : Nat) (bad : Bool) (w : World) (hs : s.length ≤ 1000000) (hi : i ≤ s.length) (hR : IsRdr b s i bad w) :
    Calls Tryz.prog 31 #[.pointer (some ⟨b, 0, none⟩)] w fun e w' => e = .returned (.int .u8 (s.getD i 0).toNat) ∧ ∃ n, w' = w.drewN n := by
  obtain ⟨hc, hf⟩ := cells_of hR
  have c0 : w.cell? ⟨b, 0, none⟩ = some (.string ⟨s.toArray⟩) := hc 0
  have c1 : w.cell? ⟨b, 1, none⟩ = some (.int .i64 i) := hc 1
  clear hc hf hR
  by_cases hl : i < s.length
  · obtain ⟨c, r, hd⟩ := drop_cons hl
    have hx := at_drop hd (by rw [bytes_size]; exact hl)
    have hl0 : (0 : Int) ≤ (i : Int) := by omega
    have hl1 : (i : Int) < (s.length : Int) := by omega
    rw [getD_drop hd]
    clear hd
    go_enter Tryz.func31, Tryz.ntmps31
    go_wp2_with fail
    go_quiet (fail)
    go_wp2_with fail
    go_quiet (fail)
    go_wp2_with fail
    go_ret
    exact ⟨rfl, _, World.drewN_drewN _ _ _⟩
  · have hl1 : (s.length : Int) ≤ (i : Int) := by omega
    rw [getD_past (by omega)]
    go_enter Tryz.func31, Tryz.ntmps31
    go_wp2_with fail
    go_quiet (fail)
    go_wp2_with fail
    go_ret
    exact ⟨rfl, _, rfl⟩

def RdPost (b : Nat) (s : List UInt8) (j : Nat) (bad : Bool) (v : Value) (w : World) (e : Ending) (w' : World) : Prop := e = .returned v ∧ IsRdr b s j bad w' ∧ But b w w'

set_option maxHeartbeats 2000000 in
theorem space (b : Nat) (s : List UInt8) (i : Nat) (bad : Bool) (w : World) (hs : s.length ≤ 1000000) (hi : i ≤ s.length) (hR : IsRdr b s i bad w) :
    Calls Tryz.prog 13 #[.pointer (some ⟨b, 0, none⟩)] w (RdPost b s (twEnd T.sp s i) bad (.bool (decide (i < twEnd T.sp s i))) w) := by
  obtain ⟨E, hE⟩ : ∃ E, twEnd T.sp s i = E := ⟨_, rfl⟩
  have HE := Lib.hid hE
  have HR := Lib.hid hR
  obtain ⟨hc, hf⟩ := cells_of hR
  have hlb := lt_of_block hR
  rw [hE]
  clear hE hR
  go_enter Tryz.func13, Tryz.ntmps13
  go_wp2_with fail
  clear hc hf
  go_loopw [] (fun wr => ∃ k : Nat, IsRdr b s k bad wr ∧ But b w wr ∧ i ≤ k ∧ k ≤ s.length ∧ Hid (twEnd T.sp s k = E)) (fun wr => s.length - (match wr.cell? ⟨b, 1, none⟩ with | some (.int _ q) => q.toNat | _ => 0))
  case atStart => exact ⟨i, HR.out, But.refl _ _, Nat.le_refl _, hi, HE⟩
  case round =>
    obtain ⟨k, hr, hb, hk1, hk2, HK⟩ := hrel
    obtain ⟨hc, hf⟩ := cells_of hr
    have hlr := lt_of_block hr
    have HRr := Lib.hid hr
    have c0 : wr.cell? ⟨b, 0, none⟩ = some (.string ⟨s.toArray⟩) := hc 0
    have c1 : wr.cell? ⟨b, 1, none⟩ = some (.int .i64 k) := hc 1
    have f1 : wr.frozen? ⟨b, 1, none⟩ = false := hf 1 (by show 1 < 3; omega)
    have hk0 : (0 : Int) ≤ (k : Int) := by omega
    clear hr HR HE
    by_cases hlt : k < s.length
    · have hlt1 : (k : Int) < (s.length : Int) := by omega
      obtain ⟨c, r, hd⟩ := drop_cons hlt
      have hix := at_drop hd (by rw [bytes_size]; exact hlt)
      have q : ∀ W, Calls Tryz.prog 28 #[.int .u8 c.toNat] W fun e w' => e = .returned (.bool (T.sp c)) ∧ W = w' := fun W => T.IsSpace c W
      cases hsp : T.sp c with
      | true =>
        rw [hsp] at q
        have Q := Lib.hid q
        have HK' := Lib.hid ((twEnd_step hd hsp).trans HK.out)
        clear q hsp hd HK hc hf
        go_wp2_with fail
        go_quiet ((go_at_call 28; exact quietAdd (Q.out _)))
        go_wp2_with fail
        go_roundw
        case rel => exact ⟨k + 1, (HRr.out.drewN _).place (k + 1) (by omega), (hb.drewN _).trans (But.set _ _ _), by omega, by omega, HK'⟩
        case measure =>
          have h1 := (cells_of ((HRr.out.drewN nq).place (k + 1) (z := (k : Int) + 1) (by omega))).1 1
          have hl := hlt
          rw [h1, c1]
          show s.length - (((k + 1 : Nat) : Int)).toNat < s.length - ((k : Int)).toNat
          omega
      | false =>
        rw [hsp] at q
        have Q := Lib.hid q
        obtain rfl : k = E := (twEnd_stop hd hsp).symm.trans HK.out
        clear q hsp hd HK hc hf
        go_wp2_with fail
        go_quiet ((go_at_call 28; exact quietAdd (Q.out _)))
        go_wp2_with fail
        go_ret
        refine ⟨ret_bool ?_, HRr.out.drewN _, hb.drewN _⟩
        first | (rw [Bool.eq_iff_iff]; simp; done) | (rw [Bool.eq_iff_iff]) | simp
    · have hge : (s.length : Int) ≤ (k : Int) := by omega
      have hge2 : decide ((k : Int) < (s.length : Int)) = false := decide_eq_false (by omega)
      obtain rfl : k = E := (twEnd_past (by omega)).symm.trans HK.out
      clear HK hc hf
      go_wp2_with fail
      go_quiet (fail)
      go_wp2_with fail
      go_ret
      refine ⟨ret_bool ?_, HRr.out.drewN _, hb.drewN _⟩
      first | (rw [Bool.eq_iff_iff]; simp; done) | (rw [Bool.eq_iff_iff]) | simp

set_option maxHeartbeats 1000000 in
theorem take (b : Nat) (s p : List UInt8) (i : Nat) (w : World) (hs : s.length ≤ 1000000) (hp : p.length ≤ 1000) (hi : i ≤ s.length) (hR : IsRdr b s i false w) :
    Calls Tryz.prog 12 #[.pointer (some ⟨b, 0, none⟩), .string ⟨p.toArray⟩] w (RdPost b s (if p.isPrefixOf (s.drop i) then i + p.length else i) false (.bool (p.isPrefixOf (s.drop i))) w) := by
  have HR := Lib.hid hR
  obtain ⟨hc, hf⟩ := cells_of hR
  have hlb := lt_of_block hR
  have c0 : w.cell? ⟨b, 0, none⟩ = some (.string ⟨s.toArray⟩) := hc 0
  have c1 : w.cell? ⟨b, 1, none⟩ = some (.int .i64 i) := hc 1
  have c2 : w.cell? ⟨b, 2, none⟩ = some (.bool false) := hc 2
  have f1 : w.frozen? ⟨b, 1, none⟩ = false := hf 1 (by show 1 < 3; omega)
  have hi0 : (0 : Int) ≤ (i : Int) := by omega
  have hi1 : (i : Int) ≤ (s.length : Int) := by omega
  have hxs := slice_str s i s.length hi (Nat.le_refl _)
  rw [List.take_of_length_le (by rw [List.length_drop]; omega)] at hxs
  have zs := bytes_size s
  have q : ∀ W, Calls Tryz.prog 27 #[.string ⟨(s.drop i).toArray⟩, .string ⟨p.toArray⟩] W fun e w' => e = .returned (.bool (p.isPrefixOf (s.drop i))) ∧ W = w' := fun W => by
    have h := Tryz.strings_HasPrefix ⟨(s.drop i).toArray⟩ ⟨p.toArray⟩ W
    rw [bytes_toList, bytes_toList] at h
    exact h.mono fun _ _ hh => ⟨hh.1, hh.2.symm⟩
  clear hc hf hR
  generalize s.drop i = d at *
  cases hpr : p.isPrefixOf d with
  | true =>
    rw [hpr] at q
    have Q := Lib.hid q
    clear q hpr
    go_enter Tryz.func12, Tryz.ntmps12
    go_wp2_with fail
    go_quiet ((go_at_call 27; exact quietAdd (Q.out _)))
    go_wp2_with fail
    go_ret
    exact ⟨rfl, (HR.out.drewN _).place (i + p.length) (by omega), ((But.refl _ _).drewN _).trans (But.set _ _ _)⟩
  | false =>
    rw [hpr] at q
    have Q := Lib.hid q
    clear q hpr
    go_enter Tryz.func12, Tryz.ntmps12
    go_wp2_with fail
    go_quiet ((go_at_call 27; exact quietAdd (Q.out _)))
    go_wp2_with fail
    go_ret
    exact ⟨rfl, HR.out.drewN _, (But.refl _ _).drewN _⟩

set_option maxHeartbeats 1000000 in
theorem take_bad (b : Nat) (s p : List UInt8) (i : Nat) (w : World) (hR : IsRdr b s i true w) :
    Calls Tryz.prog 12 #[.pointer (some ⟨b, 0, none⟩), .string ⟨p.toArray⟩] w (RdPost b s i true (.bool false) w) := by
  have HR := Lib.hid hR
  obtain ⟨hc, hf⟩ := cells_of hR
  have hlb := lt_of_block hR
  have c2 : w.cell? ⟨b, 2, none⟩ = some (.bool true) := hc 2
  clear hc hf hR
  go_enter Tryz.func12, Tryz.ntmps12
  go_wp2_with fail
  go_quiet (fail)
  go_wp2_with fail
  go_ret
  exact ⟨rfl, HR.out.drewN _, (But.refl _ _).drewN _⟩

end K
end Go.Proofs.YtnmcgmbhkmfiaaaGreatDoor

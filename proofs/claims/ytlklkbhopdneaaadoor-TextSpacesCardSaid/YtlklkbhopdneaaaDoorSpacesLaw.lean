/- The statement TextSpaces: it returns true at every string and every byte. -/
import Derived.Test.YtlklkbhopdneaaaDoorCollapse
import Derived.OpenShut
set_option linter.unusedVariables false
set_option linter.unusedSimpArgs false
namespace Go.Proofs.YtlklkbhopdneaaaDoor
open Go.RowKit
namespace T

theorem flds_length : ∀ (l cur : List UInt8), (flds cur l).length ≤ cur.length + l.length
  | [], cur => by
    by_cases h : cur = []
    · subst h; simp [flds]
    · have := List.length_pos_iff.2 h; simp [flds, h]; omega
  | b :: r, cur => by
    unfold flds
    have h1 := flds_length r []
    have h2 := flds_length r (cur ++ [b])
    simp only [List.length_append, List.length_cons, List.length_nil] at *
    split
    · split
      · omega
      · rename_i h; have := List.length_pos_iff.2 h; simp; omega
    · omega

set_option maxHeartbeats 1000000 in
set_option maxRecDepth 100000 in
theorem TextSpaces_small (s : ByteArray) (c : UInt8) (w : World) (hs : s.size ≤ 2000) :
    Calls Tryd.prog 8 #[.string s, .int .u8 c.toNat] w fun e w' => e = .returned (.bool true) ∧ Below w.heap.size w w' := by
  have hl := flds_length s.data.toList []
  rw [U.list_size] at hl
  simp only [List.length_nil, Nat.zero_add] at hl
  have q1 := Lib.hid (fun W => Fields s W (by omega))
  have q2 := Lib.hid (fun W => refFields s W (by omega))
  have q3 := Lib.hid (fun W => Blank s W (by omega))
  have q4 := Lib.hid (fun W => Trim s W (by omega))
  have q5 := Lib.hid (fun W => refTrim s W (by omega))
  have q6 := Lib.hid (fun W => Collapse s W (by omega))
  have q7 := Lib.hid (fun W => refCollapse s W (by omega))
  have q8 := Lib.hid (fun W => IsSpace c W)
  have q9 := Lib.hid (fun W => refSpace c W)
  generalize flds [] s.data.toList = L at *
  generalize rt (lt s.data.toList) = tr at *
  generalize coll false s.data.toList = co at *
  generalize sp c = B at *
  go_enter Tryd.func8, Tryd.ntmps8
  go_wp2_with (go_at_call 9; refine (awake _).mono ?_)
  rintro e w1 ⟨rfl, b1⟩
  have hd : decide ((2000 : Int) < (s.size : Int)) = false := by simp; omega
  go_wp2_with (go_at_call 21; refine (q1.out _).mono ?_)
  rintro e w2 ⟨ao, cap, rfl, r2, b2⟩
  have R2 := Lib.hid r2
  clear r2
  go_wp2_with (go_at_call 22; refine (q2.out _).mono ?_)
  rintro e w3 ⟨ao', cap', rfl, r3, b3⟩
  have R3 := Lib.hid r3
  have R23 := Lib.hid (R2.out.below b3)
  clear r3
  go_wp2_with (go_at_call 23; refine (q8.out _).mono ?_; rintro e w' ⟨rfl, rfl⟩)
  go_wp2_with fail
  refine (q9.out _).mono ?_
  rintro e w' ⟨rfl, rfl⟩
  have hB : (B != B) = false := by simp
  go_wp2_with fail
  refine (q3.out _).mono ?_
  rintro e w4 ⟨rfl, b4⟩
  have R4 := Lib.hid (R23.out.below b4)
  have R4' := Lib.hid (R3.out.below b4)
  have hLL : ((L.length : Int) == 0) = decide (L.length = 0) := by
    rw [Bool.eq_iff_iff]; simp
  go_wp2_with fail
  clear hLL hB
  refine (q4.out _).mono ?_
  rintro e w5 ⟨rfl, b5⟩
  have R5 := Lib.hid (R4.out.below b5)
  have R5' := Lib.hid (R4'.out.below b5)
  go_wp2_with fail
  refine (q5.out _).mono ?_
  rintro e w' ⟨rfl, rfl⟩
  go_wp2_with fail
  refine (q6.out _).mono ?_
  rintro e w6 ⟨rfl, b6⟩
  have R6 := Lib.hid (R5.out.below b6)
  have R6' := Lib.hid (R5'.out.below b6)
  go_wp2_with fail
  refine (q7.out _).mono ?_
  rintro e w' ⟨rfl, rfl⟩
  go_wp2_with fail
  go_loopw [7] (fun i wr => ∃ k : Nat, k ≤ L.length ∧ i = .int .i64 k ∧ Below w6.heap.size w6 wr) (fun i _ => L.length - (intOf i).toNat)
  case atStart => exact ⟨0, Nat.zero_le _, rfl, Below.refl _ _⟩
  case round =>
    obtain ⟨k, hk, rfl, b7⟩ := hrel
    by_cases hlt : k < L.length
    · obtain ⟨g, rfl, hg, hc⟩ := (R6.out.below b7) (by omega)
      obtain ⟨g', rfl, hg', hc'⟩ := (R6'.out.below b7) (by omega)
      have h1 := hc k hlt
      have h2 := hc' k hlt
      clear hc hc'
      generalize L.getD k [] = x at *
      go_wp2_with fail
      go_quiet (fail)
      go_wp2_with fail
      go_roundw
      case rel => refine ⟨k + 1, by omega, by go_num, ?_⟩; exact b7.trans ⟨rfl, rfl, rfl, Nat.le_refl _, fun _ _ => rfl⟩
      case measure => simp [intOf]; omega
    · have hge : L.length ≤ k := by omega
      clear hlt
      go_wp2_with fail
      go_ret
      have z1 := b1.size
      have z2 := b2.size
      have z3 := b3.size
      have z4 := b4.size
      have z5 := b5.size
      have z6 := b6.size
      exact ⟨rfl, (((((b1.trans (b2.mono z1)).trans (b3.mono (by omega))).trans (b4.mono (by omega))).trans (b5.mono (by omega))).trans (b6.mono (by omega))).trans (b7.mono (by omega))⟩

set_option maxHeartbeats 1000000 in
set_option maxRecDepth 100000 in
theorem TextSpaces (s : ByteArray) (a : Int) (w : World) (hs0 : s.size ≤ maxLen) (ha : (Lit.int .u8 a).wf = true) (hT : Tabs w) :
    Calls Tryd.prog 8 #[.string s, .int .u8 a] w fun e w' => e = .returned (.bool true) ∧ Below w.heap.size w w' := by
  unfold maxLen at hs0
  have hb := bounds_u8 ha
  clear hT ha
  by_cases h2 : s.size ≤ 2000
  · obtain ⟨x, rfl⟩ := Int.eq_ofNat_of_zero_le hb.1
    have e : ((UInt8.ofNat x).toNat : Int) = (x : Int) := by simp; omega
    have := TextSpaces_small s (UInt8.ofNat x) w h2
    rw [e] at this
    exact this
  · have h2' : 2000 < s.size := by omega
    clear h2 hb
    have hd : decide ((2000 : Int) < (s.size : Int)) = true := by simp; omega
    go_enter Tryd.func8, Tryd.ntmps8
    go_wp2_with (go_at_call 9; refine (awake _).mono ?_)
    rintro e w1 ⟨rfl, b1⟩
    go_wp2_with (go_at_call 9; refine (awake _).mono ?_)
    rintro e w2 ⟨rfl, b2⟩
    go_wp2_with fail
    go_ret
    exact ⟨rfl, b1.trans (b2.mono b1.size)⟩

end T
end Go.Proofs.YtlklkbhopdneaaaDoor

/- What expand comes to, at a name that is no shorthand. -/
import Derived.Test.YtafkeolpadfjfaaGreatDoorSty13
import Derived.Lib.SliceRun
set_option linter.unusedVariables false
set_option linter.unusedSimpArgs false
namespace Go.Proofs.YtafkeolpadfjfaaGreatDoor
open Go.RowKit Go.Sort
namespace Y
open H

theorem OwnD.base {B B' : Nat} {w : World} {v : Value} {l : List S.Decl} (h : OwnD B w v l) (hB : B' ≤ B) : OwnD B' w v l := by
  refine ⟨⟨h.1.1, ?_⟩, h.2⟩
  rcases h.1.2 with hn | ⟨g, cap, cur, hv, hb, rest⟩
  · exact Or.inl hn
  · exact Or.inr ⟨g, cap, cur, hv, Nat.le_trans hB hb, rest⟩

theorem nil_nil (w : World) : (binOp .eql 29 (.slice none 0 0) (.slice none 0 0)).run Tryz.prog w = .ok (.bool true) w := Lib.run_eql_slice_nil w 29 9 none 0 0 0 0 Tryz.underlying29

set_option maxHeartbeats 8000000 in
set_option maxRecDepth 100000 in
theorem expand_one (nm s : List UInt8) (w : World) (hn : nm.length ≤ 1000000) (hs : s.length ≤ 90000) (hE : YEnv w) (hf : nm ≠ [102, 108, 101, 120]) (hsd : S.sidesOf nm = none) :
    Calls Tryz.prog 64 #[.string ⟨nm.toArray⟩, .string ⟨s.toArray⟩] w (EachPost (S.expand nm s) w) := by
  have HQ : Hid (S.expand nm s = S.each [(nm, s)]) := Lib.hid (by unfold S.expand; rw [if_neg hf, hsd])
  generalize S.expand nm s = q at *
  have HE := Lib.hid hE
  have hg1 := hE.big
  have hg2 := hE.big2
  have g0 : (nm == [102, 108, 101, 120]) = false := by simpa using hf
  have QF := Lib.hid (fun W => fields s W (by omega))
  have QS := Lib.hid (fun W => sides nm W hn)
  rw [hsd] at QS
  clear hE hf hsd
  go_enter Tryz.func64, Tryz.ntmps64
  go_wp2_with fail
  refine (QF.out _).mono ?_
  rintro e w1 ⟨A, rfl, hown, hb⟩
  have HU1 := Lib.hid hb
  clear hb hown QF
  generalize (S.words s).length = nw at *
  go_wp2_with fail
  refine (QS.out _).mono ?_
  rintro e w2 ⟨hb, (⟨l, g, h, _, _⟩ | ⟨_, rfl⟩)⟩
  · cases h
  · have HU2 := Lib.hid (HU1.out.trans (hb.mono HU1.out.size))
    have hz2 := HU2.out.size
    clear hb QS HU1
    have s1 := strs_lit w2 [nm] 9 (by simp) (by simp)
    have b1 : Below w2.heap.size w2 (w2.alloc (.cells (sCells [nm]).toArray 9)) := (Below.refl _ _).alloc (Nat.le_refl _) _
    have s2 := strs_lit (w2.alloc (.cells (sCells [nm]).toArray 9)) [s] 9 (by simp) (by simp)
    have b2 : Below (w2.alloc (.cells (sCells [nm]).toArray 9)).heap.size (w2.alloc (.cells (sCells [nm]).toArray 9)) ((w2.alloc (.cells (sCells [nm]).toArray 9)).alloc (.cells (sCells [s]).toArray 9)) := (Below.refl _ _).alloc (Nat.le_refl _) _
    have s1' := keeps_strs s1 (Kept.below b2)
    have HU3 := Lib.hid ((HU2.out.trans (b1.mono HU2.out.size)).trans (b2.mono (Nat.le_trans HU2.out.size b1.size)))
    have hsz : (w2.alloc (.cells (sCells [nm]).toArray 9)).heap.size = w2.heap.size + 1 := by simp
    rw [hsz] at s2
    have QE := Lib.hid (each _ _ [nm] [s] _ _ _ s1' s2 (by simp) (by simp) (fun x hx => by rw [List.mem_singleton.1 hx]; exact hs) (HE.out.below HU3.out hg1 hg2))
    unfold sCells at QE HU3
    simp only [List.map_cons, List.map_nil, List.length_cons, List.length_nil, Nat.zero_add] at QE HU3
    clear s1 s2 s1' b1 b2 hsz
    go_wp2_with fail
    rw [nil_nil]
    simp only [Result.andThen]
    rw [Oper.upon_value]
    go_wp2_with fail
    refine QE.out.mono ?_
    rintro e w3 ⟨hb, hcase⟩
    have HU4 := Lib.hid (HU3.out.trans (hb.mono HU3.out.size))
    have HQ2 : Hid (q = S.each ([nm].zip [s])) := Lib.hid HQ.out
    have hz3 := HU3.out.size
    clear hb QE HU3 HQ HU2
    rcases hcase with ⟨l, v, hl, rfl, hown⟩ | ⟨hl, rfl⟩
    · have HO := Lib.hid (hown.base hz3)
      have HL := Lib.hid (HQ2.out.trans hl)
      obtain ⟨ao, cap, hv⟩ := hown.form
      generalize (l.map plainD).length = n at hv
      subst hv
      clear hown hl HQ2
      go_wp2_with fail
      go_ret2
      exact ⟨HU4.out, Or.inl ⟨l, _, HL.out, rfl, HO.out⟩⟩
    · have HL := Lib.hid (HQ2.out.trans hl)
      clear hl HQ2
      go_wp2_with fail
      go_ret2
      exact ⟨HU4.out, Or.inr ⟨HL.out, rfl⟩⟩

end Y
end Go.Proofs.YtafkeolpadfjfaaGreatDoor

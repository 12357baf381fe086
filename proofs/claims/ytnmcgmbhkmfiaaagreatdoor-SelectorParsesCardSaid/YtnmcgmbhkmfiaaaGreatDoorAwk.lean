/- What the law SelectorParses asks of the world; awake. -/
import Derived.Test.YtnmcgmbhkmfiaaaGreatDoorBk
import Derived.Test.YtnmcgmbhkmfiaaaGreatDoorFmt5
import Derived.Test.YtnmcgmbhkmfiaaaGreatDoorSel9
set_option linter.unusedVariables false
set_option linter.unusedSimpArgs false
namespace Go.Proofs.YtnmcgmbhkmfiaaaGreatDoor
open Go.RowKit
namespace K
open H

def TruePost (w : World) (e : Ending) (w' : World) : Prop := e = .returned (.bool true) ∧ Below w.heap.size w w'

/-- What the law asks of the world. -/
structure LEnv (w : World) : Prop where
  p : PEnv w
  tab : Lib.TabIs Tryz.prog w "internal/strconv.uint64pow10" .u64 Lib.pow10Tab
theorem LEnv.f {w : World} (h : LEnv w) : FEnv w := ⟨h.p.env, h.tab, h.p.big⟩
theorem LEnv.below {w w' : World} (h : LEnv w) (b : Below w.heap.size w w') : LEnv w' := ⟨h.p.below b, (h.f.below b).tab⟩

theorem read_p : L.read [112] = some [[⟨0, [112], []⟩]] := by rfl
theorem text_p : L.fList [[⟨0, [112], []⟩]] = [112] := by rfl

theorem ok_p : ∀ ps ∈ [[(⟨0, [112], []⟩ : L.Part)]], SelOk ps := by
  intro ps hp
  rw [List.mem_singleton.1 hp]
  refine ⟨fun p hq => ?_, by simp⟩
  rw [List.mem_singleton.1 hq]
  exact ⟨fun t ht => (by cases ht), by simp, by simp⟩

set_option maxHeartbeats 2000000 in
set_option maxRecDepth 100000 in
theorem awake (w : World) (hE : LEnv w) : Calls Tryz.prog 4 #[] w (TruePost w) := by
  have HE := Lib.hid hE
  have QP := Lib.hid (parse [112] w (by simp) hE.p (fun l hl => by rw [read_p] at hl; obtain rfl := Option.some.inj hl; simp))
  clear hE
  go_enter Tryz.func4, Tryz.ntmps4
  go_wp2_with fail
  refine QP.out.mono ?_
  rintro e w1 ⟨hb1, (⟨h, _⟩ | ⟨l, h, ht, _⟩ | ⟨l, v, h, _, rfl, hS⟩)⟩
  · rw [read_p] at h; cases h
  · rw [read_p] at h
    obtain rfl := Option.some.inj h
    exact absurd ht (by decide)
  · rw [read_p] at h
    obtain rfl := Option.some.inj h
    obtain ⟨a, c, rfl⟩ := hS.form
    have QF := Lib.hid (format _ _ w1 _ hS (by simp) (by simp) ok_p (by rw [text_p]; simp) (HE.out.below hb1).f)
    rw [text_p] at QF
    have HB := Lib.hid hb1
    clear hS h hb1 QP
    simp only [List.length_cons, List.length_nil, Nat.zero_add] at QF ⊢
    go_wp2_with fail
    refine QF.out.mono ?_
    rintro e w2 ⟨rfl, hb2⟩
    have HB2 := Lib.hid (HB.out.trans (hb2.mono HB.out.size))
    clear hb2 QF
    go_wp2_with fail
    go_ret
    exact ⟨rfl, HB2.out⟩

end K
end Go.Proofs.YtnmcgmbhkmfiaaaGreatDoor

/- What Decls comes to; awake. -/
import Derived.Test.YtafkeolpadfjfaaGreatDoorSty21
set_option linter.unusedVariables false
set_option linter.unusedSimpArgs false
namespace Go.Proofs.YtafkeolpadfjfaaGreatDoor
open Go.RowKit Go.Sort
namespace Y
open H

def TruePost (w : World) (e : Ending) (w' : World) : Prop := e = .returned (.bool true) ∧ Below w.heap.size w w'

/-- What a text's repaired form is, as the program gets it. -/
def Repairs (s0 s : List UInt8) : Prop := ∀ w, Calls Tryz.prog 65 #[.string ⟨s0.toArray⟩] w fun e w' => e = .returned (.string ⟨s.toArray⟩) ∧ Below w.heap.size w w'

set_option maxHeartbeats 4000000 in
set_option maxRecDepth 100000 in
theorem Decls (s0 s : List UInt8) (w : World) (hs : s.length ≤ 90000) (hR : Calls Tryz.prog 65 #[.string ⟨s0.toArray⟩] w fun e w' => e = .returned (.string ⟨s.toArray⟩) ∧ Below w.heap.size w w') (hM : HasMax w) (hE : YEnv w)
    (hX : ∀ i v W, i < (S.clean 0 s).length → v.length ≤ 90000 → YEnv W → Calls Tryz.prog 64 #[.string ⟨(nameAt (S.clean 0 s) i).toArray⟩, .string ⟨v.toArray⟩] W (EachPost (S.expand (nameAt (S.clean 0 s) i) v) W)) :
    Calls Tryz.prog 13 #[.string ⟨s0.toArray⟩] w fun e w' => ∃ v, e = .returned v ∧ Below w.heap.size w w' ∧ OwnD w.heap.size w' v (S.decls (S.clean 0 s)) := by
  have QC := Lib.hid (clean s0 s w (by omega) hR hM)
  have hcl := S.clean_le s.length 0 s (Nat.le_refl _)
  have HE := Lib.hid hE
  have hg1 := hE.big
  have hg2 := hE.big2
  have QD := Lib.hid (fun W hW => decls (S.clean 0 s) W (by omega) hW hX)
  generalize S.clean 0 s = cs at *
  clear hR hM hE hX
  go_enter Tryz.func13, Tryz.ntmps13
  go_wp2_with (go_at_call 33; refine QC.out.mono ?_)
  rintro e w1 ⟨rfl, hb⟩
  have HB := Lib.hid hb
  have hz := hb.size
  have Q2 := Lib.hid (QD.out w1 (HE.out.below hb hg1 hg2))
  clear hb QC QD
  go_wp2_with (go_at_call 32; refine Q2.out.mono ?_)
  rintro e w2 ⟨v, rfl, hb, ho⟩
  have HB2 := Lib.hid (HB.out.trans (hb.mono hz))
  have HO := Lib.hid (ho.base hz)
  obtain ⟨ao, cap, hv⟩ := ho.form
  generalize (S.decls cs).length = n at hv
  subst hv
  clear hb ho Q2
  go_wp2_with fail
  go_ret
  exact ⟨_, rfl, HB2.out, HO.out⟩

def redText : List UInt8 := [99, 111, 108, 111, 114, 58, 32, 114, 101, 100]
theorem red_decls : S.decls (S.clean 0 redText) = [⟨[99, 111, 108, 111, 114], ⟨6, 0, [35, 102, 102, 48, 48, 48, 48]⟩, false⟩] := by rfl
theorem red_names : ∀ i : Fin 10, nameAt (S.clean 0 redText) i.1 ≠ [102, 108, 101, 120] ∧ S.sidesOf (nameAt (S.clean 0 redText) i.1) = none ∧ (nameAt (S.clean 0 redText) i.1).length ≤ 1000000 := by decide +kernel

set_option maxHeartbeats 4000000 in
set_option maxRecDepth 100000 in
theorem awake (w : World) (hR : Repairs redText redText) (hM : HasMax w) (hE : YEnv w) : Calls Tryz.prog 11 #[] w (TruePost w) := by
  have QD := Lib.hid (Decls redText redText w (by decide) (hR w) hM hE (fun i v W hi hv hW => by
    have hi' : i < 10 := hi
    obtain ⟨h1, h2, h3⟩ := red_names ⟨i, hi'⟩
    exact expand_one _ v W h3 hv hW h1 h2))
  rw [red_decls] at QD
  clear hR hM hE
  go_enter Tryz.func11, Tryz.ntmps11
  go_wp2_with (go_at_call 13; refine QD.out.mono ?_)
  rintro e w1 ⟨v, rfl, hb, ho⟩
  have HB := Lib.hid hb
  obtain ⟨ao, cap, hv⟩ := ho.form
  subst hv
  obtain ⟨g, hg⟩ := lsl ho.list (by simp)
  subst hg
  obtain ⟨hglt, hnl, hgS, vk, hc, hp⟩ := ListAt.at_ (k := 0) cDecl_len ho.list (by simp)
  have c0 : w1.cell? ⟨g, 0, none⟩ = some (.string ⟨#[99, 111, 108, 111, 114]⟩) := hc 0 (by omega)
  have c1 : w1.cell? ⟨g, 1, none⟩ = some (.int .i64 (6 : Nat)) := hc 1 (by omega)
  have c2 : w1.cell? ⟨g, 2, none⟩ = some (.int .i64 0) := hc 2 (by omega)
  have c3 : w1.cell? ⟨g, 3, none⟩ = some (.string ⟨#[35, 102, 102, 48, 48, 48, 48]⟩) := hc 3 (by omega)
  clear hb ho hc hp hnl hgS QD
  go_wp2_with fail
  go_ret
  exact ⟨rfl, HB.out⟩

end Y
end Go.Proofs.YtafkeolpadfjfaaGreatDoor

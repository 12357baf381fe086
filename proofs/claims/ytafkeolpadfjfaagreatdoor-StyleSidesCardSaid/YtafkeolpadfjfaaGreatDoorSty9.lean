/- What part and each come to. -/
import Derived.Test.YtafkeolpadfjfaaGreatDoorSty8
import Derived.Deep.AppendLies
set_option linter.unusedVariables false
set_option linter.unusedSimpArgs false
namespace Go.Proofs.YtafkeolpadfjfaaGreatDoor
open Go.RowKit Go.Sort
namespace Y
open H

theorem globalsY (t : List UInt8) (W : World) (h : Asc W) : Calls Tryz.prog 39 #[.string ⟨t.toArray⟩, .string ⟨#[105, 110, 104, 101, 114, 105, 116, 32, 105, 110, 105, 116, 105, 97, 108]⟩] W fun e w' => e = .returned (.bool (S.globals.contains t)) ∧ Below W.heap.size W w' :=
  among t [105, 110, 104, 101, 114, 105, 116, 32, 105, 110, 105, 116, 105, 97, 108] S.globals W globals_fields (by decide) (by decide) (fun b hb => by have := List.all_eq_true.1 (show ([105, 110, 104, 101, 114, 105, 116, 32, 105, 110, 105, 116, 105, 97, 108] : List UInt8).all (fun b => decide (b.toNat < 128)) = true by decide) b hb; simpa using this) h

set_option maxHeartbeats 4000000 in
set_option maxRecDepth 100000 in
theorem part (nm t : List UInt8) (w : World) (ht : t.length ≤ 90000) (hE : YEnv w) :
    Calls Tryz.prog 142 #[.string ⟨nm.toArray⟩, .string ⟨t.toArray⟩] w fun e w' => e = .returned (.bool (S.part nm t)) ∧ Below w.heap.size w w' := by
  have HE := Lib.hid hE
  have hg1 := hE.big
  have hg2 := hE.big2
  have QV := Lib.hid (fun W (h : YEnv W) => parseValue nm t W ht h)
  have QG := Lib.hid (fun W (h : Asc W) => globalsY t W h)
  have HB : Hid (S.part nm t = match S.value nm t with | some (some _) => !S.globals.contains t | _ => false) := Lib.hid rfl
  generalize S.part nm t = B at *
  generalize S.value nm t = o at *
  generalize S.globals.contains t = G at *
  clear hE
  go_enter Tryz.func142, Tryz.ntmps142
  go_wp2_with fail
  refine (QV.out _ HE.out).mono ?_
  rintro e w1 ⟨v, er, rfl, hb, ho⟩
  obtain ⟨vk, vn, vw⟩ := v
  unfold vval vcells
  dsimp only
  have hsz := hb.size
  have HU := Lib.hid (hb.alloc (by omega) (.cells #[.int .i64 (vk : Nat), .int .i64 vn, .string ⟨vw.toArray⟩] 32))
  go_upto_region 2 with fail
  generalize (w1.alloc (.cells #[.int .i64 (vk : Nat), .int .i64 vn, .string ⟨vw.toArray⟩] 32)) = w2 at *
  clear hb QV
  have hcase : (er = 0 ∧ B = !G) ∨ ((er = 4 ∨ er = 6) ∧ B = false) := by
    rcases ho.out with ⟨h, h2⟩ | ⟨h, _, h2⟩ | ⟨h, _, h2⟩
    · exact Or.inl ⟨h2, by rw [HB.out, h]⟩
    · exact Or.inr ⟨Or.inl h2, by rw [HB.out, h]⟩
    · exact Or.inr ⟨Or.inr h2, by rw [HB.out, h]⟩
  clear HB ho
  rcases hcase with ⟨rfl, rfl⟩ | ⟨rfl | rfl, rfl⟩
  · go_wp2_with fail
    refine (QG.out _ (HE.out.below HU.out hg1 hg2).asc).mono ?_
    rintro e w3 ⟨rfl, hb⟩
    have HU3 := Lib.hid (HU.out.trans (hb.mono HU.out.size))
    clear hb
    go_wp2_with fail
    go_ret
    exact ⟨rfl, HU3.out⟩
  · go_wp2_with fail
    go_ret
    exact ⟨rfl, HU.out⟩
  · go_wp2_with fail
    go_ret
    exact ⟨rfl, HU.out⟩

/-- Strings in a row. -/
def cStr (s : List UInt8) (_ : Value) : List Value := [.string ⟨s.toArray⟩]
def iAny {α : Type} (_ : Nat → Prop) (_ : World) (_ : Value) (_ : α) : Prop := True
theorem keeps_any {α : Type} : Keeps (iAny (α := α)) := fun _ _ => trivial
theorem cStr_len (t : List UInt8) (v : Value) : (cStr t v).length = 1 := rfl
def StrsAt (S : Nat → Prop) (w : World) (v : Value) (l : List (List UInt8)) : Prop := ListAt cStr iAny S w v l
theorem keeps_strs : Keeps StrsAt := fun h k => ListAt.keep keeps_any h k

/-- Declarations as cells. -/
def dcells (d : S.Decl) : List Value := [.string ⟨d.name.toArray⟩, .int .i64 (d.val.kind : Nat), .int .i64 d.val.num, .string ⟨d.val.word.toArray⟩, .bool d.imp]
def decCells (l : List S.Decl) : List Value := l.flatMap dcells

theorem infoDecl : (Tryz.prog.info? 40).map (fun i => (i.zero, i.size, i.bytes)) = some (some (.agg #[.string ByteArray.empty, .int .i64 0, .int .i64 0, .string ByteArray.empty, .bool false]), 5, 56) := by kernel_rfl

end Y
end Go.Proofs.YtafkeolpadfjfaaGreatDoor

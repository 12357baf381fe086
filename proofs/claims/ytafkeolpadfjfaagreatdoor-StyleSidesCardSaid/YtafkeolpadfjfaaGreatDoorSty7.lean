/- The table of longhands in memory. -/
import Derived.Test.YtafkeolpadfjfaaGreatDoorSty6
import Derived.Deep.MidRow
set_option linter.unusedVariables false
set_option linter.unusedSimpArgs false
namespace Go.Proofs.YtafkeolpadfjfaaGreatDoor
open Go.RowKit
namespace Y
open H

/-- Words with single spaces between them. -/
def joinW : List (List UInt8) → List UInt8
  | [] => []
  | [a] => a
  | a :: b :: r => a ++ 32 :: joinW (b :: r)
def trow (k : Nat) : List UInt8 × Nat × List (List UInt8) := S.tab.getD k ([], 0, [])
def rcells (r : List UInt8 × Nat × List (List UInt8)) : List Value := [.string ⟨r.1.toArray⟩, .int .i64 (r.2.1 : Nat), .string ⟨(joinW r.2.2).toArray⟩]
def tcs : List Value := S.tab.flatMap rcells
theorem tab_len : S.tab.length = 37 := by decide
theorem trow_at (k : Nat) (hk : k < 37) : S.tab[k]? = some (trow k) := by
  unfold trow
  rw [List.getD_eq_getElem?_getD, List.getElem?_eq_getElem (by rw [tab_len]; exact hk)]
  rfl

theorem flat3 {α : Type} (f : α → List Value) (hf : ∀ x, (f x).length = 3) : ∀ (l : List α) (k : Nat) (h : k < l.length), ((l.flatMap f).drop (k * 3)).take 3 = f l[k]
  | x :: r, 0, _ => by
    rw [List.flatMap_cons, Nat.zero_mul, List.drop_zero]
    have := hf x
    rw [List.take_append_of_le_length (by omega), List.take_of_length_le (by omega)]
    rfl
  | x :: r, k + 1, h => by
    rw [List.flatMap_cons]
    have := hf x
    rw [show (k + 1) * 3 = (f x).length + k * 3 by omega, List.drop_append]
    rw [show (f x).length + k * 3 - (f x).length = k * 3 by omega, List.drop_eq_nil_of_le (by omega : (f x).length ≤ (f x).length + k * 3), List.nil_append]
    exact flat3 f hf r k (by simpa using h)

theorem tcs_len : tcs.length = 111 := by
  unfold tcs
  rw [List.length_flatMap]
  have : (S.tab.map fun a => (rcells a).length) = S.tab.map fun _ => 3 := rfl
  rw [this]
  decide

theorem infoRow : (Tryz.prog.info? 71).map (·.size) = some 3 := by kernel_rfl
theorem undRow : (match Tryz.prog.underlying 71 with | some (.struct _) => true | _ => false) = true := by kernel_rfl
theorem undTab : Tryz.prog.underlying 72 = some (.array 37 71) := by kernel_rfl
theorem infoTab : (Tryz.prog.info? 72).map (·.size) = some 111 := by kernel_rfl

theorem row_at {k : Nat} (hk : k < 37) (kk : IntKind) (w : World) :
    (Instr.index 72 (.agg tcs.toArray) (.int kk (k : Int))).run Tryz.prog w = .ok (.agg #[.string ⟨(trow k).1.toArray⟩, .int .i64 ((trow k).2.1 : Nat), .string ⟨(joinW (trow k).2.2).toArray⟩]) w := by
  have h1 := undTab
  have h2 := undRow
  obtain ⟨i, hi, hs⟩ := Option.map_eq_some_iff.1 infoRow
  have hin : (0 : Int) ≤ (k : Int) ∧ (k : Int) < ((37 : Nat) : Int) := by omega
  have hf := flat3 rcells (fun _ => rfl) S.tab k (by rw [tab_len]; exact hk)
  have hr : S.tab[k]'(by rw [tab_len]; exact hk) = trow k := by
    have := trow_at k hk
    rw [List.getElem?_eq_getElem (by rw [tab_len]; exact hk)] at this
    exact Option.some.inj this
  rw [hr] at hf
  have hlen := tcs_len
  change (tcs.drop (k * 3)).take 3 = _ at hf
  generalize tcs = cs at *
  cases hu : Tryz.prog.underlying 71 with
  | none => rw [hu] at h2; cases h2
  | some u =>
    rw [hu] at h2
    cases u <;> first | (cases h2; done) | skip
    simp [Instr.index, run_underlying h1, asIntOf, go_sem, part, isAgg, run_underlying hu, sizeOf, typeInfo, hi, hs, hk]
    exact hf

theorem words_at (k : Nat) (hk : k < 37) : Lib.fields (joinW (trow k).2.2) = (trow k).2.2 ∧ (trow k).2.2.length ≤ 1000 ∧ (joinW (trow k).2.2).length ≤ 1000 ∧ (joinW (trow k).2.2).all (fun b => decide (b.toNat < 128)) = true ∧ (trow k).1.length ≤ 100 := by
  have h : ∀ n : Fin 37, Lib.fields (joinW (trow n.val).2.2) = (trow n.val).2.2 ∧ (trow n.val).2.2.length ≤ 1000 ∧ (joinW (trow n.val).2.2).length ≤ 1000 ∧ (joinW (trow n.val).2.2).all (fun b => decide (b.toNat < 128)) = true ∧ (trow n.val).1.length ≤ 100 := by decide +kernel
  exact h ⟨k, hk⟩
theorem bits_at (k : Nat) (hk : k < 37) : Bits (trow k).2.1 := by
  have h : ∀ n : Fin 37, (bits BinOp.and IntKind.i64 ((trow n.val).2.1 : Int) 1 != 0) = (trow n.val).2.1.testBit 0 ∧ (bits BinOp.and IntKind.i64 ((trow n.val).2.1 : Int) 2 != 0) = (trow n.val).2.1.testBit 1 ∧ (bits BinOp.and IntKind.i64 ((trow n.val).2.1 : Int) 4 != 0) = (trow n.val).2.1.testBit 2 ∧ (bits BinOp.and IntKind.i64 ((trow n.val).2.1 : Int) 8 != 0) = (trow n.val).2.1.testBit 3 ∧ (bits BinOp.and IntKind.i64 ((trow n.val).2.1 : Int) 16 == 0) = (!(trow n.val).2.1.testBit 4) ∧ (bits BinOp.and IntKind.i64 ((trow n.val).2.1 : Int) 32 != 0) = (trow n.val).2.1.testBit 5 := by decide +kernel
  obtain ⟨a0, a1, a2, a3, a4, a5⟩ := h ⟨k, hk⟩
  exact ⟨a0, a1, a2, a3, a4, a5⟩
theorem globals_fields : Lib.fields [105, 110, 104, 101, 114, 105, 116, 32, 105, 110, 105, 116, 105, 97, 108] = S.globals := by decide +kernel

theorem value_at {p s : List UInt8} {k : Nat} (hk : k < 37) (hn : ∀ m, m < k → (trow m).1 ≠ p) (h : (trow k).1 = p) : S.value p s = some (S.valueT (trow k).2.1 (trow k).2.2 (S.trim (S.lower s))) := by
  have : S.tab.find? (fun r => r.1 == p) = some (trow k) := by
    rw [List.find?_eq_some_iff_getElem]
    refine ⟨by simpa using h, k, by rw [tab_len]; exact hk, ?_, fun m hm => ?_⟩
    · have := trow_at k hk
      rw [List.getElem?_eq_getElem (by rw [tab_len]; exact hk)] at this
      simpa using this
    · have h1 := trow_at m (by omega)
      rw [List.getElem?_eq_getElem (by rw [tab_len]; omega)] at h1
      simp only [Option.some.injEq] at h1
      rw [h1]
      simpa using hn m hm
  unfold S.value
  rw [this]
theorem value_none {p s : List UInt8} (hn : ∀ m, m < 37 → (trow m).1 ≠ p) : S.value p s = none := by
  have : S.tab.find? (fun r => r.1 == p) = none := by
    rw [List.find?_eq_none]
    intro x hx
    obtain ⟨k, hk, rfl⟩ := List.getElem_of_mem hx
    rw [tab_len] at hk
    have h1 := trow_at k hk
    rw [List.getElem?_eq_getElem (by rw [tab_len]; exact hk)] at h1
    simp only [Option.some.injEq] at h1
    rw [h1]
    simpa using hn k hk
  unfold S.value
  rw [this]

/-- What the readers of values ask of the world. -/
structure YEnv (w : World) : Prop where
  asc : Asc w
  tab : w.rangeAt 0 0 tcs
  big : 1 < w.heap.size
  big2 : 0 < w.heap.size
theorem YEnv.below {w w' : World} {B : Nat} (h : YEnv w) (b : Below B w w') (h1 : 1 < B) (h2 : 0 < B) : YEnv w' :=
  ⟨tab_below h.asc b h1, fun j v hv => (b.cell (p := ⟨0, 0 + j, none⟩) h2).trans (h.tab j v hv), Nat.lt_of_lt_of_le h.big b.size, Nat.lt_of_lt_of_le h.big2 b.size⟩
theorem YEnv.same {w w' : World} (h : YEnv w) (b : Below w.heap.size w w') : YEnv w' := h.below b h.big h.big2

end Y
end Go.Proofs.YtafkeolpadfjfaaGreatDoor

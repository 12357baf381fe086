/- What hex and among come to. -/
import Derived.Test.YtafkeolpadfjfaaGreatDoorSty2
import Derived.Test.YtafkeolpadfjfaaGreatDoorTrim
import Derived.Lib.LaidTab
set_option linter.unusedVariables false
set_option linter.unusedSimpArgs false
namespace Go.Proofs.YtafkeolpadfjfaaGreatDoor
open Go.RowKit
namespace Y
open H

theorem dw_nil {p : UInt8 → Bool} : ∀ {l : List UInt8}, l.dropWhile p = [] ↔ l.all p = true
  | [] => by simp
  | c :: r => by
    by_cases h : p c = true
    · rw [List.dropWhile_cons_of_pos h, dw_nil (l := r), List.all_cons, h]; simp
    · rw [List.dropWhile_cons_of_neg h, List.all_cons]; simp [h]

theorem contains_hex (b : UInt8) : S.hexset.contains b = S.isHex b := by
  have h : ∀ n : Fin 256, S.hexset.contains (UInt8.ofNat n.val) = S.isHex (UInt8.ofNat n.val) := by decide +kernel
  have := h ⟨b.toNat, b.toNat_lt⟩
  simpa using this

theorem trim_hex (l : List UInt8) : decide (Lib.trimS l S.hexset = []) = l.all S.isHex := by
  have e : (fun x => S.hexset.contains x) = S.isHex := by funext b; exact contains_hex b
  unfold Lib.trimS Lib.trimLeftS Lib.trimRightS
  rw [e]
  rw [Bool.eq_iff_iff, decide_eq_true_iff, dw_nil]
  constructor
  · intro h
    have h2 : (l.reverse.dropWhile S.isHex) = [] := by
      have h3 : ∀ c ∈ l.reverse.dropWhile S.isHex, S.isHex c = true := by
        intro c hc
        exact List.all_eq_true.1 h c (by simpa using hc)
      cases hq : l.reverse.dropWhile S.isHex with
      | nil => rfl
      | cons c r =>
        have h4 := h3 c (by rw [hq]; simp)
        have h5 := List.head?_dropWhile_not (p := S.isHex) l.reverse
        rw [hq] at h5
        simp at h5
        rw [h5] at h4; cases h4
    have h6 := dw_nil.1 h2
    simpa using h6
  · intro h
    have h2 : l.reverse.all S.isHex = true := by simpa using h
    rw [dw_nil.2 h2]; rfl

set_option maxHeartbeats 1000000 in
theorem hex (s : List UInt8) (w : World) (hs : s.length ≤ 100000) :
    Calls Tryz.prog 76 #[.string ⟨s.toArray⟩] w fun e w' => e = .returned (.bool (s.all S.isHex)) ∧ Below w.heap.size w w' := by
  have hc : Calls Tryz.prog 71 #[.string ⟨s.toArray⟩, .string ⟨#[48, 49, 50, 51, 52, 53, 54, 55, 56, 57, 97, 98, 99, 100, 101, 102]⟩] w fun e w' => e = .returned (.string ⟨(Lib.trimS s S.hexset).toArray⟩) ∧ Below w.heap.size w w' := by
    have := Any.strings_Trim_laid Tryz.hand160 (by kernel_rfl) ⟨s.toArray⟩ ⟨#[48, 49, 50, 51, 52, 53, 54, 55, 56, 57, 97, 98, 99, 100, 101, 102]⟩ w (by rw [bytes_size]; omega) (by decide) (ascii_of_all (by decide))
    rw [bytes_toList] at this
    exact this
  have HC := Lib.hid hc
  have hT := trim_hex s
  generalize s.all S.isHex = B at *
  generalize Lib.trimS s S.hexset = t at *
  have HT := Lib.hid hT
  clear hc hT
  go_enter Tryz.func76, Tryz.ntmps76
  go_wp2_with fail
  refine HC.out.mono ?_
  rintro e w1 ⟨rfl, hb⟩
  have HB := Lib.hid hb
  clear hb HC
  cases t with
  | nil =>
    go_wp2_with fail
    go_ret
    exact ⟨ret_bool (by rw [← HT.out]; rfl), HB.out⟩
  | cons c r =>
    go_wp2_with fail
    go_ret
    exact ⟨ret_bool (by rw [← HT.out]; rfl), HB.out⟩

/-- What the readers of values ask of the world: the table of white space, and the table of longhands. -/
def Asc (w : World) : Prop := Lib.TabIs Tryz.prog w "strings.asciiSpace" .u8 Lib.asciiSpaceTab

set_option maxHeartbeats 1000000 in
theorem among (name ws : List UInt8) (L : List (List UInt8)) (w : World) (hL : Lib.fields ws = L) (hl : L.length ≤ 1000) (hw : ws.length ≤ 1000) (ha : ∀ b ∈ ws, b.toNat < 128) (hE : Asc w) :
    Calls Tryz.prog 39 #[.string ⟨name.toArray⟩, .string ⟨ws.toArray⟩] w fun e w' => e = .returned (.bool (L.contains name)) ∧ Below w.heap.size w w' := by
  have q := Tryz.strings_Fields_laid ⟨ws.toArray⟩ w (by rw [bytes_size]; omega) (fun j b h => by rw [bytes_toList] at h; exact ha b (List.mem_of_getElem? h)) hE
  rw [bytes_toList, hL] at q
  have Q := Lib.hid q
  have hB : Below w.heap.size w (w.alloc (.cells (L.map fun l => Value.string ⟨l.toArray⟩).toArray 9)) := (Below.refl _ _).alloc (Nat.le_refl _) _
  have hC : Calls Tryz.prog 73 #[.slice (some ⟨w.heap.size, 0, none⟩) L.length L.length, .string ⟨name.toArray⟩] (w.alloc (.cells (L.map fun l => Value.string ⟨l.toArray⟩).toArray 9)) fun e w' => e = .returned (.bool (L.contains name)) ∧ w' = (w.alloc (.cells (L.map fun l => Value.string ⟨l.toArray⟩).toArray 9)) := by
    have := Tryz.slices_Contains_string w.heap.size 0 L.length L.length (L.map fun l => (⟨l.toArray⟩ : ByteArray)) ⟨name.toArray⟩ (w.alloc (.cells (L.map fun l => Value.string ⟨l.toArray⟩).toArray 9)) (by simp) (by omega) (fun j hj => by
      have hj' : j < L.length := by simpa using hj
      rw [Nat.zero_add, World.cell?_alloc_at _ _ _ _ rfl]
      simp [hj'])
    refine this.mono ?_
    rintro e w' ⟨rfl, rfl⟩
    refine ⟨ret_bool ?_, rfl⟩
    have htk : (L.map fun l => (⟨l.toArray⟩ : ByteArray)).take L.length = L.map fun l => (⟨l.toArray⟩ : ByteArray) := List.take_of_length_le (by simp)
    rw [htk, Bool.eq_iff_iff, Lib.containsS_iff, List.mem_map, List.contains_iff_mem]
    constructor
    · rintro ⟨x, hx, he⟩
      have : x = name := by
        have h2 := congrArg (fun b : ByteArray => b.data.toList) he
        simpa using h2
      rw [← this]; exact hx
    · intro h; exact ⟨name, h, rfl⟩
  have HC := Lib.hid hC
  have HB := Lib.hid hB
  generalize L.contains name = B at *
  generalize (w.alloc (.cells (L.map fun l => Value.string ⟨l.toArray⟩).toArray 9)) = W at *
  clear q hL ha hE hC hB
  go_enter Tryz.func39, Tryz.ntmps39
  go_wp2_with fail
  refine Q.out.mono ?_
  rintro e w1 ⟨rfl, rfl⟩
  go_wp2_with fail
  refine HC.out.mono ?_
  rintro e w2 ⟨rfl, rfl⟩
  go_wp2_with fail
  go_ret
  exact ⟨rfl, HB.out⟩

end Y
end Go.Proofs.YtafkeolpadfjfaaGreatDoor

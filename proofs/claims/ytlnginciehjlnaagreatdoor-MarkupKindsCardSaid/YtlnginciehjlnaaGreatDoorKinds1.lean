/- What IsVoid and the reference's one, Void, Raw and Plain come to. -/
import Derived.Test.YtlnginciehjlnaaGreatDoorRaw
set_option linter.unusedVariables false
set_option linter.unusedSimpArgs false
namespace Go.Proofs.YtlnginciehjlnaaGreatDoor
open Go.RowKit
namespace K

/-- The names of elements without content. -/
def voids : List (List UInt8) := [[97, 114, 101, 97], [98, 97, 115, 101], [98, 114], [99, 111, 108], [104, 114], [105, 109, 103], [105, 110, 112, 117, 116], [108, 105, 110, 107], [109, 101, 116, 97]]
def isVoid (n : List UInt8) : Bool := voids.any (fun x => x == n)

set_option maxHeartbeats 400000 in
theorem IsVoid (n : List UInt8) (w : World) (hE : Env w) :
    Calls Tryz.prog 26 #[.string ⟨n.toArray⟩] w fun e w' => e = .returned (.bool (isVoid n)) ∧ Below w.heap.size w w' := by
  have q := among n [97, 114, 101, 97, 32, 98, 97, 115, 101, 32, 98, 114, 32, 99, 111, 108, 32, 104, 114, 32, 105, 109, 103, 32, 105, 110, 112, 117, 116, 32, 108, 105, 110, 107, 32, 109, 101, 116, 97] voids w (by decide) (by decide) (by decide) (by decide) hE
  have Q := Lib.hid (show Calls Tryz.prog 46 _ w fun e w' => e = .returned (.bool (isVoid n)) ∧ Below w.heap.size w w' from q)
  clear q
  generalize isVoid n = R at *
  go_enter Tryz.func26, Tryz.ntmps26
  go_wp2_with fail
  refine Q.out.mono ?_
  rintro e w1 ⟨rfl, b⟩
  go_wp2_with fail
  go_ret
  exact ⟨rfl, b⟩

/-- A row of strings in one block. -/
def StrRowAt (w : World) (g : Nat) (L : List (List UInt8)) : Prop := ∀ k (h : k < L.length), w.cell? ⟨g, k, none⟩ = some (.string ⟨L[k].toArray⟩)

set_option maxHeartbeats 1000000 in
theorem rone (n : List UInt8) (g : Nat) (L : List (List UInt8)) (w : World) (hl : L.length ≤ 1000) (hL : StrRowAt w g L) :
    Calls Tryz.prog 47 #[.string ⟨n.toArray⟩, .slice (some ⟨g, 0, none⟩) L.length L.length] w fun e w' => e = .returned (.bool (L.any (fun x => x == n))) ∧ w = w' := by
  have HC := Lib.hid hL
  obtain ⟨R, hR⟩ : ∃ R, L.any (fun x => x == n) = R := ⟨_, rfl⟩
  have HR := Lib.hid hR
  rw [hR]
  clear hR hL
  go_enter Tryz.func47, Tryz.ntmps47
  go_wp2_with fail
  go_loopw [5] (fun u wr => ∃ k : Nat, u = .int .i64 k ∧ k ≤ L.length ∧ w = wr ∧ Hid (L.any (fun x => x == n) = (L.drop k).any (fun x => x == n))) (fun u _ => L.length - (intOf u).toNat)
  case atStart => exact ⟨0, rfl, Nat.zero_le _, rfl, Lib.hid rfl⟩
  case round =>
    obtain ⟨k, rfl, hk, rfl, HK⟩ := hrel
    by_cases hlt : k < L.length
    · have hlt1 : (k : Int) < (L.length : Int) := by omega
      have hc := HC.out k hlt
      have hdr : L.drop k = L[k] :: L.drop (k + 1) := List.drop_eq_getElem_cons hlt
      cases hx : (L[k] == n) with
      | true =>
        have HV : Hid (R = true) := Lib.hid (by rw [← HR.out, HK.out, hdr, List.any_cons, hx, Bool.true_or])
        clear hdr HK
        generalize L[k] = x at *
        go_wp2_with fail
        go_ret
        rw [HV.out]
        exact ⟨rfl, rfl⟩
      | false =>
        have HK' : Hid (L.any (fun x => x == n) = (L.drop (k + 1)).any (fun x => x == n)) := Lib.hid (by rw [HK.out, hdr, List.any_cons, hx, Bool.false_or])
        clear hdr HK
        generalize L[k] = x at *
        go_wp2_with fail
        go_roundw
        case rel => exact ⟨k + 1, by go_num, by omega, trivial, HK'⟩
        case measure => simp [intOf]; omega
    · have HV : Hid (R = false) := Lib.hid (by rw [← HR.out, HK.out, List.drop_eq_nil_of_le (by omega)]; rfl)
      have hge : (L.length : Int) ≤ (k : Int) := by omega
      go_wp2_with fail
      go_ret
      rw [HV.out]
      exact ⟨rfl, rfl⟩

set_option maxHeartbeats 1000000 in
theorem rVoid (n : List UInt8) (w : World) :
    Calls Tryz.prog 27 #[.string ⟨n.toArray⟩] w fun e w' => e = .returned (.bool (isVoid n)) ∧ Below w.heap.size w w' := by
  have q : ∀ W, StrRowAt W w.heap.size voids → Calls Tryz.prog 47 #[.string ⟨n.toArray⟩, .slice (some ⟨w.heap.size, 0, none⟩) 9 9] W fun e w' => e = .returned (.bool (isVoid n)) ∧ W = w' := fun W h => rone n w.heap.size voids W (by decide) h
  have Q := Lib.hid q
  clear q
  generalize isVoid n = R at *
  go_enter Tryz.func27, Tryz.ntmps27
  go_wp2_with fail
  refine (Q.out _ ?_).mono ?_
  · intro k hk
    rw [World.cell?_alloc_at _ _ _ _ rfl]
    have hk : k < 9 := hk
    rcases (by omega : k = 0 ∨ k = 1 ∨ k = 2 ∨ k = 3 ∨ k = 4 ∨ k = 5 ∨ k = 6 ∨ k = 7 ∨ k = 8) with rfl | rfl | rfl | rfl | rfl | rfl | rfl | rfl | rfl <;> rfl
  · rintro e w1 ⟨rfl, rfl⟩
    have hb : ∀ o, Below w.heap.size w (w.alloc o) := fun o => (Below.refl _ _).alloc (Nat.le_refl _) _
    go_wp2_with fail
    go_ret
    exact ⟨rfl, hb _⟩

set_option maxHeartbeats 400000 in
theorem rRaw (n : List UInt8) (w : World) :
    Calls Tryz.prog 29 #[.string ⟨n.toArray⟩] w fun e w' => e = .returned (.bool (M.isRaw n)) ∧ w = w' := by
  have hv : M.isRaw n = (n == [115, 99, 114, 105, 112, 116] || n == [115, 116, 121, 108, 101]) := rfl
  rw [hv]
  clear hv
  cases h1 : (n == [115, 99, 114, 105, 112, 116]) with
  | true =>
    go_enter Tryz.func29, Tryz.ntmps29
    go_wp2_with fail
    go_ret
    exact ⟨rfl, rfl⟩
  | false =>
    go_enter Tryz.func29, Tryz.ntmps29
    go_wp2_with fail
    go_ret
    exact ⟨rfl, rfl⟩

set_option maxHeartbeats 400000 in
theorem rPlain (n : List UInt8) (w : World) :
    Calls Tryz.prog 31 #[.string ⟨n.toArray⟩] w fun e w' => e = .returned (.bool (M.isPlain n)) ∧ w = w' := by
  have hv : M.isPlain n = (n == [116, 105, 116, 108, 101] || n == [116, 101, 120, 116, 97, 114, 101, 97]) := rfl
  rw [hv]
  clear hv
  cases h1 : (n == [116, 105, 116, 108, 101]) with
  | true =>
    go_enter Tryz.func31, Tryz.ntmps31
    go_wp2_with fail
    go_ret
    exact ⟨rfl, rfl⟩
  | false =>
    go_enter Tryz.func31, Tryz.ntmps31
    go_wp2_with fail
    go_ret
    exact ⟨rfl, rfl⟩

end K
end Go.Proofs.YtlnginciehjlnaaGreatDoor

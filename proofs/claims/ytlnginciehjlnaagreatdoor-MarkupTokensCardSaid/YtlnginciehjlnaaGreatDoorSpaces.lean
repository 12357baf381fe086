/- What the functions on white space come to, in the program and in the reference. -/
import Derived.Test.YtlnginciehjlnaaGreatDoorFieldsPlain
import Derived.Test.YtlnginciehjlnaaGreatDoorSlicesLaw
import Derived.Test.YtlnginciehjlnaaGreatDoorTrimLay
import Derived.Shelf.Strings.FieldsFuncGrows
import Derived.BigQuiet
import Derived.Deep.QuietTactic
set_option linter.unusedVariables false
set_option linter.unusedSimpArgs false
namespace Go.Proofs.YtlnginciehjlnaaGreatDoor
open Go.RowKit
namespace T

theorem byte_eq' (b : UInt8) (n : Nat) (h : n < 256) : ((b.toNat : Int) == (n : Int)) = (b == UInt8.ofNat n) := by
  rw [Bool.eq_iff_iff]
  simp only [beq_iff_eq]
  constructor
  · intro e
    have e' : b.toNat = n := by omega
    rw [← e']; simp
  · intro e; subst e; simp; omega

set_option maxHeartbeats 1000000 in
theorem refSpace (b : UInt8) (w : World) :
    Calls Tryz.prog 49 #[.int .u8 b.toNat] w fun e w' => e = .returned (.bool (sp b)) ∧ w = w' := by
  have e1 := byte_eq' b 9 (by omega)
  have e2 := byte_eq' b 10 (by omega)
  have e3 := byte_eq' b 12 (by omega)
  have e4 := byte_eq' b 13 (by omega)
  have e5 := byte_eq' b 32 (by omega)
  have hsp : sp b = ((b == 9) || (b == 10) || (b == 12) || (b == 13) || (b == 32)) := rfl
  rw [hsp]
  clear hsp
  cases h1 : (b == 9) with
  | true =>
    have t1 : ((b.toNat : Int) == 9) = true := e1.trans h1
    clear e1 e2 e3 e4 e5 h1
    go_enter Tryz.func49, Tryz.ntmps49
    go_wp2
    go_ret
    exact ⟨rfl, rfl⟩
  | false =>
  have t1 : ((b.toNat : Int) == 9) = false := e1.trans h1
  cases h2 : (b == 10) with
  | true =>
    have t2 : ((b.toNat : Int) == 10) = true := e2.trans h2
    clear e1 e2 e3 e4 e5 h1 h2
    go_enter Tryz.func49, Tryz.ntmps49
    go_wp2
    go_ret
    exact ⟨rfl, rfl⟩
  | false =>
  have t2 : ((b.toNat : Int) == 10) = false := e2.trans h2
  cases h3 : (b == 12) with
  | true =>
    have t3 : ((b.toNat : Int) == 12) = true := e3.trans h3
    clear e1 e2 e3 e4 e5 h1 h2 h3
    go_enter Tryz.func49, Tryz.ntmps49
    go_wp2
    go_ret
    exact ⟨rfl, rfl⟩
  | false =>
  have t3 : ((b.toNat : Int) == 12) = false := e3.trans h3
  cases h4 : (b == 13) with
  | true =>
    have t4 : ((b.toNat : Int) == 13) = true := e4.trans h4
    clear e1 e2 e3 e4 e5 h1 h2 h3 h4
    go_enter Tryz.func49, Tryz.ntmps49
    go_wp2
    go_ret
    exact ⟨rfl, rfl⟩
  | false =>
  have t4 : ((b.toNat : Int) == 13) = false := e4.trans h4
  cases h5 : (b == 32) with
  | true =>
    have t5 : ((b.toNat : Int) == 32) = true := e5.trans h5
    clear e1 e2 e3 e4 e5 h1 h2 h3 h4 h5
    go_enter Tryz.func49, Tryz.ntmps49
    go_wp2
    go_ret
    exact ⟨rfl, rfl⟩
  | false =>
    have t5 : ((b.toNat : Int) == 32) = false := e5.trans h5
    clear e1 e2 e3 e4 e5 h1 h2 h3 h4 h5
    go_enter Tryz.func49, Tryz.ntmps49
    go_wp2
    go_ret
    exact ⟨rfl, rfl⟩

def FdRel (s : ByteArray) (w : World) (v p i : Value) (wr : World) : Prop :=
  ∃ (k : Nat) (acc : List (List UInt8)) (cur : List UInt8), k ≤ s.size ∧ i = .int .i64 k ∧ p = .string ⟨cur.toArray⟩ ∧ wr.ownsRow w.heap.size 9 1 v acc.length (strs acc) ∧ Below w.heap.size w wr ∧ Hid (acc ++ flds cur (s.data.toList.drop k) = flds [] s.data.toList) ∧ acc.length ≤ k ∧ cur.length ≤ k

theorem isEmpty_bytes (l : List UInt8) : (⟨l.toArray⟩ : ByteArray).toList = l := by rw [Lib.toList_data]

end T
end Go.Proofs.YtlnginciehjlnaaGreatDoor

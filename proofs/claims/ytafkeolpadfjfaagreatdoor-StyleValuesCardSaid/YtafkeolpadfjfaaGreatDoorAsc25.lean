/- What utf8.ValidString and text.Repair come to at a short string of ASCII: no table is read. -/
import Derived.Test.YtafkeolpadfjfaaGreatDoorValid
import Derived.Test.YtafkeolpadfjfaaGreatDoorUtfMore
import Derived.Test.YtafkeolpadfjfaaGreatDoorHeap
import Derived.Shelf.Unicode.WordAny
import Derived.Lib.ValidAsc
import Derived.Laws.BitsAllLaws
import Derived.Deep.LoopGhost
import Derived.Deep.DeepMust
import Derived.Deep.DeepBigQuietO
set_option linter.unusedVariables false
set_option linter.unusedSimpArgs false
namespace Go.Proofs.YtafkeolpadfjfaaGreatDoor
open Go.RowKit
namespace Y
open H

/-- All bytes lie below 128. -/
def AscAll (t : ByteArray) : Prop := ∀ b ∈ t.data.toList, b.toNat < 128
theorem AscAll.drop {t : ByteArray} (h : AscAll t) (k : Nat) : AscAll (t.extract k t.size) := fun b hb => by
  rw [Lib.ext_list] at hb
  exact h b (List.mem_of_mem_drop hb)
theorem AscAll.head {t : ByteArray} (h : AscAll t) (h0 : 0 < t.size) : (t.get! 0).toNat < 128 := by
  rw [Utf8W.get!_of_lt t 0 h0]
  exact h _ (by simp [ByteArray.getElem_eq_getElem_data])
/-- Eight bytes as a word: none has its high bit. -/
theorem ascWord (t : ByteArray) (h8 : 8 ≤ t.size) (h : AscAll t) : ∃ A : Nat, A < 18446744073709551616 ∧ A &&& 9259542123273814144 = 0 ∧
    ∀ W, Calls Tryz.prog 144 #[.string t] W fun e w' => e = .returned (.int .u64 A) ∧ ∃ q, w' = W.drewN q :=
  ⟨_, Lib.word_lt t, (Lib.word_asc t h8).2 (fun b hb => h b (List.mem_of_mem_take hb)), fun W => Any.utf8_word { Tryz.lays196 with } t W h8⟩
theorem belowN {B : Nat} {a w : World} (h : Below B a w) : ∀ q, Below B a (w.drewN q)
  | 0 => h
  | q + 1 => (belowN h q).drew

set_option maxHeartbeats 16000000 in
set_option maxRecDepth 1000000 in
theorem ascShort (s : ByteArray) (w : World) (hs : s.size ≤ 25) (hA : AscAll s) :
    Calls Tryz.prog 107 #[.string s] w fun e w' => e = .returned (.bool true) ∧ Below w.heap.size w w' := by
  have mixed : Tryz.prog.follows Departure.mixedOrders = true := by kernel_rfl
  go_enter Tryz.func107, Tryz.ntmps107
  go_wp2_with fail
  go_loopg [0] (s.size + 1) (fun gk s0 wx => Below w.heap.size w wx ∧ ∃ t : ByteArray, s0 = .string t ∧ AscAll t ∧ t.size < gk ∧ t.size ≤ 25)
  case atStart => exact ⟨Below.refl _ _, s, rfl, hA, by omega, hs⟩
  case round =>
    obtain ⟨hbw, t, rfl, hv, hg, hts⟩ := hrel
    clear hA
    by_cases h0 : 0 < t.size
    · obtain ⟨g', rfl⟩ : ∃ g', gk = g' + 1 := ⟨gk - 1, by omega⟩
      have h0z : (0 : Int) < (t.size : Int) := by omega
      have hasc := hv.head h0
      obtain ⟨x0, hx0⟩ : ∃ x0, t.get! 0 = x0 := ⟨_, rfl⟩
      have hs0 : t[0]'(by omega) = x0 := by rw [← hx0]; exact (Utf8W.get!_of_lt t 0 (by omega)).symm
      rw [hx0] at hasc
      have hascz : (x0.toNat : Int) < 128 := by omega
      have v1 := hv.drop 1
      obtain ⟨t1, ht1⟩ : ∃ t1, t.extract 1 t.size = t1 := ⟨_, rfl⟩
      have z1 : t1.size + 1 = t.size := by rw [← ht1, Lib.ext_size]; omega
      rw [ht1] at v1
      clear hv hasc
      by_cases c8 : 8 < t1.size
      · have c8z : (8 : Int) < (t1.size : Int) := by omega
        obtain ⟨A1, lA1, mA1, cW1⟩ := ascWord t1 (by omega) v1
        obtain ⟨Z1, hZ1⟩ : ∃ Z1 : Nat, Z1 = 0 := ⟨0, rfl⟩
        have hz1b : ((Z1 : Int) == 0) = true := by rw [hZ1]; rfl
        have hand1 : bits .and .u64 (A1 : Int) 9259542123273814144 = (Z1 : Int) := by rw [hZ1]; exact (u64_and_nat A1 9259542123273814144 lA1 (by omega)).trans (congrArg Int.ofNat mA1)
        have v2 := v1.drop 8
        obtain ⟨t2, ht2⟩ : ∃ t2, t1.extract 8 t1.size = t2 := ⟨_, rfl⟩
        have z2 : t2.size + 8 = t1.size := by rw [← ht2, Lib.ext_size]; omega
        rw [ht2] at v2
        clear v1 mA1 lA1
        go_wp2_with (go_at_call 144; refine (cW1 _).mono ?_; rintro e W1 ⟨rfl, q1, rfl⟩)
        have hb1 : Below w.heap.size w (wr.drewN q1) := belowN hbw q1
        generalize wr.drewN q1 = wq at hb1 ⊢
        clear cW1 hbw
        have c16z : ¬ ((16 : Int) < (t2.size : Int)) := by omega
        have c16b : decide ((16 : Int) < (t2.size : Int)) = false := decide_eq_false c16z
        go_big_quiet_o (fail)
        go_wp2_with fail
        go_roundg g'
        case measure => omega
        case rel => exact ⟨belowN hb1 nq, t2, rfl, v2, by omega, by omega⟩
      · have c8z : ¬ ((8 : Int) < (t1.size : Int)) := by omega
        go_wp2_with fail
        go_roundg g'
        case measure => omega
        case rel => exact ⟨hbw, t1, rfl, v1, by omega, by omega⟩
    · have h0z : ¬ (0 : Int) < (t.size : Int) := by omega
      go_wp2_with fail
      go_ret
      exact ⟨rfl, hbw⟩

set_option maxHeartbeats 400000 in
theorem ascRepair25 (s : List UInt8) (w : World) (hs : s.length ≤ 25) (hA : ∀ b ∈ s, b.toNat < 128) :
    Calls Tryz.prog 65 #[.string ⟨s.toArray⟩] w fun e w' => e = .returned (.string ⟨s.toArray⟩) ∧ Below w.heap.size w w' := by
  have hv := Lib.hid (ascShort ⟨s.toArray⟩ w (by rw [bytes_size]; omega) (fun b hb => hA b (by rw [bytes_toList] at hb; exact hb)))
  go_enter Tryz.func65, Tryz.ntmps65
  go_wp2_with (go_at_call 107; refine hv.out.mono ?_)
  rintro e w1 ⟨rfl, b1⟩
  go_wp2_with fail
  go_ret
  exact ⟨rfl, b1⟩

end Y
end Go.Proofs.YtafkeolpadfjfaaGreatDoor

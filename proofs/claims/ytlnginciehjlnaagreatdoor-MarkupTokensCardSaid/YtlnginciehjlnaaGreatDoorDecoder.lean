/- What the two methods of text.Decoder come to, where Go's two tables of package utf8 lie as their texts lay them. -/
import Derived.Test.YtlnginciehjlnaaGreatDoorFull
import Derived.Test.YtlnginciehjlnaaGreatDoorJoin
import Derived.OneCell
set_option linter.unusedVariables false
set_option linter.unusedSimpArgs false
namespace Go.Proofs.YtlnginciehjlnaaGreatDoor
open Go.RowKit
namespace T

theorem Tabs.belowA {w w' : World} {a : Nat} (h : Tabs w) (ha : 2 ≤ a) (b : Below a w w') : Tabs w' := by
  have hz := h.2
  refine ⟨⟨fun c hc => ?_, fun i hi => ⟨?_, ?_⟩⟩, Nat.le_trans hz b.size⟩
  · rw [b.cell (p := ⟨0, c, none⟩) (by show (0 : Nat) < _; omega)]; exact h.1.1 c hc
  · rw [b.cell (p := ⟨1, 2 * i, none⟩) (by show (1 : Nat) < _; omega)]; exact (h.1.2 i hi).1
  · rw [b.cell (p := ⟨1, 2 * i + 1, none⟩) (by show (1 : Nat) < _; omega)]; exact (h.1.2 i hi).2

/-- The decoder at block a holds the rest r. -/
def IsDec (a : Nat) (r : List UInt8) (w : World) : Prop := w.heap[a]? = some (.cells #[.string ⟨r.toArray⟩] 44 (0, 0))

def FeedPost (a : Nat) (t : List UInt8) (w : World) (e : Ending) (w' : World) : Prop :=
  e = .returned (.string ⟨(U.rep (t.take (U.fcut t))).toArray⟩) ∧ IsDec a (t.drop (U.fcut t)) w' ∧ Below a w w'

def FeedRel (t : List UInt8) (w : World) (v u : Value) (wr : World) : Prop := ∃ k : Nat, v = .int .i64 t.length ∧ u = .int .i64 k ∧ k ≤ t.length ∧ Hid (U.fend k t = U.fcut t) ∧ Below w.heap.size w wr

theorem FullAt (t : List UInt8) (k : Nat) (b : Bool) (w : World) (hz : t.length ≤ 3000) (hk : k ≤ t.length) (hT : Tabs w) (hb : U.full (t.drop k) = b) :
    Calls Tryz.prog 61 #[.string ((⟨t.toArray⟩ : ByteArray).extract k t.length)] w fun e w' => e = .returned (.bool b) ∧ Below w.heap.size w w' := by
  rw [slice_str t k t.length hk (Nat.le_refl _), List.take_of_length_le (by rw [List.length_drop]; omega)]
  have := FullRune ⟨(t.drop k).toArray⟩ w (by rw [bytes_size, List.length_drop]; omega) hT
  rw [bytes_toList, hb] at this
  exact this

theorem RepairAt (t : List UInt8) (k : Nat) (w : World) (hz : t.length ≤ 3000) (hk : k ≤ t.length) (hT : Tabs w) :
    Calls Tryz.prog 62 #[.string ((⟨t.toArray⟩ : ByteArray).extract 0 k)] w fun e w' => e = .returned (.string ⟨(U.rep (t.take k)).toArray⟩) ∧ Below w.heap.size w w' := by
  rw [slice_str t 0 k (Nat.zero_le _) hk, List.drop_zero, Nat.sub_zero]
  have := Repair ⟨(t.take k).toArray⟩ w (by rw [bytes_size, List.length_take]; omega) hT
  rw [bytes_toList] at this
  exact this

set_option maxHeartbeats 1000000 in
set_option maxRecDepth 100000 in
theorem Feed (a : Nat) (r s : List UInt8) (w : World) (hz : r.length + s.length ≤ 3000) (hT : Tabs w) (ha : 2 ≤ a) (hd : IsDec a r w) :
    Calls Tryz.prog 43 #[.pointer (some ⟨a, 0, none⟩), .string ⟨s.toArray⟩] w (FeedPost a (r ++ s) w) := by
  have hcell := cell_of_one hd
  have hal := lt_of_block hd
  have hab := append_bytes r s
  have zr := bytes_size r
  have zs := bytes_size s
  have zt : (r ++ s).length ≤ 3000 := by rw [List.length_append]; omega
  generalize r ++ s = t at *
  have HT := Lib.hid hT
  have HD := Lib.hid hd
  clear hT hd
  go_enter Tryz.func43, Tryz.ntmps43
  go_wp2_with fail
  clear hcell hab zr zs hz
  go_loopw [5, 6] (fun v u wr => FeedRel t w v u wr) (fun _ u _ => t.length - (intOf u).toNat)
  case atStart => exact ⟨t.length - 3, rfl, by congr 1; omega, by omega, Lib.hid rfl, Below.refl _ _⟩
  case round =>
    obtain ⟨k, rfl, rfl, hk, HF, hb⟩ := hrel
    have HT1 := Lib.hid (HT.out.below hb)
    have hd1 : IsDec a r wr := (hb.block a hal).trans HD.out
    have hfree := free_of_one hd1
    have hcell1 := cell_of_one hd1
    have hal1 := lt_of_block hd1
    have HD1 := Lib.hid hd1
    clear hd1
    by_cases hlt : k < t.length
    · cases hf : U.full (t.drop k) with
      | true =>
        have HFU := Lib.hid hf
        clear hf
        go_wp2_with fail
        refine (FullAt t k true wr zt hk HT1.out HFU.out).mono ?_
        rintro e w1 ⟨rfl, b1⟩
        go_wp2_with fail
        go_roundw
        case rel => exact ⟨k + 1, rfl, by go_num, by omega, Lib.hid ((U.fend_full t k hlt HFU.out).symm.trans HF.out), hb.trans (b1.mono hb.size)⟩
        case measure => simp [intOf]; omega
      | false =>
        have HFU := Lib.hid hf
        clear hf
        go_wp2_with fail
        refine (FullAt t k false wr zt hk HT1.out HFU.out).mono ?_
        rintro e w1 ⟨rfl, b1⟩
        have hd2 : IsDec a r w1 := (b1.block a hal1).trans HD1.out
        have hfree2 := free_of_one hd2
        have hcell2 := cell_of_one hd2
        have HD2 := Lib.hid hd2
        clear hd2
        have hT2 := HT1.out.below b1
        have hT3 := Lib.hid (hT2.belowA ha (((Below.refl a w1)).setCell (p := ⟨a, 0, none⟩) (Nat.le_refl _) (.string ((⟨t.toArray⟩ : ByteArray).extract k t.length))))
        clear hT2
        go_wp2_with fail
        refine (RepairAt t k _ zt hk hT3.out).mono ?_
        rintro e w2 ⟨rfl, b2⟩
        go_wp2_with fail
        go_ret
        have hE : U.fcut t = k := HF.out.symm.trans (U.fend_stop t k hlt HFU.out)
        have hal2 := lt_of_block HD2.out
        refine ⟨by rw [hE]; rfl, ?_, ?_⟩
        · have h3 : IsDec a (t.drop k) (w1.setCell ⟨a, 0, none⟩ (.string ((⟨t.toArray⟩ : ByteArray).extract k t.length))) := by
            have := one_setCell (u := .string ((⟨t.toArray⟩ : ByteArray).extract k t.length)) HD2.out
            rw [slice_str t k t.length hk (Nat.le_refl _), List.take_of_length_le (by rw [List.length_drop]; omega)] at this ⊢
            exact this
          rw [hE]
          exact (b2.block a (by simpa [World.setCell] using hal2)).trans h3
        · have h4 : Below a w1 (w1.setCell ⟨a, 0, none⟩ (.string ((⟨t.toArray⟩ : ByteArray).extract k t.length))) := ((Below.refl a w1)).setCell (p := ⟨a, 0, none⟩) (Nat.le_refl _) _
          exact ((hb.mono (by omega)).trans (b1.mono (by omega))).trans (h4.trans (b2.mono (by have := h4.size; omega)))
    · obtain rfl : k = t.length := by omega
      have hT3 := Lib.hid (HT1.out.belowA ha (((Below.refl a wr)).setCell (p := ⟨a, 0, none⟩) (Nat.le_refl _) (.string ByteArray.empty)))
      go_wp2_with fail
      refine (RepairAt t t.length _ zt hk hT3.out).mono ?_
      rintro e w2 ⟨rfl, b2⟩
      go_wp2_with fail
      go_ret
      have hE : U.fcut t = t.length := HF.out.symm.trans (U.fend_end t t.length (Nat.le_refl _))
      refine ⟨by rw [hE, List.take_length]; rfl, ?_, ?_⟩
      · have h3 : IsDec a (t.drop t.length) (wr.setCell ⟨a, 0, none⟩ (.string ByteArray.empty)) := by
          rw [List.drop_length]
          exact one_setCell HD1.out
        rw [hE]
        exact (b2.block a (by simpa [World.setCell] using hal1)).trans h3
      · have h4 : Below a wr (wr.setCell ⟨a, 0, none⟩ (.string ByteArray.empty)) := ((Below.refl a wr)).setCell (p := ⟨a, 0, none⟩) (Nat.le_refl _) _
        exact (hb.mono (by omega)).trans (h4.trans (b2.mono (by have := h4.size; omega)))

def EndPost (a : Nat) (r : List UInt8) (w : World) (e : Ending) (w' : World) : Prop :=
  e = .returned (.string ⟨(U.rep r).toArray⟩) ∧ IsDec a [] w' ∧ Below a w w'

set_option maxHeartbeats 1000000 in
theorem End (a : Nat) (r : List UInt8) (w : World) (hz : r.length ≤ 3000) (hT : Tabs w) (ha : 2 ≤ a) (hd : IsDec a r w) :
    Calls Tryz.prog 45 #[.pointer (some ⟨a, 0, none⟩)] w (EndPost a r w) := by
  have hcell := cell_of_one hd
  have hal := lt_of_block hd
  have HT := Lib.hid hT
  have HD := Lib.hid hd
  clear hT hd
  have q := Repair ⟨r.toArray⟩ w (by rw [bytes_size]; omega) HT.out
  rw [bytes_toList] at q
  have Q := Lib.hid q
  clear q
  go_enter Tryz.func45, Tryz.ntmps45
  go_wp2_with fail
  refine Q.out.mono ?_
  rintro e w1 ⟨rfl, b1⟩
  have hd2 : IsDec a r w1 := (b1.block a hal).trans HD.out
  have hfree2 := free_of_one hd2
  have hcell2 := cell_of_one hd2
  have HD2 := Lib.hid hd2
  clear hd2
  go_wp2_with fail
  go_ret
  refine ⟨rfl, ?_, ?_⟩
  · exact one_setCell HD2.out
  · exact Below.setCell (B := a) (b1.mono (Nat.le_of_lt hal)) (p := ⟨a, 0, none⟩) (Nat.le_refl _) _

end T
end Go.Proofs.YtlnginciehjlnaaGreatDoor

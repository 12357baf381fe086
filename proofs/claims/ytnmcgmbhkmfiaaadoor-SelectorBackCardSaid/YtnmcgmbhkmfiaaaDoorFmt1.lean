/- The text of selectors: values, steps. -/
import Derived.Test.YtnmcgmbhkmfiaaaDoorFmtSpec
import Derived.Test.YtnmcgmbhkmfiaaaDoorSel19
import Derived.Lib.IndexLaws
import Derived.Lib.ItoaLen
set_option linter.unusedVariables false
set_option linter.unusedSimpArgs false
namespace Go.Proofs.YtnmcgmbhkmfiaaaDoor
open Go.RowKit Go.Sort
namespace K
open H

theorem ret_str {a b : ByteArray} (h : a = b) : Ending.returned (.string a) = .returned (.string b) := by rw [h]

/-- What writing asks of the world. -/
structure FEnv (w : World) : Prop where
  env : Env w
  tab : Lib.TabIs Tryd.prog w "internal/strconv.uint64pow10" .u64 Lib.pow10Tab
  big : top ≤ w.heap.size

theorem FEnv.below {w w' : World} (h : FEnv w) (b : Below w.heap.size w w') : FEnv w' := by
  have hz := h.big
  refine ⟨h.env.but (b := w.heap.size) ⟨b.os, b.tape, b.output, b.size, fun k hk _ => b.block k hk⟩ hz, ?_, Nat.le_trans hz b.size⟩
  have ht := h.tab
  unfold Lib.TabIs World.var? at *
  cases hg : Tryd.prog.globalNamed "internal/strconv.uint64pow10" with
  | none => simp [hg] at ht
  | some g =>
    simp only [hg, Option.bind_some] at ht ⊢
    have hlt : g < w.heap.size := by
      rcases Nat.lt_or_ge g w.heap.size with h' | h'
      · exact h'
      · rw [Array.getElem?_eq_none h'] at ht; simp at ht
    rw [b.block g hlt]
    exact ht

theorem below_grow (w : World) (q : Nat) (os : Array Obj) : Below w.heap.size w (grow (w.drewN q) os) := by
  refine ⟨rfl, rfl, rfl, by simp [grow], fun i hi => ?_⟩
  show ((w.drewN q).heap ++ os)[i]? = _
  rw [Array.getElem?_append_left (by show i < w.heap.size; omega)]
  rfl

theorem itoa (n : Int) (h0 : -9223372036854775808 ≤ n) (h1 : n ≤ 9223372036854775807) (w : World) (hE : FEnv w) :
    Calls Tryd.prog 52 #[.int .i64 n] w fun e w' => e = .returned (.string ⟨(Lib.itoa n).toArray⟩) ∧ Below w.heap.size w w' := by
  refine (Tryd.strconv_Itoa n h0 h1 w hE.tab).mono ?_
  rintro e w' ⟨rfl, k, os, rfl⟩
  exact ⟨rfl, below_grow _ _ _⟩

theorem mem_index (v : List UInt8) (c : UInt8) : decide (0 ≤ Lib.indexByte v c) = decide (c ∈ v) := by
  rw [Bool.eq_iff_iff]
  simp only [decide_eq_true_eq]
  constructor
  · intro h
    obtain ⟨o, ho⟩ : ∃ o : Nat, Lib.indexByte v c = o := ⟨(Lib.indexByte v c).toNat, by omega⟩
    exact List.mem_of_getElem? (Lib.indexByte_some ho).1
  · intro h
    by_cases h' : Lib.indexByte v c < 0
    · have h2 := Lib.indexByte_ge v c
      obtain ⟨k, hk⟩ := List.getElem?_of_mem h
      exact absurd hk (Lib.indexByte_none (by omega) k)
    · omega

set_option maxHeartbeats 400000 in
theorem quoted (v : List UInt8) (w : World) (hv : v.length ≤ 1000000000) :
    Calls Tryd.prog 40 #[.string ⟨v.toArray⟩] w fun e w' => e = .returned (.string ⟨(L.quoted v).toArray⟩) ∧ w = w' := by
  have Q : Hid (∀ W, Calls Tryd.prog 51 #[.string ⟨v.toArray⟩, .string ⟨#[34]⟩] W fun e w' => e = .returned (.bool (decide ((34 : UInt8) ∈ v))) ∧ w' = W) := Lib.hid (fun W => by
    have := Tryd.strings_Contains_one ⟨v.toArray⟩ 34 W
    rw [bytes_toList, mem_index] at this
    exact this)
  have zs := bytes_size v
  have HQ := Lib.hid (L.quoted.eq_1 v)
  generalize L.quoted v = q at *
  go_enter Tryd.func40, Tryd.ntmps40
  go_wp2_with fail
  refine (Q.out _).mono ?_
  rintro e w2 ⟨rfl, rfl⟩
  by_cases hm : (34 : UInt8) ∈ v
  · have HV : Hid (q = 39 :: (v ++ [39])) := Lib.hid (by rw [HQ.out, if_pos hm])
    have hd : decide ((34 : UInt8) ∈ v) = true := decide_eq_true hm
    clear HQ Q
    rw [hd]
    clear hd hm
    go_wp2_with fail
    go_ret
    exact ⟨ret_str (by rw [HV.out]; apply ByteArray.ext; simp [ByteArray.data_append]), rfl⟩
  · have HV : Hid (q = 34 :: (v ++ [34])) := Lib.hid (by rw [HQ.out, if_neg hm])
    have hd : decide ((34 : UInt8) ∈ v) = false := decide_eq_false hm
    clear HQ Q
    rw [hd]
    clear hd hm
    go_wp2_with fail
    go_ret
    exact ⟨ret_str (by rw [HV.out]; apply ByteArray.ext; simp [ByteArray.data_append]), rfl⟩

set_option maxHeartbeats 2000000 in
set_option maxRecDepth 100000 in
theorem step (a b : Int) (w : World) (ha : -1000000 ≤ a) (ha2 : a ≤ 1000000) (hb : -1000000 ≤ b) (hb2 : b ≤ 1000000) (hE : FEnv w) :
    Calls Tryd.prog 41 #[.int .i64 a, .int .i64 b] w fun e w' => e = .returned (.string ⟨(L.stepOf a b).toArray⟩) ∧ Below w.heap.size w w' := by
  have HE := Lib.hid hE
  have HV := Lib.hid (L.stepOf.eq_1 a b)
  have HI := Lib.hid (fun (n : Int) (h0 : -1000000 ≤ n) (h1 : n ≤ 1000000) (W : World) (h : FEnv W) => itoa n (by omega) (by omega) W h)
  have HA : Hid (-1000000 ≤ a ∧ a ≤ 1000000) := Lib.hid ⟨ha, ha2⟩
  have HB : Hid (-1000000 ≤ b ∧ b ≤ 1000000) := Lib.hid ⟨hb, hb2⟩
  generalize L.stepOf a b = q at *
  have lA := Lib.itoa_length_le a (by omega) (by omega)
  have lB := Lib.itoa_length_le b (by omega) (by omega)
  clear hE
  go_enter Tryd.func41, Tryd.ntmps41
  by_cases h0 : a = 0
  · subst h0
    have HQ : Hid (q = Lib.itoa b) := Lib.hid (by rw [HV.out, if_pos rfl])
    clear HV
    go_wp2_with fail
    refine (HI.out b hb hb2 _ HE.out).mono ?_
    rintro e w2 ⟨rfl, hb2'⟩
    go_wp2_with fail
    go_ret
    exact ⟨ret_str (by rw [HQ.out]), hb2'⟩
  · have e0 : (a == 0) = false := by simpa using h0
    have HQ : Hid (q = L.ahead a ++ (110 :: L.behind b)) := Lib.hid (by rw [HV.out, if_neg h0])
    clear HV
    have HBh : Hid ((b = 0 → L.behind b = []) ∧ (0 < b → L.behind b = 43 :: Lib.itoa b) ∧ (b < 0 → L.behind b = Lib.itoa b)) := Lib.hid (by
      unfold L.behind
      refine ⟨fun h => by rw [if_neg (by omega), if_pos h]; rfl, fun h => by rw [if_pos h, if_neg (by omega)]; rfl, fun h => by rw [if_neg (by omega), if_neg (by omega)]; rfl⟩)
    by_cases h1 : a = 1
    case' pos =>
      have HAh : Hid (L.ahead a = []) := Lib.hid (by unfold L.ahead; rw [if_pos h1])
      subst h1
      generalize L.ahead 1 = AH at *
      generalize L.behind b = BH at *
      clear e0 h0
      have HW := Lib.hid (Below.refl w.heap.size w)
    case' neg =>
      have e1 : (a == 1) = false := by simpa using h1
      by_cases h2 : a = -1
      case' pos =>
        have HAh : Hid (L.ahead a = [45]) := Lib.hid (by unfold L.ahead; rw [if_neg h1, if_pos h2])
        subst h2
        generalize L.ahead (-1) = AH at *
        generalize L.behind b = BH at *
        clear e0 h0 e1 h1
        have HW := Lib.hid (Below.refl w.heap.size w)
      case' neg =>
        have e2 : (a == -1) = false := by simpa using h2
        have HAh : Hid (L.ahead a = Lib.itoa a) := Lib.hid (by unfold L.ahead; rw [if_neg h1, if_neg h2])
        generalize L.ahead a = AH at *
        generalize L.behind b = BH at *
        go_wp2_with fail
        refine (HI.out a ha ha2 _ HE.out).mono ?_
        rintro e w2 ⟨rfl, hbA⟩
        have HE2 := Lib.hid (HE.out.below hbA)
        clear HE
        have HE := HE2
        have HW := Lib.hid hbA
        clear HE2 h0 h1 h2 hbA
    all_goals
      rcases (by omega : b = 0 ∨ 0 < b ∨ b < 0) with hb0 | hb0 | hb0
      · subst hb0
        have HB0 := Lib.hid (HBh.out.1 rfl)
        clear HBh HI HB
        go_wp2_with fail
        go_ret
        exact ⟨ret_str (by rw [HQ.out, HAh.out, HB0.out]; apply ByteArray.ext; simp [ByteArray.data_append]), HW.out⟩
      · have d1 : decide (0 < b) = true := decide_eq_true hb0
        have d2 : (b == 0) = false := by rw [beq_eq_false_iff_ne]; omega
        have d3 : (b != 0) = true := by simp [bne, d2]
        have d4 : ¬ b = 0 := by omega
        have HB0 := Lib.hid (HBh.out.2.1 hb0)
        clear HBh
        go_wp2_with fail
        refine (HI.out b hb hb2 _ HE.out).mono ?_
        rintro e w9 ⟨rfl, hb9⟩
        go_wp2_with fail
        go_ret
        exact ⟨ret_str (by rw [HQ.out, HAh.out, HB0.out]; apply ByteArray.ext; simp [ByteArray.data_append]), HW.out.trans (hb9.mono HW.out.size)⟩
      · have d1 : decide (0 < b) = false := decide_eq_false (by omega)
        have d2 : (b == 0) = false := by rw [beq_eq_false_iff_ne]; omega
        have d3 : (b != 0) = true := by simp [bne, d2]
        have d4 : ¬ b = 0 := by omega
        have HB0 := Lib.hid (HBh.out.2.2 hb0)
        clear HBh
        go_wp2_with fail
        refine (HI.out b hb hb2 _ HE.out).mono ?_
        rintro e w9 ⟨rfl, hb9⟩
        go_wp2_with fail
        go_ret
        exact ⟨ret_str (by rw [HQ.out, HAh.out, HB0.out]; apply ByteArray.ext; simp [ByteArray.data_append]), HW.out.trans (hb9.mono HW.out.size)⟩

end K
end Go.Proofs.YtnmcgmbhkmfiaaaDoor

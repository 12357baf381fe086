/- The text of selectors: values, steps. The text of a test, given that of the part within. The text of a part. The text of a part, whatever its tests. -/
import Derived.Test.YtnmcgmbhkmfiaaaGreatDoorVcut
import Derived.Test.YtnmcgmbhkmfiaaaGreatDoorSel19
import Derived.Lib.IndexLaws
import Derived.Lib.ItoaLen
import Derived.Lib.Join
set_option linter.unusedVariables false
set_option linter.unusedSimpArgs false
namespace Go.Proofs.YtnmcgmbhkmfiaaaGreatDoor
open Go.RowKit Go.Sort
namespace K
open H

theorem ret_str {a b : ByteArray} (h : a = b) : Ending.returned (.string a) = .returned (.string b) := by rw [h]

/-- What writing asks of the world. -/
structure FEnv (w : World) : Prop where
  env : Env w
  tab : Lib.TabIs Tryz.prog w "internal/strconv.uint64pow10" .u64 Lib.pow10Tab
  big : top ≤ w.heap.size

theorem FEnv.below {w w' : World} (h : FEnv w) (b : Below w.heap.size w w') : FEnv w' := by
  have hz := h.big
  refine ⟨h.env.but (b := w.heap.size) ⟨b.os, b.tape, b.output, b.size, fun k hk _ => b.block k hk⟩ hz, ?_, Nat.le_trans hz b.size⟩
  have ht := h.tab
  unfold Lib.TabIs World.var? at *
  cases hg : Tryz.prog.globalNamed "internal/strconv.uint64pow10" with
  | none => simp [hg] at ht
  | some g =>
    simp only [hg, Option.bind_some] at ht ⊢
    have hlt : g < w.heap.size := by
      rcases Nat.lt_or_ge g w.heap.size with h' | h'
      · exact h'
      · rw [Array.getElem?_eq_none h'] at ht; simp at ht
    rw [b.block g hlt]
    exact ht

theorem below_grow (w : World) (q : Nat) (os : Array Obj) : Below w.heap.size w (grow (w.drewN q) os) := by
  refine ⟨rfl, rfl, rfl, by simp [grow], fun i hi => ?_⟩
  show ((w.drewN q).heap ++ os)[i]? = _
  rw [Array.getElem?_append_left (by show i < w.heap.size; omega)]
  rfl

theorem itoa (n : Int) (h0 : -9223372036854775808 ≤ n) (h1 : n ≤ 9223372036854775807) (w : World) (hE : FEnv w) :
    Calls Tryz.prog 76 #[.int .i64 n] w fun e w' => e = .returned (.string ⟨(Lib.itoa n).toArray⟩) ∧ Below w.heap.size w w' := by
  refine (Tryz.strconv_Itoa n h0 h1 w hE.tab).mono ?_
  rintro e w' ⟨rfl, k, os, rfl⟩
  exact ⟨rfl, below_grow _ _ _⟩

theorem mem_index (v : List UInt8) (c : UInt8) : decide (0 ≤ Lib.indexByte v c) = decide (c ∈ v) := by
  rw [Bool.eq_iff_iff]
  simp only [decide_eq_true_eq]
  constructor
  · intro h
    obtain ⟨o, ho⟩ : ∃ o : Nat, Lib.indexByte v c = o := ⟨(Lib.indexByte v c).toNat, by omega⟩
    exact List.mem_of_getElem? (Lib.indexByte_some ho).1
  · intro h
    by_cases h' : Lib.indexByte v c < 0
    · have h2 := Lib.indexByte_ge v c
      obtain ⟨k, hk⟩ := List.getElem?_of_mem h
      exact absurd hk (Lib.indexByte_none (by omega) k)
    · omega

set_option maxHeartbeats 400000 in
theorem quoted (v : List UInt8) (w : World) (hv : v.length ≤ 1000000000) :
    Calls Tryz.prog 58 #[.string ⟨v.toArray⟩] w fun e w' => e = .returned (.string ⟨(L.quoted v).toArray⟩) ∧ w = w' := by
  have Q : Hid (∀ W, Calls Tryz.prog 75 #[.string ⟨v.toArray⟩, .string ⟨#[34]⟩] W fun e w' => e = .returned (.bool (decide ((34 : UInt8) ∈ v))) ∧ w' = W) := Lib.hid (fun W => by
    have := Tryz.strings_Contains_one ⟨v.toArray⟩ 34 W
    rw [bytes_toList, mem_index] at this
    exact this)
  have zs := bytes_size v
  have HQ := Lib.hid (L.quoted.eq_1 v)
  generalize L.quoted v = q at *
  go_enter Tryz.func58, Tryz.ntmps58
  go_wp2_with fail
  refine (Q.out _).mono ?_
  rintro e w2 ⟨rfl, rfl⟩
  by_cases hm : (34 : UInt8) ∈ v
  · have HV : Hid (q = 39 :: (v ++ [39])) := Lib.hid (by rw [HQ.out, if_pos hm])
    have hd : decide ((34 : UInt8) ∈ v) = true := decide_eq_true hm
    clear HQ Q
    rw [hd]
    clear hd hm
    go_wp2_with fail
    go_ret
    exact ⟨ret_str (by rw [HV.out]; apply ByteArray.ext; simp [ByteArray.data_append]), rfl⟩
  · have HV : Hid (q = 34 :: (v ++ [34])) := Lib.hid (by rw [HQ.out, if_neg hm])
    have hd : decide ((34 : UInt8) ∈ v) = false := decide_eq_false hm
    clear HQ Q
    rw [hd]
    clear hd hm
    go_wp2_with fail
    go_ret
    exact ⟨ret_str (by rw [HV.out]; apply ByteArray.ext; simp [ByteArray.data_append]), rfl⟩

set_option maxHeartbeats 2000000 in
set_option maxRecDepth 100000 in
theorem step (a b : Int) (w : World) (ha : -1000000 ≤ a) (ha2 : a ≤ 1000000) (hb : -1000000 ≤ b) (hb2 : b ≤ 1000000) (hE : FEnv w) :
    Calls Tryz.prog 59 #[.int .i64 a, .int .i64 b] w fun e w' => e = .returned (.string ⟨(L.stepOf a b).toArray⟩) ∧ Below w.heap.size w w' := by
  have HE := Lib.hid hE
  have HV := Lib.hid (L.stepOf.eq_1 a b)
  have HI := Lib.hid (fun (n : Int) (h0 : -1000000 ≤ n) (h1 : n ≤ 1000000) (W : World) (h : FEnv W) => itoa n (by omega) (by omega) W h)
  have HA : Hid (-1000000 ≤ a ∧ a ≤ 1000000) := Lib.hid ⟨ha, ha2⟩
  have HB : Hid (-1000000 ≤ b ∧ b ≤ 1000000) := Lib.hid ⟨hb, hb2⟩
  generalize L.stepOf a b = q at *
  have lA := Lib.itoa_length_le a (by omega) (by omega)
  have lB := Lib.itoa_length_le b (by omega) (by omega)
  clear hE
  go_enter Tryz.func59, Tryz.ntmps59
  by_cases h0 : a = 0
  · subst h0
    have HQ : Hid (q = Lib.itoa b) := Lib.hid (by rw [HV.out, if_pos rfl])
    clear HV
    go_wp2_with fail
    refine (HI.out b hb hb2 _ HE.out).mono ?_
    rintro e w2 ⟨rfl, hb2'⟩
    go_wp2_with fail
    go_ret
    exact ⟨ret_str (by rw [HQ.out]), hb2'⟩
  · have e0 : (a == 0) = false := by simpa using h0
    have HQ : Hid (q = L.ahead a ++ (110 :: L.behind b)) := Lib.hid (by rw [HV.out, if_neg h0])
    clear HV
    have HBh : Hid ((b = 0 → L.behind b = []) ∧ (0 < b → L.behind b = 43 :: Lib.itoa b) ∧ (b < 0 → L.behind b = Lib.itoa b)) := Lib.hid (by
      unfold L.behind
      refine ⟨fun h => by rw [if_neg (by omega), if_pos h]; rfl, fun h => by rw [if_pos h, if_neg (by omega)]; rfl, fun h => by rw [if_neg (by omega), if_neg (by omega)]; rfl⟩)
    by_cases h1 : a = 1
    case' pos =>
      have HAh : Hid (L.ahead a = []) := Lib.hid (by unfold L.ahead; rw [if_pos h1])
      subst h1
      generalize L.ahead 1 = AH at *
      generalize L.behind b = BH at *
      clear e0 h0
      have HW := Lib.hid (Below.refl w.heap.size w)
    case' neg =>
      have e1 : (a == 1) = false := by simpa using h1
      by_cases h2 : a = -1
      case' pos =>
        have HAh : Hid (L.ahead a = [45]) := Lib.hid (by unfold L.ahead; rw [if_neg h1, if_pos h2])
        subst h2
        generalize L.ahead (-1) = AH at *
        generalize L.behind b = BH at *
        clear e0 h0 e1 h1
        have HW := Lib.hid (Below.refl w.heap.size w)
      case' neg =>
        have e2 : (a == -1) = false := by simpa using h2
        have HAh : Hid (L.ahead a = Lib.itoa a) := Lib.hid (by unfold L.ahead; rw [if_neg h1, if_neg h2])
        generalize L.ahead a = AH at *
        generalize L.behind b = BH at *
        go_wp2_with fail
        refine (HI.out a ha ha2 _ HE.out).mono ?_
        rintro e w2 ⟨rfl, hbA⟩
        have HE2 := Lib.hid (HE.out.below hbA)
        clear HE
        have HE := HE2
        have HW := Lib.hid hbA
        clear HE2 h0 h1 h2 hbA
    all_goals
      rcases (by omega : b = 0 ∨ 0 < b ∨ b < 0) with hb0 | hb0 | hb0
      · subst hb0
        have HB0 := Lib.hid (HBh.out.1 rfl)
        clear HBh HI HB
        go_wp2_with fail
        go_ret
        exact ⟨ret_str (by rw [HQ.out, HAh.out, HB0.out]; apply ByteArray.ext; simp [ByteArray.data_append]), HW.out⟩
      · have d1 : decide (0 < b) = true := decide_eq_true hb0
        have d2 : (b == 0) = false := by rw [beq_eq_false_iff_ne]; omega
        have d3 : (b != 0) = true := by simp [bne, d2]
        have d4 : ¬ b = 0 := by omega
        have HB0 := Lib.hid (HBh.out.2.1 hb0)
        clear HBh
        go_wp2_with fail
        refine (HI.out b hb hb2 _ HE.out).mono ?_
        rintro e w9 ⟨rfl, hb9⟩
        go_wp2_with fail
        go_ret
        exact ⟨ret_str (by rw [HQ.out, HAh.out, HB0.out]; apply ByteArray.ext; simp [ByteArray.data_append]), HW.out.trans (hb9.mono HW.out.size)⟩
      · have d1 : decide (0 < b) = false := decide_eq_false (by omega)
        have d2 : (b == 0) = false := by rw [beq_eq_false_iff_ne]; omega
        have d3 : (b != 0) = true := by simp [bne, d2]
        have d4 : ¬ b = 0 := by omega
        have HB0 := Lib.hid (HBh.out.2.2 hb0)
        clear HBh
        go_wp2_with fail
        refine (HI.out b hb hb2 _ HE.out).mono ?_
        rintro e w9 ⟨rfl, hb9⟩
        go_wp2_with fail
        go_ret
        exact ⟨ret_str (by rw [HQ.out, HAh.out, HB0.out]; apply ByteArray.ext; simp [ByteArray.data_append]), HW.out.trans (hb9.mono HW.out.size)⟩

end K
end Go.Proofs.YtnmcgmbhkmfiaaaGreatDoor

namespace Go.Proofs.YtnmcgmbhkmfiaaaGreatDoor
open Go.RowKit Go.Sort
namespace K
open H

def TstOk (t : L.Tst) : Prop := t.kind = 9 → (-1000000 ≤ t.a ∧ t.a ≤ 1000000) ∧ (-1000000 ≤ t.b ∧ t.b ≤ 1000000)

def TextPost (l : List UInt8) (w : World) (e : Ending) (w' : World) : Prop := e = .returned (.string ⟨l.toArray⟩) ∧ Below w.heap.size w w'

theorem kind_find {k m : Nat} (hm : m < 6) (hn : ∀ q, q < m → pkind q ≠ k) (h : pkind m = k) : L.ofKind k = 58 :: pname m := by
  have hc : ∀ q, q < m → (pkind q == k) = false := fun q hq => by simpa using hn q hq
  unfold L.ofKind
  rcases (by omega : m = 0 ∨ m = 1 ∨ m = 2 ∨ m = 3 ∨ m = 4 ∨ m = 5) with rfl | rfl | rfl | rfl | rfl | rfl
  all_goals
    subst h
    rfl
theorem kind_none {k : Nat} (hn : ∀ q, q < 6 → pkind q ≠ k) : L.ofKind k = [] := by
  have hc : ∀ q, q < 6 → (pkind q == k) = false := fun q hq => by simpa using hn q hq
  have h0 := hc 0 (by omega); have h1 := hc 1 (by omega); have h2 := hc 2 (by omega); have h3 := hc 3 (by omega); have h4 := hc 4 (by omega); have h5 := hc 5 (by omega)
  unfold L.ofKind
  have e : L.pseudos = [(pname 0, pkind 0), (pname 1, pkind 1), (pname 2, pkind 2), (pname 3, pkind 3), (pname 4, pkind 4), (pname 5, pkind 5)] := rfl
  rw [e]
  simp [List.find?_cons, h0, h1, h2, h3, h4, h5]

theorem pname_len {m : Nat} (h : m < 6) : (pname m).length ≤ 20 := by
  rcases (by omega : m = 0 ∨ m = 1 ∨ m = 2 ∨ m = 3 ∨ m = 4 ∨ m = 5) with rfl | rfl | rfl | rfl | rfl | rfl
  all_goals decide

theorem le_quoted (v : List UInt8) : (L.quoted v).length = v.length + 2 := by
  unfold L.quoted; split <;> simp

set_option maxHeartbeats 4000000 in
set_option maxRecDepth 100000 in
theorem test_of (t : L.Tst) (nv : Value) (nots : List L.Tst) (w : World) (S : Nat → Prop) (hN : NotsAt S w nv nots) (hk : TstOk t) (hsz : (L.fTest ⟨t, nots⟩).length ≤ 1000000000) (hE : FEnv w)
    (hPF : t.kind = 14 → ∀ W, Below w.heap.size w W → Calls Tryz.prog 21 #[.agg #[.int .i64 0, .string ⟨t.name.toArray⟩, nv]] W (TextPost (L.fpart t.name (nots.map L.ftst)) W)) :
    Calls Tryz.prog 37 #[tval t nv] w (TextPost (L.fTest ⟨t, nots⟩) w) := by
  obtain ⟨k, name, value, a, b⟩ := t
  have HN := Lib.hid hN
  have HE := Lib.hid hE
  have HPF := Lib.hid hPF
  have HK := Lib.hid hk
  obtain ⟨an, cn, hnv⟩ := hN.form
  generalize nots.length = ln at hnv
  subst hnv
  have HV : Hid (L.fTest ⟨⟨k, name, value, a, b⟩, nots⟩ = L.ftest ⟨k, name, value, a, b⟩ (nots.map L.ftst)) := Lib.hid rfl
  have HSz := Lib.hid hsz
  generalize L.fTest ⟨⟨k, name, value, a, b⟩, nots⟩ = q at *
  unfold tval tcells
  have zn := bytes_size name
  have zv := bytes_size value
  clear hN hE hPF hk hsz
  by_cases h1 : k = 1
  · subst h1
    have HQ : Hid (q = 35 :: name) := Lib.hid HV.out
    have hl : name.length ≤ 1000000000 := by have h := HSz.out; rw [HQ.out] at h; simp at h; omega
    clear HV HPF HN HK
    go_enter Tryz.func37, Tryz.ntmps37
    go_wp2_with fail
    go_ret
    exact ⟨ret_str (by rw [HQ.out]; apply ByteArray.ext; simp [ByteArray.data_append]), (Below.refl _ _).alloc (Nat.le_refl _) _⟩
  by_cases h2 : k = 2
  · subst h2
    have HQ : Hid (q = 46 :: name) := Lib.hid HV.out
    have hl : name.length ≤ 1000000000 := by have h := HSz.out; rw [HQ.out] at h; simp at h; omega
    clear HV HPF HN HK
    go_enter Tryz.func37, Tryz.ntmps37
    go_wp2_with fail
    go_ret
    exact ⟨ret_str (by rw [HQ.out]; apply ByteArray.ext; simp [ByteArray.data_append]), (Below.refl _ _).alloc (Nat.le_refl _) _⟩
  by_cases h3 : k = 3
  · subst h3
    have HQ : Hid (q = 91 :: (name ++ [93])) := Lib.hid HV.out
    have hl : name.length ≤ 1000000000 := by have h := HSz.out; rw [HQ.out] at h; simp at h; omega
    clear HV HPF HN HK
    go_enter Tryz.func37, Tryz.ntmps37
    go_wp2_with fail
    go_ret
    exact ⟨ret_str (by rw [HQ.out]; apply ByteArray.ext; simp [ByteArray.data_append]), (Below.refl _ _).alloc (Nat.le_refl _) _⟩
  by_cases h4 : k = 4
  · subst h4
    have HQ : Hid (q = 91 :: (name ++ (61 :: (L.quoted value ++ [93])))) := Lib.hid HV.out
    have hl : name.length + (L.quoted value).length ≤ 1000000000 := by have h := HSz.out; rw [HQ.out] at h; simp at h; omega
    have hlq := le_quoted value
    have QQ := Lib.hid (fun W => quoted value W (by omega))
    have zq := bytes_size (L.quoted value)
    generalize L.quoted value = qv at *
    clear HV HPF HN HK
    go_enter Tryz.func37, Tryz.ntmps37
    go_wp2_with fail
    go_quiet ((go_at_call 58; exact quietAdd (QQ.out _)))
    go_wp2_with fail
    go_ret
    exact ⟨ret_str (by rw [HQ.out]; apply ByteArray.ext; simp [ByteArray.data_append]), belowN ((Below.refl _ _).alloc (Nat.le_refl _) _) _⟩
  by_cases h5 : k = 5
  · subst h5
    have HQ : Hid (q = 91 :: (name ++ (126 :: 61 :: (L.quoted value ++ [93])))) := Lib.hid HV.out
    have hl : name.length + (L.quoted value).length ≤ 1000000000 := by have h := HSz.out; rw [HQ.out] at h; simp at h; omega
    have hlq := le_quoted value
    have QQ := Lib.hid (fun W => quoted value W (by omega))
    have zq := bytes_size (L.quoted value)
    generalize L.quoted value = qv at *
    clear HV HPF HN HK
    go_enter Tryz.func37, Tryz.ntmps37
    go_wp2_with fail
    go_quiet ((go_at_call 58; exact quietAdd (QQ.out _)))
    go_wp2_with fail
    go_ret
    exact ⟨ret_str (by rw [HQ.out]; apply ByteArray.ext; simp [ByteArray.data_append]), belowN ((Below.refl _ _).alloc (Nat.le_refl _) _) _⟩
  by_cases h6 : k = 6
  · subst h6
    have HQ : Hid (q = 91 :: (name ++ (94 :: 61 :: (L.quoted value ++ [93])))) := Lib.hid HV.out
    have hl : name.length + (L.quoted value).length ≤ 1000000000 := by have h := HSz.out; rw [HQ.out] at h; simp at h; omega
    have hlq := le_quoted value
    have QQ := Lib.hid (fun W => quoted value W (by omega))
    have zq := bytes_size (L.quoted value)
    generalize L.quoted value = qv at *
    clear HV HPF HN HK
    go_enter Tryz.func37, Tryz.ntmps37
    go_wp2_with fail
    go_quiet ((go_at_call 58; exact quietAdd (QQ.out _)))
    go_wp2_with fail
    go_ret
    exact ⟨ret_str (by rw [HQ.out]; apply ByteArray.ext; simp [ByteArray.data_append]), belowN ((Below.refl _ _).alloc (Nat.le_refl _) _) _⟩
  by_cases h9 : k = 9
  · subst h9
    have HQ : Hid (q = L.nthHead ++ (L.stepOf a b ++ [41])) := Lib.hid HV.out
    have hl : (L.stepOf a b).length ≤ 1000000000 := by have h := HSz.out; rw [HQ.out] at h; simp at h; omega
    have QS := Lib.hid (fun W (h : FEnv W) => step a b W (HK.out rfl).1.1 (HK.out rfl).1.2 (HK.out rfl).2.1 (HK.out rfl).2.2 h)
    have zq := bytes_size (L.stepOf a b)
    generalize L.stepOf a b = qv at *
    have HE2 := Lib.hid (HE.out.below ((Below.refl _ w).alloc (Nat.le_refl _) (.cells #[.int .i64 9, .string ⟨name.toArray⟩, .string ⟨value.toArray⟩, .int .i64 a, .int .i64 b, .slice an ln cn] 77)))
    clear HV HPF HN HK
    go_enter Tryz.func37, Tryz.ntmps37
    go_wp2_with fail
    refine (QS.out _ HE2.out).mono ?_
    rintro e w2 ⟨rfl, hb2⟩
    have HB2 := Lib.hid hb2
    clear hb2
    go_wp2_with fail
    go_ret
    refine ⟨ret_str (by rw [HQ.out]; apply ByteArray.ext; simp [ByteArray.data_append, L.nthHead]), ?_⟩
    exact ((Below.refl _ w).alloc (Nat.le_refl _) _).trans (HB2.out.mono (by simp))
  by_cases h14 : k = 14
  · subst h14
    have HQ : Hid (q = L.notHead ++ (L.fpart name (nots.map L.ftst) ++ [41])) := Lib.hid HV.out
    have hl : (L.fpart name (nots.map L.ftst)).length ≤ 1000000000 := by have h := HSz.out; rw [HQ.out] at h; simp at h; omega
    have QS := Lib.hid (HPF.out rfl _ ((Below.refl _ w).alloc (Nat.le_refl _) (.cells #[.int .i64 14, .string ⟨name.toArray⟩, .string ⟨value.toArray⟩, .int .i64 a, .int .i64 b, .slice an ln cn] 77)))
    have zq := bytes_size (L.fpart name (nots.map L.ftst))
    generalize L.fpart name (nots.map L.ftst) = qv at *
    clear HV HPF HN HK
    go_enter Tryz.func37, Tryz.ntmps37
    go_wp2_with fail
    refine (QS.out).mono ?_
    rintro e w2 ⟨rfl, hb2⟩
    have HB2 := Lib.hid hb2
    clear hb2
    go_wp2_with fail
    go_ret
    refine ⟨ret_str (by rw [HQ.out]; apply ByteArray.ext; simp [ByteArray.data_append, L.notHead]), ?_⟩
    exact ((Below.refl _ w).alloc (Nat.le_refl _) _).trans (HB2.out.mono (by simp))
  have d1 : ((k : Int) == 1) = false := by rw [beq_eq_false_iff_ne]; omega
  have d2 : ((k : Int) == 2) = false := by rw [beq_eq_false_iff_ne]; omega
  have d3 : ((k : Int) == 3) = false := by rw [beq_eq_false_iff_ne]; omega
  have d4 : ((k : Int) == 4) = false := by rw [beq_eq_false_iff_ne]; omega
  have d5 : ((k : Int) == 5) = false := by rw [beq_eq_false_iff_ne]; omega
  have d6 : ((k : Int) == 6) = false := by rw [beq_eq_false_iff_ne]; omega
  have d9 : ((k : Int) == 9) = false := by rw [beq_eq_false_iff_ne]; omega
  have d14 : ((k : Int) == 14) = false := by rw [beq_eq_false_iff_ne]; omega
  have HQ : Hid (q = L.ofKind k) := Lib.hid (by
    rw [HV.out]; unfold L.ftest; dsimp only
    rw [if_neg h1, if_neg h2, if_neg h3, if_neg h4, if_neg h5, if_neg h6, if_neg h9, if_neg h14])
  have HE2 := Lib.hid (HE.out.below ((Below.refl _ w).alloc (Nat.le_refl _) (.cells #[.int .i64 k, .string ⟨name.toArray⟩, .string ⟨value.toArray⟩, .int .i64 a, .int .i64 b, .slice an ln cn] 77)))
  have HX0 : Hid (Blk w.heap.size #[.int .i64 k, .string ⟨name.toArray⟩, .string ⟨value.toArray⟩, .int .i64 a, .int .i64 b, .slice an ln cn] 77 (w.alloc (.cells #[.int .i64 k, .string ⟨name.toArray⟩, .string ⟨value.toArray⟩, .int .i64 a, .int .i64 b, .slice an ln cn] 77))) := Lib.hid (Blk.new w _ _)
  have HB0 : Hid (Below w.heap.size w (w.alloc (.cells #[.int .i64 k, .string ⟨name.toArray⟩, .string ⟨value.toArray⟩, .int .i64 a, .int .i64 b, .slice an ln cn] 77))) := Lib.hid ((Below.refl _ w).alloc (Nat.le_refl _) _)
  have n0 := HE.out.env.psn 0 (by omega); have n1 := HE.out.env.psn 1 (by omega); have n2 := HE.out.env.psn 2 (by omega); have n3 := HE.out.env.psn 3 (by omega); have n4 := HE.out.env.psn 4 (by omega); have n5 := HE.out.env.psn 5 (by omega)
  have k0 := HE.out.env.psk 0 (by omega); have k1 := HE.out.env.psk 1 (by omega); have k2 := HE.out.env.psk 2 (by omega); have k3 := HE.out.env.psk 3 (by omega); have k4 := HE.out.env.psk 4 (by omega); have k5 := HE.out.env.psk 5 (by omega)
  have hbig := HE.out.big
  unfold top at hbig
  have hgp : 2 < w.heap.size := by omega
  clear HV HPF HN HK h1 h2 h3 h4 h5 h6 h9 h14
  go_enter Tryz.func37, Tryz.ntmps37
  go_wp2_with fail
  clear n0 n1 n2 n3 n4 n5 k0 k1 k2 k3 k4 k5
  have HW0 : Hid (∀ m, m < 0 → pkind m ≠ k) := Lib.hid (fun m hm => by omega)
  generalize hXX : w.heap.size = X at *
  go_loopw [76] (fun ix wr => ∃ m : Nat, ix = .int .i64 m ∧ m ≤ 6 ∧ Hid (Blk X #[.int .i64 k, .string ⟨name.toArray⟩, .string ⟨value.toArray⟩, .int .i64 a, .int .i64 b, .slice an ln cn] 77 wr) ∧ Hid (Below X w wr) ∧ Hid (∀ q, q < m → pkind q ≠ k)) (fun ix _ => 6 - (intOf ix).toNat)
  case atStart => exact ⟨0, rfl, by omega, HX0, HB0, HW0⟩
  case round =>
    obtain ⟨m, rfl, hm, HX, HB, HW⟩ := hrel
    clear HW0 HX0 HB0
    by_cases hm6 : m < 6
    · have HF := Lib.hid (fun h => kind_find (k := k) hm6 HW.out h)
      have HNx := Lib.hid (fun (h : pkind m ≠ k) (q : Nat) (hq : q < m + 1) => (show pkind q ≠ k from (Nat.lt_or_ge q m).elim (fun h1 => HW.out q h1) (fun h1 => (show q = m by omega) ▸ h)))
      obtain ⟨hcx, hfx⟩ := cells_of HX.out
      have hlx := HX.out.lt
      have hln := pname_len hm6
      have zp := bytes_size (pname m)
      clear HW
      have HP := Lib.hid (fun (w : World) => pseudo_at hm6 .i64 w)
      unfold pcells at HP
      have hm6' : (m : Int) < 6 := by omega
      have hXw : X ≤ wr.heap.size := by omega
      go_wp2_with fail
      rw [HP.out]
      simp only [Result.andThen]
      rw [Oper.upon_value]
      clear HP
      have hne : X ≠ wr.heap.size := by omega
      have hne2 : wr.heap.size ≠ X := by omega
      cases hq : ((pkind m : Int) == (k : Int)) with
      | true =>
        have HF2 := Lib.hid (HF.out (by have := beq_iff_eq.1 hq; omega))
        clear HF HNx
        go_wp2_with fail
        go_ret
        refine ⟨ret_str (by rw [HQ.out, HF2.out]; apply ByteArray.ext; simp [ByteArray.data_append]), ?_⟩
        rw [hXX]
        exact HB.out.alloc hXw _
      | false =>
        have HW2 := Lib.hid (HNx.out (by have := beq_eq_false_iff_ne.1 hq; omega))
        clear HF HNx
        go_wp2_with fail
        go_roundw
        case rel => exact ⟨m + 1, by go_num, by omega, Lib.hid (HX.out.alloc _), Lib.hid (HB.out.alloc hXw _), HW2⟩
        case measure => simp [intOf]; omega
    · obtain rfl : m = 6 := by omega
      have HNO := Lib.hid (kind_none HW.out)
      clear HW
      go_wp2_with fail
      go_ret
      refine ⟨ret_str (by rw [HQ.out, HNO.out]), ?_⟩
      rw [hXX]
      exact HB.out

end K
end Go.Proofs.YtnmcgmbhkmfiaaaGreatDoor

namespace Go.Proofs.YtnmcgmbhkmfiaaaGreatDoor
open Go.RowKit Go.Sort
namespace K
open H

theorem fl_take {α : Type} (f : α → List UInt8) (l : List α) (k : Nat) (h : k < l.length) : ((l.take (k + 1)).map f).flatten = ((l.take k).map f).flatten ++ f l[k] := by
  rw [List.take_succ_eq_append_getElem h, List.map_append, List.flatten_append]; simp
theorem fl_le {α : Type} (f : α → List UInt8) (l : List α) (k : Nat) : ((l.take k).map f).flatten.length ≤ (l.map f).flatten.length := by
  have h : l.map f = (l.take k).map f ++ (l.drop k).map f := by rw [← List.map_append, List.take_append_drop]
  rw [h, List.flatten_append, List.length_append]; omega

set_option maxHeartbeats 4000000 in
set_option maxRecDepth 100000 in
theorem part_text (j : Int) (ty : List UInt8) (v : Value) (l : List L.Test) (w : World) (S : Nat → Prop) (hT : TestsAt S w v l) (hl : l.length ≤ 1000000) (hsz : (L.fTests ty l).length ≤ 1000000000) (hE : FEnv w)
    (hTF : ∀ t ∈ l, ∀ (nv : Value) (W : World), ITest S W nv t → FEnv W → Calls Tryz.prog 37 #[tval t.t nv] W (TextPost (L.fTest t) W)) :
    Calls Tryz.prog 21 #[.agg #[.int .i64 j, .string ⟨ty.toArray⟩, v]] w (TextPost (L.fTests ty l) w) := by
  have HT := Lib.hid hT
  have HE := Lib.hid hE
  have HTF := Lib.hid hTF
  obtain ⟨ao, cap, hv⟩ := hT.form
  have zt := bytes_size ty
  have HQ : Hid (L.fTests ty l = if ty = [] ∧ l = [] then [42] else ty ++ (l.map L.fTest).flatten) := Lib.hid (by
    unfold L.fTests L.fpart; simp)
  have HSz := Lib.hid hsz
  generalize hNN : l.length = N at hv hl
  have HN := Lib.hid hNN
  subst hv
  generalize L.fTests ty l = q at *
  have HB0 : Hid (Below w.heap.size w (w.alloc (.cells #[.int .i64 j, .string ⟨ty.toArray⟩, .slice ao N cap] 57))) := Lib.hid ((Below.refl _ w).alloc (Nat.le_refl _) _)
  by_cases hem : ty = [] ∧ l = []
  · have HV : Hid (q = [42]) := Lib.hid (by rw [HQ.out, if_pos hem])
    obtain ⟨rfl, h2⟩ := hem
    obtain rfl : N = 0 := by rw [← hNN, h2]; rfl
    clear hT hE hTF hsz hNN h2 HTF HT HQ HSz
    go_enter Tryz.func21, Tryz.ntmps21
    go_wp2_with fail
    go_ret
    exact ⟨ret_str (by rw [HV.out]), HB0.out⟩
  · have HV : Hid (q = ty ++ (l.map L.fTest).flatten) := Lib.hid (by rw [HQ.out, if_neg hem])
    have hc : (ty == []) = false ∨ (ty = [] ∧ ((N : Int) == 0) = false) := by
      by_cases h : ty = []
      · right
        exact ⟨h, by rw [beq_eq_false_iff_ne]; intro h0; exact hem ⟨h, List.eq_nil_of_length_eq_zero (by omega)⟩⟩
      · left
        simpa using h
    have hall : ty.length + (l.map L.fTest).flatten.length ≤ 1000000000 := by have h := HSz.out; rw [HV.out, List.length_append] at h; exact h
    have HAll := Lib.hid hall
    clear hT hE hTF hsz hNN hem HQ hall
    have H0 : Hid (ty = ty ++ ((l.take 0).map L.fTest).flatten) := Lib.hid (by simp)
    rcases hc with hc | ⟨hc, he⟩
    case' inr => subst hc
    all_goals
      go_enter Tryz.func21, Tryz.ntmps21
      go_wp2_with fail
      go_loopw [3, 20] (fun v3 v20 wr => ∃ k : Nat, v20 = .int .i64 k ∧ (∃ acc : List UInt8, v3 = .string ⟨acc.toArray⟩ ∧ Hid (q = acc ++ ((l.drop k).map L.fTest).flatten)) ∧ k ≤ N ∧ Hid (Below w.heap.size w wr)) (fun _ v20 _ => N - (intOf v20).toNat)
      case atStart => exact ⟨0, rfl, ⟨_, rfl, HV⟩, Nat.zero_le _, HB0⟩
      case round =>
        obtain ⟨k, rfl, ⟨acc, rfl, HA⟩, hk, HB⟩ := hrel
        clear HB0 H0
        by_cases hkN : k < N
        · have hkl : k < l.length := by rw [HN.out]; exact hkN
          have hkI : (k : Int) < (N : Int) := by omega
          have hsl := keeps_tests HT.out (Kept.below HB.out)
          cases ao with
          | none => exact absurd (ListAt.none_ hsl) (by intro h; rw [h] at hkl; simp at hkl)
          | some aa =>
            obtain ⟨g, hg⟩ : ∃ g, aa = ⟨g, 0, none⟩ := by
              obtain ⟨ps, h1, h2, h3⟩ := hsl
              rcases h2 with ⟨hv, hn⟩ | ⟨g, cap', hv, _⟩
              · cases hv
              · simp only [Value.slice.injEq, Option.some.injEq] at hv
                exact ⟨g, hv.1⟩
            subst hg
            obtain ⟨hlt, hnl, hsS, vk, hc, hp⟩ := ListAt.at_ cTest_len hsl hkl
            clear hnl hsS
            have hsplit : ((l.drop k).map L.fTest).flatten = L.fTest l[k] ++ ((l.drop (k + 1)).map L.fTest).flatten := by
              rw [List.drop_eq_getElem_cons hkl, List.map_cons, List.flatten_cons]
            have HA2 := Lib.hid (HA.out.trans (by rw [hsplit, ← List.append_assoc]))
            have hmem := List.getElem_mem hkl
            have hlen : acc.length + (L.fTest l[k]).length ≤ 1000000000 := by
              have h1 := HSz.out
              rw [HA2.out, List.length_append, List.length_append] at h1
              omega
            clear hsplit HA hsl
            generalize l[k] = tk at *
            have hp2 : NotsAt S wr vk tk.nots := hp
            obtain ⟨ak, ck, hvk⟩ := hp2.form
            generalize tk.nots.length = nk at hvk
            clear hp2
            have hl1 : (L.fTest tk).length ≤ 1000000000 := by omega
            have Q := Lib.hid (fun W => HTF.out tk hmem vk W)
            have HIp := Lib.hid hp
            obtain ⟨⟨kk, nm, vl, ka, kb⟩, nts⟩ := tk
            have c0 : wr.cell? ⟨g, k * 6 + 0, none⟩ = some (.int .i64 kk) := hc 0 (by omega)
            have c1 : wr.cell? ⟨g, k * 6 + 1, none⟩ = some (.string ⟨nm.toArray⟩) := hc 1 (by omega)
            have c2 : wr.cell? ⟨g, k * 6 + 2, none⟩ = some (.string ⟨vl.toArray⟩) := hc 2 (by omega)
            have c3 : wr.cell? ⟨g, k * 6 + 3, none⟩ = some (.int .i64 ka) := hc 3 (by omega)
            have c4 : wr.cell? ⟨g, k * 6 + 4, none⟩ = some (.int .i64 kb) := hc 4 (by omega)
            have c5 : wr.cell? ⟨g, k * 6 + 5, none⟩ = some vk := hc 5 (by omega)
            simp only [Nat.add_zero] at c0
            subst hvk
            generalize L.fTest ⟨⟨kk, nm, vl, ka, kb⟩, nts⟩ = ft at *
            have zf := bytes_size ft
            have za := bytes_size acc
            have hB2 : Below wr.heap.size wr (wr.alloc (.cells #[.int .i64 kk, .string ⟨nm.toArray⟩, .string ⟨vl.toArray⟩, .int .i64 ka, .int .i64 kb, .slice ak nk ck] 77)) := (Below.refl _ wr).alloc (Nat.le_refl _) _
            have HE2 := Lib.hid ((HE.out.below HB.out).below hB2)
            have HI2 := Lib.hid (keeps_test HIp.out (Kept.below hB2))
            have HBn := Lib.hid (HB.out.trans (hB2.mono HB.out.size))
            have Q2 := Lib.hid (Q.out _ HI2.out HE2.out)
            unfold tval tcells at Q2
            clear hc hp hmem Q hB2 HI2 HE2 HIp hkl hl1
            go_wp2_with fail
            refine Q2.out.mono ?_
            rintro e w2 ⟨rfl, hb2⟩
            have HB2 := Lib.hid (HBn.out.trans (hb2.mono HBn.out.size))
            clear hb2 Q2 HBn c0 c1 c2 c3 c4 c5
            go_wp2_with fail
            go_roundw
            case rel =>
              exact ⟨k + 1, by go_num, ⟨acc ++ ft, congrArg Value.string (append_bytes acc ft), HA2⟩, by omega, HB2⟩
            case measure => simp [intOf]; omega
        · obtain rfl : k = N := by omega
          have HA2 : Hid (q = acc) := Lib.hid (by
            have h := HA.out
            rw [← HN.out, List.drop_length] at h
            simpa using h)
          clear HA
          go_wp2_with fail
          go_ret
          exact ⟨ret_str (by rw [HA2.out]), HB.out⟩

end K
end Go.Proofs.YtnmcgmbhkmfiaaaGreatDoor

namespace Go.Proofs.YtnmcgmbhkmfiaaaGreatDoor
open Go.RowKit Go.Sort
namespace K
open H

def TestOk (t : L.Test) : Prop := TstOk t.t ∧ (∀ u ∈ t.nots, TstOk u) ∧ t.nots.length ≤ 1000000
def PartOk (p : L.Part) : Prop := (∀ t ∈ p.tests, TestOk t) ∧ p.tests.length ≤ 1000000 ∧ p.join ≤ 4
def SelOk (ps : List L.Part) : Prop := (∀ p ∈ ps, PartOk p) ∧ ps.length ≤ 1000000

theorem NotsAt.tests {S : Nat → Prop} {w : World} {v : Value} {l : List L.Tst} (h : NotsAt S w v l) : TestsAt S w v (l.map (fun t => ⟨t, []⟩)) := by
  obtain ⟨ps, rfl, h2, h3⟩ := h
  refine ⟨ps.map (fun p => (⟨p.1, []⟩, p.2)), by simp, ?_, ?_⟩
  · rw [List.flatMap_map]
    simpa [cTest] using h2
  · intro p hp
    obtain ⟨q, hq, rfl⟩ := List.mem_map.1 hp
    have h4 := h3 q hq
    show NotsAt S w q.2 []
    dsimp only at h4
    rw [h4]
    exact ListAt.nil

theorem len_flat {α : Type} (f : α → List UInt8) {l : List α} {x : α} (h : x ∈ l) : (f x).length ≤ (l.map f).flatten.length := by
  induction l with
  | nil => cases h
  | cons y r ih =>
    rw [List.map_cons, List.flatten_cons, List.length_append]
    rcases List.mem_cons.1 h with rfl | h
    · omega
    · have := ih h; omega

theorem le_fpart (ty : List UInt8) (fs : List (List UInt8)) : fs.flatten.length ≤ (L.fpart ty fs).length := by
  unfold L.fpart
  split
  · rename_i h; rw [h.2]; simp
  · rw [List.length_append]; omega
theorem len_test {ty : List UInt8} {l : List L.Test} {t : L.Test} (h : t ∈ l) : (L.fTest t).length ≤ (L.fTests ty l).length := Nat.le_trans (len_flat L.fTest h) (le_fpart ty _)
theorem len_fpart {t : L.Tst} (fs : List (List UInt8)) (h : t.kind = 14) : (L.fpart t.name fs).length ≤ (L.ftest t fs).length := by
  unfold L.ftest
  rw [if_neg (by omega), if_neg (by omega), if_neg (by omega), if_neg (by omega), if_neg (by omega), if_neg (by omega), if_neg (by omega), if_pos h]
  simp
  omega

theorem plain_text (name : List UInt8) (v : Value) (w : World) (S : Nat → Prop) (hT : TestsAt S w v []) (hsz : (L.fpart name []).length ≤ 1000000000) (hE : FEnv w) :
    Calls Tryz.prog 21 #[.agg #[.int .i64 0, .string ⟨name.toArray⟩, v]] w (TextPost (L.fpart name []) w) :=
  part_text 0 name v [] w S hT (Nat.zero_le _) hsz hE (fun t ht => (by cases ht))

theorem not_text (name : List UInt8) (v : Value) (nots : List L.Tst) (w : World) (S : Nat → Prop) (hN : NotsAt S w v nots) (hok : ∀ u ∈ nots, TstOk u) (hl : nots.length ≤ 1000000) (hsz : (L.fpart name (nots.map L.ftst)).length ≤ 1000000000) (hE : FEnv w) :
    Calls Tryz.prog 21 #[.agg #[.int .i64 0, .string ⟨name.toArray⟩, v]] w (TextPost (L.fpart name (nots.map L.ftst)) w) := by
  have e : L.fTests name (nots.map (fun t => (⟨t, []⟩ : L.Test))) = L.fpart name (nots.map L.ftst) := by
    unfold L.fTests; rw [List.map_map]; rfl
  have := part_text 0 name v (nots.map (fun t => ⟨t, []⟩)) w S hN.tests (by simpa using hl) (by rw [e]; exact hsz) hE ?_
  · rw [e] at this; exact this
  · intro t ht nv W hI hEW
    have hle := len_test (ty := name) ht
    rw [e] at hle
    obtain ⟨u, hu, rfl⟩ := List.mem_map.1 ht
    have hI' : NotsAt S W nv [] := hI
    refine test_of u nv [] W S hI' (hok u hu) (by omega) hEW ?_
    intro hk W2 hB
    refine plain_text u.name nv W2 S (keeps_tests (NotsAt.tests hI') (Kept.below hB)) ?_ (hEW.below hB)
    have := len_fpart (t := u) [] hk
    have hle2 : (L.ftest u []).length ≤ (L.fpart name (nots.map L.ftst)).length := hle
    omega

theorem test_text (t : L.Test) (nv : Value) (w : World) (S : Nat → Prop) (hN : NotsAt S w nv t.nots) (hok : TestOk t) (hsz : (L.fTest t).length ≤ 1000000000) (hE : FEnv w) :
    Calls Tryz.prog 37 #[tval t.t nv] w (TextPost (L.fTest t) w) := by
  refine test_of t.t nv t.nots w S hN hok.1 hsz hE ?_
  intro hk W hB
  refine not_text t.t.name nv t.nots W S (keeps_nots hN (Kept.below hB)) hok.2.1 hok.2.2 ?_ (hE.below hB)
  have := len_fpart (t := t.t) (t.nots.map L.ftst) hk
  have h2 : (L.ftest t.t (t.nots.map L.ftst)).length ≤ 1000000000 := hsz
  omega

theorem part_full (j : Int) (p : L.Part) (v : Value) (w : World) (S : Nat → Prop) (hT : TestsAt S w v p.tests) (hok : PartOk p) (hsz : (L.fPart p).length ≤ 1000000000) (hE : FEnv w) :
    Calls Tryz.prog 21 #[.agg #[.int .i64 j, .string ⟨p.type.toArray⟩, v]] w (TextPost (L.fPart p) w) := by
  refine part_text j p.type v p.tests w S hT hok.2.1 hsz hE ?_
  intro t ht nv W hI hEW
  have := len_test (ty := p.type) ht
  have h2 : (L.fTests p.type p.tests).length ≤ 1000000000 := hsz
  exact test_text t nv W S hI (hok.1 t ht) (by omega) hEW

theorem fList_join : ∀ l : List (List L.Part), L.fList l = Lib.join (l.map L.fSel) [44, 32]
  | [] => rfl
  | [x] => by simp [L.fList, Lib.join, List.intercalate]
  | x :: y :: r => by
    have ih := fList_join (y :: r)
    unfold L.fList
    rw [ih, List.map_cons, List.map_cons, Lib.join_cons, Lib.join_cons]
    simp [Lib.joinTail]

theorem len_sel {l : List (List L.Part)} {x : List L.Part} (h : x ∈ l) : (L.fSel x).length ≤ (L.fList l).length := by
  induction l with
  | nil => cases h
  | cons y r ih =>
    cases r with
    | nil =>
      rw [List.mem_singleton.1 h]; exact Nat.le_refl _
    | cons z r =>
      unfold L.fList
      rw [List.length_append, List.length_cons, List.length_cons]
      rcases List.mem_cons.1 h with rfl | h
      · omega
      · have := ih h; omega

end K
end Go.Proofs.YtnmcgmbhkmfiaaaGreatDoor

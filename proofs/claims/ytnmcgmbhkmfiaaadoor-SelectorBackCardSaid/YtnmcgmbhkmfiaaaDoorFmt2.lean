/- The text of a test, given that of the part within. -/
import Derived.Test.YtnmcgmbhkmfiaaaDoorFmt1
set_option linter.unusedVariables false
set_option linter.unusedSimpArgs false
namespace Go.Proofs.YtnmcgmbhkmfiaaaDoor
open Go.RowKit Go.Sort
namespace K
open H

def TstOk (t : L.Tst) : Prop := t.kind = 9 → (-1000000 ≤ t.a ∧ t.a ≤ 1000000) ∧ (-1000000 ≤ t.b ∧ t.b ≤ 1000000)

def TextPost (l : List UInt8) (w : World) (e : Ending) (w' : World) : Prop := e = .returned (.string ⟨l.toArray⟩) ∧ Below w.heap.size w w'

theorem kind_find {k m : Nat} (hm : m < 6) (hn : ∀ q, q < m → pkind q ≠ k) (h : pkind m = k) : L.ofKind k = 58 :: pname m := by
  have hc : ∀ q, q < m → (pkind q == k) = false := fun q hq => by simpa using hn q hq
  unfold L.ofKind
  rcases (by omega : m = 0 ∨ m = 1 ∨ m = 2 ∨ m = 3 ∨ m = 4 ∨ m = 5) with rfl | rfl | rfl | rfl | rfl | rfl
  all_goals
    subst h
    rfl
theorem kind_none {k : Nat} (hn : ∀ q, q < 6 → pkind q ≠ k) : L.ofKind k = [] := by
  have hc : ∀ q, q < 6 → (pkind q == k) = false := fun q hq => by simpa using hn q hq
  have h0 := hc 0 (by omega); have h1 := hc 1 (by omega); have h2 := hc 2 (by omega); have h3 := hc 3 (by omega); have h4 := hc 4 (by omega); have h5 := hc 5 (by omega)
  unfold L.ofKind
  have e : L.pseudos = [(pname 0, pkind 0), (pname 1, pkind 1), (pname 2, pkind 2), (pname 3, pkind 3), (pname 4, pkind 4), (pname 5, pkind 5)] := rfl
  rw [e]
  simp [List.find?_cons, h0, h1, h2, h3, h4, h5]

theorem pname_len {m : Nat} (h : m < 6) : (pname m).length ≤ 20 := by
  rcases (by omega : m = 0 ∨ m = 1 ∨ m = 2 ∨ m = 3 ∨ m = 4 ∨ m = 5) with rfl | rfl | rfl | rfl | rfl | rfl
  all_goals decide

theorem le_quoted (v : List UInt8) : (L.quoted v).length = v.length + 2 := by
  unfold L.quoted; split <;> simp

set_option maxHeartbeats 4000000 in
set_option maxRecDepth 100000 in
theorem test_of (t : L.Tst) (nv : Value) (nots : List L.Tst) (w : World) (S : Nat → Prop) (hN : NotsAt S w nv nots) (hk : TstOk t) (hsz : (L.fTest ⟨t, nots⟩).length ≤ 1000000000) (hE : FEnv w)
    (hPF : t.kind = 14 → ∀ W, Below w.heap.size w W → Calls Tryd.prog 14 #[.agg #[.int .i64 0, .string ⟨t.name.toArray⟩, nv]] W (TextPost (L.fpart t.name (nots.map L.ftst)) W)) :
    Calls Tryd.prog 26 #[tval t nv] w (TextPost (L.fTest ⟨t, nots⟩) w) := by
  obtain ⟨k, name, value, a, b⟩ := t
  have HN := Lib.hid hN
  have HE := Lib.hid hE
  have HPF := Lib.hid hPF
  have HK := Lib.hid hk
  obtain ⟨an, cn, hnv⟩ := hN.form
  generalize nots.length = ln at hnv
  subst hnv
  have HV : Hid (L.fTest ⟨⟨k, name, value, a, b⟩, nots⟩ = L.ftest ⟨k, name, value, a, b⟩ (nots.map L.ftst)) := Lib.hid rfl
  have HSz := Lib.hid hsz
  generalize L.fTest ⟨⟨k, name, value, a, b⟩, nots⟩ = q at *
  unfold tval tcells
  have zn := bytes_size name
  have zv := bytes_size value
  clear hN hE hPF hk hsz
  by_cases h1 : k = 1
  · subst h1
    have HQ : Hid (q = 35 :: name) := Lib.hid HV.out
    have hl : name.length ≤ 1000000000 := by have h := HSz.out; rw [HQ.out] at h; simp at h; omega
    clear HV HPF HN HK
    go_enter Tryd.func26, Tryd.ntmps26
    go_wp2_with fail
    go_ret
    exact ⟨ret_str (by rw [HQ.out]; apply ByteArray.ext; simp [ByteArray.data_append]), (Below.refl _ _).alloc (Nat.le_refl _) _⟩
  by_cases h2 : k = 2
  · subst h2
    have HQ : Hid (q = 46 :: name) := Lib.hid HV.out
    have hl : name.length ≤ 1000000000 := by have h := HSz.out; rw [HQ.out] at h; simp at h; omega
    clear HV HPF HN HK
    go_enter Tryd.func26, Tryd.ntmps26
    go_wp2_with fail
    go_ret
    exact ⟨ret_str (by rw [HQ.out]; apply ByteArray.ext; simp [ByteArray.data_append]), (Below.refl _ _).alloc (Nat.le_refl _) _⟩
  by_cases h3 : k = 3
  · subst h3
    have HQ : Hid (q = 91 :: (name ++ [93])) := Lib.hid HV.out
    have hl : name.length ≤ 1000000000 := by have h := HSz.out; rw [HQ.out] at h; simp at h; omega
    clear HV HPF HN HK
    go_enter Tryd.func26, Tryd.ntmps26
    go_wp2_with fail
    go_ret
    exact ⟨ret_str (by rw [HQ.out]; apply ByteArray.ext; simp [ByteArray.data_append]), (Below.refl _ _).alloc (Nat.le_refl _) _⟩
  by_cases h4 : k = 4
  · subst h4
    have HQ : Hid (q = 91 :: (name ++ (61 :: (L.quoted value ++ [93])))) := Lib.hid HV.out
    have hl : name.length + (L.quoted value).length ≤ 1000000000 := by have h := HSz.out; rw [HQ.out] at h; simp at h; omega
    have hlq := le_quoted value
    have QQ := Lib.hid (fun W => quoted value W (by omega))
    have zq := bytes_size (L.quoted value)
    generalize L.quoted value = qv at *
    clear HV HPF HN HK
    go_enter Tryd.func26, Tryd.ntmps26
    go_wp2_with fail
    go_quiet ((go_at_call 40; exact quietAdd (QQ.out _)))
    go_wp2_with fail
    go_ret
    exact ⟨ret_str (by rw [HQ.out]; apply ByteArray.ext; simp [ByteArray.data_append]), belowN ((Below.refl _ _).alloc (Nat.le_refl _) _) _⟩
  by_cases h5 : k = 5
  · subst h5
    have HQ : Hid (q = 91 :: (name ++ (126 :: 61 :: (L.quoted value ++ [93])))) := Lib.hid HV.out
    have hl : name.length + (L.quoted value).length ≤ 1000000000 := by have h := HSz.out; rw [HQ.out] at h; simp at h; omega
    have hlq := le_quoted value
    have QQ := Lib.hid (fun W => quoted value W (by omega))
    have zq := bytes_size (L.quoted value)
    generalize L.quoted value = qv at *
    clear HV HPF HN HK
    go_enter Tryd.func26, Tryd.ntmps26
    go_wp2_with fail
    go_quiet ((go_at_call 40; exact quietAdd (QQ.out _)))
    go_wp2_with fail
    go_ret
    exact ⟨ret_str (by rw [HQ.out]; apply ByteArray.ext; simp [ByteArray.data_append]), belowN ((Below.refl _ _).alloc (Nat.le_refl _) _) _⟩
  by_cases h6 : k = 6
  · subst h6
    have HQ : Hid (q = 91 :: (name ++ (94 :: 61 :: (L.quoted value ++ [93])))) := Lib.hid HV.out
    have hl : name.length + (L.quoted value).length ≤ 1000000000 := by have h := HSz.out; rw [HQ.out] at h; simp at h; omega
    have hlq := le_quoted value
    have QQ := Lib.hid (fun W => quoted value W (by omega))
    have zq := bytes_size (L.quoted value)
    generalize L.quoted value = qv at *
    clear HV HPF HN HK
    go_enter Tryd.func26, Tryd.ntmps26
    go_wp2_with fail
    go_quiet ((go_at_call 40; exact quietAdd (QQ.out _)))
    go_wp2_with fail
    go_ret
    exact ⟨ret_str (by rw [HQ.out]; apply ByteArray.ext; simp [ByteArray.data_append]), belowN ((Below.refl _ _).alloc (Nat.le_refl _) _) _⟩
  by_cases h9 : k = 9
  · subst h9
    have HQ : Hid (q = L.nthHead ++ (L.stepOf a b ++ [41])) := Lib.hid HV.out
    have hl : (L.stepOf a b).length ≤ 1000000000 := by have h := HSz.out; rw [HQ.out] at h; simp at h; omega
    have QS := Lib.hid (fun W (h : FEnv W) => step a b W (HK.out rfl).1.1 (HK.out rfl).1.2 (HK.out rfl).2.1 (HK.out rfl).2.2 h)
    have zq := bytes_size (L.stepOf a b)
    generalize L.stepOf a b = qv at *
    have HE2 := Lib.hid (HE.out.below ((Below.refl _ w).alloc (Nat.le_refl _) (.cells #[.int .i64 9, .string ⟨name.toArray⟩, .string ⟨value.toArray⟩, .int .i64 a, .int .i64 b, .slice an ln cn] 55)))
    clear HV HPF HN HK
    go_enter Tryd.func26, Tryd.ntmps26
    go_wp2_with fail
    refine (QS.out _ HE2.out).mono ?_
    rintro e w2 ⟨rfl, hb2⟩
    have HB2 := Lib.hid hb2
    clear hb2
    go_wp2_with fail
    go_ret
    refine ⟨ret_str (by rw [HQ.out]; apply ByteArray.ext; simp [ByteArray.data_append, L.nthHead]), ?_⟩
    exact ((Below.refl _ w).alloc (Nat.le_refl _) _).trans (HB2.out.mono (by simp))
  by_cases h14 : k = 14
  · subst h14
    have HQ : Hid (q = L.notHead ++ (L.fpart name (nots.map L.ftst) ++ [41])) := Lib.hid HV.out
    have hl : (L.fpart name (nots.map L.ftst)).length ≤ 1000000000 := by have h := HSz.out; rw [HQ.out] at h; simp at h; omega
    have QS := Lib.hid (HPF.out rfl _ ((Below.refl _ w).alloc (Nat.le_refl _) (.cells #[.int .i64 14, .string ⟨name.toArray⟩, .string ⟨value.toArray⟩, .int .i64 a, .int .i64 b, .slice an ln cn] 55)))
    have zq := bytes_size (L.fpart name (nots.map L.ftst))
    generalize L.fpart name (nots.map L.ftst) = qv at *
    clear HV HPF HN HK
    go_enter Tryd.func26, Tryd.ntmps26
    go_wp2_with fail
    refine (QS.out).mono ?_
    rintro e w2 ⟨rfl, hb2⟩
    have HB2 := Lib.hid hb2
    clear hb2
    go_wp2_with fail
    go_ret
    refine ⟨ret_str (by rw [HQ.out]; apply ByteArray.ext; simp [ByteArray.data_append, L.notHead]), ?_⟩
    exact ((Below.refl _ w).alloc (Nat.le_refl _) _).trans (HB2.out.mono (by simp))
  have d1 : ((k : Int) == 1) = false := by rw [beq_eq_false_iff_ne]; omega
  have d2 : ((k : Int) == 2) = false := by rw [beq_eq_false_iff_ne]; omega
  have d3 : ((k : Int) == 3) = false := by rw [beq_eq_false_iff_ne]; omega
  have d4 : ((k : Int) == 4) = false := by rw [beq_eq_false_iff_ne]; omega
  have d5 : ((k : Int) == 5) = false := by rw [beq_eq_false_iff_ne]; omega
  have d6 : ((k : Int) == 6) = false := by rw [beq_eq_false_iff_ne]; omega
  have d9 : ((k : Int) == 9) = false := by rw [beq_eq_false_iff_ne]; omega
  have d14 : ((k : Int) == 14) = false := by rw [beq_eq_false_iff_ne]; omega
  have HQ : Hid (q = L.ofKind k) := Lib.hid (by
    rw [HV.out]; unfold L.ftest; dsimp only
    rw [if_neg h1, if_neg h2, if_neg h3, if_neg h4, if_neg h5, if_neg h6, if_neg h9, if_neg h14])
  have HE2 := Lib.hid (HE.out.below ((Below.refl _ w).alloc (Nat.le_refl _) (.cells #[.int .i64 k, .string ⟨name.toArray⟩, .string ⟨value.toArray⟩, .int .i64 a, .int .i64 b, .slice an ln cn] 55)))
  have HX0 : Hid (Blk w.heap.size #[.int .i64 k, .string ⟨name.toArray⟩, .string ⟨value.toArray⟩, .int .i64 a, .int .i64 b, .slice an ln cn] 55 (w.alloc (.cells #[.int .i64 k, .string ⟨name.toArray⟩, .string ⟨value.toArray⟩, .int .i64 a, .int .i64 b, .slice an ln cn] 55))) := Lib.hid (Blk.new w _ _)
  have HB0 : Hid (Below w.heap.size w (w.alloc (.cells #[.int .i64 k, .string ⟨name.toArray⟩, .string ⟨value.toArray⟩, .int .i64 a, .int .i64 b, .slice an ln cn] 55))) := Lib.hid ((Below.refl _ w).alloc (Nat.le_refl _) _)
  have n0 := HE.out.env.psn 0 (by omega); have n1 := HE.out.env.psn 1 (by omega); have n2 := HE.out.env.psn 2 (by omega); have n3 := HE.out.env.psn 3 (by omega); have n4 := HE.out.env.psn 4 (by omega); have n5 := HE.out.env.psn 5 (by omega)
  have k0 := HE.out.env.psk 0 (by omega); have k1 := HE.out.env.psk 1 (by omega); have k2 := HE.out.env.psk 2 (by omega); have k3 := HE.out.env.psk 3 (by omega); have k4 := HE.out.env.psk 4 (by omega); have k5 := HE.out.env.psk 5 (by omega)
  have hbig := HE.out.big
  unfold top at hbig
  have hgp : 2 < w.heap.size := by omega
  clear HV HPF HN HK h1 h2 h3 h4 h5 h6 h9 h14
  go_enter Tryd.func26, Tryd.ntmps26
  go_wp2_with fail
  clear n0 n1 n2 n3 n4 n5 k0 k1 k2 k3 k4 k5
  have HW0 : Hid (∀ m, m < 0 → pkind m ≠ k) := Lib.hid (fun m hm => by omega)
  generalize hXX : w.heap.size = X at *
  go_loopw [76] (fun ix wr => ∃ m : Nat, ix = .int .i64 m ∧ m ≤ 6 ∧ Hid (Blk X #[.int .i64 k, .string ⟨name.toArray⟩, .string ⟨value.toArray⟩, .int .i64 a, .int .i64 b, .slice an ln cn] 55 wr) ∧ Hid (Below X w wr) ∧ Hid (∀ q, q < m → pkind q ≠ k)) (fun ix _ => 6 - (intOf ix).toNat)
  case atStart => exact ⟨0, rfl, by omega, HX0, HB0, HW0⟩
  case round =>
    obtain ⟨m, rfl, hm, HX, HB, HW⟩ := hrel
    clear HW0 HX0 HB0
    by_cases hm6 : m < 6
    · have HF := Lib.hid (fun h => kind_find (k := k) hm6 HW.out h)
      have HNx := Lib.hid (fun (h : pkind m ≠ k) (q : Nat) (hq : q < m + 1) => (show pkind q ≠ k from (Nat.lt_or_ge q m).elim (fun h1 => HW.out q h1) (fun h1 => (show q = m by omega) ▸ h)))
      obtain ⟨hcx, hfx⟩ := cells_of HX.out
      have hlx := HX.out.lt
      have hln := pname_len hm6
      have zp := bytes_size (pname m)
      clear HW
      have HP := Lib.hid (fun (w : World) => pseudo_at hm6 .i64 w)
      unfold pcells at HP
      have hm6' : (m : Int) < 6 := by omega
      have hXw : X ≤ wr.heap.size := by omega
      go_wp2_with fail
      rw [HP.out]
      simp only [Result.andThen]
      rw [Oper.upon_value]
      clear HP
      have hne : X ≠ wr.heap.size := by omega
      have hne2 : wr.heap.size ≠ X := by omega
      cases hq : ((pkind m : Int) == (k : Int)) with
      | true =>
        have HF2 := Lib.hid (HF.out (by have := beq_iff_eq.1 hq; omega))
        clear HF HNx
        go_wp2_with fail
        go_ret
        refine ⟨ret_str (by rw [HQ.out, HF2.out]; apply ByteArray.ext; simp [ByteArray.data_append]), ?_⟩
        rw [hXX]
        exact HB.out.alloc hXw _
      | false =>
        have HW2 := Lib.hid (HNx.out (by have := beq_eq_false_iff_ne.1 hq; omega))
        clear HF HNx
        go_wp2_with fail
        go_roundw
        case rel => exact ⟨m + 1, by go_num, by omega, Lib.hid (HX.out.alloc _), Lib.hid (HB.out.alloc hXw _), HW2⟩
        case measure => simp [intOf]; omega
    · obtain rfl : m = 6 := by omega
      have HNO := Lib.hid (kind_none HW.out)
      clear HW
      go_wp2_with fail
      go_ret
      refine ⟨ret_str (by rw [HQ.out, HNO.out]), ?_⟩
      rw [hXX]
      exact HB.out

end K
end Go.Proofs.YtnmcgmbhkmfiaaaDoor

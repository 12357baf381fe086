/- What the writing functions of the reference come to: test. What the writing functions of the reference come to: part. -/
import Derived.Test.YtnmcgmbhkmfiaaaGreatDoorRwr1
set_option linter.unusedVariables false
set_option linter.unusedSimpArgs false
namespace Go.Proofs.YtnmcgmbhkmfiaaaGreatDoor
open Go.RowKit Go.Sort
namespace F
open H K

def KindOk (k : Nat) : Prop := 1 ≤ k ∧ k ≤ 14

set_option maxHeartbeats 4000000 in
set_option maxRecDepth 100000 in
theorem test_of (t : L.Tst) (nv : Value) (nots : List L.Tst) (w : World) (S : Nat → Prop) (hN : NotsAt S w nv nots) (hk : TstOk t) (hkd : KindOk t.kind) (hsz : (L.fTest ⟨t, nots⟩).length ≤ 1000000000)
    (hPF : t.kind = 14 → ∀ W, Below w.heap.size w W → Calls Tryz.prog 23 #[.string ⟨t.name.toArray⟩, nv] W (TextPost (L.fpart t.name (nots.map L.ftst)) W)) :
    Calls Tryz.prog 41 #[tval t nv] w (TextPost (L.fTest ⟨t, nots⟩) w) := by
  obtain ⟨k, name, value, a, b⟩ := t
  have HN := Lib.hid hN
  have HPF := Lib.hid hPF
  have HK := Lib.hid hk
  obtain ⟨an, cn, hnv⟩ := hN.form
  generalize nots.length = ln at hnv
  subst hnv
  have HV : Hid (L.fTest ⟨⟨k, name, value, a, b⟩, nots⟩ = L.ftest ⟨k, name, value, a, b⟩ (nots.map L.ftst)) := Lib.hid rfl
  have HSz := Lib.hid hsz
  generalize L.fTest ⟨⟨k, name, value, a, b⟩, nots⟩ = q at *
  unfold tval tcells
  have zn := bytes_size name
  have zv := bytes_size value
  clear hN hPF hk hsz
  by_cases h1 : k = 1
  · subst h1
    have HQ : Hid (q = 35 :: name) := Lib.hid HV.out
    have hl : name.length ≤ 1000000000 := by have h := HSz.out; rw [HQ.out] at h; simp at h; omega
    clear HV HPF HN HK
    go_enter Tryz.func41, Tryz.ntmps41
    go_wp2_with fail
    go_ret
    exact ⟨ret_str (by rw [HQ.out]; apply ByteArray.ext; simp [ByteArray.data_append]), (Below.refl _ _).alloc (Nat.le_refl _) _⟩
  by_cases h2 : k = 2
  · subst h2
    have HQ : Hid (q = 46 :: name) := Lib.hid HV.out
    have hl : name.length ≤ 1000000000 := by have h := HSz.out; rw [HQ.out] at h; simp at h; omega
    clear HV HPF HN HK
    go_enter Tryz.func41, Tryz.ntmps41
    go_wp2_with fail
    go_ret
    exact ⟨ret_str (by rw [HQ.out]; apply ByteArray.ext; simp [ByteArray.data_append]), (Below.refl _ _).alloc (Nat.le_refl _) _⟩
  by_cases h3 : k = 3
  · subst h3
    have HQ : Hid (q = 91 :: (name ++ [93])) := Lib.hid HV.out
    have hl : name.length ≤ 1000000000 := by have h := HSz.out; rw [HQ.out] at h; simp at h; omega
    clear HV HPF HN HK
    go_enter Tryz.func41, Tryz.ntmps41
    go_wp2_with fail
    go_ret
    exact ⟨ret_str (by rw [HQ.out]; apply ByteArray.ext; simp [ByteArray.data_append]), (Below.refl _ _).alloc (Nat.le_refl _) _⟩
  by_cases h4 : k = 4
  · subst h4
    have HQ : Hid (q = 91 :: (name ++ (61 :: (L.quoted value ++ [93])))) := Lib.hid HV.out
    have hl : name.length + (L.quoted value).length ≤ 1000000000 := by have h := HSz.out; rw [HQ.out] at h; simp at h; omega
    have hlq := le_quoted value
    have QQ := Lib.hid (fun W => quote value W (by omega))
    have zq := bytes_size (L.quoted value)
    generalize L.quoted value = qv at *
    clear HV HPF HN HK
    go_enter Tryz.func41, Tryz.ntmps41
    go_wp2_with fail
    go_quiet ((go_at_call 62; exact quietAdd (QQ.out _)))
    go_wp2_with fail
    go_ret
    exact ⟨ret_str (by rw [HQ.out]; apply ByteArray.ext; simp [ByteArray.data_append]), belowN ((Below.refl _ _).alloc (Nat.le_refl _) _) _⟩
  by_cases h5 : k = 5
  · subst h5
    have HQ : Hid (q = 91 :: (name ++ (126 :: 61 :: (L.quoted value ++ [93])))) := Lib.hid HV.out
    have hl : name.length + (L.quoted value).length ≤ 1000000000 := by have h := HSz.out; rw [HQ.out] at h; simp at h; omega
    have hlq := le_quoted value
    have QQ := Lib.hid (fun W => quote value W (by omega))
    have zq := bytes_size (L.quoted value)
    generalize L.quoted value = qv at *
    clear HV HPF HN HK
    go_enter Tryz.func41, Tryz.ntmps41
    go_wp2_with fail
    go_quiet ((go_at_call 62; exact quietAdd (QQ.out _)))
    go_wp2_with fail
    go_ret
    exact ⟨ret_str (by rw [HQ.out]; apply ByteArray.ext; simp [ByteArray.data_append]), belowN ((Below.refl _ _).alloc (Nat.le_refl _) _) _⟩
  by_cases h6 : k = 6
  · subst h6
    have HQ : Hid (q = 91 :: (name ++ (94 :: 61 :: (L.quoted value ++ [93])))) := Lib.hid HV.out
    have hl : name.length + (L.quoted value).length ≤ 1000000000 := by have h := HSz.out; rw [HQ.out] at h; simp at h; omega
    have hlq := le_quoted value
    have QQ := Lib.hid (fun W => quote value W (by omega))
    have zq := bytes_size (L.quoted value)
    generalize L.quoted value = qv at *
    clear HV HPF HN HK
    go_enter Tryz.func41, Tryz.ntmps41
    go_wp2_with fail
    go_quiet ((go_at_call 62; exact quietAdd (QQ.out _)))
    go_wp2_with fail
    go_ret
    exact ⟨ret_str (by rw [HQ.out]; apply ByteArray.ext; simp [ByteArray.data_append]), belowN ((Below.refl _ _).alloc (Nat.le_refl _) _) _⟩
  by_cases h9 : k = 9
  · subst h9
    have HQ : Hid (q = L.nthHead ++ (L.stepOf a b ++ [41])) := Lib.hid HV.out
    have hl : (L.stepOf a b).length ≤ 1000000000 := by have h := HSz.out; rw [HQ.out] at h; simp at h; omega
    have QS := Lib.hid (fun W => step a b W (HK.out rfl).1.1 (HK.out rfl).1.2 (HK.out rfl).2.1 (HK.out rfl).2.2)
    have zq := bytes_size (L.stepOf a b)
    generalize L.stepOf a b = qv at *
    clear HV HPF HN HK
    go_enter Tryz.func41, Tryz.ntmps41
    go_wp2_with fail
    refine (QS.out _).mono ?_
    rintro e w2 ⟨rfl, hw2⟩
    have HB2 : Hid (Below (w.heap.size + 1) (w.alloc (.cells #[.int .i64 9, .string ⟨name.toArray⟩, .string ⟨value.toArray⟩, .int .i64 a, .int .i64 b, .slice an ln cn] 88)) w2) := Lib.hid (by rw [hw2]; exact Below.refl _ _)
    clear hw2
    go_wp2_with fail
    go_ret
    refine ⟨ret_str (by rw [HQ.out]; apply ByteArray.ext; simp [ByteArray.data_append, L.nthHead]), ?_⟩
    exact ((Below.refl _ w).alloc (Nat.le_refl _) _).trans (HB2.out.mono (by simp))
  by_cases h14 : k = 14
  · subst h14
    have HQ : Hid (q = L.notHead ++ (L.fpart name (nots.map L.ftst) ++ [41])) := Lib.hid HV.out
    have hl : (L.fpart name (nots.map L.ftst)).length ≤ 1000000000 := by have h := HSz.out; rw [HQ.out] at h; simp at h; omega
    have QS := Lib.hid (HPF.out rfl _ ((Below.refl _ w).alloc (Nat.le_refl _) (.cells #[.int .i64 14, .string ⟨name.toArray⟩, .string ⟨value.toArray⟩, .int .i64 a, .int .i64 b, .slice an ln cn] 88)))
    have zq := bytes_size (L.fpart name (nots.map L.ftst))
    generalize L.fpart name (nots.map L.ftst) = qv at *
    clear HV HPF HN HK
    go_enter Tryz.func41, Tryz.ntmps41
    go_wp2_with fail
    refine (QS.out).mono ?_
    rintro e w2 ⟨rfl, hb2⟩
    have HB2 := Lib.hid hb2
    clear hb2
    go_wp2_with fail
    go_ret
    refine ⟨ret_str (by rw [HQ.out]; apply ByteArray.ext; simp [ByteArray.data_append, L.notHead]), ?_⟩
    exact ((Below.refl _ w).alloc (Nat.le_refl _) _).trans (HB2.out.mono (by simp))
  have HKd : k = 7 ∨ k = 8 ∨ k = 10 ∨ k = 11 ∨ k = 12 ∨ k = 13 := by
    have : 1 ≤ k ∧ k ≤ 14 := hkd
    omega
  have HB0 : Hid (Below w.heap.size w ((w.alloc (.cells #[.int .i64 k, .string ⟨name.toArray⟩, .string ⟨value.toArray⟩, .int .i64 a, .int .i64 b, .slice an ln cn] 88)))) := Lib.hid ((Below.refl _ w).alloc (Nat.le_refl _) _)
  have HQ : Hid (q = L.ofKind k) := Lib.hid (by
    rw [HV.out]; unfold L.ftest; dsimp only
    rw [if_neg h1, if_neg h2, if_neg h3, if_neg h4, if_neg h5, if_neg h6, if_neg h9, if_neg h14])
  clear HV HPF HN HK h1 h2 h3 h4 h5 h6 h9 h14 hkd
  rcases HKd with rfl | rfl | rfl | rfl | rfl | rfl
  · have HQ2 : Hid (q = [58, 102, 105, 114, 115, 116, 45, 99, 104, 105, 108, 100]) := Lib.hid HQ.out
    clear HQ
    go_enter Tryz.func41, Tryz.ntmps41
    go_wp2_with fail
    go_ret
    exact ⟨ret_str (by rw [HQ2.out]), HB0.out.alloc (by simp) _⟩
  · have HQ2 : Hid (q = [58, 108, 97, 115, 116, 45, 99, 104, 105, 108, 100]) := Lib.hid HQ.out
    clear HQ
    go_enter Tryz.func41, Tryz.ntmps41
    go_wp2_with fail
    go_ret
    exact ⟨ret_str (by rw [HQ2.out]), HB0.out.alloc (by simp) _⟩
  · have HQ2 : Hid (q = [58, 101, 109, 112, 116, 121]) := Lib.hid HQ.out
    clear HQ
    go_enter Tryz.func41, Tryz.ntmps41
    go_wp2_with fail
    go_ret
    exact ⟨ret_str (by rw [HQ2.out]), HB0.out.alloc (by simp) _⟩
  · have HQ2 : Hid (q = [58, 102, 111, 99, 117, 115]) := Lib.hid HQ.out
    clear HQ
    go_enter Tryz.func41, Tryz.ntmps41
    go_wp2_with fail
    go_ret
    exact ⟨ret_str (by rw [HQ2.out]), HB0.out.alloc (by simp) _⟩
  · have HQ2 : Hid (q = [58, 104, 111, 118, 101, 114]) := Lib.hid HQ.out
    clear HQ
    go_enter Tryz.func41, Tryz.ntmps41
    go_wp2_with fail
    go_ret
    exact ⟨ret_str (by rw [HQ2.out]), HB0.out.alloc (by simp) _⟩
  · have HQ2 : Hid (q = [58, 99, 104, 101, 99, 107, 101, 100]) := Lib.hid HQ.out
    clear HQ
    go_enter Tryz.func41, Tryz.ntmps41
    go_wp2_with fail
    go_ret
    exact ⟨ret_str (by rw [HQ2.out]), HB0.out.alloc (by simp) _⟩

end F
end Go.Proofs.YtnmcgmbhkmfiaaaGreatDoor

namespace Go.Proofs.YtnmcgmbhkmfiaaaGreatDoor
open Go.RowKit Go.Sort
namespace F
open H K

set_option maxHeartbeats 4000000 in
set_option maxRecDepth 100000 in
theorem part_text (ty : List UInt8) (v : Value) (l : List L.Test) (w : World) (S : Nat → Prop) (hT : TestsAt S w v l) (hl : l.length ≤ 1000000) (hsz : (L.fTests ty l).length ≤ 1000000000)
    (hTF : ∀ t ∈ l, ∀ (nv : Value) (W : World), ITest S W nv t → Calls Tryz.prog 41 #[tval t.t nv] W (TextPost (L.fTest t) W)) :
    Calls Tryz.prog 23 #[.string ⟨ty.toArray⟩, v] w (TextPost (L.fTests ty l) w) := by
  have HT := Lib.hid hT
  have HTF := Lib.hid hTF
  obtain ⟨ao, cap, hv⟩ := hT.form
  have zt := bytes_size ty
  have HQ : Hid (L.fTests ty l = if ty = [] ∧ l = [] then [42] else ty ++ (l.map L.fTest).flatten) := Lib.hid (by
    unfold L.fTests L.fpart; simp)
  have HSz := Lib.hid hsz
  generalize hNN : l.length = N at hv hl
  have HN := Lib.hid hNN
  subst hv
  generalize L.fTests ty l = q at *
  have HB0 : Hid (Below w.heap.size w w) := Lib.hid (Below.refl _ w)
  have hcs : (∃ acc : List UInt8, Hid (q = acc ++ ((l.drop 0).map L.fTest).flatten) ∧ ((ty = [] ∧ ((N : Int) == 0) = true ∧ acc = [42]) ∨ ((ty == []) = false ∧ acc = ty) ∨ (ty = [] ∧ ((N : Int) == 0) = false ∧ acc = []))) := by
    by_cases hem : ty = [] ∧ l = []
    · refine ⟨[42], Lib.hid (by rw [HQ.out, if_pos hem, hem.2]; rfl), Or.inl ⟨hem.1, by rw [← hNN, hem.2]; rfl, rfl⟩⟩
    · refine ⟨ty, Lib.hid (by rw [HQ.out, if_neg hem]; simp), ?_⟩
      by_cases h : ty = []
      · exact Or.inr (Or.inr ⟨h, by rw [beq_eq_false_iff_ne]; intro h0; exact hem ⟨h, List.eq_nil_of_length_eq_zero (by omega)⟩, h⟩)
      · exact Or.inr (Or.inl ⟨by simpa using h, rfl⟩)
  clear hT hTF hsz hNN HQ
  obtain ⟨acc0, H0, hcs⟩ := hcs
  rcases hcs with ⟨rfl, hc, rfl⟩ | ⟨hc, rfl⟩ | ⟨rfl, hc, rfl⟩
  all_goals
    go_enter Tryz.func23, Tryz.ntmps23
    go_wp2_with fail
    go_loopw [5, 6] (fun v5 v6 wr => ∃ k : Nat, v6 = .int .i64 k ∧ (∃ acc : List UInt8, v5 = .string ⟨acc.toArray⟩ ∧ Hid (q = acc ++ ((l.drop k).map L.fTest).flatten)) ∧ k ≤ N ∧ Hid (Below w.heap.size w wr)) (fun _ v6 _ => N - (intOf v6).toNat)
    case atStart => exact ⟨0, rfl, ⟨_, rfl, H0⟩, Nat.zero_le _, HB0⟩
    case round =>
      obtain ⟨k, rfl, ⟨acc, rfl, HA⟩, hk, HB⟩ := hrel
      clear HB0 H0
      by_cases hkN : k < N
      · have hkl : k < l.length := by rw [HN.out]; exact hkN
        have hkI : (k : Int) < (N : Int) := by omega
        have hsl := keeps_tests HT.out (Kept.below HB.out)
        cases ao with
        | none => exact absurd (ListAt.none_ hsl) (by intro h; rw [h] at hkl; simp at hkl)
        | some aa =>
          obtain ⟨g, hg⟩ : ∃ g, aa = ⟨g, 0, none⟩ := by
            obtain ⟨ps, h1, h2, h3⟩ := hsl
            rcases h2 with ⟨hv, hn⟩ | ⟨g, cap', hv, _⟩
            · cases hv
            · simp only [Value.slice.injEq, Option.some.injEq] at hv
              exact ⟨g, hv.1⟩
          subst hg
          obtain ⟨hlt, hnl, hsS, vk, hc, hp⟩ := ListAt.at_ cTest_len hsl hkl
          clear hnl hsS
          have hsplit : ((l.drop k).map L.fTest).flatten = L.fTest l[k] ++ ((l.drop (k + 1)).map L.fTest).flatten := by
            rw [List.drop_eq_getElem_cons hkl, List.map_cons, List.flatten_cons]
          have HA2 := Lib.hid (HA.out.trans (by rw [hsplit, ← List.append_assoc]))
          have hmem := List.getElem_mem hkl
          have hlen : acc.length + (L.fTest l[k]).length ≤ 1000000000 := by
            have h1 := HSz.out
            rw [HA2.out, List.length_append, List.length_append] at h1
            omega
          clear hsplit HA hsl
          generalize l[k] = tk at *
          have hp2 : NotsAt S wr vk tk.nots := hp
          obtain ⟨ak, ck, hvk⟩ := hp2.form
          generalize tk.nots.length = nk at hvk
          clear hp2
          have hl1 : (L.fTest tk).length ≤ 1000000000 := by omega
          have Q := Lib.hid (fun W => HTF.out tk hmem vk W)
          have HIp := Lib.hid hp
          obtain ⟨⟨kk, nm, vl, ka, kb⟩, nts⟩ := tk
          have c0 : wr.cell? ⟨g, k * 6 + 0, none⟩ = some (.int .i64 kk) := hc 0 (by omega)
          have c1 : wr.cell? ⟨g, k * 6 + 1, none⟩ = some (.string ⟨nm.toArray⟩) := hc 1 (by omega)
          have c2 : wr.cell? ⟨g, k * 6 + 2, none⟩ = some (.string ⟨vl.toArray⟩) := hc 2 (by omega)
          have c3 : wr.cell? ⟨g, k * 6 + 3, none⟩ = some (.int .i64 ka) := hc 3 (by omega)
          have c4 : wr.cell? ⟨g, k * 6 + 4, none⟩ = some (.int .i64 kb) := hc 4 (by omega)
          have c5 : wr.cell? ⟨g, k * 6 + 5, none⟩ = some vk := hc 5 (by omega)
          simp only [Nat.add_zero] at c0
          subst hvk
          generalize L.fTest ⟨⟨kk, nm, vl, ka, kb⟩, nts⟩ = ft at *
          have zf := bytes_size ft
          have za := bytes_size acc
          have Q2 := Lib.hid (Q.out _ HIp.out)
          unfold tval tcells at Q2
          clear hc hp hmem Q HIp hl1 hkl
          go_wp2_with fail
          refine Q2.out.mono ?_
          rintro e w2 ⟨rfl, hb2⟩
          have HB2 := Lib.hid (HB.out.trans (hb2.mono HB.out.size))
          clear hb2 Q2 c0 c1 c2 c3 c4 c5
          go_wp2_with fail
          go_roundw
          case rel =>
            exact ⟨k + 1, by go_num, ⟨acc ++ ft, congrArg Value.string (append_bytes acc ft), HA2⟩, by omega, HB2⟩
          case measure => simp [intOf]; omega
      · have HA2 : Hid (q = acc) := Lib.hid (by
          have h := HA.out
          rw [show k = l.length by rw [HN.out]; omega, List.drop_length] at h
          simpa using h)
        have e1 : ¬ (k : Int) < (N : Int) := by omega
        clear HA
        go_wp2_with fail
        go_ret
        exact ⟨ret_str (by rw [HA2.out]), HB.out⟩

end F
end Go.Proofs.YtnmcgmbhkmfiaaaGreatDoor

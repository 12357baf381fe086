/- What the writing functions of the reference come to: part. -/
import Derived.Test.YtafkeolpadfjfaaGreatDoorRwr2
set_option linter.unusedVariables false
set_option linter.unusedSimpArgs false
namespace Go.Proofs.YtafkeolpadfjfaaGreatDoor
open Go.RowKit Go.Sort
namespace F
open H K
set_option maxHeartbeats 4000000 in
set_option maxRecDepth 100000 in
theorem part_text (ty : List UInt8) (v : Value) (l : List L.Test) (w : World) (S : Nat → Prop) (hT : TestsAt S w v l) (hl : l.length ≤ 1000000) (hsz : (L.fTests ty l).length ≤ 1000000000)
  (hTF : ∀ t ∈ l, ∀ (nv : Value) (W : World), ITest S W nv t → Calls Tryz.prog 97 #[tval t.t nv] W (TextPost (L.fTest t) W)) :
  Calls Tryz.prog 58 #[.string ⟨ty.toArray⟩, v] w (TextPost (L.fTests ty l) w) := by
 have HT := Lib.hid hT
 have HTF := Lib.hid hTF
 obtain ⟨ao, cap, hv⟩ := hT.form
 have zt := bytes_size ty
 have HQ : Hid (L.fTests ty l = if ty = [] ∧ l = [] then [42] else ty ++ (l.map L.fTest).flatten) := Lib.hid (by
  unfold L.fTests L.fpart; simp)
 have HSz := Lib.hid hsz
 generalize hNN : l.length = N at hv hl
 have HN := Lib.hid hNN
 subst hv
 generalize L.fTests ty l = q at *
 have HB0 : Hid (Below w.heap.size w w) := Lib.hid (Below.refl _ w)
 have hcs : (∃ acc : List UInt8, Hid (q = acc ++ ((l.drop 0).map L.fTest).flatten) ∧ ((ty = [] ∧ ((N : Int) == 0) = true ∧ acc = [42]) ∨ ((ty == []) = false ∧ acc = ty) ∨ (ty = [] ∧ ((N : Int) == 0) = false ∧ acc = []))) := by
  by_cases hem : ty = [] ∧ l = []
  ·refine ⟨[42], Lib.hid (by rw [HQ.out, if_pos hem, hem.2]; rfl), Or.inl ⟨hem.1, by rw [← hNN, hem.2]; rfl, rfl⟩⟩
  ·refine ⟨ty, Lib.hid (by rw [HQ.out, if_neg hem]; simp), ?_⟩
   by_cases h : ty = []
   ·exact Or.inr (Or.inr ⟨h, by rw [beq_eq_false_iff_ne]; intro h0; exact hem ⟨h, List.eq_nil_of_length_eq_zero (by omega)⟩, h⟩)
   ·exact Or.inr (Or.inl ⟨by simpa using h, rfl⟩)
 clear hT hTF hsz hNN HQ
 obtain ⟨acc0, H0, hcs⟩ := hcs
 rcases hcs with ⟨rfl, hc, rfl⟩ | ⟨hc, rfl⟩ | ⟨rfl, hc, rfl⟩
 all_goals
  go_enter Tryz.func58, Tryz.ntmps58
  go_wp2_with fail
  go_loopw [5, 6] (fun v5 v6 wr => ∃ k : Nat, v6 = .int .i64 k ∧ (∃ acc : List UInt8, v5 = .string ⟨acc.toArray⟩ ∧ Hid (q = acc ++ ((l.drop k).map L.fTest).flatten)) ∧ k ≤ N ∧ Hid (Below w.heap.size w wr)) (fun _ v6 _ => N - (intOf v6).toNat)
  case atStart => exact ⟨0, rfl, ⟨_, rfl, H0⟩, Nat.zero_le _, HB0⟩
  case round =>
   obtain ⟨k, rfl, ⟨acc, rfl, HA⟩, hk, HB⟩ := hrel
   clear HB0 H0
   by_cases hkN : k < N
   ·have hkl : k < l.length := by rw [HN.out]; exact hkN
    have hkI : (k : Int) < (N : Int) := by omega
    have hsl := keeps_tests HT.out (Kept.below HB.out)
    cases ao with
    | none => exact absurd (ListAt.none_ hsl) (by intro h; rw [h] at hkl; simp at hkl)
    | some aa =>
     obtain ⟨g, hg⟩ : ∃ g, aa = ⟨g, 0, none⟩ := by
      obtain ⟨ps, h1, h2, h3⟩ := hsl
      rcases h2 with ⟨hv, hn⟩ | ⟨g, cap', hv, _⟩
      ·cases hv
      ·simp only [Value.slice.injEq, Option.some.injEq] at hv
       exact ⟨g, hv.1⟩
     subst hg
     obtain ⟨hlt, hnl, hsS, vk, hc, hp⟩ := ListAt.at_ cTest_len hsl hkl
     clear hnl hsS
     have hsplit : ((l.drop k).map L.fTest).flatten = L.fTest l[k] ++ ((l.drop (k + 1)).map L.fTest).flatten := by
      rw [List.drop_eq_getElem_cons hkl, List.map_cons, List.flatten_cons]
     have HA2 := Lib.hid (HA.out.trans (by rw [hsplit, ← List.append_assoc]))
     have hmem := List.getElem_mem hkl
     have hlen : acc.length + (L.fTest l[k]).length ≤ 1000000000 := by
      have h1 := HSz.out
      rw [HA2.out, List.length_append, List.length_append] at h1
      omega
     clear hsplit HA hsl
     generalize l[k] = tk at *
     have hp2 : NotsAt S wr vk tk.nots := hp
     obtain ⟨ak, ck, hvk⟩ := hp2.form
     generalize tk.nots.length = nk at hvk
     clear hp2
     have hl1 : (L.fTest tk).length ≤ 1000000000 := by omega
     have Q := Lib.hid (fun W => HTF.out tk hmem vk W)
     have HIp := Lib.hid hp
     obtain ⟨⟨kk, nm, vl, ka, kb⟩, nts⟩ := tk
     have c0 : wr.cell? ⟨g, k * 6 + 0, none⟩ = some (.int .i64 kk) := hc 0 (by omega)
     have c1 : wr.cell? ⟨g, k * 6 + 1, none⟩ = some (.string ⟨nm.toArray⟩) := hc 1 (by omega)
     have c2 : wr.cell? ⟨g, k * 6 + 2, none⟩ = some (.string ⟨vl.toArray⟩) := hc 2 (by omega)
     have c3 : wr.cell? ⟨g, k * 6 + 3, none⟩ = some (.int .i64 ka) := hc 3 (by omega)
     have c4 : wr.cell? ⟨g, k * 6 + 4, none⟩ = some (.int .i64 kb) := hc 4 (by omega)
     have c5 : wr.cell? ⟨g, k * 6 + 5, none⟩ = some vk := hc 5 (by omega)
     simp only [Nat.add_zero] at c0
     subst hvk
     generalize L.fTest ⟨⟨kk, nm, vl, ka, kb⟩, nts⟩ = ft at *
     have zf := bytes_size ft
     have za := bytes_size acc
     have Q2 := Lib.hid (Q.out _ HIp.out)
     unfold tval tcells at Q2
     clear hc hp hmem Q HIp hl1 hkl
     go_wp2_with fail
     refine Q2.out.mono ?_
     rintro e w2 ⟨rfl, hb2⟩
     have HB2 := Lib.hid (HB.out.trans (hb2.mono HB.out.size))
     clear hb2 Q2 c0 c1 c2 c3 c4 c5
     go_wp2_with fail
     go_roundw
     case rel =>
      exact ⟨k + 1, by go_num, ⟨acc ++ ft, congrArg Value.string (append_bytes acc ft), HA2⟩, by omega, HB2⟩
     case measure => simp [intOf]; omega
   ·have HA2 : Hid (q = acc) := Lib.hid (by
     have h := HA.out
     rw [show k = l.length by rw [HN.out]; omega, List.drop_length] at h
     simpa using h)
    have e1 : ¬ (k : Int) < (N : Int) := by omega
    clear HA
    go_wp2_with fail
    go_ret
    exact ⟨ret_str (by rw [HA2.out]), HB.out⟩
end F
end Go.Proofs.YtafkeolpadfjfaaGreatDoor

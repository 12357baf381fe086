/- Texts of the proof. -/
import Derived.Test.YtinphfpdfodkkaaGreatDoorM00
import Derived.Test.YtinphfpdfodkkaaGreatDoorM22
import Derived.Test.YtinphfpdfodkkaaGreatDoorM17
set_option linter.unusedVariables false
set_option linter.unusedSimpArgs false
set_option maxHeartbeats 8000000
namespace Go.Proofs.YtinphfpdfodkkaaGreatDoor
open Go.RowKit Go.Sort
namespace R
open H G A
theorem mNew (w : World) : Calls Tryz.prog 93 #[] w fun e w' => ∃ M, e = .returned (.pointer (some ⟨M.mb, 0, none⟩)) ∧ Below w.heap.size w w' ∧ ModelMem w' M ∧ M.m = [docNode] ∧ w.heap.size ≤ M.B ∧ ∀ k, M.foot k → w.heap.size ≤ k := by
 have HB := hi_ ((((Below.refl w.heap.size w).alloc (Nat.le_refl _) (.cells #[.int .i64 1, .string ⟨#[]⟩, .slice none 0 0, .string ⟨#[]⟩, .int .i64 (-1), .slice none 0 0, .bool false] 105))).alloc (by simp) (.cells #[.slice (some ⟨w.heap.size, 0, none⟩) 1 1] 102)); have HB1 := hi_ (Blk.new (w.alloc (.cells #[.int .i64 1, .string ⟨#[]⟩, .slice none 0 0, .string ⟨#[]⟩, .int .i64 (-1), .slice none 0 0, .bool false] 105)) #[.slice (some ⟨w.heap.size, 0, none⟩) 1 1] 102)
 have HO : Hid (World.ownsRow ((w.alloc (.cells #[.int .i64 1, .string ⟨#[]⟩, .slice none 0 0, .string ⟨#[]⟩, .int .i64 (-1), .slice none 0 0, .bool false] 105)).alloc (.cells #[.slice (some ⟨w.heap.size, 0, none⟩) 1 1] 102)) w.heap.size 105 7 (.slice (some ⟨w.heap.size, 0, none⟩) 1 1) 1 (ncells ⟨docNode, .slice none 0 0, .slice none 0 0⟩)) := hi_ (by
  have h1 := World.ownsRow_lit (e := 105) (base := w.heap.size) (size := 7) w #[.int .i64 1, .string ⟨#[]⟩, .slice none 0 0, .string ⟨#[]⟩, .int .i64 (-1), .slice none 0 0, .bool false] 1 (Nat.le_refl _) (by unfold maxLen; omega) (by simp); simp only [List.size_toArray] at h1; exact World.ownsRow.alloc (show World.ownsRow _ w.heap.size _ 7 (.slice (some ⟨w.heap.size, 0, none⟩) 1 1) 1 [.int .i64 1, .string ⟨#[]⟩, .slice none 0 0, .string ⟨#[]⟩, .int .i64 (-1), .slice none 0 0, .bool false] from by simpa using h1) _)
 go_enter Tryz.func93, Tryz.ntmps93
 go_wp2_with fail
 go_ret
 refine ⟨⟨w.heap.size + 1, w.heap.size, 1, [⟨docNode, .slice none 0 0, .slice none 0 0⟩], w.heap.size⟩, rfl, HB.out, ⟨?_, ?_, by simp, by simp, fun x hx => ?_, fun x hx => ?_, fun i j hi hj hne => ?_, fun i j hi hj hne => ?_⟩, rfl, Nat.le_refl _, fun k hk => ?_⟩
 ·have h1 := HB1.out
  rw [World.size_alloc] at h1; exact h1
 ·exact HO.out
 ·rw [List.mem_singleton.1 hx]; exact World.ownsRow_nil _ _ _ _
 ·rw [List.mem_singleton.1 hx]; exact World.ownsRow_nil _ _ _ _
 ·have hi : i < 1 := hi
  have hj : j < 1 := hj; omega
 ·have hi : i < 1 := hi
  have hj : j < 1 := hj; omega
 ·rcases hk with e | e | ⟨x, hx, e⟩
  ·rw [e]; show w.heap.size ≤ w.heap.size + 1; omega
  ·rw [e]; exact Nat.le_refl _
  ·rw [List.mem_singleton.1 hx] at e
   rcases e with e | e
   ·have e : (Value.slice none 0 0).ownBlock = some k := e
    simp [Value.ownBlock] at e
   ·have e : (Value.slice none 0 0).ownBlock = some k := e
    simp [Value.ownBlock] at e
theorem mdrop_cases (m : Model) (h : Nat) (nm : List UInt8) :
  ((nd m h).kind ≠ 2 → dropAttr m h nm = ([], 10, m)) ∧ ((nd m h).kind = 2 → attrAt m h nm = none → dropAttr m h nm = ([], 0, m)) ∧
  (∀ i, (nd m h).kind = 2 → attrAt m h nm = some i → dropAttr m h nm = ([attrRec h nm (((nd m h).attrs[i]?.map (·.2)).getD []) true], 0, upd m h fun x => { x with attrs := x.attrs.eraseIdx i })) := by
 refine ⟨fun h1 => ?_, fun h1 h3 => ?_, fun i h1 h3 => ?_⟩
 ·unfold dropAttr; rw [if_pos h1]
 ·unfold dropAttr; rw [if_neg (by simp [h1]), h3]
 ·unfold dropAttr; rw [if_neg (by simp [h1]), h3]
theorem one_acells : ∀ (l : List BB), ∀ u ∈ l.flatMap acells, u.oneCell' = true := by
 intro l u hu; obtain ⟨a, _, ha⟩ := List.mem_flatMap.1 hu; unfold acells at ha; simp at ha
 rcases ha with e | e <;> rw [e] <;> rfl
set_option maxRecDepth 100000 in
theorem mDropAttr (M : MMem) (h : Nat) (nm : List UInt8) (w : World) (hM : ModelMem w M) (hh : h < M.nodes.length) (hl : (nd M.m h).attrs.length ≤ 100000) :
  Calls Tryz.prog 68 #[.pointer (some ⟨M.mb, 0, none⟩), .int .i64 h, .string ⟨nm.toArray⟩] w fun e w' => ∃ v M', e = .returned (.tuple #[v, .int .i64 ((dropAttr M.m h nm).2.1 : Nat)]) ∧ H.Frame M.foot w w' ∧ ModelMem w' M' ∧ M'.m = (dropAttr M.m h nm).2.2 ∧ MLike w M M' ∧ MRecsAt w.heap.size w' v (dropAttr M.m h nm).1 := by
 obtain ⟨c0, l0, l1⟩ := hM.top; have k0 := (hM.cell hh).1; have k2 := (hM.cell hh).2.2.1; have n1 : (h : Int) < (M.nodes.length : Int) := by omega
 have hfew := hM.few; have HM := hi_ hM; have Q3 := hi_ (mFind M h nm w hM hh (by omega)); have hrow := hM.attrsRow hh; obtain ⟨ao, cap, hav⟩ := RecRow.slice hrow; rw [hav] at k2 hrow; have HAv := hi_ hav; have HRow := hi_ hrow; have HSC := hi_ (mdrop_cases M.m h nm); obtain ⟨R, hR⟩ : ∃ R, R = dropAttr M.m h nm := ⟨_, rfl⟩; rw [← hR] at HSC ⊢; generalize hkd : (nd M.m h).kind = kd at *; clear hM hR hkd hrow hav
 go_enter Tryz.func68, Tryz.ntmps68
 by_cases hk : kd = 2
 ·subst hk
  go_wp2_with fail
  refine Q3.out.mono ?_; rintro e w2 ⟨rfl, rfl⟩
  cases hat : attrAt M.m h nm with
  | none =>
   have HRs := hi_ (HSC.out.2.1 trivial hat); clear hat; rw [show idxI none = (-1 : Int) from rfl]; go_wp2_with fail
   refine bodyPost_ret (v := .tuple #[.slice none 0 0, .int .i64 0]) (by simp [results, Tryz.results68, go_sem]) rfl ⟨.slice none 0 0, M, by rw [HRs.out]; rfl, H.Frame.refl _ _, HM.out, by rw [HRs.out], MLike.refl _ _, by rw [HRs.out]; exact MRecsAt.nil _ _⟩
  | some i =>
   have HRs := hi_ (HSC.out.2.2 i trivial hat); rw [show idxI (some i) = (i : Int) from rfl]; obtain ⟨hil, old, hold⟩ : ∃ hil : i < (nd M.m h).attrs.length, ∃ old, ((nd M.m h).attrs[i]'hil).2 = old := by
    unfold attrAt at hat; rw [List.findIdx?_eq_some_iff_getElem] at hat; obtain ⟨h1, h2, _⟩ := hat; exact ⟨h1, _, rfl⟩
   have HOld : Hid ((((nd M.m h).attrs[i]?.map (·.2)).getD []) = old) := hi_ (by rw [List.getElem?_eq_getElem hil]; exact hold); obtain ⟨ga, cap', hv', hga1, hga2, hgc⟩ := own_some HRow.out (by omega); injection hv' with e1 _ e3
   subst e1 e3; have hc1 := (RecRow.cell acells_len HRow.out hil (k := 1) (by omega)).1; have hc1' : w.cell? ⟨ga, i * 2 + 1, none⟩ = some (.string ⟨old.toArray⟩) := by
    have h1 : w.cell? ⟨ga, i * 2 + 1, none⟩ = some (.string ⟨((nd M.m h).attrs[i]).2.toArray⟩) := hc1; rw [hold] at h1; exact h1
   have hii : (i : Int) < ((nd M.m h).attrs.length : Int) := by omega
   have HHn : Hid ((M.at_ h).av.ownBlock = some ga) := hi_ (by rw [HAv.out]; rfl); have p0 : (0 : Int) ≤ (i : Int) := by omega
   have p4 : (0 : Int) ≤ (i : Int) + 1 := by omega
   have p1 : (i : Int) ≤ (cap : Int) := by omega
   have p2 : (i : Int) + 1 ≤ ((nd M.m h).attrs.length : Int) := by omega
   have p3 : ((nd M.m h).attrs.length : Int) ≤ (cap : Int) := by omega
   have wq : IntKind.i64.wrap ((i : Int) + 1) = (i : Int) + 1 := IntWalk.i64_in _ (by omega); have wq2 : wrap64 ((i : Int) + 1) = (i : Int) + 1 := by unfold wrap64; omega
   generalize hal : (nd M.m h).attrs = al at *; have HAl := hi_ hal; have HIl := hi_ hil; have HGc := hi_ hgc; clear hat hc1 hold hal hil hgc; go_upto_region 8 with fail
   have HRec := hi_ (Blk.new w #[.int .i64 3, .int .i64 (h : Nat), .int .i64 (-1), .int .i64 (-1), .int .i64 (-1), .int .i64 0, .string ⟨nm.toArray⟩, .string ⟨old.toArray⟩, .bool true, .int .i64 0, .int .i64 0] 71); have hbE : Below w.heap.size w (w.alloc (.cells #[.int .i64 3, .int .i64 (h : Nat), .int .i64 (-1), .int .i64 (-1), .int .i64 (-1), .int .i64 0, .string ⟨nm.toArray⟩, .string ⟨old.toArray⟩, .bool true, .int .i64 0, .int .i64 0] 71)) := (Below.refl _ w).alloc (Nat.le_refl _) _; have HBE := hi_ hbE; have HME := hi_ (HM.out.below HBE.out); have HRowE := hi_ (own_below HRow.out hbE); clear hbE k2 c0 l0 l1 k0 hc1'; generalize hEE : w.heap.size = E at *
   generalize w.alloc (.cells #[.int .i64 3, .int .i64 (h : Nat), .int .i64 (-1), .int .i64 (-1), .int .i64 (-1), .int .i64 0, .string ⟨nm.toArray⟩, .string ⟨old.toArray⟩, .bool true, .int .i64 0, .int .i64 0] 71) = wE at *; obtain ⟨c0, l0, l1⟩ := HME.out.top; obtain ⟨i0, hi0, hz0, hz1, hz2⟩ := info_parts infoMAttr; have HCell : Hid (∀ j u, (al.flatMap acells)[j]? = some u → wE.cell? ⟨ga, j, none⟩ = some u) := hi_ (fun j u hu => by
    have hj : j < (al.flatMap acells).length := by
     rcases Nat.lt_or_ge j (al.flatMap acells).length with h2 | h2
     ·exact h2
     ·rw [List.getElem?_eq_none h2] at hu; cases hu
    rw [((ownsRow_open HRowE.out).2.2.2 j hj).1, hu])
   have hga3 := (ownsRow_open HRowE.out).1; have HGa := hi_ hga3; have HOm := hi_ (World.ownsRow_made (e := 143) (base := wE.heap.size) (size := 2) wE #[] 0 (Nat.le_refl _) (Nat.zero_le _) rfl); have HN1 : Hid (((al.take i).flatMap acells).length = i * 2) := hi_ (by rw [flat_len acells_len, List.length_take]; have := HIl.out; omega); have HNl : Hid (((al.drop (i + 1)).flatMap acells).length = (al.length - (i + 1)) * 2) := hi_ (by rw [flat_len acells_len, List.length_drop]); have HN2 : Hid (∀ W', Below wE.heap.size wE W' → ∀ j u, ((al.take i).flatMap acells)[j]? = some u → W'.cell? ((⟨ga, 0, none⟩ : Addr).add j) = some u) := hi_ (fun W' hb j u hu => by
    rw [add_at, Nat.zero_add]; rw [← flat_take acells_len, List.getElem?_take] at hu
    split at hu
    ·exact (hb.cell (p := ⟨ga, j, none⟩) HGa.out).trans (HCell.out j u hu)
    ·cases hu)
   have HN4 : Hid (∀ W', Below wE.heap.size wE W' → ∀ j u, ((al.drop (i + 1)).flatMap acells)[j]? = some u → W'.cell? ((if cap = i + 1 then (⟨ga, 0, none⟩ : Addr) else ⟨ga, (i + 1) * 2, none⟩).add j) = some u) := hi_ (fun W' hb j u hu => by
    have hlt : j < ((al.drop (i + 1)).flatMap acells).length := by
     rcases Nat.lt_or_ge j ((al.drop (i + 1)).flatMap acells).length with h2 | h2
     ·exact h2
     ·rw [List.getElem?_eq_none h2] at hu; cases hu
    rw [HNl.out] at hlt; have := HGc.out; rw [if_neg (by omega), add_at]; rw [← flat_drop acells_len, List.getElem?_drop] at hu; exact (hb.cell (p := ⟨ga, (i + 1) * 2 + j, none⟩) HGa.out).trans (HCell.out _ u hu))
   have hD0 := hi_ (((Below.refl wE.heap.size wE).alloc (Nat.le_refl _) (.cells #[] 143)).drew); have HEE := hi_ hEE; clear hga1 hga2 hga3 hEE
   go_region_law (first
    | (refine step_append_own (by rfl) _ _ 103 (by rfl) wE.heap.size 143 i0 _ 2 32 Tryz.underlying103 hi0 hz0 hz1 hz2 rfl (by decide) (.slice (some ⟨wE.heap.size, 0, none⟩) 0 0) 0 [] (by rfl) HOm.out.drew ⟨ga, 0, none⟩ i cap ((al.take i).flatMap acells) (by rfl) HN1.out (HN2.out _ hD0.out) (one_acells _) (by unfold maxLen; omega) (by omega) hD0.out.size ?_
       intro v1 w5 hown1 hgrow1 hnil1; rw [Nat.zero_add] at hown1; obtain ⟨ao1, cap1, rfl⟩ := own_slice hown1; have HO1 := hi_ hown1; have HD5 := hi_ (hD0.out.grown hgrow1 hD0.out.size (fun k hk => by simp [Value.ownBlock] at hk; omega)); obtain ⟨c05, l05, l15⟩ := (HME.out.below HD5.out).top; clear hown1 hgrow1 hnil1)
    | (refine step_append_own (by rfl) _ _ 103 (by rfl) wE.heap.size 143 i0 _ 2 32 Tryz.underlying103 hi0 hz0 hz1 hz2 rfl (by decide) (.slice ao1 i cap1) i ([] ++ (al.take i).flatMap acells) (by rfl) HO1.out (if cap = i + 1 then (⟨ga, 0, none⟩ : Addr) else ⟨ga, (i + 1) * 2, none⟩) (al.length - (i + 1)) (cap - (i + 1)) ((al.drop (i + 1)).flatMap acells) (by show Value.slice (if cap = i + 1 then some (⟨ga, 0, none⟩ : Addr) else some ⟨ga, (i + 1) * 2, none⟩) (al.length - (i + 1)) (cap - (i + 1)) = _; split <;> rfl) HNl.out (HN4.out _ HD5.out) (one_acells _) (by unfold maxLen; omega) (by omega) HD5.out.size ?_
       intro v2 w6 hown2 hgrow2 hnil2; obtain ⟨ao2, cap2, rfl⟩ := own_slice hown2; have HO2 := hi_ hown2; have HD6 := hi_ (HD5.out.grown hgrow2 HD5.out.size (fun k hk => (HO1.out.lt k hk).1)); have HM6 := hi_ (HME.out.below HD6.out); obtain ⟨c06, l06, l16⟩ := HM6.out.top; have g2 := (RecRow.cell ncells_len HM6.out.row hh (k := 2) (by omega)).2; have j2 := (HM6.out.cell hh).2.2.1; rw [HAv.out] at j2; clear hown2 hgrow2 hnil2))
   all_goals (
    have hnn : i + (al.length - (i + 1)) = (al.eraseIdx i).length := by rw [List.length_eraseIdx_of_lt HIl.out]; have := HIl.out; omega
    have hbe := HBE.out; rw [← HEE.out] at hbe; have HR6 := hi_ (show RecRow acells M.B 143 2 w6 (.slice ao2 (i + (al.length - (i + 1))) cap2) (al.eraseIdx i) from by
     have h5 := own_mono HO2.out (show M.B ≤ wE.heap.size by have := HME.out.bb; omega); rw [List.nil_append, ← List.flatMap_append, ← List.eraseIdx_eq_take_drop_succ] at h5; unfold RecRow; rw [← hnn]; exact h5)
    have HM7 := hi_ ((HM6.out.rest hh (H.Frame.refl _ w6)).put hh HR6.out (fun j hj hne g hg e => by
     have h1 := (World.ownsRow.lt HO2.out g hg).1; have h2 := (World.ownsRow.lt (HME.out.attrs _ (MMem.at_mem hj).2) g e).2
     omega))
    have HF7 := hi_ (Frame.set (S := M.foot) ((H.Frame.of (S := M.foot) hbe).below_ HD6.out) (Or.inl (Or.inr (Or.inl rfl))) (h * 7 + 2) (.slice ao2 (i + (al.length - (i + 1))) cap2)); have HRc7 := hi_ ((HRec.out.below HD6.out).far (show E ≠ M.g from fun e => own_not HME.out.row HRec.out (by decide) (by rw [e]; rfl)) (h * 7 + 2) (.slice ao2 (i + (al.length - (i + 1))) cap2)); have HL7 : Hid (MLike w M (M.modN h fun x => { x with av := .slice ao2 (i + (al.length - (i + 1))) cap2, n := { x.n with attrs := al.eraseIdx i } })) := hi_ ⟨rfl, rfl, fun k hk => by
     rcases foot_modN hh hk with h1 | h1 | h1
     ·exact Or.inl h1
     ·exact Or.inl (Or.inr (Or.inr ⟨_, (MMem.at_mem hh).2, Or.inl h1⟩))
     ·right
      have h2 := (World.ownsRow.lt HO2.out k h1).1; have h3 := hbe.size
      omega⟩
    have Hm7 : Hid ((M.modN h fun x => { x with av := .slice ao2 (i + (al.length - (i + 1))) cap2, n := { x.n with attrs := al.eraseIdx i } }).m = upd M.m h fun x => { x with attrs := x.attrs.eraseIdx i }) := hi_ (by
     rw [m_modN M h _ (fun x => { x with attrs := al.eraseIdx i }) (fun x => rfl)]; refine upd_at (by rw [M.m_len]; exact hh) ?_; rw [HAl.out])
    generalize (M.modN h fun x => { x with av := .slice ao2 (i + (al.length - (i + 1))) cap2, n := { x.n with attrs := al.eraseIdx i } }) = M7 at *; clear hbe hnn HR6 c06 l06 l16 g2 j2 c05 l05 l15 c0 l0 l1 HO2 HO1; generalize World.setCell w6 ⟨M.g, h * 7 + 2, none⟩ _ = w9 at *; obtain ⟨⟨r0, r1, r2, r3, r4, r5, r6, r7, r8, r9, r10⟩, _⟩ := cells11 HRc7.out; have hlE := HRc7.out.lt; have hrec := hi_ (mrecs_one (base := w.heap.size) (w := w9) (r := attrRec h nm old true) (cs := #[.int .i64 3, .int .i64 (h : Nat), .int .i64 (-1), .int .i64 (-1), .int .i64 (-1), .int .i64 0, .string ⟨nm.toArray⟩, .string ⟨old.toArray⟩, .bool true, .int .i64 0, .int .i64 0]) rfl HF7.out.size); generalize (if cap = i + 1 then some (⟨ga, 0, none⟩ : Addr) else some ⟨ga, (i + 1) * 2, none⟩) = adx at *; go_wp2_with fail
    rw [HOld.out] at HRs; refine bodyPost_ret (v := .tuple #[.slice (some ⟨w9.heap.size, 0, none⟩) 1 1, .int .i64 0]) (by simp [results, Tryz.results68, go_sem]) rfl ⟨_, M7, by rw [HRs.out]; rfl, HF7.out.alloc _, HM7.out.below ((Below.refl _ _).alloc (Nat.le_refl _) _), by rw [HRs.out]; exact Hm7.out, HL7.out, by rw [HRs.out]; exact hrec.out⟩)
 ·have HRs := hi_ (HSC.out.1 hk)
  have e2 : ((kd : Int) != 2) = true := bne_iff_ne.2 (by omega); clear hk; go_wp2_with fail
  refine bodyPost_ret (v := .tuple #[.slice none 0 0, .int .i64 10]) (by simp [results, Tryz.results68, go_sem]) rfl ⟨.slice none 0 0, M, by rw [HRs.out]; rfl, H.Frame.refl _ _, HM.out, by rw [HRs.out], MLike.refl _ _, by rw [HRs.out]; exact MRecsAt.nil _ _⟩
end R
end Go.Proofs.YtinphfpdfodkkaaGreatDoor

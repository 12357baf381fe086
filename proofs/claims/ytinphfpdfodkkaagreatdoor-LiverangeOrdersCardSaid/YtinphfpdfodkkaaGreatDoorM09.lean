/- Texts of the proof. -/
import Derived.Test.YtinphfpdfodkkaaGreatDoorM00
import Derived.Test.YtinphfpdfodkkaaGreatDoorM06
set_option linter.unusedVariables false
set_option linter.unusedSimpArgs false
set_option maxHeartbeats 8000000
namespace Go.Proofs.YtinphfpdfodkkaaGreatDoor
open Go.RowKit Go.Shelf Go.Maps
attribute [local go_sem] Oper.semAt_some
namespace A
open H G
structure Keeps2 (O : World → Nat → Prop) (J : Nat → World → Prop) (T : TMem) (m : Model) (pos : Nat → Nat) : Prop where
 go : ∀ k W W', J k W → Below W.heap.size W W' → J k W'
 tree : ∀ k W, J k W → TreeIs W T m pos
 lt : ∀ k W b, J k W → O W b → b < W.heap.size
 old : ∀ k W W' b, J k W → Below W.heap.size W W' → O W' b → O W b
set_option maxRecDepth 100000 in
theorem walk2_in (T : TMem) (m : Model) (pos : Nat → Nat) (w0 : World) (hT : TreeIs w0 T m pos) (L : List Nat) (l : Nat) (O : World → Nat → Prop) (J : Nat → World → Prop) (K : Keeps2 O J T m pos)
  (hY : ∀ n k W, J k W → k < L.length → YieldAt Fence.wide n Tryz.prog l #[.int .i64 (hd T pos (L.getD k 0))] W fun e W' => e = .returned (.bool true) ∧ J (k + 1) W' ∧ Round O W W') (c : Nat) :
  has m c = true → ∀ n k W, (∃ r, L.drop k = walk m c ++ r) → J k W →
  CallsIn Fence.wide n Tryz.prog 99 #[.pointer (some ⟨T.tb, 0, none⟩), .int .i64 (hd T pos c), .func (.yield l) #[] #[]] W fun e W' => e = .returned (.bool true) ∧ J (k + (walk m c).length) W' ∧ Round O W W' := by
 have hW := hT.fits.wf; refine hW.down_ind (P := fun c => has m c = true → ∀ n k W, (∃ r, L.drop k = walk m c ++ r) → J k W →
  CallsIn Fence.wide n Tryz.prog 99 #[.pointer (some ⟨T.tb, 0, none⟩), .int .i64 (hd T pos c), .func (.yield l) #[] #[]] W fun e W' => e = .returned (.bool true) ∧ J (k + (walk m c).length) W' ∧ Round O W W') (fun c ih hc n k W hr hJ => ?_) c
 have hew := hW.walk_eq c; obtain ⟨r, hr⟩ := hr; have hkL : k < L.length := by
  rcases Nat.lt_or_ge k L.length with h | h
  ·exact h
  ·rw [List.drop_of_length_le h, hew] at hr; cases hr
 have hLk : L.getD k 0 = c := by
  have h1 : (L.drop k)[0]? = some c := by rw [hr, hew]; rfl
  rw [List.getElem?_drop, Nat.add_zero] at h1; simp [List.getD, h1]
 have hfew := hT.mem.few; have hkf := kids_few hfew hT.fits hc; have hkh := fun x (hx : x ∈ (nd m c).kids) => has_kid hT.fits hc hx; have hlen : (walk m c).length = 1 + ((nd m c).kids.flatMap (walk m)).length := by rw [hew]; simp; omega
 have hdr : L.drop (k + 1) = (nd m c).kids.flatMap (walk m) ++ r := by
  rw [← List.drop_drop, hr, hew]; rfl
 have y1 := hY (n - 1) k W hJ hkL; rw [hLk] at y1; have HK : Hid (∀ W', TreeIs W' T m pos → Calls Tryz.prog 94 #[.pointer (some ⟨T.tb, 0, none⟩), .int .i64 (hd T pos c)] W' fun e w' => ∃ v, e = .returned v ∧ Below W'.heap.size W' w' ∧ OwnH T pos W'.heap.size w' v (nd m c).kids) := hi_ (fun W' hb => kids_ T m pos c W' hb hc); have HIH := hi_ ih; have HKK := hi_ K; have HLen := hi_ hlen; have HDr := hi_ hdr; have HKh := hi_ hkh; clear ih K hlen hdr hkh hew hr hY hLk hT hW; generalize hks : (nd m c).kids = ks at *; clear hks; obtain ⟨fn, tmps, assign, body, hy, hR⟩ := y1; have HR := hi_ hR; clear hR; refine callsIn_of_wp Tryz.func99 rfl trivial ?_ rfl
 simp only [Tryz.ntmps99, List.size_toArray, List.length_cons, List.length_nil, Nat.reduceAdd, Nat.reduceSub, Array.replicate_succ, Array.replicate_zero, List.push_toArray, List.append_toArray, List.nil_append, List.cons_append]
 gi_wp2
 refine ⟨fun h => (by cases h), ?_⟩; refine HR.out.mono ?_; rintro e W1 ⟨rfl, hJ1, hR1⟩; have HR1 := hi_ hR1; have HJ1 := hi_ hJ1; have hb1 := HKK.out.tree _ _ hJ1; have QK := hi_ (HK.out W1 hb1); clear hR1 hJ1 hb1 HR
 gi_wp2
 refine ⟨trivial, fun h => (by cases h), ?_⟩; refine (callsIn_wide.2 QK.out).mono ?_; rintro e W2 ⟨v, rfl, hb2, hown⟩; obtain ⟨ao, cap, hv, hcells⟩ := hown.form; subst hv; have HJ2 := hi_ (HKK.out.go _ _ _ HJ1.out hb2); have HR2 := hi_ (HR1.out.trans (Round.of_below hb2 (fun b hb => HKK.out.old _ _ _ b HJ1.out hb2 hb))); have HNo2 : Hid (∀ g, (Value.slice ao ks.length cap).ownBlock = some g → ¬ O W2 g) := hi_ (fun g hg ho => by
  have h1 := (World.ownsRow.lt hown g hg).1; have h2 := HKK.out.lt _ _ _ HJ1.out (HKK.out.old _ _ _ g HJ1.out hb2 ho)
  omega)
 have HOwn := hi_ hown; clear hown hcells hb2 QK HR1 HJ1 HK
 gi_wp2
 gi_loopw [17] (fun v17 wr => ∃ i : Nat, v17 = .int .i64 (i : Nat) ∧ i ≤ ks.length ∧ Hid (J (k + 1 + ((ks.take i).flatMap (walk m)).length) wr) ∧ Hid (Round O W wr) ∧ Hid (OwnH T pos W1.heap.size wr (.slice ao ks.length cap) ks) ∧ Hid (∀ g, (Value.slice ao ks.length cap).ownBlock = some g → ¬ O wr g))
  (fun v17 _ => ks.length - (Go.RowKit.intOf v17).toNat)
 case atStart =>
  exact ⟨0, rfl, Nat.zero_le _, HJ2, HR2, HOwn, HNo2⟩
 case round =>
  obtain ⟨i, rfl, hi, HJ3, HR3, HO3, HN3⟩ := hrel
  rcases Nat.lt_or_ge i ks.length with hlt | hge
  ·obtain ⟨ao', cap', hv, hcells⟩ := HO3.out.form
   obtain ⟨g, hao, hg, hbg, hcell⟩ := hcells i ks[i] (List.getElem?_eq_getElem hlt); injection hv with e1 e2 e3
   subst e1 e3; subst hao; have hx : ks[i]? = some ks[i] := List.getElem?_eq_getElem hlt; have hmem : ks[i] ∈ ks := List.getElem_mem hlt; obtain ⟨hdr', hln⟩ := drop_flat (f := walk m) HDr.out hx; have Q5 := hi_ (HIH.out ks[i] hmem (HKh.out _ hmem) (n - 1) _ wr hdr' HJ3.out); rw [hln] at Q5; have hii : (i : Int) < (ks.length : Int) := by omega
   generalize ks[i] = x at *; clear hdr' hln hcells hx hmem HJ3
   gi_wp2
   refine ⟨trivial, fun h => (by cases h), ?_⟩; refine Q5.out.mono ?_; rintro e W5 ⟨rfl, hJ5, hR5⟩; have HJ5 := hi_ hJ5; have HR5 := hi_ (HR3.out.trans hR5); obtain ⟨o5, n5⟩ := own_round HO3.out hR5 HN3.out; have HO5 := hi_ o5; have HN5 := hi_ n5; clear hJ5 hR5 o5 n5
   gi_wp2
   go_roundw
   case rel => exact ⟨i + 1, by go_num, by omega, HJ5, HR5, HO5, HN5⟩
   case measure => simp [Go.RowKit.intOf]; omega
  ·have hie : i = ks.length := by omega
   subst hie; have hnot : ¬ ((ks.length : Nat) : Int) < ((ks.length : Nat) : Int) := by omega
   have HJ6 : Hid (J (k + (walk m c).length) wr) := hi_ (by
    have h1 := HJ3.out; rw [List.take_length] at h1; rw [HLen.out, ← Nat.add_assoc]; exact h1)
   gi_wp2
   go_ret
   exact ⟨rfl, HJ6.out, HR3.out⟩
set_option maxRecDepth 100000 in
theorem walk12_in (T : TMem) (m : Model) (pos : Nat → Nat) (w0 : World) (hT : TreeIs w0 T m pos) (h : Nat) (hh : has m h = true) (l : Nat) (O : World → Nat → Prop) (J : Nat → World → Prop) (K : Keeps2 O J T m pos)
  (hY : ∀ n k W, J k W → k < (walk m h).length → YieldAt Fence.wide n Tryz.prog l #[.int .i64 (hd T pos ((walk m h).getD k 0))] W fun e W' => e = .returned (.bool true) ∧ J (k + 1) W' ∧ Round O W W')
  (n : Nat) (b1 b2 : Nat) (W : World) (h0 : J 0 W) (l1 : b1 < W.heap.size) (l2 : b2 < W.heap.size) (d1 : W.cell? ⟨b1, 0, none⟩ = some (.pointer (some ⟨T.tb, 0, none⟩))) (d2 : W.cell? ⟨b2, 0, none⟩ = some (.int .i64 (hd T pos h))) :
  CallsIn Fence.wide n Tryz.prog 98 #[.func (.yield l) #[] #[], .pointer (some ⟨b1, 0, none⟩), .pointer (some ⟨b2, 0, none⟩)] W fun e W' => (∃ v, e = .returned v) ∧ J (walk m h).length W' := by
 have hfew := hT.mem.few; have hbj := hd_big hfew hT.fits hh; have hpj := hd_pos (T := T) (pos := pos) h; have QA := at_ T (hd T pos h) W (K.tree _ _ h0).mem (by omega) (by omega); rw [ptr_hd hfew hT.fits hh 1] at QA; have HQA := hi_ QA; have HQW := hi_ (fun W2 (hJ2 : J 0 W2) => walk2_in T m pos w0 hT (walk m h) l O J K hY h hh (n - 1) 0 W2 ⟨[], by simp⟩ hJ2); have HGo := hi_ (fun W2 (hb : Below W.heap.size W W2) => K.go 0 W W2 h0 hb); clear QA K hY hT h0; refine callsIn_of_wp Tryz.func98 rfl trivial ?_ rfl; simp only [Tryz.ntmps98, List.size_toArray, List.length_cons, List.length_nil, Nat.reduceAdd, Nat.reduceSub, Array.replicate_succ, Array.replicate_zero, List.push_toArray, List.append_toArray, List.nil_append, List.cons_append]
 gi_wp2
 refine ⟨trivial, fun h => (by cases h), ?_⟩; refine (callsIn_wide.2 HQA.out).mono ?_; rintro e W2 ⟨rfl, hb2'⟩; have HJ2 := hi_ (HGo.out W2 hb2'); have e1 := (hb2'.cell (p := ⟨b1, 0, none⟩) l1).trans d1; have e2 := (hb2'.cell (p := ⟨b2, 0, none⟩) l2).trans d2; clear hb2' d1 d2 HQA HGo
 gi_wp2
 refine ⟨trivial, fun h => (by cases h), ?_⟩; refine (HQW.out W2 HJ2.out).mono ?_; rintro e W3 ⟨rfl, hJ3, _⟩; rw [Nat.zero_add] at hJ3
 gi_wp2
 go_end0
 exact ⟨⟨_, rfl⟩, hJ3⟩
end A
end Go.Proofs.YtinphfpdfodkkaaGreatDoor

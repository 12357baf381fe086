/- Texts of the proof. -/
import Derived.Test.YtinphfpdfodkkaaGreatDoorM00
import Derived.Test.YtinphfpdfodkkaaGreatDoorM18
import Derived.Test.YtinphfpdfodkkaaGreatDoorM05
import Derived.Test.YtinphfpdfodkkaaGreatDoorM15
set_option linter.unusedVariables false
set_option linter.unusedSimpArgs false
set_option maxHeartbeats 8000000
namespace Go.Proofs.YtinphfpdfodkkaaGreatDoor
open Go.RowKit Go.Sort
namespace R
open H G A
def goneL (m : Model) (ks : List Nat) : Model := m.mapIdx fun i x => { x with gone := x.gone || ks.contains i }
theorem goneL_nil (m : Model) : goneL m [] = m := by
 unfold goneL; apply List.ext_getElem?; intro k; rw [List.getElem?_mapIdx]
 cases m[k]? with
 | none => rfl
 | some x => simp
theorem goneL_snoc (m : Model) (ks : List Nat) (c : Nat) : upd (goneL m ks) c (fun x => { x with gone := true }) = goneL m (ks ++ [c]) := by
 unfold goneL upd; apply List.ext_getElem?; intro k; rw [List.getElem?_modify, List.getElem?_mapIdx, List.getElem?_mapIdx]
 cases m[k]? with
 | none => simp
 | some x =>
  by_cases e : c = k
  ·subst e; simp
  ·have e2 : ¬ k = c := fun h => e h.symm
   simp [e, e2]
theorem gone_store {w : World} {M : MMem} (h : ModelMem w M) {i : Nat} (hi : i < M.nodes.length) :
  ModelMem (w.setCell ⟨M.g, i * 7 + 6, none⟩ (.bool true)) (M.modN i fun x => { x with n := { x.n with gone := true } }) ∧ (M.modN i fun x => { x with n := { x.n with gone := true } }).m = upd M.m i (fun x => { x with gone := true }) ∧ MLike w M (M.modN i fun x => { x with n := { x.n with gone := true } }) := by
 refine ⟨h.storeP hi (by omega) (.bool true) _ rfl ⟨rfl, rfl, rfl, rfl⟩, m_modN M i _ (fun x => { x with gone := true }) (fun x => rfl), rfl, rfl, fun k hk => ?_⟩
 rcases foot_modN hi hk with h1 | h1 | h1
 ·exact Or.inl h1
 ·exact Or.inl (Or.inr (Or.inr ⟨_, (MMem.at_mem hi).2, Or.inl h1⟩))
 ·exact Or.inl (Or.inr (Or.inr ⟨_, (MMem.at_mem hi).2, Or.inr h1⟩))
theorem MLike.step {w : World} {M M' M2 : MMem} {w' : World} (h : MLike w M M') (k : MLike w' M' M2) (hs : w.heap.size ≤ w'.heap.size) : MLike w M M2 :=
 ⟨k.mb.trans h.mb, k.B.trans h.B, fun b hb => (k.foot b hb).elim (fun h1 => h.foot b h1) (fun h1 => Or.inr (by omega))⟩
set_option maxRecDepth 100000 in
theorem mDrop (M : MMem) (h : Nat) (w : World) (hM : ModelMem w M) (W : WF M.m) (hh : h < M.nodes.length) :
  Calls Tryz.prog 73 #[.pointer (some ⟨M.mb, 0, none⟩), .int .i64 h] w fun e w' => ∃ M', e = .returned (.int .i64 ((dropN M.m h).1 : Nat)) ∧ H.Frame (fun k => k = M.g) w w' ∧ ModelMem w' M' ∧ M'.m = (dropN M.m h).2 ∧ MLike w M M' := by
 obtain ⟨c0, l0, l1⟩ := hM.top; have k4 := (hM.cell hh).2.2.2.2.1; have n1 : (h : Int) < (M.nodes.length : Int) := by omega
 have hfew := hM.few; have hk1 := kind_one W (h := h) (by rw [M.m_len]; exact hh); have HM := hi_ hM; have QW := hi_ (mWalk M w hM W (height M.m h) h w (Below.refl _ _) (Nat.le_refl _) hh); have hwl := walk_len W (h := h) (by rw [M.m_len]; exact hh); rw [M.m_len] at hwl; have HIn := hi_ (walk_lt W h (by rw [M.m_len]; exact hh)); obtain ⟨R, hR⟩ : ∃ R, R = dropN M.m h := ⟨_, rfl⟩; have HRr : Hid (R = if (nd M.m h).parent ≠ none ∨ (nd M.m h).kind = 1 then (7, M.m) else (0, goneL M.m (walk M.m h))) := hi_ hR; rw [← hR]; generalize (nd M.m h).kind = kd at *; generalize (nd M.m h).parent = par at *; generalize hl : walk M.m h = l at *; generalize hlen : l.length = len at *; have HLen := hi_ hlen; have k4' : w.cell? ⟨M.g, h * 7 + 4, none⟩ = some (.int .i64 (parI par)) := k4; clear hM hR hl hlen k4
 go_enter Tryz.func73, Tryz.ntmps73
 by_cases h0 : h = 0
 ·have HRs : Hid (R = (7, M.m)) := hi_ (by rw [HRr.out, if_pos (Or.inr (hk1.2 h0))])
  clear hk1 HRr; subst h0; go_wp2_with fail
  go_ret
  exact ⟨M, by rw [HRs.out]; rfl, H.Frame.refl _ _, HM.out, by rw [HRs.out], MLike.refl _ _⟩
 ·have h0' : ¬ ((h : Int) = 0) := by omega
  have h0b : ((h : Int) == 0) = false := beq_eq_false_iff_ne.2 h0'; have hkd : ¬ kd = 1 := fun e => h0 (hk1.1 e); clear hk1
  cases par with
  | some p =>
   have HRs : Hid (R = (7, M.m)) := hi_ (by rw [HRr.out, if_pos (Or.inl (by simp))]); have hp : (0 : Int) ≤ parI (some p) := by show (0 : Int) ≤ (p : Int); omega
   clear HRr; go_wp2_with fail
   go_ret
   exact ⟨M, by rw [HRs.out]; rfl, H.Frame.refl _ _, HM.out, by rw [HRs.out], MLike.refl _ _⟩
  | none =>
   have HRs : Hid (R = (0, goneL M.m l)) := hi_ (by rw [HRr.out, if_neg (by simp [hkd])]); have hp : parI none = -1 := rfl; rw [hp] at k4'; clear HRr; go_wp2_with fail
   refine QW.out.mono ?_; rintro e w2 ⟨v, rfl, hb2, hown⟩; obtain ⟨ao, cap, hv, hc⟩ := OwnN.form hown; rw [HLen.out] at hv; subst hv; have HM2 := hi_ (HM.out.below hb2); have HO2 := hi_ hown; have HF2 := hi_ (H.Frame.of (S := fun k => k = M.g) hb2); clear hown hc k4' c0 QW; go_wp2_with fail
   go_loopw [6] (fun v6 wr => ∃ (q : Nat) (M' : MMem), v6 = .int .i64 (q : Nat) ∧ q ≤ len ∧ Hid (ModelMem wr M') ∧ Hid (M'.m = goneL M.m (l.take q)) ∧ Hid (MLike w M M' ∧ M'.g = M.g ∧ M'.nodes.length = M.nodes.length) ∧ Hid (H.Frame (fun k => k = M.g) w wr) ∧ Hid (OwnN w.heap.size wr (.slice ao len cap) l)) (fun v6 _ => len - (intOfV v6).toNat)
   case atStart => exact ⟨0, M, rfl, by omega, HM2, hi_ (by rw [List.take_zero, goneL_nil]), hi_ ⟨MLike.refl _ _, rfl, rfl⟩, HF2, HO2⟩
   case round =>
    obtain ⟨q, M', rfl, hq0, HMq, HMm, HML, HFq, HOq⟩ := hrel
    by_cases hq : q = len
    ·have HF : Hid (M'.m = goneL M.m l) := hi_ (by rw [HMm.out, hq, List.take_of_length_le (by rw [HLen.out]; omega)])
     have hnl : ¬ ((q : Int) < (len : Int)) := by omega
     clear hq; go_wp2_with fail
     go_ret
     exact ⟨by rw [HRs.out]; rfl, HFq.out, M', HMq.out, by rw [HF.out, HRs.out], HML.out.1⟩
    ·have hil : q < l.length := by rw [HLen.out]; omega
     have hlt : (q : Int) < (len : Int) := by omega
     have hx : l[q]? = some l[q] := List.getElem?_eq_getElem hil; obtain ⟨ao2, cap2, hv2, hcs⟩ := OwnN.form HOq.out; obtain ⟨g, hao, hg1, hcell⟩ := hcs _ _ hx; rw [HLen.out] at hv2; injection hv2 with e1 e2 e3
     subst e1 e3; subst hao; have hcl : l[q] < M'.nodes.length := by rw [HML.out.2.2, ← M.m_len]; exact HIn.out _ (List.getElem_mem hil)
     have HTk : Hid (l.take (q + 1) = l.take q ++ [l[q]]) := hi_ (by rw [List.take_add_one, hx]; rfl); generalize l[q] = c at *; obtain ⟨hs1, hs2, hs3⟩ := gone_store HMq.out hcl; have k6 := (HMq.out.cell hcl).2.2.2.2.2.2; have f6 := (RecRow.cell ncells_len HMq.out.row hcl (k := 6) (by omega)).2; obtain ⟨d0, m0, m1⟩ := HMq.out.top; have hg2 := HML.out.2.1; have hmb := HML.out.1.mb; rw [hg2] at k6 f6 d0 m1 hs1; rw [hmb] at d0 m0; have HS1 := hi_ hs1; have HS2 : Hid ((M'.modN c fun x => { x with n := { x.n with gone := true } }).m = goneL M.m (l.take (q + 1))) := hi_ (by rw [hs2, HMm.out, goneL_snoc, HTk.out])
     have HS3 := hi_ (show MLike w M (M'.modN c fun x => { x with n := { x.n with gone := true } }) ∧ (M'.modN c fun x => { x with n := { x.n with gone := true } }).g = M.g ∧ (M'.modN c fun x => { x with n := { x.n with gone := true } }).nodes.length = M.nodes.length from ⟨HML.out.1.step hs3 HFq.out.size, hg2, by rw [modN_len, HML.out.2.2]⟩); have HF3 := hi_ (frG (g := M.g) HFq.out (c * 7 + 6) (.bool true)); have HO3 := hi_ (show OwnN w.heap.size (wr.setCell ⟨M.g, c * 7 + 6, none⟩ (.bool true)) (.slice (some ⟨g, 0, none⟩) len cap) l from own_far HOq.out (fun e => by
      have h5 := (World.ownsRow.lt HOq.out M.g e).1
      omega) _ _)
     have n2 : (c : Int) < (M'.nodes.length : Int) := by omega
     have wq : IntKind.i64.wrap ((q : Int) + 1) = (q : Int) + 1 := IntWalk.i64_in _ (by omega); clear hx hil hq hs1 hs2 hs3 hcs e2 hg2 hmb hcl; go_upto_region 7 with fail
     go_region
     all_goals (
      go_wp2_with fail
      go_roundw
      case rel => exact ⟨q + 1, _, by go_num, by omega, hi_ (HS1.out.below (Below.refl _ _).drew), HS2, HS3, hi_ (HF3.out.below_ (Below.refl _ _).drew), hi_ (own_below HO3.out (Below.refl _ _).drew)⟩
      case measure => simp [intOfV]; omega)
theorem byte_eq' (b : UInt8) (n : Nat) (h : n < 256) : ((b.toNat : Int) == (n : Int)) = (b == UInt8.ofNat n) := by
 rw [Bool.eq_iff_iff]; simp only [beq_iff_eq]; constructor
 ·intro e
  have e' : b.toNat = n := by omega
  rw [← e']; simp
 ·intro e; subst e; simp; omega
theorem refSpace (b : UInt8) (w : World) :
  Calls Tryz.prog 166 #[.int .u8 b.toNat] w fun e w' => e = .returned (.bool (G.spB b)) ∧ w = w' := by
 have e1 := byte_eq' b 9 (by omega); have e2 := byte_eq' b 10 (by omega); have e3 := byte_eq' b 12 (by omega); have e4 := byte_eq' b 13 (by omega); have e5 := byte_eq' b 32 (by omega); have hsp : G.spB b = ((b == 9) || (b == 10) || (b == 12) || (b == 13) || (b == 32)) := rfl; rw [hsp]; clear hsp
 cases h1 : (b == 9) with
 | true =>
  have t1 : ((b.toNat : Int) == 9) = true := e1.trans h1; clear e1 e2 e3 e4 e5 h1
  go_enter Tryz.func166, Tryz.ntmps166
  go_wp2
  go_ret
  exact ⟨rfl, rfl⟩
 | false =>
 have t1 : ((b.toNat : Int) == 9) = false := e1.trans h1
 cases h2 : (b == 10) with
 | true =>
  have t2 : ((b.toNat : Int) == 10) = true := e2.trans h2; clear e1 e2 e3 e4 e5 h1 h2
  go_enter Tryz.func166, Tryz.ntmps166
  go_wp2
  go_ret
  exact ⟨rfl, rfl⟩
 | false =>
 have t2 : ((b.toNat : Int) == 10) = false := e2.trans h2
 cases h3 : (b == 12) with
 | true =>
  have t3 : ((b.toNat : Int) == 12) = true := e3.trans h3; clear e1 e2 e3 e4 e5 h1 h2 h3
  go_enter Tryz.func166, Tryz.ntmps166
  go_wp2
  go_ret
  exact ⟨rfl, rfl⟩
 | false =>
 have t3 : ((b.toNat : Int) == 12) = false := e3.trans h3
 cases h4 : (b == 13) with
 | true =>
  have t4 : ((b.toNat : Int) == 13) = true := e4.trans h4; clear e1 e2 e3 e4 e5 h1 h2 h3 h4
  go_enter Tryz.func166, Tryz.ntmps166
  go_wp2
  go_ret
  exact ⟨rfl, rfl⟩
 | false =>
 have t4 : ((b.toNat : Int) == 13) = false := e4.trans h4
 cases h5 : (b == 32) with
 | true =>
  have t5 : ((b.toNat : Int) == 32) = true := e5.trans h5; clear e1 e2 e3 e4 e5 h1 h2 h3 h4 h5
  go_enter Tryz.func166, Tryz.ntmps166
  go_wp2
  go_ret
  exact ⟨rfl, rfl⟩
 | false =>
  have t5 : ((b.toNat : Int) == 32) = false := e5.trans h5; clear e1 e2 e3 e4 e5 h1 h2 h3 h4 h5
  go_enter Tryz.func166, Tryz.ntmps166
  go_wp2
  go_ret
  exact ⟨rfl, rfl⟩
theorem refRepairB (l : List UInt8) (w : World) (h : l.length ≤ 1000000) :
  Calls Tryz.prog 113 #[.string ⟨l.toArray⟩] w fun e w' => e = .returned (.string ⟨(U.rep l).toArray⟩) ∧ Below w.heap.size w w' := by
 have h2 := T.refRepair ⟨l.toArray⟩ w (by rw [H.bytes_size]; omega); have hd : (⟨l.toArray⟩ : ByteArray).data.toList = l := by simp
 rw [hd] at h2; exact h2
theorem nameOk_stop {s : List UInt8} {i : Nat} (hi : i < s.length) (h : badB s[i] = true) : nameOk s = false := by
 unfold nameOk; have : s.all (fun c => !badB c) = false := by
  rw [List.all_eq_false]; exact ⟨s[i], List.getElem_mem hi, by simp [h]⟩
 rw [this]; simp
theorem take_all {s : List UInt8} {i : Nat} (hi : i < s.length) (h : (s.take i).all (fun c => !badB c) = true) (hb : badB s[i] = false) : (s.take (i + 1)).all (fun c => !badB c) = true := by
 rw [List.take_add_one, List.getElem?_eq_getElem hi, List.all_append, h]; simp [hb]
theorem mAttribute (s : List UInt8) (w : World) (hs : s.length ≤ 100000) :
  Calls Tryz.prog 152 #[.string ⟨s.toArray⟩] w fun e w' => e = .returned (.bool (nameOk s)) ∧ Below w.heap.size w w' := by
 obtain ⟨S, hS⟩ : ∃ S : ByteArray, S = ⟨s.toArray⟩ := ⟨_, rfl⟩; rw [← hS]; have hsz : S.size = s.length := by rw [hS]; exact H.bytes_size s
 have HGet : Hid (∀ i (h : i < s.length) (h' : i < S.size), S[i]'h' = s[i]) := hi_ (by subst hS; exact fun i h h' => rfl); have QR : Hid (∀ W, Calls Tryz.prog 113 #[.string S] W fun e w' => e = .returned (.string ⟨(U.rep s).toArray⟩) ∧ Below W.heap.size W w') := hi_ (by rw [hS]; exact fun W => refRepairB s W (by omega)); have HEq : Hid (((⟨(U.rep s).toArray⟩ : ByteArray).toList == S.toList) = decide (U.rep s = s)) := hi_ (by rw [hS, Lib.toList_data, Lib.toList_data, Bool.eq_iff_iff]; simp); have HEm : Hid ((S.toList == []) = s.isEmpty) := hi_ (by rw [hS, Lib.toList_data]; cases s <;> simp); clear hS
 go_enter Tryz.func152, Tryz.ntmps152
 go_wp2_with fail
 go_loopw [3] (fun v3 wr => ∃ i : Nat, v3 = .int .i64 (i : Nat) ∧ i ≤ s.length ∧ wr = w ∧ Hid ((s.take i).all (fun c => !badB c) = true)) (fun v3 _ => s.length - (Go.RowKit.intOf v3).toNat)
 case atStart => exact ⟨0, rfl, Nat.zero_le _, rfl, hi_ (by simp)⟩
 case round =>
  obtain ⟨i, rfl, hi, rfl, HA⟩ := hrel
  rcases Nat.lt_or_ge i s.length with hlt | hge
  ·have hii : (i : Int) < (s.length : Int) := by omega
   have HStop := hi_ (fun (hb : badB s[i] = true) => nameOk_stop hlt hb); have HGo := hi_ (fun (hb : badB s[i] = false) => take_all hlt HA.out hb); have hc := HGet.out i hlt (by rw [hsz]; exact hlt); generalize s[i] = c at *; go_upto_region 5 with fail
   clear hc; have QS := hi_ (refSpace c wr); have e2 := byte_eq' c 47 (by omega); have e3 := byte_eq' c 62 (by omega); have HBd : Hid (badB c = (spB c || c == 47 || c == 62 || (decide (65 ≤ c.toNat) && decide (c.toNat ≤ 90)))) := hi_ rfl; have d4 : decide (65 ≤ c.toNat) = decide ((65 : Int) ≤ (c.toNat : Int)) := decide_eq_decide.2 (by omega); have d5 : decide (c.toNat ≤ 90) = decide ((c.toNat : Int) ≤ 90) := decide_eq_decide.2 (by omega); rw [d4, d5] at HBd; have e2' : (c == 47) = ((c.toNat : Int) == 47) := e2.symm; have e3' : (c == 62) = ((c.toNat : Int) == 62) := e3.symm; rw [e2', e3'] at HBd; clear e2 e3 e2' e3' d4 d5; generalize spB c = b1 at *; have wq : IntKind.i64.wrap ((i : Int) + 1) = (i : Int) + 1 := IntWalk.i64_in _ (by omega); generalize h2 : ((c.toNat : Int) == 47) = b2 at *; generalize h3 : ((c.toNat : Int) == 62) = b3 at *
   generalize h4 : decide ((65 : Int) ≤ (c.toNat : Int)) = b4 at *; generalize h5 : decide ((c.toNat : Int) ≤ 90) = b5 at *
   cases b1 with
   | true =>
    have HF := hi_ (HStop.out (by rw [HBd.out]; rfl)); go_wp2_with fail
    refine QS.out.mono ?_; rintro e w1 ⟨rfl, rfl⟩; go_wp2_with fail
    go_ret
    exact ⟨H.ret_bool HF.out.symm, Below.refl _ _⟩
   | false =>
    go_wp2_with fail
    refine QS.out.mono ?_; rintro e w1 ⟨rfl, rfl⟩
    cases b2 with
    | true =>
     have HF := hi_ (HStop.out (by rw [HBd.out]; rfl)); go_wp2_with fail
     go_ret
     exact ⟨H.ret_bool HF.out.symm, Below.refl _ _⟩
    | false =>
    cases b3 with
    | true =>
     have HF := hi_ (HStop.out (by rw [HBd.out]; rfl)); go_wp2_with fail
     go_ret
     exact ⟨H.ret_bool HF.out.symm, Below.refl _ _⟩
    | false =>
    cases b4 with
    | false =>
     have h4' : ¬ (65 : Int) ≤ (c.toNat : Int) := of_decide_eq_false h4; have HG := hi_ (HGo.out (by rw [HBd.out]; rfl)); go_wp2_with fail
     go_roundw
     case rel => exact ⟨i + 1, by go_num, by omega, trivial, HG⟩
     case measure => simp [Go.RowKit.intOf]; omega
    | true =>
     have h4' : (65 : Int) ≤ (c.toNat : Int) := of_decide_eq_true h4
     cases b5 with
     | true =>
      have h5' : (c.toNat : Int) ≤ 90 := of_decide_eq_true h5; have HF := hi_ (HStop.out (by rw [HBd.out]; rfl)); go_wp2_with fail
      go_ret
      exact ⟨H.ret_bool HF.out.symm, Below.refl _ _⟩
     | false =>
      have h5' : ¬ (c.toNat : Int) ≤ 90 := of_decide_eq_false h5; have HG := hi_ (HGo.out (by rw [HBd.out]; rfl)); go_wp2_with fail
      go_roundw
      case rel => exact ⟨i + 1, by go_num, by omega, trivial, HG⟩
      case measure => simp [Go.RowKit.intOf]; omega
  ·have hie : i = s.length := by omega
   have HN : Hid (nameOk s = (!s.isEmpty && decide (U.rep s = s))) := hi_ (by
    have h1 := HA.out; rw [hie, List.take_length] at h1; unfold nameOk; rw [h1]; simp)
   generalize s.isEmpty = b1 at *; generalize decide (U.rep s = s) = b2 at *; generalize (⟨(U.rep s).toArray⟩ : ByteArray) = S2 at *; have hem := HEm.out; have heq := HEq.out; have hnl : ¬ ((i : Int) < (s.length : Int)) := by omega
   clear HA HEm HEq HGet hie
   cases b1 with
   | true =>
    have HF : Hid (nameOk s = false) := hi_ (by rw [HN.out]; rfl); go_wp2_with fail
    go_ret
    exact ⟨H.ret_bool HF.out.symm, Below.refl _ _⟩
   | false =>
    have HF : Hid (nameOk s = b2) := hi_ (by rw [HN.out]; simp); go_wp2_with fail
    refine (QR.out _).mono ?_; rintro e w1 ⟨rfl, b⟩; have HB := hi_ b; clear b; go_wp2_with fail
    go_ret
    exact ⟨H.ret_bool HF.out.symm, HB.out⟩
theorem mElement (s : List UInt8) (w : World) (hs : s.length ≤ 100000) :
  Calls Tryz.prog 111 #[.string ⟨s.toArray⟩] w fun e w' => e = .returned (.bool (elemOk s)) ∧ Below w.heap.size w w' := by
 obtain ⟨S, hS⟩ : ∃ S : ByteArray, S = ⟨s.toArray⟩ := ⟨_, rfl⟩; rw [← hS]; have hsz : S.size = s.length := by rw [hS]; exact H.bytes_size s
 have HGet : Hid (∀ i (h : i < s.length) (h' : i < S.size), S[i]'h' = s[i]) := hi_ (by subst hS; exact fun i h h' => rfl); have QA : Hid (∀ W, Calls Tryz.prog 152 #[.string S] W fun e w' => e = .returned (.bool (nameOk s)) ∧ Below W.heap.size W w') := hi_ (by rw [hS]; exact fun W => mAttribute s W hs); have HEm : Hid ((S.toList == []) = s.isEmpty) := hi_ (by rw [hS, Lib.toList_data]; cases s <;> simp); clear hS; have hem := HEm.out; have HV : Hid (elemOk s = ((match s with | [] => false | c :: _ => decide (97 ≤ c.toNat) && decide (c.toNat ≤ 122)) && nameOk s)) := hi_ rfl; generalize elemOk s = V at *; generalize nameOk s = N at *
 cases s with
 | nil =>
  have hem2 : (S.toList == []) = true := hem; have HF : Hid (V = false) := hi_ (by rw [HV.out]; rfl); clear hem
  go_enter Tryz.func111, Tryz.ntmps111
  go_wp2_with fail
  go_ret
  exact ⟨H.ret_bool HF.out.symm, Below.refl _ _⟩
 | cons c t =>
  have hem2 : (S.toList == []) = false := hem; have hl1 : 0 < S.size := by rw [hsz]; simp
  have hl0 : (0 : Int) < (S.size : Int) := by omega
  have hc : S[0]'hl1 = c := HGet.out 0 (by simp) hl1; have d4 : decide (97 ≤ c.toNat) = decide ((97 : Int) ≤ (c.toNat : Int)) := decide_eq_decide.2 (by omega); have d5 : decide (c.toNat ≤ 122) = decide ((c.toNat : Int) ≤ 122) := decide_eq_decide.2 (by omega); have HV2 : Hid (V = ((decide ((97 : Int) ≤ (c.toNat : Int)) && decide ((c.toNat : Int) ≤ 122)) && N)) := hi_ (by rw [HV.out, ← d4, ← d5]); generalize h4 : decide ((97 : Int) ≤ (c.toNat : Int)) = b4 at *; generalize h5 : decide ((c.toNat : Int) ≤ 122) = b5 at *; clear hem d4 d5 HV hsz HGet
  go_enter Tryz.func111, Tryz.ntmps111
  cases b4 with
  | false =>
   have h4' : ¬ (97 : Int) ≤ (c.toNat : Int) := of_decide_eq_false h4; have HF : Hid (V = false) := hi_ (by rw [HV2.out]; rfl); go_wp2_with fail
   go_ret
   exact ⟨H.ret_bool HF.out.symm, Below.refl _ _⟩
  | true =>
   have h4' : (97 : Int) ≤ (c.toNat : Int) := of_decide_eq_true h4
   cases b5 with
   | false =>
    have h5' : ¬ (c.toNat : Int) ≤ 122 := of_decide_eq_false h5; have HF : Hid (V = false) := hi_ (by rw [HV2.out]; rfl); go_wp2_with fail
    go_ret
    exact ⟨H.ret_bool HF.out.symm, Below.refl _ _⟩
   | true =>
    have h5' : (c.toNat : Int) ≤ 122 := of_decide_eq_true h5; have HF : Hid (V = N) := hi_ (by rw [HV2.out]; rfl); go_wp2_with fail
    refine (QA.out _).mono ?_; rintro e w1 ⟨rfl, b⟩; have HB := hi_ b; clear b; go_wp2_with fail
    go_ret
    exact ⟨H.ret_bool HF.out.symm, HB.out⟩
theorem head_stop {s : List UInt8} {i : Nat} (h1 : 1 ≤ i) (hi : i < s.length) (h : (s[i] == 61) = true) : headOk s = false := by
 unfold headOk; have : (s.drop 1).all (fun c => !(c == 61)) = false := by
  rw [List.all_eq_false]; refine ⟨s[i], ?_, by rw [h]; simp⟩; rw [List.mem_iff_getElem?]; exact ⟨i - 1, by rw [List.getElem?_drop, show 1 + (i - 1) = i by omega]; exact List.getElem?_eq_getElem hi⟩
 rw [this]; rfl
theorem head_take {s : List UInt8} {i : Nat} (h1 : 1 ≤ i) (hi : i < s.length) (h : ((s.take i).drop 1).all (fun c => !(c == 61)) = true) (hb : (s[i] == 61) = false) : ((s.take (i + 1)).drop 1).all (fun c => !(c == 61)) = true := by
 rw [List.take_add_one, List.getElem?_eq_getElem hi, List.drop_append_of_le_length (by rw [List.length_take]; omega), List.all_append, h]; simp [hb]
theorem mHeader (s : List UInt8) (w : World) (hs : s.length ≤ 100000) :
  Calls Tryz.prog 112 #[.string ⟨s.toArray⟩] w fun e w' => e = .returned (.bool (headOk s)) ∧ Below w.heap.size w w' := by
 obtain ⟨S, hS⟩ : ∃ S : ByteArray, S = ⟨s.toArray⟩ := ⟨_, rfl⟩; rw [← hS]; have hsz : S.size = s.length := by rw [hS]; exact H.bytes_size s
 have HGet : Hid (∀ i (h : i < s.length) (h' : i < S.size), S[i]'h' = s[i]) := hi_ (by subst hS; exact fun i h h' => rfl); have QA : Hid (∀ W, Calls Tryz.prog 152 #[.string S] W fun e w' => e = .returned (.bool (nameOk s)) ∧ Below W.heap.size W w') := hi_ (by rw [hS]; exact fun W => mAttribute s W hs); clear hS
 go_enter Tryz.func112, Tryz.ntmps112
 go_wp2_with fail
 go_loopw [3] (fun v3 wr => ∃ i : Nat, v3 = .int .i64 (i : Nat) ∧ 1 ≤ i ∧ (i ≤ s.length ∨ i = 1) ∧ wr = w ∧ Hid (((s.take i).drop 1).all (fun c => !(c == 61)) = true)) (fun v3 _ => s.length - (Go.RowKit.intOf v3).toNat)
 case atStart => exact ⟨1, rfl, Nat.le_refl _, Or.inr rfl, rfl, hi_ (by
   have : (s.take 1).drop 1 = [] := List.drop_eq_nil_of_le (by rw [List.length_take]; omega); rw [this]; rfl)⟩
 case round =>
  obtain ⟨i, rfl, h1, hi, rfl, HA⟩ := hrel
  rcases Nat.lt_or_ge i s.length with hlt | hge
  ·have hii : (i : Int) < (s.length : Int) := by omega
   have HStop := hi_ (fun (hb : (s[i] == 61) = true) => head_stop h1 hlt hb); have HGo := hi_ (fun (hb : (s[i] == 61) = false) => head_take h1 hlt HA.out hb); have hc := HGet.out i hlt (by rw [hsz]; exact hlt); generalize s[i] = c at *; have e2 := byte_eq' c 61 (by omega); have e2' : (c == 61) = ((c.toNat : Int) == 61) := e2.symm; rw [e2'] at HStop HGo; have wq : IntKind.i64.wrap ((i : Int) + 1) = (i : Int) + 1 := IntWalk.i64_in _ (by omega); clear e2 e2'; generalize h2 : ((c.toNat : Int) == 61) = b2 at *
   cases b2 with
   | true =>
    have HF := hi_ (HStop.out rfl); go_wp2_with fail
    go_ret
    exact ⟨H.ret_bool HF.out.symm, Below.refl _ _⟩
   | false =>
    have HG := hi_ (HGo.out rfl); go_wp2_with fail
    go_roundw
    case rel => exact ⟨i + 1, by go_num, by omega, by omega, trivial, HG⟩
    case measure => simp [Go.RowKit.intOf]; omega
  ·have HN : Hid (headOk s = nameOk s) := hi_ (by
    have h2 := HA.out; rw [List.take_of_length_le hge] at h2; unfold headOk; rw [h2]; simp)
   have hnl : ¬ ((i : Int) < (s.length : Int)) := by omega
   clear HA HGet; go_wp2_with fail
   refine (QA.out _).mono ?_; rintro e w1 ⟨rfl, b⟩; have HB := hi_ b; clear b; go_wp2_with fail
   go_ret
   exact ⟨H.ret_bool HN.out.symm, HB.out⟩
theorem RecRow.slice {α : Type} {c : α → List Value} {w : World} {B size : Nat} {e : TypeId} {v : Value} {l : List α} (h : RecRow c B e size w v l) : ∃ ao cap, v = .slice ao l.length cap := by
 rcases h.2 with ⟨h1, h2⟩ | ⟨g, cap, cur, h1, _⟩
 ·exact ⟨none, 0, by rw [h1, h2]⟩
 ·exact ⟨_, cap, h1⟩
theorem mFind (M : MMem) (h : Nat) (nm : List UInt8) (w : World) (hM : ModelMem w M) (hh : h < M.nodes.length) (hl : (nd M.m h).attrs.length ≤ 1000000) :
  Calls Tryz.prog 128 #[.pointer (some ⟨M.mb, 0, none⟩), .int .i64 h, .string ⟨nm.toArray⟩] w fun e w' => e = .returned (.int .i64 (idxI (attrAt M.m h nm))) ∧ w = w' := by
 obtain ⟨c0, l0, l1⟩ := hM.top; have k2 := (hM.cell hh).2.2.1; have n1 : (h : Int) < (M.nodes.length : Int) := by omega
 have hfew := hM.few; have hrow := hM.attrsRow hh; obtain ⟨ao, cap, hv⟩ := RecRow.slice hrow; rw [hv] at k2 hrow; obtain ⟨S, hS⟩ : ∃ S : ByteArray, S = ⟨nm.toArray⟩ := ⟨_, rfl⟩; rw [← hS]; have HEq : Hid (∀ x : List UInt8, ((⟨x.toArray⟩ : ByteArray).toList == S.toList) = (x == nm)) := hi_ (fun x => by rw [hS, Lib.toList_data, Lib.toList_data]); have HR : Hid (idxI (attrAt M.m h nm) = idxI ((nd M.m h).attrs.findIdx? (fun a => a.1 == nm))) := hi_ rfl; generalize idxI (attrAt M.m h nm) = R at *; generalize (nd M.m h).attrs = l at *; have HA := hi_ hrow; clear hM hv hrow hS
 go_enter Tryz.func128, Tryz.ntmps128
 go_wp2_with fail
 go_loopw [7] (fun v7 wr => ∃ i : Nat, v7 = .int .i64 (i : Nat) ∧ i ≤ l.length ∧ wr = w ∧ Hid (∀ j a, j < i → l[j]? = some a → (a.1 == nm) = false)) (fun v7 _ => l.length - (Go.RowKit.intOf v7).toNat)
 case atStart => exact ⟨0, rfl, Nat.zero_le _, rfl, hi_ (fun j a hj => by omega)⟩
 case round =>
  obtain ⟨i, rfl, hi, rfl, HN⟩ := hrel
  rcases Nat.lt_or_ge i l.length with hlt | hge
  ·have hii : (i : Int) < (l.length : Int) := by omega
   obtain ⟨g0, cap', hv, hgb, hgl, _⟩ := own_some HA.out (by omega); injection hv with e1 _ e3
   subst e1 e3; have hc0 := (RecRow.cell acells_len HA.out hlt (k := 0) (by omega)).1; have HD : Hid (l.drop i = l[i] :: l.drop (i + 1)) := hi_ (List.drop_eq_getElem_cons hlt); have HG : Hid (l[i]? = some l[i]) := hi_ (List.getElem?_eq_getElem hlt); generalize l[i] = a at *; obtain ⟨x, y⟩ := a; have k0 : wr.cell? ⟨g0, i * 2, none⟩ = some (.string ⟨x.toArray⟩) := hc0; have heq := HEq.out x; have wq : IntKind.i64.wrap ((i : Int) + 1) = (i : Int) + 1 := IntWalk.i64_in _ (by omega); generalize (⟨x.toArray⟩ : ByteArray) = X at *; clear hc0
   cases hq : (x == nm) with
   | true =>
    rw [hq] at heq; have HF : Hid (R = (i : Int)) := hi_ (by rw [HR.out, find_from HN.out, HD.out, List.findIdx?_cons]; dsimp only; rw [hq]; simp [idxI]); clear hq HD; go_wp2_with fail
    go_ret
    exact ⟨ret_i64 HF.out.symm, rfl⟩
   | false =>
    rw [hq] at heq; have HN2 : Hid (∀ j a, j < i + 1 → l[j]? = some a → (a.1 == nm) = false) := hi_ (fun j a hj ha => by
     by_cases e : j = i
     ·subst e
      rw [HG.out] at ha; injection ha with ha
      rw [← ha]; exact hq
     ·exact HN.out j a (by omega) ha)
    clear hq HD; go_wp2_with fail
    go_roundw
    case rel => exact ⟨i + 1, by go_num, by omega, trivial, HN2⟩
    case measure => simp [Go.RowKit.intOf]; omega
  ·have hnl : ¬ (i : Int) < (l.length : Int) := by omega
   have HF : Hid (R = -1) := hi_ (by rw [HR.out, find_from HN.out, List.drop_eq_nil_of_le (by omega)]; rfl); go_wp2_with fail
   go_ret
   exact ⟨ret_i64 HF.out.symm, rfl⟩
end R
end Go.Proofs.YtinphfpdfodkkaaGreatDoor

/- Texts of the proof. -/
import Derived.Test.YtinphfpdfodkkaaGreatDoorM00
import Derived.Test.YtinphfpdfodkkaaGreatDoorM46
import Derived.Test.YtinphfpdfodkkaaGreatDoorM40
import Derived.Test.YtinphfpdfodkkaaGreatDoorM32
import Derived.Test.YtinphfpdfodkkaaGreatDoorM21
import Derived.Test.YtinphfpdfodkkaaGreatDoorM36
import Derived.Test.YtinphfpdfodkkaaGreatDoorM47
import Derived.Test.YtinphfpdfodkkaaGreatDoorM45
import Derived.Test.YtinphfpdfodkkaaGreatDoorM42
import Derived.Test.YtinphfpdfodkkaaGreatDoorM37
import Derived.Test.YtinphfpdfodkkaaGreatDoorM41
import Derived.Test.YtinphfpdfodkkaaGreatDoorM34
import Derived.Test.YtinphfpdfodkkaaGreatDoorM35
import Derived.Test.YtinphfpdfodkkaaGreatDoorM33
import Derived.Test.YtinphfpdfodkkaaGreatDoorM44
import Derived.Test.YtinphfpdfodkkaaGreatDoorM24
import Derived.Deep.Slices
import Derived.OpenShut
import Derived.Test.YtinphfpdfodkkaaGreatDoorM02
import Derived.Test.YtinphfpdfodkkaaGreatDoorM08
import Derived.Test.YtinphfpdfodkkaaGreatDoorM31
import Derived.Test.YtinphfpdfodkkaaGreatDoorM17
import Derived.Test.YtinphfpdfodkkaaGreatDoorM27
set_option linter.unusedVariables false
set_option linter.unusedSimpArgs false
set_option maxHeartbeats 8000000
namespace Go.Proofs.YtinphfpdfodkkaaGreatDoor
open Go.RowKit Go.Sort
namespace A
open H G R
set_option maxRecDepth 100000 in
theorem do8 (w0 w : World) (X : Tw) (o : G.Op) (k : Nat) (h : TwIs w0 w X) (hF : Fit w0 X o k) (hk : o.kind % 10 = 8) :
  Calls Tryz.prog 24 #[.pointer (some ⟨X.tb, 0, none⟩), opV o] w fun e w' => DoIs w0 w X o e w' := by
 have hl := h.pos_len; obtain ⟨e1, e2, e3, n1, n2, n3, q1, q2⟩ := op_nums o hl hF.few hF.u8 X.m rfl; have HOV := opV_eq o; rw [HOV.out]; have ek : Int.tmod (o.kind : Int) 10 = 8 := by rw [show (10 : Int) = ((10 : Nat) : Int) from rfl, ← Int.ofNat_tmod, hk]; rfl
 obtain ⟨hb1, HO1, HN0⟩ := op_box w o; have H1 := hi_ (h.below hb1); have HB1 := hi_ hb1; obtain ⟨g, cap, hv, _, hcap, _⟩ := h.toMid.cells hl; have HF := hi_ hF; obtain ⟨⟨ha1, ha2, ha3, hfw⟩, ⟨wa1, wa2, wa3⟩, wn1, wc1, hn0, hn00, hn1, hn11⟩ := do_facts hF hl; clear hb1 HOV
 go_enter Tryz.func24, Tryz.ntmps24
 obtain ⟨c0, c1, c2, hlt⟩ := cells3 H1.out.blk; obtain ⟨o0, o1, o2, o3, o4, o5, o6, o7⟩ := cells8 HO1.out; have hlo := HO1.out.lt; rw [hv] at c2; go_upto_region 2 with fail
 go_quiet (fail)
 rw [op_c rfl hfw]; have H2 := hi_ (H1.out.below (bdN (Below.refl _ _) nq)); have HO2 := hi_ (HO1.out.below (bdN (Below.refl _ _) nq)); have HB2 := hi_ (bdN HB1.out nq); have HN2 := hi_ (HN0.out nq); clear HN0; clear H1 HO1 HB1 c0 c1 c2 hlt o0 o1 o2 o3 o4 o5 o6 o7 hlo; generalize (w.alloc (.cells #[.int .u8 (o.kind : Nat), .int .u8 (o.a : Nat), .int .u8 (o.b : Nat), .int .u8 (o.c : Nat), .string ⟨o.s.toArray⟩, .string ⟨o.t.toArray⟩, .int .i8 o.n, .int .i8 o.k] 65)).drewN nq = w2 at *; obtain ⟨c0, c1, c2, hlt⟩ := cells3 H2.out.blk; obtain ⟨o0, o1, o2, o3, o4, o5, o6, o7⟩ := cells8 HO2.out; have hlo := HO2.out.lt; rw [hv] at c2; have QH := hi_ (fun (i : Nat) W (hb : Below w2.heap.size w2 W) => mHas X.M i W (H2.out.model.below hb)); have HSm := hi_ h.sim; have HV := hi_ hv; have hst1 := step_8 (lim := some 64) (m := X.m) hk
 have hst2 := step_8 (lim := none) (m := X.M.m) (o := o) hk; have hat : o.at_ X.M.m = o.at_ X.m := by unfold Op.at_; rw [h.sim.len]
 rw [hat, ← h.sim.has] at hst2; obtain ⟨a, ha⟩ : ∃ a, a = o.at_ X.m := ⟨_, rfl⟩; rw [← ha] at hst1 hst2 n1 ⊢; have hr1 : (G.step (some 64) X.m o).1 = [] := by rw [hst1]; split <;> rfl
 have HR1 := hi_ hr1; have hm1 : (G.step (some 64) X.m o).2.2 = if has X.m a = false then X.m else (copyOf X.m a (decide (0 < o.n))).2 := by rw [hst1]; split <;> rfl
 have hm2 : (G.step none X.M.m o).2.2 = if has X.m a = false then X.M.m else (copyOf X.M.m a (decide (0 < o.n))).2 := by rw [hst2]; split <;> rfl
 have QC := hi_ (fun (deep : Bool) (hd : deep = decide (0 < o.n)) => copy71 w0 w2 X a deep H2.out n1 hfw (fun i => by have h1 := (hF.ok1 i); have hk2 := hF.k200; exact Nat.le_trans h1.1 (by omega)) (fun i => by have h1 := (hF.ok2 i); have hk2 := hF.k200; exact Nat.le_trans h1.1 (by omega)) _ _ (by rw [hd]; exact hm1) (by rw [hd]; exact hm2) hF.keep); clear hst1 hst2 hat ha h hF e1 e2 e3 wa1 wa2 wa3 wn1 wc1 hn0 hn00 hn1 hn11 q1 q2 hr1 hm1 hm2; go_wp2_with fail
 refine (QH.out a w2 (Below.refl _ _)).mono ?_; rintro e w2' ⟨rfl, rfl⟩; generalize has X.M.m a = hh at *
 rcases Int.lt_or_le 0 o.n with hN | hN
 ·have Q := hi_ (QC.out true (decide_eq_true hN).symm)
  clear QC QH; go_wp2_with fail
  refine Q.out.mono ?_; rintro e w3 ⟨X', rfl, hX, ht, hb, hs, hm, hM⟩; have HP := hi_ (⟨hX, ht, hb, hs, hm, hM⟩ : _ ∧ _ ∧ _ ∧ _ ∧ _ ∧ _); clear hX ht hb hs hm hM Q; go_wp2_with fail
  refine bodyPost_ret (v := .tuple #[.slice none 0 0, .bool true]) (by simp [results, Tryz.results24, go_sem]) rfl ⟨_, _, X', rfl, HP.out.1, HP.out.2.1, HP.out.2.2.1, HP.out.2.2.2.1, HP.out.2.2.2.2.1, HP.out.2.2.2.2.2, by rw [HR1.out]; exact RecsAt.nil _ _ _ _, fun _ _ => rfl⟩
 ·have hN2 : decide (0 < o.n) = false := decide_eq_false (by omega)
  have Q := hi_ (QC.out false hN2.symm); clear QC QH hN; go_wp2_with fail
  refine Q.out.mono ?_; rintro e w3 ⟨X', rfl, hX, ht, hb, hs, hm, hM⟩; have HP := hi_ (⟨hX, ht, hb, hs, hm, hM⟩ : _ ∧ _ ∧ _ ∧ _ ∧ _ ∧ _); clear hX ht hb hs hm hM Q; go_wp2_with fail
  refine bodyPost_ret (v := .tuple #[.slice none 0 0, .bool true]) (by simp [results, Tryz.results24, go_sem]) rfl ⟨_, _, X', rfl, HP.out.1, HP.out.2.1, HP.out.2.2.1, HP.out.2.2.2.1, HP.out.2.2.2.2.1, HP.out.2.2.2.2.2, by rw [HR1.out]; exact RecsAt.nil _ _ _ _, fun _ _ => rfl⟩
set_option maxRecDepth 100000 in
theorem do9_1 (w0 w : World) (X : Tw) (o : G.Op) (k : Nat) (h : TwIs w0 w X) (hF : Fit w0 X o k) (hk : o.kind % 10 = 9) (hha : has X.m (o.at_ X.m) = false) :
  Calls Tryz.prog 24 #[.pointer (some ⟨X.tb, 0, none⟩), opV o] w fun e w' => DoIs w0 w X o e w' := by
 have hl := h.pos_len; obtain ⟨e1, e2, e3, n1, n2, n3, q1, q2⟩ := op_nums o hl hF.few hF.u8 X.m rfl; have HOV := opV_eq o; rw [HOV.out]; have ek : Int.tmod (o.kind : Int) 10 = 9 := by rw [show (10 : Int) = ((10 : Nat) : Int) from rfl, ← Int.ofNat_tmod, hk]; rfl
 obtain ⟨hb1, HO1, HN0⟩ := op_box w o; have H1 := hi_ (h.below hb1); have HB1 := hi_ hb1; obtain ⟨g, cap, hv, _, hcap, _⟩ := h.toMid.cells hl; have HF := hi_ hF; obtain ⟨⟨ha1, ha2, ha3, hfw⟩, ⟨wa1, wa2, wa3⟩, wn1, wc1, hn0, hn00, hn1, hn11⟩ := do_facts hF hl; clear hb1 HOV
 go_enter Tryz.func24, Tryz.ntmps24
 obtain ⟨c0, c1, c2, hlt⟩ := cells3 H1.out.blk; obtain ⟨o0, o1, o2, o3, o4, o5, o6, o7⟩ := cells8 HO1.out; have hlo := HO1.out.lt; rw [hv] at c2; go_upto_region 2 with fail
 go_quiet (fail)
 rw [op_c rfl hfw]; have H2 := hi_ (H1.out.below (bdN (Below.refl _ _) nq)); have HO2 := hi_ (HO1.out.below (bdN (Below.refl _ _) nq)); have HB2 := hi_ (bdN HB1.out nq); have HN2 := hi_ (HN0.out nq); clear HN0; clear H1 HO1 HB1 c0 c1 c2 hlt o0 o1 o2 o3 o4 o5 o6 o7 hlo; generalize (w.alloc (.cells #[.int .u8 (o.kind : Nat), .int .u8 (o.a : Nat), .int .u8 (o.b : Nat), .int .u8 (o.c : Nat), .string ⟨o.s.toArray⟩, .string ⟨o.t.toArray⟩, .int .i8 o.n, .int .i8 o.k] 65)).drewN nq = w2 at *; obtain ⟨c0, c1, c2, hlt⟩ := cells3 H2.out.blk; obtain ⟨o0, o1, o2, o3, o4, o5, o6, o7⟩ := cells8 HO2.out; have hlo := HO2.out.lt; rw [hv] at c2; have QH := hi_ (fun (i : Nat) W (hb : Below w2.heap.size w2 W) => mHas X.M i W (H2.out.model.below hb)); have HSm := hi_ h.sim; have HV := hi_ hv; have hst1 := step_9 (lim := some 64) (m := X.m) hk
 have hst2 := step_9 (lim := none) (m := X.M.m) (o := o) hk; have hat : o.at_ X.M.m = o.at_ X.m := by unfold Op.at_; rw [h.sim.len]
 rw [hat, ← h.sim.has] at hst2; obtain ⟨a, ha⟩ : ∃ a, a = o.at_ X.m := ⟨_, rfl⟩; rw [← ha] at hst1 hst2 n1 hha ⊢; have HSt1 := hi_ hst1; have HSt2 := hi_ hst2; clear hst1 hst2 hat ha h hF e1 e2 e3 wa1 wa2 wa3 wn1 wc1 hn0 hn00 hn1 hn11 q1 q2; go_wp2_with fail
 refine (QH.out a w2 (Below.refl _ _)).mono ?_; rintro e w2' ⟨rfl, rfl⟩; rw [← HSm.out.has]; have hz := H2.out.toMid.get hv n1; have hgl := hz.2.2; have hai : (a : Int) < (X.m.length : Int) := by omega
 have ha0 : (0 : Int) ≤ (a : Int) := by omega
 have D0 := fun d : Later w2.heap.size w2 => Later.cell c0 hlt d; have D2 := fun d : Later w2.heap.size w2 => Later.cell c2 hlt d; rw [hv1_gone hha] at hz; have DZ := fun d : Later w2.heap.size w2 => Later.cell hz.1 hgl d; have HR1 : Hid (G.step (some 64) X.m o = ([], 6, X.m)) := hi_ (by rw [HSt1.out, if_pos hha]); have HR2 : Hid (G.step none X.M.m o = ([], 6, X.M.m)) := hi_ (by rw [HSt2.out, if_pos hha]); have QN := hi_ (fun W (hb : Below w2.heap.size w2 W) => drop_none X.T (-1) W (H2.out.below hb).tree.mem (by omega) (by omega) (ptr_gone H2.out.tree.fits 1)); rw [hha]; clear hha; go_upto_region 8 with fail
 refine wp_region_mid 11 _ _ (by kernel_rfl) (by kernel_rfl) rfl ?_; simp only [List.take_succ_cons, List.take_zero]; repeat (go_big_quiet_step (fail))
 refine wpQuiet_nil ?_; intro _ hw'; obtain ⟨dq, hw''⟩ := hw'; subst hw''; intro K hK; have HD3 := hi_ dq.h; clear D0 D2 DZ; generalize dq.w = w3 at *; go_simp
 go_at_call 72
 refine (QN.out w3 HD3.out).mono ?_; rintro e w4 ⟨rfl, hb4⟩; have HB4 := hi_ (HD3.out.trans (hb4.mono HD3.out.size)); go_simp
 refine hK _ _ (midQ_normal ?_); clear hK K; repeat (go_big_quiet_step (fail))
 refine wpQuiet_nil ?_; intro _ hw'; obtain ⟨dq, hw''⟩ := hw'; subst hw''; have HB5 := hi_ (HB4.out.trans (dq.h.mono HB4.out.size)); generalize dq.w = wB at *; have H5 := hi_ (H2.out.below HB5.out); have HSw := hi_ (fun W (fr : H.Frame (fun k => k = g) wB W) => H5.out.sweep HV.out (H.Frame.refl _ _) (H.Frame.refl _ _) H5.out.model (MLike.refl _ _) fr); have HR0 := hi_ (H5.out.row0 (H.Frame.refl _ _) (H.Frame.refl _ _) (hv1 X.T X.pos X.m)); have HKp : Hid (∀ j, j < X.m.length → has X.M.m j = true → hv1 X.T X.pos X.m j = hv1 X.T X.pos X.m j) := hi_ (fun _ _ _ => rfl); have HGn : Hid (∀ j, has X.M.m j = false → hv1 X.T X.pos X.m j = -1) := hi_ (fun j hj => hv1_gone (by rw [HSm.out.has]; exact hj))
 have HEnd := hi_ (fun W (fr : H.Frame (fun k => k = g) wB W) hro => H5.out.dropped HV.out (H.Frame.refl _ _) (Goes.refl _ _) H5.out.tree (H.Frame.refl _ _) H5.out.model (MLike.refl _ _) HSm.out rfl rfl fr hro); clear c0 c1 c2 hlt o0 o1 o2 o3 o4 o5 o6 o7 hlo hz hgl; go_wp2_with fail
 go_loopw [40] (fun v40 wr => ∃ (j : Nat), v40 = .int .i64 (j : Nat) ∧ j ≤ X.m.length ∧ Hid (H.Frame (fun k => k = g) wB wr) ∧ Hid (wr.ownsRow X.B 3 1 X.hv X.m.length (intVs (mixL (hv1 X.T X.pos X.m) (hv1 X.T X.pos X.m) X.m.length j))))
   (fun v40 _ => X.m.length - (Go.RowKit.intOf v40).toNat)
 case atStart => exact ⟨0, rfl, Nat.zero_le _, hi_ (H.Frame.refl _ _), HR0⟩
 case round =>
  obtain ⟨j, rfl, hj, HFr, HRo⟩ := hrel
  rcases Nat.lt_or_ge j X.m.length with hlt | hge
  ·have hii : (j : Int) < (X.m.length : Int) := by omega
   have hj0 : (0 : Int) ≤ (j : Int) := by omega
   obtain ⟨hmr, hbr⟩ := HSw.out wr HFr.out; obtain ⟨c0', c1', c2', hlt'⟩ := cells3 hbr; obtain ⟨⟨u, hcu⟩, hfu⟩ := sweep_cell HV.out HRo.out hlt; have Q := hi_ (mHas X.M j wr hmr); have HSame := hi_ (HKp.out j hlt); have HGone := hi_ (HGn.out j); clear hmr hbr; go_wp2_with fail
   refine Q.out.mono ?_; rintro e wr' ⟨rfl, rfl⟩
   cases hg : has X.M.m j with
   | true =>
    have HRo2 := hi_ (show wr.ownsRow X.B 3 1 X.hv X.m.length (intVs (mixL (hv1 X.T X.pos X.m) (hv1 X.T X.pos X.m) X.m.length (j + 1))) by rw [mixL_same _ _ _ _ rfl]; exact HRo.out); clear hg; go_wp2_with fail
    go_roundw
    case rel => exact ⟨j + 1, by go_num, by omega, HFr, HRo2⟩
    case measure => simp [Go.RowKit.intOf]; omega
   | false =>
    have HRo2 := hi_ (sweep_row HV.out HRo.out hlt (HGone.out hg)); have HFr2 := hi_ (HFr.out.set (g := g) (Or.inl rfl) j (.int .i64 (-1))); clear hg; go_wp2_with fail
    go_roundw
    case rel => exact ⟨j + 1, by go_num, by omega, HFr2, HRo2⟩
    case measure => simp [Go.RowKit.intOf]; omega
  ·have hje : j = X.m.length := by omega
   subst hje; have hnot : ¬ ((X.m.length : Nat) : Int) < ((X.m.length : Nat) : Int) := by omega
   have HX := hi_ (HEnd.out wr HFr.out HRo.out); go_wp2_with fail
   refine bodyPost_ret (v := .tuple #[.slice none 0 0, .bool true]) (by simp [results, Tryz.results24, go_sem]) rfl ⟨_, _, _, rfl, HX.out, rfl, rfl, rfl, by rw [HR1.out], by rw [HR2.out], by rw [HR1.out]; exact RecsAt.nil _ _ _ _, fun _ _ => rfl⟩
end A
end Go.Proofs.YtinphfpdfodkkaaGreatDoor
namespace Go.Proofs.YtinphfpdfodkkaaGreatDoor
open Go.RowKit Go.Sort
namespace G
def okOp (o : Op) : Bool := decide (o.s.length ≤ 40) && decide (o.t.length ≤ 40)
def few (os : List Op) : Bool := os.all okOp && decide (os.length ≤ 60)
end G
namespace A
open H G R
def ocells (o : G.Op) : List Value := [.int .u8 (o.kind : Nat), .int .u8 (o.a : Nat), .int .u8 (o.b : Nat), .int .u8 (o.c : Nat), .string ⟨o.s.toArray⟩, .string ⟨o.t.toArray⟩, .int .i8 o.n, .int .i8 o.k]
def OpsAt (w : World) (v : Value) (os : List G.Op) : Prop :=
 ∃ ao cap, v = .slice ao os.length cap ∧ (0 < os.length → ∃ b off, ao = some ⟨b, off, none⟩ ∧ b < w.heap.size ∧ ∀ j (hj : j < os.length) k, k < 8 → w.cell? ⟨b, off + j * 8 + k, none⟩ = (ocells os[j])[k]?)
theorem OpsAt.below {w w' : World} {v : Value} {os : List G.Op} (h : OpsAt w v os) (hb : Below w.heap.size w w') : OpsAt w' v os := by
 obtain ⟨ao, cap, hv, h⟩ := h; refine ⟨ao, cap, hv, fun hl => ?_⟩; obtain ⟨b, off, e, hlt, hc⟩ := h hl; refine ⟨b, off, e, Nat.lt_of_lt_of_le hlt hb.size, fun j hj k hk => ?_⟩; rw [← hc j hj k hk]; have := hb.block b hlt; simp only [World.cell?, this]
theorem OpsAt.at {w : World} {ao : Option Addr} {n cap : Nat} {os : List G.Op} (h : OpsAt w (.slice ao n cap) os) (hl : 0 < os.length) : ∃ b off, ao = some ⟨b, off, none⟩ ∧ b < w.heap.size ∧ ∀ j (hj : j < os.length) k, k < 8 → w.cell? ⟨b, off + j * 8 + k, none⟩ = (ocells os[j])[k]? := by
 obtain ⟨ao', cap', hv, h⟩ := h; injection hv with h1 h2 h3
 subst h1; exact h hl
theorem few_all {os : List G.Op} (h : ∀ o, o ∈ os → okOp o = true) : few os = decide (os.length ≤ 60) := by
 unfold few; rw [List.all_eq_true.2 h, Bool.true_and]
theorem few_bad {os : List G.Op} {o : G.Op} (ho : o ∈ os) (h : okOp o = false) : few os = false := by
 unfold few; have : os.all okOp = false := by
  rw [Bool.eq_false_iff]; intro e; have := List.all_eq_true.1 e o ho; rw [h] at this
  cases this
 rw [this, Bool.false_and]
theorem few_ (os : List G.Op) (v : Value) (w : World) (h : OpsAt w v os) (hl : os.length ≤ 9223372036854775807) :
  Calls Tryz.prog 10 #[v] w fun e w' => e = .returned (.bool (few os)) ∧ w = w' := by
 obtain ⟨ao, cap, hv, _⟩ := id h; subst hv; have HR := hi_ h; clear h; obtain ⟨R, hR⟩ : ∃ R, R = few os := ⟨_, rfl⟩; have HRr := hi_ hR; rw [← hR]; clear hR
 go_enter Tryz.func10, Tryz.ntmps10
 go_wp2_with fail
 go_loopw [3] (fun v3 wr => ∃ i : Nat, v3 = .int .i64 (i : Nat) ∧ i ≤ os.length ∧ wr = w ∧ Hid (∀ j (hj : j < os.length), j < i → okOp os[j] = true))
  (fun v3 _ => os.length - (Go.RowKit.intOf v3).toNat)
 case atStart => exact ⟨0, rfl, Nat.zero_le _, rfl, hi_ (fun j _ hj => by omega)⟩
 case round =>
  obtain ⟨i, rfl, hi, rfl, HI⟩ := hrel
  rcases Nat.lt_or_ge i os.length with hlt | hge
  ·have hii : (i : Int) < (os.length : Int) := by omega
   have hi0 : (0 : Int) ≤ (i : Int) := by omega
   obtain ⟨g, off, e1, hgl, hcc⟩ := HR.out.at (by omega); subst e1; have c4' : wr.cell? ⟨g, off + i * 8 + 4, none⟩ = some (.string ⟨os[i].s.toArray⟩) := hcc i hlt 4 (by omega); have c5' : wr.cell? ⟨g, off + i * 8 + 5, none⟩ = some (.string ⟨os[i].t.toArray⟩) := hcc i hlt 5 (by omega); clear hcc; have HIm := hi_ (List.getElem_mem hlt); have HNx : Hid (okOp os[i] = true → ∀ j (hj : j < os.length), j < i + 1 → okOp os[j] = true) := hi_ (fun ho j hj hj2 => by
    rcases Nat.lt_or_ge j i with h1 | h1
    ·exact HI.out j hj h1
    ·have : j = i := by omega
     subst this; exact ho)
   generalize os[i] = o at *
   by_cases hs : o.s.length ≤ 40
   ·have hs2 : decide ((40 : Int) < (o.s.length : Int)) = false := decide_eq_false (by omega)
    by_cases ht : o.t.length ≤ 40
    ·have ht2 : decide ((40 : Int) < (o.t.length : Int)) = false := decide_eq_false (by omega)
     have HN2 := hi_ (HNx.out (by unfold okOp; rw [decide_eq_true hs, decide_eq_true ht]; rfl)); clear hs ht; go_wp2_with fail
     go_roundw
     case rel => exact ⟨i + 1, by go_num, by omega, trivial, HN2⟩
     case measure => simp [Go.RowKit.intOf]; omega
    ·have ht2 : decide ((40 : Int) < (o.t.length : Int)) = true := decide_eq_true (by omega)
     have HB : Hid (R = false) := hi_ (HRr.out.trans (few_bad HIm.out (by unfold okOp; rw [decide_eq_true hs, decide_eq_false ht]; rfl))); clear hs ht; go_wp2_with fail
     exact bodyPost_ret (v := .bool false) (by simp [results, Tryz.results10, go_sem]) rfl ⟨by rw [HB.out], rfl⟩
   ·have hs2 : decide ((40 : Int) < (o.s.length : Int)) = true := decide_eq_true (by omega)
    have HB : Hid (R = false) := hi_ (HRr.out.trans (few_bad HIm.out (by unfold okOp; rw [decide_eq_false hs]; rfl))); clear hs; go_wp2_with fail
    exact bodyPost_ret (v := .bool false) (by simp [results, Tryz.results10, go_sem]) rfl ⟨by rw [HB.out], rfl⟩
  ·have hie : i = os.length := by omega
   have HB : Hid (R = decide (os.length ≤ 60)) := hi_ (HRr.out.trans (few_all (fun o ho => by
    obtain ⟨j, hj, e⟩ := List.getElem_of_mem ho; rw [← e]; exact HI.out j hj (by omega))))
   subst hie; have hnot : ¬ ((os.length : Nat) : Int) < ((os.length : Nat) : Int) := by omega
   have HE : Hid (decide ((os.length : Int) ≤ 60) = decide (os.length ≤ 60)) := hi_ (by congr 1; exact propext ⟨fun h => by omega, fun h => by omega⟩); go_wp2_with fail
   exact bodyPost_ret (v := .bool (decide ((os.length : Int) ≤ 60))) (by simp [results, Tryz.results10, go_sem]) rfl ⟨by rw [HB.out, HE.out], rfl⟩
end A
end Go.Proofs.YtinphfpdfodkkaaGreatDoor
namespace Go.Proofs.YtinphfpdfodkkaaGreatDoor
open Go.RowKit Go.Sort
namespace A
open H G R
theorem do_ (w0 w : World) (X : Tw) (o : G.Op) (k : Nat) (h : TwIs w0 w X) (hF : Fit w0 X o k) :
  Calls Tryz.prog 24 #[.pointer (some ⟨X.tb, 0, none⟩), opV o] w fun e w' => DoIs w0 w X o e w' := by
 have hlt : o.kind % 10 < 10 := Nat.mod_lt _ (by omega)
 by_cases k0 : o.kind % 10 < 3
 ·exact do012 w0 w X o k h hF k0
 by_cases k3 : o.kind % 10 = 3
 ·cases hA : has X.m (o.at_ X.m) with
  | false => exact do3_1 w0 w X o k h hF k3 hA
  | true =>
   cases hB : has X.m (o.bt X.m) with
   | false => exact do3_2 w0 w X o k h hF k3 hA hB
   | true =>
    cases hC : o.ct X.m with
    | none => exact do3_4 w0 w X o k h hF k3 hA hB hC
    | some ci =>
     cases hI : has X.m ci with
     | false => exact do3_3 w0 w X o k h hF k3 hA hB ci hC hI
     | true => exact do3_5 w0 w X o k h hF k3 hA hB ci hC hI
 by_cases k4 : o.kind % 10 = 4
 ·exact do4 w0 w X o k h hF k4
 by_cases k5 : o.kind % 10 = 5
 ·exact do5 w0 w X o k h hF k5
 by_cases k6 : o.kind % 10 = 6
 ·exact do6 w0 w X o k h hF k6
 by_cases k7 : o.kind % 10 = 7
 ·exact do7 w0 w X o k h hF k7
 by_cases k8 : o.kind % 10 = 8
 ·exact do8 w0 w X o k h hF k8
 have k9 : o.kind % 10 = 9 := by omega
 cases hA : has X.m (o.at_ X.m) with
 | false => exact do9_1 w0 w X o k h hF k9 hA
 | true => exact do9_2 w0 w X o k h hF k9 hA
end A
end Go.Proofs.YtinphfpdfodkkaaGreatDoor
namespace Go.Proofs.YtinphfpdfodkkaaGreatDoor
open Go.RowKit Go.Sort
namespace G
def runO : List Op → Model → Model
 | [], m => m
 | o :: os, m => if m.length < 120 then runO os (step none m o).2.2 else m
theorem runO_stop {os : List Op} {m : Model} (h : ¬ m.length < 120) : runO os m = m := by
 cases os with
 | nil => rfl
 | cons o os => rw [runO, if_neg h]
def Op.fits (o : Op) : Prop := (o.kind < 256 ∧ o.a < 256 ∧ o.b < 256 ∧ o.c < 256) ∧ (-128 ≤ o.n ∧ o.n ≤ 127) ∧ (-128 ≤ o.k ∧ o.k ≤ 127)
end G
namespace A
open H G R
theorem fit_run {w wr : World} {X : Tw} {o : G.Op} {i : Nat} (h : TwIs w wr X) (hM : X.M.m = X.m) (hl : X.m.length < 120) (hi : i < 60) (hok : AllN (OkBod i) X.m) (ho : okOp o = true) (hf : o.fits) (ht : UTabs w) : Fit w X o i ∧ G.step (some 64) X.m o = G.step none X.m o := by
 have hs : G.step (some 64) X.m o = G.step none X.m o := step_lim (fun j => by have := (hok j).1; unfold bod at this; dsimp only at this; omega); unfold okOp at ho; rw [Bool.and_eq_true, decide_eq_true_eq, decide_eq_true_eq] at ho; exact ⟨⟨by omega, hok, by rw [hM]; exact hok, by omega, ho.1, ho.2, hf.2.1, hf.2.2, hf.1, ht, Or.inl (by rw [hM, hs]), by rw [hM, hs]; exact Sim.refl _⟩, hs⟩
end A
end Go.Proofs.YtinphfpdfodkkaaGreatDoor
namespace Go.Proofs.YtinphfpdfodkkaaGreatDoor
open Go.RowKit Go.Sort
namespace A
open H G R
theorem doc_ok : AllN (OkBod 0) [docNode] := by
 intro j; have e : bod (nd [docNode] j) = ([], []) := by
  cases j with
  | zero => rfl
  | succ j => rfl
 rw [e]; exact ⟨by simp, rfl, by simp⟩
set_option maxRecDepth 100000 in
theorem start11 (os : List G.Op) (v : Value) (w : World) (h : OpsAt w v os) (hfew : few os = true) (hf : ∀ o, o ∈ os → o.fits) (ht : UTabs w) :
  Calls Tryz.prog 11 #[v] w fun e w' => ∃ X, e = .returned (.pointer (some ⟨X.tb, 0, none⟩)) ∧ TwIs w w' X ∧ X.M.m = X.m ∧ X.m = runO os [docNode] ∧ (∃ i, i ≤ 60 ∧ AllN (OkBod i) X.m) ∧ X.m.length ≤ 300 ∧ X.T.bs = 2 ∧ X.T.st = 2 := by
 obtain ⟨ao, cap, hv, _⟩ := id h; subst hv; have HR := hi_ h; have hfw : os.all okOp = true ∧ os.length ≤ 60 := by
  unfold few at hfew; rw [Bool.and_eq_true, decide_eq_true_eq] at hfew; exact hfew
 have HOk := hi_ (List.all_eq_true.1 hfw.1); have hlen := hfw.2; have HFt := hi_ hf; have HTb := hi_ ht; have QS := hi_ (fun W => start36 2 2 W); clear h hfw hfew hf ht
 go_enter Tryz.func11, Tryz.ntmps11
 go_wp2_with fail
 refine (QS.out _).mono ?_; rintro e w1 ⟨X1, rfl, hX, hm, hM, hb, hs⟩; have H1 := hi_ (⟨hX, hm, hM, hb, hs⟩ : _ ∧ _ ∧ _ ∧ _ ∧ _); obtain ⟨tb, htb⟩ : ∃ tb, tb = X1.tb := ⟨_, rfl⟩; have HTbb := hi_ htb; rw [← htb]; clear hX hm hM hb hs QS htb; go_wp2_with fail
 go_loopw [4] (fun v4 wr => ∃ (i : Nat) (X : Tw), v4 = .int .i64 (i : Nat) ∧ i ≤ os.length ∧ Hid (X.tb = tb) ∧ Hid (TwIs w wr X) ∧ Hid (X.M.m = X.m) ∧ Hid (runO (os.drop i) X.m = runO os [docNode]) ∧ Hid (AllN (OkBod i) X.m) ∧ Hid (X.T.bs = 2 ∧ X.T.st = 2) ∧ Hid (X.m.length ≤ 300))
  (fun v4 _ => os.length - (Go.RowKit.intOf v4).toNat)
 case atStart =>
  exact ⟨0, X1, rfl, Nat.zero_le _, hi_ HTbb.out.symm, hi_ H1.out.1, hi_ (by rw [H1.out.2.1, H1.out.2.2.1]), hi_ (by rw [H1.out.2.1]; rfl), hi_ (by rw [H1.out.2.1]; exact doc_ok), hi_ H1.out.2.2.2, hi_ (by rw [H1.out.2.1]; exact (by decide : 1 ≤ 300))⟩
 case round =>
  obtain ⟨i, X, rfl, hi, HXt, HX, HXm, HRun, HAl, HBs, HLn⟩ := hrel
  rcases Nat.lt_or_ge i os.length with hlt | hge
  ·have hii : (i : Int) < (os.length : Int) := by omega
   have hi0 : (0 : Int) ≤ (i : Int) := by omega
   obtain ⟨c0, c1, c2, htl⟩ := cells3 HX.out.blk; have hlp := HX.out.pos_len; obtain ⟨gh, caph, hhv, _, _, _⟩ := HX.out.toMid.cells hlp; rw [hhv] at c2; rw [HXt.out] at c0 c1 c2 htl
   by_cases hsm : X.m.length < 120
   ·have hs2 : decide ((X.m.length : Int) < 120) = true := decide_eq_true (by omega)
    have hsi : (X.m.length : Int) < 120 := by omega
    have HRr : Hid (OpsAt wr (.slice ao os.length cap) os) := hi_ (HR.out.below HX.out.bel); obtain ⟨g, off, e1, hgl, hcc⟩ := HRr.out.at (by omega); subst e1; have k0 := hcc i hlt 0 (by omega); have k1 := hcc i hlt 1 (by omega); have k2 := hcc i hlt 2 (by omega); have k3 := hcc i hlt 3 (by omega); have k4 := hcc i hlt 4 (by omega); have k5 := hcc i hlt 5 (by omega); have k6 := hcc i hlt 6 (by omega); have k7 := hcc i hlt 7 (by omega); clear hcc; have hmem : os[i] ∈ os := List.getElem_mem hlt; obtain ⟨hF, hst⟩ := fit_run HX.out HXm.out hsm (by omega) HAl.out (HOk.out _ hmem) (HFt.out _ hmem) HTb.out; have hdr : os.drop i = os[i] :: os.drop (i + 1) := List.drop_eq_getElem_cons hlt; have HRun2 : Hid (runO (os.drop (i + 1)) (G.step none X.m os[i]).2.2 = runO os [docNode]) := hi_ (by
     have h1 := HRun.out; rw [hdr, runO, if_pos hsm] at h1; exact h1)
    have ho40 := HOk.out _ hmem; have HAl2 : Hid (AllN (OkBod (i + 1)) (G.step (some 64) X.m os[i]).2.2) := hi_ (ok_step HAl.out (by
     unfold okOp at ho40; rw [Bool.and_eq_true, decide_eq_true_eq, decide_eq_true_eq] at ho40; have := U.rep_le os[i].t
     omega))
    have QD := hi_ (do_ w wr X os[i] i HX.out hF); rw [HXt.out] at QD; have HSt := hi_ hst; have HL2 : Hid ((G.step (some 64) X.m os[i]).2.2.length ≤ 300) := hi_ (by have := step_few HX.out.tree.fits.wf (some 64) os[i]; omega); generalize os[i] = o at *; have j0 : wr.cell? ⟨g, off + i * 8, none⟩ = some (.int .u8 (o.kind : Nat)) := k0; have j1 : wr.cell? ⟨g, off + i * 8 + 1, none⟩ = some (.int .u8 (o.a : Nat)) := k1; have j2 : wr.cell? ⟨g, off + i * 8 + 2, none⟩ = some (.int .u8 (o.b : Nat)) := k2; have j3 : wr.cell? ⟨g, off + i * 8 + 3, none⟩ = some (.int .u8 (o.c : Nat)) := k3; have j4 : wr.cell? ⟨g, off + i * 8 + 4, none⟩ = some (.string ⟨o.s.toArray⟩) := k4; have j5 : wr.cell? ⟨g, off + i * 8 + 5, none⟩ = some (.string ⟨o.t.toArray⟩) := k5; have j6 : wr.cell? ⟨g, off + i * 8 + 6, none⟩ = some (.int .i8 o.n) := k6
    have j7 : wr.cell? ⟨g, off + i * 8 + 7, none⟩ = some (.int .i8 o.k) := k7; clear k0 k1 k2 k3 k4 k5 k6 k7 hF hst hdr ho40 hmem; unfold opV at QD; go_wp2_with fail
    refine QD.out.mono ?_; rintro e w5 ⟨v5, b5, X', rfl, hX', ht', hb', hs', hm', hM', _, _⟩; have HX' := hi_ hX'; have HXt' : Hid (X'.tb = tb) := hi_ (ht'.trans HXt.out); have HXm' : Hid (X'.M.m = X'.m) := hi_ (by rw [hM', hm', HXm.out, HSt.out]); have HRun' : Hid (runO (os.drop (i + 1)) X'.m = runO os [docNode]) := hi_ (by rw [hm', HSt.out]; exact HRun2.out); have HAl' : Hid (AllN (OkBod (i + 1)) X'.m) := hi_ (by rw [hm']; exact HAl2.out); have HBs' : Hid (X'.T.bs = 2 ∧ X'.T.st = 2) := hi_ ⟨hb'.trans HBs.out.1, hs'.trans HBs.out.2⟩; have HLn' : Hid (X'.m.length ≤ 300) := hi_ (by rw [hm']; exact HL2.out); clear hX' ht' hb' hs' hm' hM' QD HAl2 HRun2 HL2; go_wp2_with fail
    go_roundw
    case rel => exact ⟨i + 1, X', by go_num, by omega, HXt', HX', HXm', HRun', HAl', HBs', HLn'⟩
    case measure => simp [Go.RowKit.intOf]; omega
   ·have hs2 : decide ((X.m.length : Int) < 120) = false := decide_eq_false (by omega)
    have hsn : ¬ (X.m.length : Int) < 120 := by omega
    have HEq : Hid (X.m = runO os [docNode]) := hi_ (by rw [← HRun.out, runO_stop hsm]); go_wp2_with fail
    refine bodyPost_ret (v := .pointer (some ⟨tb, 0, none⟩)) (by simp [results, Tryz.results11, go_sem]) rfl ⟨X, by rw [HXt.out], HX.out, HXm.out, HEq.out, ⟨i, by omega, HAl.out⟩, HLn.out, HBs.out.1, HBs.out.2⟩
  ·have hie : i = os.length := by omega
   have HEq : Hid (X.m = runO os [docNode]) := hi_ (by rw [← HRun.out, hie, List.drop_length]; rfl); subst hie; have hnot : ¬ ((os.length : Nat) : Int) < ((os.length : Nat) : Int) := by omega
   go_wp2_with fail
   refine bodyPost_ret (v := .pointer (some ⟨tb, 0, none⟩)) (by simp [results, Tryz.results11, go_sem]) rfl ⟨X, by rw [HXt.out], HX.out, HXm.out, HEq.out, ⟨os.length, hlen, HAl.out⟩, HLn.out, HBs.out.1, HBs.out.2⟩
end A
end Go.Proofs.YtinphfpdfodkkaaGreatDoor
namespace Go.Proofs.YtinphfpdfodkkaaGreatDoor
open Go.ChangeShapes Go.WideShapes Go.RowKit
namespace A
open H G R
theorem wf_u8 {n : Int} (h : (Lit.int .u8 n).wf = true) : 0 ≤ n ∧ n ≤ 255 := by
 simp [Lit.wf, IntKind.min, IntKind.max, IntKind.signed, IntKind.bits] at h; omega
theorem wf_i8 {n : Int} (h : (Lit.int .i8 n).wf = true) : -128 ≤ n ∧ n ≤ 127 := by
 simp [Lit.wf, IntKind.min, IntKind.max, IntKind.signed, IntKind.bits] at h; omega
theorem getOne {l : List Value} {i : Nat} {v : Value} (h : (l.drop i).take 1 = [v]) : l[i]? = some v := by
 have := congrArg (fun l : List Value => l[0]?) h; simpa [List.getElem?_take, List.getElem?_drop] using this
section
variable {H : Type} {enc : TypeId × Value → H} {W : World}
theorem u8_at {spare : Nat → Bool} {held : Bool} {n : Nat} {l : List Value} {i : Nat} {x : DataW H × List MemPlace} (h : DataW.trod enc Tryz.prog W 0 spare held n 5 ((l.drop i).take 1) = some x) : ∃ k : Nat, k < 256 ∧ l[i]? = some (.int .u8 (k : Nat)) := by
 obtain ⟨z, h1, _, h2⟩ := DataW.trod_int Tryz.underlying5 h; have h3 := wf_u8 h2; refine ⟨z.toNat, by omega, ?_⟩; rw [Int.toNat_of_nonneg h3.1]; exact getOne h1
theorem i8_at {spare : Nat → Bool} {held : Bool} {n : Nat} {l : List Value} {i : Nat} {x : DataW H × List MemPlace} (h : DataW.trod enc Tryz.prog W 0 spare held n 63 ((l.drop i).take 1) = some x) : ∃ z : Int, (-128 ≤ z ∧ z ≤ 127) ∧ l[i]? = some (.int .i8 z) := by
 obtain ⟨z, h1, _, h2⟩ := DataW.trod_int Tryz.underlying63 h; exact ⟨z, wf_i8 h2, getOne h1⟩
theorem str_at {spare : Nat → Bool} {held : Bool} {n : Nat} {l : List Value} {i : Nat} {x : DataW H × List MemPlace} (h : DataW.trod enc Tryz.prog W 0 spare held n 9 ((l.drop i).take 1) = some x) : ∃ s : List UInt8, l[i]? = some (.string ⟨s.toArray⟩) := by
 obtain ⟨s, h1, _, h2⟩ := DataW.trod_string Tryz.underlying9 h; exact ⟨s.data.toList, by rw [getOne h1]⟩
set_option maxRecDepth 100000 in
theorem op_at {spare : Nat → Bool} {held : Bool} {n : Nat} {cs : List Value} {x : DataW H × List MemPlace} (h : DataW.trod enc Tryz.prog W 0 spare held n 65 cs = some x) : ∃ o : G.Op, o.fits ∧ ∀ k, k < 8 → cs[k]? = (ocells o)[k]? := by
 obtain ⟨xs, m, _, _, hcs, hxl, hf⟩ := DataW.trod_struct Tryz.underlying65 h; have c1 : Tryz.prog.cellsOf 5 = 1 := by kernel_rfl
 have c2 : Tryz.prog.cellsOf 9 = 1 := by kernel_rfl
 have c3 : Tryz.prog.cellsOf 63 = 1 := by kernel_rfl
 have hx8 : xs.length = 8 := hxl; have g0 : DataW.trod enc Tryz.prog W 0 spare held m 5 ((cs.drop 0).take (Tryz.prog.cellsOf 5)) = xs[0]? := hf 0 _ rfl; have g1 : DataW.trod enc Tryz.prog W 0 spare held m 5 ((cs.drop 1).take (Tryz.prog.cellsOf 5)) = xs[1]? := hf 1 _ rfl; have g2 : DataW.trod enc Tryz.prog W 0 spare held m 5 ((cs.drop 2).take (Tryz.prog.cellsOf 5)) = xs[2]? := hf 2 _ rfl; have g3 : DataW.trod enc Tryz.prog W 0 spare held m 5 ((cs.drop 3).take (Tryz.prog.cellsOf 5)) = xs[3]? := hf 3 _ rfl; have g4 : DataW.trod enc Tryz.prog W 0 spare held m 9 ((cs.drop 4).take (Tryz.prog.cellsOf 9)) = xs[4]? := hf 4 _ rfl; have g5 : DataW.trod enc Tryz.prog W 0 spare held m 9 ((cs.drop 5).take (Tryz.prog.cellsOf 9)) = xs[5]? := hf 5 _ rfl
 have g6 : DataW.trod enc Tryz.prog W 0 spare held m 63 ((cs.drop 6).take (Tryz.prog.cellsOf 63)) = xs[6]? := hf 6 _ rfl; have g7 : DataW.trod enc Tryz.prog W 0 spare held m 63 ((cs.drop 7).take (Tryz.prog.cellsOf 63)) = xs[7]? := hf 7 _ rfl; rw [c1, List.getElem?_eq_getElem (by omega)] at g0 g1 g2 g3; rw [c2, List.getElem?_eq_getElem (by omega)] at g4 g5; rw [c3, List.getElem?_eq_getElem (by omega)] at g6 g7; obtain ⟨k0, b0, e0⟩ := u8_at g0; obtain ⟨k1, b1, e1⟩ := u8_at g1; obtain ⟨k2, b2, e2⟩ := u8_at g2; obtain ⟨k3, b3, e3⟩ := u8_at g3; obtain ⟨s4, e4⟩ := str_at g4; obtain ⟨s5, e5⟩ := str_at g5; obtain ⟨k6, b6, e6⟩ := i8_at g6; obtain ⟨k7, b7, e7⟩ := i8_at g7; refine ⟨⟨k0, k1, k2, k3, s4, s5, k6, k7⟩, ⟨⟨b0, b1, b2, b3⟩, b6, b7⟩, fun k hk => ?_⟩
 match k, hk with
 | 0, _ => exact e0
 | 1, _ => exact e1
 | 2, _ => exact e2
 | 3, _ => exact e3
 | 4, _ => exact e4
 | 5, _ => exact e5
 | 6, _ => exact e6
 | 7, _ => exact e7
instance : Inhabited G.Op := ⟨⟨0, 0, 0, 0, [], [], 0, 0⟩⟩
theorem open_ops {ao : Option Addr} {len cap : Nat} {d : DataW H} {p : List MemPlace}
  (h : ∃ fuel, DataW.trod enc Tryz.prog W 0 (fun _ => true) true fuel 22 (Value.slice ao len cap).cells.toList = some (d, p)) (hlt : ∀ x ∈ p, x.block < W.heap.size) :
  ∃ os : List G.Op, len = os.length ∧ os.length ≤ 9223372036854775807 ∧ OpsAt W (.slice ao len cap) os ∧ ∀ o, o ∈ os → o.fits := by
 obtain ⟨fuel, hf⟩ := h; have c8 : Tryz.prog.cellsOf 65 = 8 := by kernel_rfl
 rcases Go.Deep.open_slice Tryz.underlying22 hf with ⟨hcs, _⟩ | ⟨a, len', cap', m, n, D, Pl, hcs, _, hl, hm, hmm, hx, hel⟩
 ·simp [Value.cells] at hcs
  obtain ⟨rfl, rfl, rfl⟩ := hcs; exact ⟨[], rfl, by simp, ⟨none, 0, rfl, fun h => by simp at h⟩, fun o ho => by cases ho⟩
 ·simp [Value.cells] at hcs
  obtain ⟨rfl, rfl, rfl⟩ := hcs; simp only [if_true] at hmm; have hmm2 := hmm.symm; subst hmm2; rw [c8] at hx hel; have each : ∀ i, i < cap → ∃ o : G.Op, o.fits ∧ ∀ k, k < 8 → W.cell? ((a.add (i * 8)).add k) = (ocells o)[k]? := by
   intro i hi; obtain ⟨cs, h1, h2⟩ := hel i hi; obtain ⟨_, _, h3⟩ := World.cells?_some h1; obtain ⟨o, ho, h4⟩ := op_at h2; exact ⟨o, ho, fun k hk => (h3 k hk).trans (h4 k hk)⟩
  obtain ⟨f, hfn⟩ := Go.Deep.choose_lt each; have hlen : ((List.range len).map f).length = len := by simp
  unfold maxLen at hm; refine ⟨(List.range len).map f, hlen.symm, by rw [hlen]; omega, ⟨some a, cap, by rw [hlen], fun hpos => ?_⟩, fun o ho => ?_⟩
  ·rw [hlen] at hpos
   obtain ⟨b, off, spot⟩ := a; have h0 := (hfn 0 (by omega)).2 0 (by omega); have hspot : spot = none := by
    have h1 : W.cell? (((⟨b, off, spot⟩ : Addr).add (0 * 8)).add 0) = some (.int .u8 ((f 0).kind : Nat)) := h0; simpa [Addr.add] using World.cell?_spot h1
   subst hspot; have hbW : b < W.heap.size := by
    simp only [Prod.mk.injEq] at hx; refine hlt (.cell b off) ?_; rw [hx.2]; exact List.mem_append_left _ (MemPlace.mem_row.2 ⟨0, by omega, by simp⟩)
   refine ⟨b, off, rfl, hbW, fun j hj k hk => ?_⟩; rw [hlen] at hj; have h1 := (hfn j (by omega)).2 k hk; rw [Go.Deep.add_add] at h1; rw [show ((⟨b, off, none⟩ : Addr).add (j * 8 + k)) = ⟨b, off + j * 8 + k, none⟩ by simp [Addr.add, Nat.add_assoc]] at h1; rw [h1]; simp
  ·obtain ⟨i, hi, rfl⟩ := List.mem_map.1 ho
   exact (hfn i (by have := List.mem_range.1 hi; omega)).1
theorem okWide_arr {P : Program} {r : Reach} {base n : Nat} {t e : TypeId} {v : Value} (ht : P.underlying t = some (.array n e)) (h : Value.okWide P W r base t v) : ∃ cs, v = .agg cs ∧ cs.size = P.cellsOf t := by
 simp only [Value.okWide, ht] at h; obtain ⟨cs, h1, h2, _⟩ := h; exact ⟨cs, h1, h2⟩
set_option maxRecDepth 100000 in
theorem spot_at {spare : Nat → Bool} {held : Bool} {n : Nat} {l : List Value} {i : Nat} {x : DataW H × List MemPlace} (h : DataW.trod enc Tryz.prog W 0 spare held n 24 ((l.drop i).take 2) = some x) : ∃ a b : Nat, a < 256 ∧ b < 256 ∧ l[i]? = some (.int .u8 (a : Nat)) ∧ l[i + 1]? = some (.int .u8 (b : Nat)) := by
 obtain ⟨xs, m, _, _, hcl, hxl, hf⟩ := DataW.trod_array Tryz.underlying24 h; have c1 : Tryz.prog.cellsOf 5 = 1 := by kernel_rfl
 have g0 : DataW.trod enc Tryz.prog W 0 spare held m 5 ((((l.drop i).take 2).drop (0 * Tryz.prog.cellsOf 5)).take (Tryz.prog.cellsOf 5)) = xs[0]? := hf 0 (by omega); have g1 : DataW.trod enc Tryz.prog W 0 spare held m 5 ((((l.drop i).take 2).drop (1 * Tryz.prog.cellsOf 5)).take (Tryz.prog.cellsOf 5)) = xs[1]? := hf 1 (by omega); rw [c1, List.getElem?_eq_getElem (by omega)] at g0 g1; obtain ⟨a, ha, ea⟩ := u8_at g0; obtain ⟨b, hb, eb⟩ := u8_at g1; refine ⟨a, b, ha, hb, ?_, ?_⟩
 ·rw [← ea]; simp [List.getElem?_take, List.getElem?_drop]
 ·rw [← eb]; simp [List.getElem?_take, List.getElem?_drop]
theorem toList_inj {a b : Array Value} (h : a.toList = b.toList) : a = b := by cases a; cases b; simp at h; rw [h]
set_option maxRecDepth 100000 in
theorem open_spot {base : Nat} {v : Value} {d : DataW H} {p : List MemPlace} (hv : Value.okWide Tryz.prog W .any base 24 v) (h : DataW.Trod enc Tryz.prog W 0 (fun _ => true) true 24 v d p) :
  ∃ a b : Nat, a < 256 ∧ b < 256 ∧ v = .agg #[.int .u8 (a : Nat), .int .u8 (b : Nat)] := by
 obtain ⟨cs, rfl, hs⟩ := okWide_arr Tryz.underlying24 hv; have c2 : Tryz.prog.cellsOf 24 = 2 := by kernel_rfl
 rw [c2] at hs; obtain ⟨fuel, hf⟩ := h; have hf2 : DataW.trod enc Tryz.prog W 0 (fun _ => true) true fuel 24 ((cs.toList.drop 0).take 2) = some (d, p) := by
  rw [List.drop_zero, List.take_of_length_le (by simp; omega)]; exact hf
 obtain ⟨a, b, ha, hb, e0, e1⟩ := spot_at hf2; refine ⟨a, b, ha, hb, ?_⟩
 congr 1
 refine toList_inj ?_; refine List.ext_getElem? fun i => ?_
 match i with
 | 0 => rw [e0]; rfl
 | 1 => rw [e1]; rfl
 | i + 2 => rw [List.getElem?_eq_none (by simp; omega), List.getElem?_eq_none (by simp)]
end
end A
end Go.Proofs.YtinphfpdfodkkaaGreatDoor
namespace Go.Proofs.YtinphfpdfodkkaaGreatDoor
open Go.RowKit Go.Sort
namespace G
def spotN (m : Model) (p : Nat) : Nat := p % m.length
def spotI (m : Model) (p q : Nat) : Nat := if has m (spotN m p) = true then q % (G.sizeOf m (spotN m p) + 1) else q
end G
namespace A
open H G R
theorem blk_two {g : Nat} {t : TypeId} {w : World} {a b : Value} (h : Blk g #[a, b] t w) (c d : Value) : Blk g #[c, d] t ((w.setCell ⟨g, 0, none⟩ c).setCell ⟨g, 1, none⟩ d) := by
 have h9 := (h.set 0 c).set 1 d; simp only [List.setIfInBounds_toArray, List.set_cons_zero, List.set_cons_succ] at h9; exact h9
def pointR (i k : Nat) : Value := .agg #[.int .i64 (i : Nat), .int .i64 (k : Nat)]
set_option maxRecDepth 100000 in
theorem point_ (w0 w : World) (X : Tw) (p q : Nat) (h : TwIs w0 w X) (hm : X.M.m = X.m) (hW : Whole X.m) (hfw : X.m.length ≤ 2000) (hp : p < 256) (hq : q < 256) :
  Calls Tryz.prog 12 #[.pointer (some ⟨X.tb, 0, none⟩), .agg #[.int .u8 (p : Nat), .int .u8 (q : Nat)]] w fun e w' => e = .returned (.tuple #[pointR (spotN X.m p) (spotI X.m p q), pointV (hv1 X.T X.pos X.m (spotN X.m p)) (spotI X.m p q : Nat)]) ∧ Below w.heap.size w w' := by
 have hl := h.pos_len; have n1 : spotN X.m p < X.m.length := Nat.mod_lt _ hl; have ek2 : Int.tmod (p : Int) (X.m.length : Int) = (spotN X.m p : Int) := (Int.ofNat_tmod _ _).symm; have HI : Hid (spotI X.m p q = if has X.m (spotN X.m p) = true then q % (G.sizeOf X.m (spotN X.m p) + 1) else q) := hi_ rfl; have QS := hi_ (fun W (hM : ModelMem W X.M) => mSize X.M (spotN X.m p) W hM (by rw [← X.M.m_len, hm]; exact n1) (by rw [hm]; have := (hW (spotN X.m p)).1; omega) (by rw [hm]; exact (hW (spotN X.m p)).2)); have QH := hi_ (fun W (hM : ModelMem W X.M) => mHas X.M (spotN X.m p) W hM); rw [hm] at QS QH; have hsz : G.sizeOf X.m (spotN X.m p) ≤ 100000 := size_short h.tree.fits.wf hW (by omega) _; generalize spotI X.m p q = k at *; generalize spotN X.m p = a at *; generalize G.sizeOf X.m a = sz at *
 have hb1 := ((((Below.refl w.heap.size w).alloc (Nat.le_refl _) (.cells #[.int .u8 (p : Nat), .int .u8 (q : Nat)] 24))).alloc (by simp) (.cells #[.int .i64 0, .int .i64 0] 30)).alloc (by simp; omega) (.cells #[.int .i64 0, .int .i64 0] 31); have HX1 := hi_ (((Blk.new w #[.int .u8 (p : Nat), .int .u8 (q : Nat)] 24).alloc (.cells #[.int .i64 0, .int .i64 0] 30)).alloc (.cells #[.int .i64 0, .int .i64 0] 31)); have HX2 := hi_ ((Blk.new (w.alloc (.cells #[.int .u8 (p : Nat), .int .u8 (q : Nat)] 24)) #[.int .i64 0, .int .i64 0] 30).alloc (.cells #[.int .i64 0, .int .i64 0] 31))
 have HX3 := hi_ (Blk.new ((w.alloc (.cells #[.int .u8 (p : Nat), .int .u8 (q : Nat)] 24)).alloc (.cells #[.int .i64 0, .int .i64 0] 30)) #[.int .i64 0, .int .i64 0] 31); simp only [World.size_alloc] at HX2 HX3; have H1 := hi_ (h.below hb1); have HB1 := hi_ hb1; obtain ⟨g, cap, hv, _, hcap, _⟩ := h.toMid.cells hl; have HSx : Hid (∀ W, Below w.heap.size w W → W.cell? ⟨X.tb, 2, none⟩ = some (.slice (some ⟨g, 0, none⟩) X.m.length cap) ∧ W.cell? ⟨g, a, none⟩ = some (.int .i64 (hv1 X.T X.pos X.m a))) := hi_ (fun W hb => by
  have h2 := h.below hb; obtain ⟨_, _, c2, _⟩ := cells3 h2.blk; rw [hv] at c2; exact ⟨c2, (h2.toMid.get hv n1).1⟩)
 have hz1 := h.toMid.get hv n1; have hgl := hz1.2.2; have wp1 : IntKind.i64.wrap (p : Int) = (p : Int) := IntWalk.i64_in _ (by omega); have wq1 : IntKind.i64.wrap (q : Int) = (q : Int) := IntWalk.i64_in _ (by omega); have wq2 : IntKind.i64.wrap (a : Int) = (a : Int) := IntWalk.i64_in _ (by omega); have hn0 : ¬ (X.m.length : Int) = 0 := by omega
 have hn00 : ((X.m.length : Int) == 0) = false := beq_eq_false_iff_ne.2 hn0; have hai : (a : Int) < (X.m.length : Int) := by omega
 have ha0 : (0 : Int) ≤ (a : Int) := by omega
 have ws : IntKind.i64.wrap ((sz : Int) + 1) = (sz : Int) + 1 := IntWalk.i64_in _ (by omega); have es : Int.tmod (q : Int) ((sz : Int) + 1) = ((q % (sz + 1) : Nat) : Int) := (Int.ofNat_tmod q (sz + 1)).symm; have hs0 : ¬ ((sz : Int) + 1) = 0 := by omega
 have hs00 : (((sz : Int) + 1) == 0) = false := beq_eq_false_iff_ne.2 hs0; have hk2 : q % (sz + 1) ≤ q := Nat.mod_le _ _; have wk : IntKind.i64.wrap ((q % (sz + 1) : Nat) : Int) = ((q % (sz + 1) : Nat) : Int) := IntWalk.i64_in _ (by omega); generalize q % (sz + 1) = k2 at *; generalize has X.m a = ha at *; clear h hb1 hm hW hk2
 go_enter Tryz.func12, Tryz.ntmps12
 go_upto_region 1 with fail
 generalize ((w.alloc (.cells #[.int .u8 (p : Nat), .int .u8 (q : Nat)] 24)).alloc (.cells #[.int .i64 0, .int .i64 0] 30)).alloc (.cells #[.int .i64 0, .int .i64 0] 31) = w1 at *; obtain ⟨c0, c1, c2, hlt⟩ := cells3 H1.out.blk; rw [hv] at c2; obtain ⟨b0, b1⟩ := cells2 HX1.out; have hbl := HX1.out.lt; have D0 := fun d : Later w1.heap.size w1 => Later.cell c2 hlt d; have D1 := fun d : Later w1.heap.size w1 => Later.cell b0 hbl d; refine wp_region_later (by kernel_rfl) (by kernel_rfl) ?_; repeat (go_big_quiet_step (fail))
 refine wpQuiet_nil ?_; intro _ hw'; obtain ⟨dq, hw''⟩ := hw'; subst hw''; have HD2 := hi_ dq.h; clear D0 D1 c0 c1 c2 b0 b1 hlt hbl; generalize dq.w = w2 at *; have HB2 := hi_ (HB1.out.trans (HD2.out.mono HB1.out.size)); have H2 := hi_ (H1.out.below HD2.out); have HY1 := hi_ (HX1.out.below HD2.out); have HY2 := hi_ (HX2.out.below HD2.out); have HY3 := hi_ (HX3.out.below HD2.out); clear HX1 HX2 HX3 H1 HB1 HD2 dq; obtain ⟨c0, c1, c2, hlt⟩ := cells3 H2.out.blk; rw [hv] at c2; obtain ⟨b0, b1⟩ := cells2 HY1.out; have hbl := HY1.out.lt; have Q := hi_ (QH.out w2 H2.out.model); try rw [ek2]
 try rw [wq2]
 go_wp2_with fail
 refine Q.out.mono ?_; rintro e w2' ⟨rfl, rfl⟩
 cases ha with
 | false =>
  have HI2 : Hid (k = q) := hi_ (HI.out.trans (if_neg (by decide))); have HQ2 := HY2; have HQ3 := HY3; go_upto_region 5 with fail
  have HSW := hi_ (HSx.out w2 HB2.out); refine wp_region_flow (fun W' => W'.cell? ⟨X.tb, 2, none⟩ = some (.slice (some ⟨g, 0, none⟩) X.m.length cap) ∧ W'.cell? ⟨g, a, none⟩ = some (.int .i64 (hv1 X.T X.pos X.m a))) 13 [(0, false), (1, false), (2, false), (3, false), (4, false), (5, false), (6, false), (7, false), (8, false), (9, false), (10, false), (11, false), (12, true)] (by kernel_rfl) (by kernel_rfl) (HSx.out _ (HB2.out.drew)) ?_; iterate 12 (
   refine flow_get _ ?_ rfl (fun _ _ _ h => h) (by rfl) ?_ ?_
   rotate_left
   focus (
    intro W' hS'; obtain ⟨s0, s1⟩ := hS'; go_simp
    first | done | with_reducible rfl)
   simp only [Act.put, List.setIfInBounds_toArray, List.set_cons_zero, List.set_cons_succ])
  change wpFlow _ _ _ _ _ _ _ (World.drew w2); obtain ⟨wd, hwd⟩ : ∃ wd, wd = World.drew w2 := ⟨_, rfl⟩; have HBd : Hid (Below w.heap.size w wd) := hi_ (by rw [hwd]; exact HB2.out.drew); have HYd2 : Hid (Blk (w.heap.size + 1) #[.int .i64 0, .int .i64 0] 30 wd) := hi_ (by rw [hwd]; exact HQ2.out); have HYd3 : Hid (Blk (w.heap.size + 1 + 1) #[.int .i64 0, .int .i64 0] 31 wd) := hi_ (by rw [hwd]; exact HQ3.out); rw [← hwd]; clear hwd; obtain ⟨_, hfa⟩ := cells_of HYd2.out; obtain ⟨_, hfb⟩ := cells_of HYd3.out; have fa0 : wd.frozen? ⟨w.heap.size + 1, 0, none⟩ = false := hfa 0 (by show 0 < 2; omega); have fa1 : wd.frozen? ⟨w.heap.size + 1, 1, none⟩ = false := hfa 1 (by show 1 < 2; omega); have fb0 : wd.frozen? ⟨w.heap.size + 1 + 1, 0, none⟩ = false := hfb 0 (by show 0 < 2; omega)
  have fb1 : wd.frozen? ⟨w.heap.size + 1 + 1, 1, none⟩ = false := hfb 1 (by show 1 < 2; omega); have hla := HYd2.out.lt; have hlb := HYd3.out.lt; clear hfa hfb; have HW1 := hi_ (((HBd.out).setCell (p := ⟨w.heap.size + 1, 0, none⟩) (by show w.heap.size ≤ w.heap.size + 1; omega) (.int .i64 (a : Nat))).setCell (p := ⟨w.heap.size + 1, 1, none⟩) (by show w.heap.size ≤ w.heap.size + 1; omega) (.int .i64 (q : Nat))); have HW2 := hi_ (((HW1.out).setCell (p := ⟨w.heap.size + 1 + 1, 0, none⟩) (by show w.heap.size ≤ w.heap.size + 1 + 1; omega) (.int .i64 (hv1 X.T X.pos X.m a))).setCell (p := ⟨w.heap.size + 1 + 1, 1, none⟩) (by show w.heap.size ≤ w.heap.size + 1 + 1; omega) (.int .i64 (q : Nat)))
  have HV1 := hi_ ((blk_two HYd2.out (.int .i64 (a : Nat)) (.int .i64 (q : Nat))).far (k := w.heap.size + 1 + 1) (by omega) 0 (.int .i64 (hv1 X.T X.pos X.m a)) |>.far (k := w.heap.size + 1 + 1) (by omega) 1 (.int .i64 (q : Nat))); have HV2 := hi_ (blk_two (((HYd3.out).far (k := w.heap.size + 1) (by omega) 0 (.int .i64 (a : Nat))).far (k := w.heap.size + 1) (by omega) 1 (.int .i64 (q : Nat))) (.int .i64 (hv1 X.T X.pos X.m a)) (.int .i64 (q : Nat))); refine flow_do _ rfl (fun K hK => ?_); go_simp
  refine hK _ _ (HSx.out _ HW1.out) ?_; clear hK K; show wpList _ _ _ _ _ _; simp only [List.drop_succ_cons, List.drop_zero]; go_wp2_with fail
  generalize ((((wd.setCell ⟨w.heap.size + 1, 0, none⟩ (.int .i64 (a : Nat))).setCell ⟨w.heap.size + 1, 1, none⟩ (.int .i64 (q : Nat))).setCell ⟨w.heap.size + 1 + 1, 0, none⟩ (.int .i64 (hv1 X.T X.pos X.m a))).setCell ⟨w.heap.size + 1 + 1, 1, none⟩ (.int .i64 (q : Nat))) = WR at *; obtain ⟨r0, r1⟩ := cells2 HV1.out; obtain ⟨r2, r3⟩ := cells2 HV2.out
  (try simp only [Exit.inBlock, Exit.then])
  refine bodyPost_ret (v := .tuple #[.agg #[.int .i64 (a : Nat), .int .i64 (q : Nat)], .agg #[.int .i64 (hv1 X.T X.pos X.m a), .int .i64 (q : Nat)]]) (by simp [results, Tryz.results12, go_sem, r0, r1, r2, r3]) rfl ⟨by rw [HI2.out]; rfl, HW2.out⟩
 | true =>
  have HI2 : Hid (k = k2) := hi_ (HI.out.trans (if_pos rfl)); have QSz := hi_ (QS.out w2 H2.out.model); go_wp2_with fail
  refine QSz.out.mono ?_; rintro e w3 ⟨rfl, hb3⟩; have HB3 := hi_ (HB2.out.trans (hb3.mono HB2.out.size)); have HQ2 := hi_ (HY2.out.below hb3); have HQ3 := hi_ (HY3.out.below hb3); clear hb3 QSz; go_upto_region 5 with fail
  try rw [es]
  try rw [wk]
  have HSW := hi_ (HSx.out w3 HB3.out); refine wp_region_flow (fun W' => W'.cell? ⟨X.tb, 2, none⟩ = some (.slice (some ⟨g, 0, none⟩) X.m.length cap) ∧ W'.cell? ⟨g, a, none⟩ = some (.int .i64 (hv1 X.T X.pos X.m a))) 13 [(0, false), (1, false), (2, false), (3, false), (4, false), (5, false), (6, false), (7, false), (8, false), (9, false), (10, false), (11, false), (12, true)] (by kernel_rfl) (by kernel_rfl) (HSx.out _ (HB3.out.drew)) ?_; iterate 12 (
   refine flow_get _ ?_ rfl (fun _ _ _ h => h) (by rfl) ?_ ?_
   rotate_left
   focus (
    intro W' hS'; obtain ⟨s0, s1⟩ := hS'; go_simp
    first | done | with_reducible rfl)
   simp only [Act.put, List.setIfInBounds_toArray, List.set_cons_zero, List.set_cons_succ])
  change wpFlow _ _ _ _ _ _ _ (World.drew w3); obtain ⟨wd, hwd⟩ : ∃ wd, wd = World.drew w3 := ⟨_, rfl⟩; have HBd : Hid (Below w.heap.size w wd) := hi_ (by rw [hwd]; exact HB3.out.drew); have HYd2 : Hid (Blk (w.heap.size + 1) #[.int .i64 0, .int .i64 0] 30 wd) := hi_ (by rw [hwd]; exact HQ2.out); have HYd3 : Hid (Blk (w.heap.size + 1 + 1) #[.int .i64 0, .int .i64 0] 31 wd) := hi_ (by rw [hwd]; exact HQ3.out); rw [← hwd]; clear hwd; obtain ⟨_, hfa⟩ := cells_of HYd2.out; obtain ⟨_, hfb⟩ := cells_of HYd3.out; have fa0 : wd.frozen? ⟨w.heap.size + 1, 0, none⟩ = false := hfa 0 (by show 0 < 2; omega); have fa1 : wd.frozen? ⟨w.heap.size + 1, 1, none⟩ = false := hfa 1 (by show 1 < 2; omega); have fb0 : wd.frozen? ⟨w.heap.size + 1 + 1, 0, none⟩ = false := hfb 0 (by show 0 < 2; omega)
  have fb1 : wd.frozen? ⟨w.heap.size + 1 + 1, 1, none⟩ = false := hfb 1 (by show 1 < 2; omega); have hla := HYd2.out.lt; have hlb := HYd3.out.lt; clear hfa hfb; have HW1 := hi_ (((HBd.out).setCell (p := ⟨w.heap.size + 1, 0, none⟩) (by show w.heap.size ≤ w.heap.size + 1; omega) (.int .i64 (a : Nat))).setCell (p := ⟨w.heap.size + 1, 1, none⟩) (by show w.heap.size ≤ w.heap.size + 1; omega) (.int .i64 (k2 : Nat))); have HW2 := hi_ (((HW1.out).setCell (p := ⟨w.heap.size + 1 + 1, 0, none⟩) (by show w.heap.size ≤ w.heap.size + 1 + 1; omega) (.int .i64 (hv1 X.T X.pos X.m a))).setCell (p := ⟨w.heap.size + 1 + 1, 1, none⟩) (by show w.heap.size ≤ w.heap.size + 1 + 1; omega) (.int .i64 (k2 : Nat)))
  have HV1 := hi_ ((blk_two HYd2.out (.int .i64 (a : Nat)) (.int .i64 (k2 : Nat))).far (k := w.heap.size + 1 + 1) (by omega) 0 (.int .i64 (hv1 X.T X.pos X.m a)) |>.far (k := w.heap.size + 1 + 1) (by omega) 1 (.int .i64 (k2 : Nat))); have HV2 := hi_ (blk_two (((HYd3.out).far (k := w.heap.size + 1) (by omega) 0 (.int .i64 (a : Nat))).far (k := w.heap.size + 1) (by omega) 1 (.int .i64 (k2 : Nat))) (.int .i64 (hv1 X.T X.pos X.m a)) (.int .i64 (k2 : Nat))); refine flow_do _ rfl (fun K hK => ?_); go_simp
  refine hK _ _ (HSx.out _ HW1.out) ?_; clear hK K; show wpList _ _ _ _ _ _; simp only [List.drop_succ_cons, List.drop_zero]; go_wp2_with fail
  generalize ((((wd.setCell ⟨w.heap.size + 1, 0, none⟩ (.int .i64 (a : Nat))).setCell ⟨w.heap.size + 1, 1, none⟩ (.int .i64 (k2 : Nat))).setCell ⟨w.heap.size + 1 + 1, 0, none⟩ (.int .i64 (hv1 X.T X.pos X.m a))).setCell ⟨w.heap.size + 1 + 1, 1, none⟩ (.int .i64 (k2 : Nat))) = WR at *; obtain ⟨r0, r1⟩ := cells2 HV1.out; obtain ⟨r2, r3⟩ := cells2 HV2.out
  (try simp only [Exit.inBlock, Exit.then])
  refine bodyPost_ret (v := .tuple #[.agg #[.int .i64 (a : Nat), .int .i64 (k2 : Nat)], .agg #[.int .i64 (hv1 X.T X.pos X.m a), .int .i64 (k2 : Nat)]]) (by simp [results, Tryz.results12, go_sem, r0, r1, r2, r3]) rfl ⟨by rw [HI2.out]; rfl, HW2.out⟩
end A
end Go.Proofs.YtinphfpdfodkkaaGreatDoor
namespace Go.Proofs.YtinphfpdfodkkaaGreatDoor
open Go.RowKit Go.Sort
namespace A
open H G R
structure Good (X : Tw) : Prop where
 mm : X.M.m = X.m
 whole : Whole X.m
 attrs : ∀ i, (nd X.m i).attrs.length ≤ 62
 ok : AllN (OkBod 60) X.m
 len : X.m.length ≤ 300
theorem OkBod.up {k : Nat} {x : List (List UInt8 × List UInt8) × List UInt8} (h : OkBod k x) : ∀ d, OkBod (k + d) x
 | 0 => h
 | d + 1 => (OkBod.up h d).more
theorem start_ (os : List G.Op) (v : Value) (w : World) (h : OpsAt w v os) (hfew : few os = true) (hf : ∀ o, o ∈ os → o.fits) (ht : UTabs w) :
  Calls Tryz.prog 11 #[v] w fun e w' => ∃ X, e = .returned (.pointer (some ⟨X.tb, 0, none⟩)) ∧ TwIs w w' X ∧ Good X := by
 refine (start11 os v w h hfew hf ht).mono ?_; rintro e w' ⟨X, rfl, hX, hm, _, ⟨i, hi, ha⟩, hl, _, _⟩; have ha60 : AllN (OkBod 60) X.m := fun j => by
  have h1 := OkBod.up (ha j) (60 - i)
  rwa [show i + (60 - i) = 60 by omega] at h1
 refine ⟨X, rfl, hX, hm, fun j => ⟨?_, (ha60 j).2.1⟩, fun j => (ha60 j).1, ha60, hl⟩; have h1 : (nd X.m j).data.length ≤ 120 * (60 + 1) := (ha60 j).2.2; omega
theorem Good.small {X : Tw} (h : Good X) : Small X.m := small_of h.whole (fun i => by have := h.attrs i; omega)
def SMem.zero (sb : Nat) : SMem := ⟨sb, .slice none 0 0, [], .slice none 0 0, [], 0, sb⟩
theorem SetMem.new (w : World) : SetMem (w.alloc (.cells #[.slice none 0 0, .slice none 0 0, .int .i64 0] 50)) (SMem.zero w.heap.size) :=
 ⟨Blk.new w _ _, World.ownsRow_nil _ _ _ _, World.ownsRow_nil _ _ _ _, ⟨Nat.zero_le _, Nat.zero_le _⟩, ⟨Int.le_refl _, by show (0 : Int) ≤ 10000; omega⟩, Nat.le_refl _⟩
theorem SMem.zero_foot {sb k : Nat} (h : (SMem.zero sb).foot k) : sb ≤ k := by
 rcases h with e | e | e
 ·exact Nat.le_of_eq e.symm
 ·cases e
 ·cases e
theorem doc_whole : Whole [docNode] := fun i => by
 cases i with
 | zero => exact ⟨by show ([] : List UInt8).length ≤ _; simp, rfl⟩
 | succ i => exact ⟨by show ([] : List UInt8).length ≤ _; simp, rfl⟩
theorem doc_attrs : ∀ i, (nd [docNode] i).attrs.length ≤ 100000 := fun i => by
 cases i with
 | zero => exact Nat.zero_le _
 | succ i => exact Nat.zero_le _
set_option maxRecDepth 100000 in
theorem awake9 (w : World) : Calls Tryz.prog 9 #[] w fun e w' => e = .returned (.bool true) ∧ Below w.heap.size w w' := by
 have QN := hi_ (fun W => new2_ 0 0 W)
 go_enter Tryz.func9, Tryz.ntmps9
 go_wp2_with fail
 refine (QN.out _).mono ?_; rintro e w1 ⟨T, rfl, hb1, hT1, _⟩; have HB1 := hi_ hb1; have HT1 := hi_ hT1; have hda := (Below.refl w1.heap.size w1).alloc (Nat.le_refl _) (.cells #[.slice none 0 0, .slice none 0 0, .int .i64 0] 50); have HDa := hi_ hda; have HS0 := hi_ (SetMem.new w1); have HT2 := hi_ (hT1.below hda); have hblk := HT2.out.mem.blk; unfold tcells at hblk; obtain ⟨hc, hf⟩ := cells_of hblk; have c5 := hc 5; have htl := hblk.lt; have hroot : T.root = hd T (fun _ => 0) 0 := hT1.fits.root; have hz : PtIs T [docNode] (fun _ => 0) T.root 0 0 := Or.inl ⟨0, rfl, hroot, rfl⟩; have QCr := hi_ (create_ok T [docNode] (fun _ => 0) (SMem.zero w1.heap.size) T.root 0 _ HT2.out HS0.out (small_of doc_whole doc_attrs) hz (by show 0 < 10000; omega) (by show (0 : Int) < 10000; omega)); have HRt := hi_ hroot
 have c5' : (w1.alloc (.cells #[.slice none 0 0, .slice none 0 0, .int .i64 0] 50)).cell? ⟨T.tb, 5, none⟩ = some (.int .i64 T.root) := c5; unfold pointV at QCr; clear hda hblk hc hf c5 hb1 hT1 QN hroot hz; go_wp2_with fail
 refine QCr.out.mono ?_; rintro e w3 ⟨v, rfl, hf3, hs3, hv3⟩; have HD3 := hi_ (HDa.out.trans (hf3.below (B := w1.heap.size) (fun k hk => SMem.zero_foot hk) HDa.out.size)); have HT3 := hi_ (HT1.out.below HD3.out); have HOk : Hid (SetOk T [docNode] (fun _ => 0) { SMem.zero w1.heap.size with rv := v, rs := [] ++ [⟨0 + 1, T.root, 0, T.root, 0⟩], last := 0 + 1 }) := hi_
  ⟨(fun r hr => by
    obtain rfl : r = ⟨0 + 1, T.root, 0, T.root, 0⟩ := by simpa using hr
    exact ⟨(0, 0), (0, 0), ⟨HRt.out, rfl, HRt.out, rfl⟩, ⟨rfl, rfl⟩, ⟨Nat.zero_le _, Nat.zero_le _⟩, rfl, by decide⟩),
   (fun x hx => by cases hx), (fun i hi => by
    obtain rfl : i = 0 := by simpa using hi
    show (0 : Int) < 0 + 1
    omega), (fun i hi => by cases hi), (fun r hr => by
    obtain rfl : r = ⟨0 + 1, T.root, 0, T.root, 0⟩ := by simpa using hr
    exact Int.le_refl _), (fun x hx => by cases hx)⟩
 have QV := hi_ (valid_ T [docNode] (fun _ => 0) _ w3 HT3.out hs3 doc_whole doc_attrs (by show 1 ≤ 2000; omega) HOk.out); have e1 : (SMem.zero w1.heap.size).last + 1 = 1 := rfl; rw [e1]; clear hf3 hs3 hv3 QCr c5'; go_wp2_with fail
 refine QV.out.mono ?_; rintro e w4 ⟨rfl, hb4⟩; have HB4 := hi_ ((HB1.out.trans (HD3.out.mono HB1.out.size)).trans (hb4.mono (Nat.le_trans HB1.out.size HD3.out.size))); clear hb4 QV; go_wp2_with fail
 go_ret
 exact ⟨rfl, HB4.out⟩
theorem spotN_lt {m : Model} (W : WF m) (p : Nat) : spotN m p < m.length := Nat.mod_lt _ W.doc.1
theorem spot_ok {m : Model} {p q : Nat} (h : has m (spotN m p) = true) : spotI m p q ≤ G.sizeOf m (spotN m p) := by
 unfold spotI; rw [if_pos h]; have := Nat.mod_lt q (show 0 < G.sizeOf m (spotN m p) + 1 by omega); omega
theorem spot_pt {X : Tw} {w0 w : World} (h : TwIs w0 w X) (p q : Nat) : PtIs X.T X.m X.pos (hv1 X.T X.pos X.m (spotN X.m p)) (spotI X.m p q : Nat) (if has X.m (spotN X.m p) = true then 0 else 6) := by
 by_cases hh : has X.m (spotN X.m p) = true
 ·rw [if_pos hh, hv1_of hh]
  exact Or.inl ⟨_, hh, rfl, by rw [if_pos (okPt_of (spot_ok hh))]⟩
 ·have hh2 : has X.m (spotN X.m p) = false := by simpa using hh
  rw [if_neg hh, hv1_gone hh2]; exact Or.inr ⟨ptr_gone h.tree.fits 0, rfl, by omega, by omega⟩
def ordRes (m : Model) (a b : Nat × Nat) : Int × Int := if has m a.1 = true ∧ has m b.1 = true then cmpRes m a b else (0, 2)
theorem compare_spots {X : Tw} {w0 w : World} (h : TwIs w0 w X) (g : Good X) (p q p2 q2 : Nat) :
  Calls Tryz.prog 13 #[.pointer (some ⟨X.T.tb, 0, none⟩), pointV (hv1 X.T X.pos X.m (spotN X.m p)) (spotI X.m p q : Nat), pointV (hv1 X.T X.pos X.m (spotN X.m p2)) (spotI X.m p2 q2 : Nat)] w
   fun e w' => e = .returned (.tuple #[.int .i64 (ordRes X.m (spotN X.m p, spotI X.m p q) (spotN X.m p2, spotI X.m p2 q2)).1, .int .i64 (ordRes X.m (spotN X.m p, spotI X.m p q) (spotN X.m p2, spotI X.m p2 q2)).2]) ∧ Below w.heap.size w w' := by
 have h1 := spot_pt h p q; have h2 := spot_pt h p2 q2; have hsz := fun i => size_short h.tree.fits.wf g.whole (by have := g.len; omega) i; unfold ordRes
 by_cases ha : has X.m (spotN X.m p) = true
 ·by_cases hb : has X.m (spotN X.m p2) = true
  ·rw [if_pos ⟨ha, hb⟩]
   have k1 := spot_ok (q := q) ha; have k2 := spot_ok (q := q2) hb; rw [hv1_of ha, hv1_of hb]; exact lcompare X.T X.m X.pos (spotN X.m p, spotI X.m p q) (spotN X.m p2, spotI X.m p2 q2) w h.tree g.small ha hb (okPt_of k1) (okPt_of k2) (by have := hsz (spotN X.m p); show spotI X.m p q ≤ _; omega) (by have := hsz (spotN X.m p2); show spotI X.m p2 q2 ≤ _; omega)
  ·rw [if_neg (fun h => hb h.2)]
   rw [if_neg hb] at h2; exact lcompare_bad X.T X.m X.pos _ _ _ _ _ _ w h.tree g.small h1 h2 (Or.inr (by decide))
 ·rw [if_neg (fun h => ha h.1)]
  rw [if_neg ha] at h1; exact lcompare_bad X.T X.m X.pos _ _ _ _ _ _ w h.tree g.small h1 h2 (Or.inl (by decide))
theorem later2 {w : World} {g : Nat} {t : TypeId} {a b : Value} (h : Blk g #[a, b] t w) : w.cell? ⟨g, 0, none⟩ = some a ∧ w.cell? ⟨g, 1, none⟩ = some b ∧ (∀ d : Later w.heap.size w, d.w.cell? ⟨g, 0, none⟩ = some a) ∧ ∀ d : Later w.heap.size w, d.w.cell? ⟨g, 1, none⟩ = some b :=
 ⟨(cells_of h).1 0, (cells_of h).1 1, fun d => Later.cell ((cells_of h).1 0) h.lt d, fun d => Later.cell ((cells_of h).1 1) h.lt d⟩
theorem two_pts (w : World) (i k : Nat) (z : Int) : Below w.heap.size w ((w.alloc (.cells #[.int .i64 (i : Nat), .int .i64 (k : Nat)] 30)).alloc (.cells #[.int .i64 z, .int .i64 (k : Nat)] 31)) ∧
  Blk w.heap.size #[.int .i64 (i : Nat), .int .i64 (k : Nat)] 30 ((w.alloc (.cells #[.int .i64 (i : Nat), .int .i64 (k : Nat)] 30)).alloc (.cells #[.int .i64 z, .int .i64 (k : Nat)] 31)) ∧
  Blk (w.heap.size + 1) #[.int .i64 z, .int .i64 (k : Nat)] 31 ((w.alloc (.cells #[.int .i64 (i : Nat), .int .i64 (k : Nat)] 30)).alloc (.cells #[.int .i64 z, .int .i64 (k : Nat)] 31)) := by
 refine ⟨((Below.refl w.heap.size w).alloc (Nat.le_refl _) _).alloc (by simp) _, (Blk.new w _ _).alloc _, ?_⟩; have h := Blk.new (w.alloc (.cells #[.int .i64 (i : Nat), .int .i64 (k : Nat)] 30)) #[.int .i64 z, .int .i64 (k : Nat)] 31; simpa using h
set_option maxRecDepth 100000 in
theorem Orders (os : List G.Op) (v : Value) (p q p2 q2 : Nat) (w : World) (h : OpsAt w v os) (hl : os.length ≤ 9223372036854775807) (hf : ∀ o, o ∈ os → o.fits) (ht : UTabs w) (hp : p < 256) (hq : q < 256) (hp2 : p2 < 256) (hq2 : q2 < 256) :
  Calls Tryz.prog 3 #[v, .agg #[.int .u8 (p : Nat), .int .u8 (q : Nat)], .agg #[.int .u8 (p2 : Nat), .int .u8 (q2 : Nat)]] w fun e w' => e = .returned (.bool true) ∧ Below w.heap.size w w' := by
 have hb1 := ((Below.refl w.heap.size w).alloc (Nat.le_refl _) (.cells #[.int .u8 (p : Nat), .int .u8 (q : Nat)] 24)).alloc (by simp) (.cells #[.int .u8 (p2 : Nat), .int .u8 (q2 : Nat)] 24); have HX1 := hi_ ((Blk.new w #[.int .u8 (p : Nat), .int .u8 (q : Nat)] 24).alloc (.cells #[.int .u8 (p2 : Nat), .int .u8 (q2 : Nat)] 24)); have HX2 := hi_ (Blk.new (w.alloc (.cells #[.int .u8 (p : Nat), .int .u8 (q : Nat)] 24)) #[.int .u8 (p2 : Nat), .int .u8 (q2 : Nat)] 24); simp only [World.size_alloc] at HX2; have HB1 := hi_ hb1; have HO := hi_ h; have HF := hi_ hf; have HT := hi_ ht; have QA := hi_ (fun W => awake9 W); have QF := hi_ (fun W (hW : Below w.heap.size w W) => few_ os v W (h.below hW) hl)
 have QS := hi_ (fun W (hW : Below w.heap.size w W) (hfw : few os = true) => start_ os v W (h.below hW) hfw hf (Go.Proofs.YtinphfpdfodkkaaGreatDoor.T.Tabs.below ht hW)); have QP := hi_ (fun (a b : Nat) (ha : a < 256) (hb : b < 256) (X : Tw) (w0 W : World) (hX : TwIs w0 W X) (g : Good X) => point_ w0 W X a b hX g.mm g.whole (by have := g.len; omega) ha hb); clear h hf ht hb1
 go_enter Tryz.func3, Tryz.ntmps3
 go_upto_region 1 with fail
 generalize (w.alloc (.cells #[.int .u8 (p : Nat), .int .u8 (q : Nat)] 24)).alloc (.cells #[.int .u8 (p2 : Nat), .int .u8 (q2 : Nat)] 24) = w1 at *; go_wp2_with fail
 refine (QA.out _).mono ?_; rintro e w2 ⟨rfl, hb2⟩; have HB2 := hi_ (HB1.out.trans (hb2.mono HB1.out.size)); have HY1 := hi_ (HX1.out.below hb2); have HY2 := hi_ (HX2.out.below hb2); clear hb2 HX1 HX2; have QFw := hi_ (QF.out w2 HB2.out); have HFw : Hid (few os = few os) := hi_ rfl; generalize hfw : few os = fw at *; have HFw2 := hi_ hfw; clear hfw HFw; go_wp2_with fail
 refine QFw.out.mono ?_; rintro e w3 ⟨rfl, rfl⟩
 cases fw with
 | false =>
  go_wp2_with fail
  refine (QA.out _).mono ?_; rintro e w4 ⟨rfl, hb4⟩; have HB4 := hi_ (HB2.out.trans (hb4.mono HB2.out.size)); clear hb4; go_wp2_with fail
  go_ret
  exact ⟨rfl, HB4.out⟩
 | true =>
  have QSt := hi_ (QS.out w2 HB2.out rfl); go_wp2_with fail
  refine QSt.out.mono ?_; rintro e w4 ⟨X, rfl, hX, hG⟩; have HX := hi_ hX; have HG := hi_ hG; have HB4 := hi_ (HB2.out.trans (hX.bel.mono HB2.out.size)); have HX1 := hi_ (HY1.out.below hX.bel); have HX2 := hi_ (HY2.out.below hX.bel); obtain ⟨b0, b1⟩ := cells2 HX1.out; have QP1 := hi_ (QP.out p q hp hq X _ w4 hX hG); clear hX hG QSt QS QFw QF HY1 HY2 ; unfold pointR pointV at QP1; go_wp2_with fail
  refine QP1.out.mono ?_; rintro e w5 ⟨rfl, hb5⟩; have HB5 := hi_ (HB4.out.trans (hb5.mono HB4.out.size)); have HXa := hi_ (HX.out.below hb5); have HY1 := hi_ (HX1.out.below hb5); have HY2 := hi_ (HX2.out.below hb5); clear HX hb5 QP1 b0 b1 HX1 HX2; go_upto_region 5 with fail
  obtain ⟨hbp, hpA, hpB⟩ := two_pts w5 (spotN X.m p) (spotI X.m p q) (hv1 X.T X.pos X.m (spotN X.m p)); have HX6 := hi_ (HXa.out.below hbp); have HB6 := hi_ (HB5.out.trans (hbp.mono HB5.out.size)); have HY3 := hi_ (HY2.out.below hbp); have HA6 := hi_ hpA; have HP6 := hi_ hpB; clear hbp hpA hpB HXa HB5 HY1 HY2; generalize (w5.alloc (.cells #[.int .i64 (spotN X.m p : Nat), .int .i64 (spotI X.m p q : Nat)] 30)).alloc (.cells #[.int .i64 (hv1 X.T X.pos X.m (spotN X.m p)), .int .i64 (spotI X.m p q : Nat)] 31) = w6 at *; obtain ⟨b0, b1⟩ := cells2 HY3.out; have QP2 := hi_ (QP.out p2 q2 hp2 hq2 X _ w6 HX6.out HG.out); unfold pointR pointV at QP2; go_wp2_with fail
  refine QP2.out.mono ?_; rintro e w7 ⟨rfl, hb7⟩; have HX7 := hi_ (HX6.out.below hb7); have HB7 := hi_ (HB6.out.trans (hb7.mono HB6.out.size)); have HA7 := hi_ (HA6.out.below hb7); have HP7 := hi_ (HP6.out.below hb7); clear HX6 HB6 HA6 HP6 HY3 b0 b1 hb7 QP2 QP; go_upto_region 6 with fail
  obtain ⟨hbp, hpA, hpB⟩ := two_pts w7 (spotN X.m p2) (spotI X.m p2 q2) (hv1 X.T X.pos X.m (spotN X.m p2)); have HX8 := hi_ (HX7.out.below hbp); have HW8 := hi_ (HB7.out.trans (hbp.mono HB7.out.size)); have HA8 := hi_ (HA7.out.below hbp); have HP8 := hi_ (HP7.out.below hbp); have HB8 := hi_ hpA; have HQ8 := hi_ hpB; clear hbp hpA hpB HX7 HB7 HA7 HP7; generalize (w7.alloc (.cells #[.int .i64 (spotN X.m p2 : Nat), .int .i64 (spotI X.m p2 q2 : Nat)] 30)).alloc (.cells #[.int .i64 (hv1 X.T X.pos X.m (spotN X.m p2)), .int .i64 (spotI X.m p2 q2 : Nat)] 31) = w8 at *; have hW := HX8.out.tree.fits.wf; have hna := spotN_lt hW p; have hnb := spotN_lt hW p2; have hmm := HG.out.mm; have hml : X.M.nodes.length = X.m.length := by rw [← X.M.m_len, hmm]
  have Q6 := hi_ (fun W (hX : TwIs w2 W X) => compare_spots hX HG.out p q p2 q2); have QH1 := hi_ (fun W (hM : ModelMem W X.M) => mHas X.M (spotN X.m p) W hM); have QH2 := hi_ (fun W (hM : ModelMem W X.M) => mHas X.M (spotN X.m p2) W hM); have QT1 := hi_ (fun W (hM : ModelMem W X.M) => mTop X.M (spotN X.m p) W hM (by rw [hmm]; exact hW) (by rw [hml]; exact hna)); have QT2 := hi_ (fun W (hM : ModelMem W X.M) => mTop X.M (spotN X.m p2) W hM (by rw [hmm]; exact hW) (by rw [hml]; exact hnb))
  have QR0 := hi_ (fun W (hM : ModelMem W X.M) (ha : has X.m (spotN X.m p) = true) (hb : has X.m (spotN X.m p2) = true) (ht : top X.m (spotN X.m p) = top X.m (spotN X.m p2)) => mCompare X.M (spotN X.m p, spotI X.m p q) (spotN X.m p2, spotI X.m p2 q2) W hM (by rw [hmm]; exact hW) (by rw [hmm]; exact HG.out.whole) (by rw [hmm]; have := HG.out.len; omega) (by rw [hmm]; exact ⟨hna, spot_ok ha⟩) (by rw [hmm]; exact ⟨hnb, spot_ok hb⟩) (by rw [hmm]; exact ht)); have HRc := hi_ (fun (ha : has X.m (spotN X.m p) = true) (hb : has X.m (spotN X.m p2) = true) (ht : top X.m (spotN X.m p) = top X.m (spotN X.m p2)) => lcmp_ref hW (a := (spotN X.m p, spotI X.m p q)) (b := (spotN X.m p2, spotI X.m p2 q2)) ⟨hna, spot_ok ha⟩ ⟨hnb, spot_ok hb⟩ ht); rw [hmm] at QH1 QH2 QT1 QT2 QR0; clear hna hnb hmm hml hW; unfold ordRes cmpRes at Q6; unfold pointV at Q6; generalize spotI X.m p q = i at *
  generalize spotI X.m p2 q2 = j at *; generalize spotN X.m p = a at *; generalize spotN X.m p2 = b at *; generalize hv1 X.T X.pos X.m a = z at *; generalize hv1 X.T X.pos X.m b = z2 at *; dsimp only at Q6 QR0 HRc; obtain ⟨rc, re, HRe⟩ : ∃ rc re : Int, Hid ((if has X.m a = true ∧ has X.m b = true then (if top X.m a ≠ top X.m b then ((0 : Int), (6 : Int)) else (lcmp X.m (a, i) (b, j), 0)) else (0, 2)) = (rc, re)) := ⟨_, _, hi_ rfl⟩; rw [HRe.out] at Q6; dsimp only at Q6; obtain ⟨c0, c1, c2, hlt⟩ := cells3 HX8.out.blk; obtain ⟨a0, a1, DA0, DA1⟩ := later2 HA8.out; obtain ⟨b0, b1, DB0, DB1⟩ := later2 HB8.out; obtain ⟨p0, p1, DP0, DP1⟩ := later2 HP8.out; obtain ⟨q0, q1, DQ0, DQ1⟩ := later2 HQ8.out; have D0 := fun d : Later w8.heap.size w8 => Later.cell c0 hlt d; have D1 := fun d : Later w8.heap.size w8 => Later.cell c1 hlt d; go_wp2_with fail
  refine wp_region_later (by kernel_rfl) (by kernel_rfl) ?_; repeat (go_big_quiet_step ((go_at_call 13; exact Calls.later (Q6.out _ (HX8.out.below (Later.h _))))))
  refine wpQuiet_nil ?_; intro _ hw'; obtain ⟨dq, hw''⟩ := hw'; subst hw''; have HX9 := hi_ (HX8.out.below dq.h); have HA9 := hi_ (HA8.out.below dq.h); have HB9 := hi_ (HB8.out.below dq.h); have HP9 := hi_ (HP8.out.below dq.h); have HQ9 := hi_ (HQ8.out.below dq.h); have HW9 := hi_ (HW8.out.trans (dq.h.mono HW8.out.size)); clear D0 D1 DA0 DA1 DB0 DB1 DP0 DP1 DQ0 DQ1 a0 a1 b0 b1 p0 p1 q0 q1 c0 c1 c2 hlt HX8 HA8 HB8 HP8 HQ8 HW8; generalize dq.w = w9 at *; clear dq
  cases hha : has X.m a with
  | false =>
   have HE := hi_ (HRe.out); rw [hha, if_neg (fun h => Bool.false_ne_true h.1)] at HE; injection HE.out with e1 e2
   subst e1 e2; rw [hha] at QH1; clear QR0 HRc hha HE HRe; obtain ⟨c0, c1, c2, hlt⟩ := cells3 HX9.out.blk; obtain ⟨a0, a1, DA0, DA1⟩ := later2 HA9.out; obtain ⟨b0, b1, DB0, DB1⟩ := later2 HB9.out; obtain ⟨p0, p1, DP0, DP1⟩ := later2 HP9.out; obtain ⟨q0, q1, DQ0, DQ1⟩ := later2 HQ9.out; have D0 := fun d : Later w9.heap.size w9 => Later.cell c0 hlt d; have D1 := fun d : Later w9.heap.size w9 => Later.cell c1 hlt d; go_wp2_with fail
   refine wp_region_later (by kernel_rfl) (by kernel_rfl) ?_; repeat (go_big_quiet_step ((go_at_call 14; exact Calls.later_same (QH1.out _ ((HX9.out.below (Later.h _)).model)))))
   refine wpQuiet_nil ?_; intro _ hw'; obtain ⟨dq, hw''⟩ := hw'; subst hw''; have HX10 := hi_ (HX9.out.below dq.h); have HA10 := hi_ (HA9.out.below dq.h); have HB10 := hi_ (HB9.out.below dq.h); have HP10 := hi_ (HP9.out.below dq.h); have HQ10 := hi_ (HQ9.out.below dq.h); have HW10 := hi_ (HW9.out.trans (dq.h.mono HW9.out.size)); clear D0 D1 DA0 DA1 DB0 DB1 DP0 DP1 DQ0 DQ1 a0 a1 b0 b1 p0 p1 q0 q1 c0 c1 c2 hlt HX9 HA9 HB9 HP9 HQ9 HW9; generalize dq.w = w10 at *; clear dq; go_wp2_with fail
   go_ret
   exact ⟨rfl, HW10.out⟩
  | true =>
   rw [hha] at QH1 HRe
   cases hhb : has X.m b with
   | false =>
    have HE := hi_ (HRe.out); rw [hhb, if_neg (fun h => Bool.false_ne_true h.2)] at HE; injection HE.out with e1 e2
    subst e1 e2; rw [hhb] at QH2; clear QR0 HRc hha hhb HE HRe; obtain ⟨c0, c1, c2, hlt⟩ := cells3 HX9.out.blk; obtain ⟨a0, a1, DA0, DA1⟩ := later2 HA9.out; obtain ⟨b0, b1, DB0, DB1⟩ := later2 HB9.out; obtain ⟨p0, p1, DP0, DP1⟩ := later2 HP9.out; obtain ⟨q0, q1, DQ0, DQ1⟩ := later2 HQ9.out; have D0 := fun d : Later w9.heap.size w9 => Later.cell c0 hlt d; have D1 := fun d : Later w9.heap.size w9 => Later.cell c1 hlt d; go_wp2_with fail
    refine wp_region_later (by kernel_rfl) (by kernel_rfl) ?_; repeat (go_big_quiet_step ((first | (go_at_call_of 14 (Value.int .i64 ((a : Nat) : Int)); with_reducible exact Calls.later_same (QH1.out _ ((HX9.out.below (Later.h _)).model))) | (go_at_call 14; with_reducible exact Calls.later_same (QH2.out _ ((HX9.out.below (Later.h _)).model))))))
    refine wpQuiet_nil ?_; intro _ hw'; obtain ⟨dq, hw''⟩ := hw'; subst hw''; have HX10 := hi_ (HX9.out.below dq.h); have HA10 := hi_ (HA9.out.below dq.h); have HB10 := hi_ (HB9.out.below dq.h); have HP10 := hi_ (HP9.out.below dq.h); have HQ10 := hi_ (HQ9.out.below dq.h); have HW10 := hi_ (HW9.out.trans (dq.h.mono HW9.out.size)); clear D0 D1 DA0 DA1 DB0 DB1 DP0 DP1 DQ0 DQ1 a0 a1 b0 b1 p0 p1 q0 q1 c0 c1 c2 hlt HX9 HA9 HB9 HP9 HQ9 HW9; generalize dq.w = w10 at *; clear dq; go_wp2_with fail
    go_ret
    exact ⟨rfl, HW10.out⟩
   | true =>
    rw [hhb] at QH2 HRe; have HE := hi_ (HRe.out); rw [if_pos ⟨rfl, rfl⟩] at HE; have HRt := hi_ (fun ht => HRc.out hha hhb ht); have QR1 := hi_ (fun W hM ht => QR0.out W hM hha hhb ht); clear QR0 HRc hha hhb HRe; obtain ⟨c0, c1, c2, hlt⟩ := cells3 HX9.out.blk; obtain ⟨a0, a1, DA0, DA1⟩ := later2 HA9.out; obtain ⟨b0, b1, DB0, DB1⟩ := later2 HB9.out; obtain ⟨p0, p1, DP0, DP1⟩ := later2 HP9.out; obtain ⟨q0, q1, DQ0, DQ1⟩ := later2 HQ9.out; have D0 := fun d : Later w9.heap.size w9 => Later.cell c0 hlt d; have D1 := fun d : Later w9.heap.size w9 => Later.cell c1 hlt d; go_wp2_with fail
    refine wp_region_later (by kernel_rfl) (by kernel_rfl) ?_; repeat (go_big_quiet_step ((first | (go_at_call_of 14 (Value.int .i64 ((a : Nat) : Int)); with_reducible exact Calls.later_same (QH1.out _ ((HX9.out.below (Later.h _)).model))) | (go_at_call 14; with_reducible exact Calls.later_same (QH2.out _ ((HX9.out.below (Later.h _)).model))))))
    refine wpQuiet_nil ?_; intro _ hw'; obtain ⟨dq, hw''⟩ := hw'; subst hw''; have HX10 := hi_ (HX9.out.below dq.h); have HA10 := hi_ (HA9.out.below dq.h); have HB10 := hi_ (HB9.out.below dq.h); have HP10 := hi_ (HP9.out.below dq.h); have HQ10 := hi_ (HQ9.out.below dq.h); have HW10 := hi_ (HW9.out.trans (dq.h.mono HW9.out.size)); clear D0 D1 DA0 DA1 DB0 DB1 DP0 DP1 DQ0 DQ1 a0 a1 b0 b1 p0 p1 q0 q1 c0 c1 c2 hlt HX9 HA9 HB9 HP9 HQ9 HW9; generalize dq.w = w10 at *; clear dq; obtain ⟨c0, c1, c2, hlt⟩ := cells3 HX10.out.blk; obtain ⟨a0, a1, DA0, DA1⟩ := later2 HA10.out; obtain ⟨b0, b1, DB0, DB1⟩ := later2 HB10.out; obtain ⟨p0, p1, DP0, DP1⟩ := later2 HP10.out; obtain ⟨q0, q1, DQ0, DQ1⟩ := later2 HQ10.out; have D0 := fun d : Later w10.heap.size w10 => Later.cell c0 hlt d; have D1 := fun d : Later w10.heap.size w10 => Later.cell c1 hlt d; go_wp2_with fail
    refine wp_region_later (by kernel_rfl) (by kernel_rfl) ?_; repeat (go_big_quiet_step ((first | (go_at_call_of 15 (Value.int .i64 ((a : Nat) : Int)); with_reducible exact Calls.later_same (QT1.out _ ((HX10.out.below (Later.h _)).model))) | (go_at_call 15; with_reducible exact Calls.later_same (QT2.out _ ((HX10.out.below (Later.h _)).model))))))
    refine wpQuiet_nil ?_; intro _ hw'; obtain ⟨dq, hw''⟩ := hw'; subst hw''; have HX11 := hi_ (HX10.out.below dq.h); have HA11 := hi_ (HA10.out.below dq.h); have HB11 := hi_ (HB10.out.below dq.h); have HP11 := hi_ (HP10.out.below dq.h); have HQ11 := hi_ (HQ10.out.below dq.h); have HW11 := hi_ (HW10.out.trans (dq.h.mono HW10.out.size)); clear D0 D1 DA0 DA1 DB0 DB1 DP0 DP1 DQ0 DQ1 a0 a1 b0 b1 p0 p1 q0 q1 c0 c1 c2 hlt HX10 HA10 HB10 HP10 HQ10 HW10; generalize dq.w = w11 at *; clear dq
    by_cases ht : top X.m a = top X.m b
    ·have QR := hi_ (fun W (hM : ModelMem W X.M) => QR1.out W hM ht)
     rw [← HRt.out ht] at QR; have he := HE.out; rw [if_neg (fun h => h ht)] at he; injection he with e1 e2
     subst e1 e2; have te2 : (((top X.m a : Nat) : Int) == ((top X.m b : Nat) : Int)) = true := by rw [ht]; exact beq_self_eq_true _
     have te3 : (((top X.m a : Nat) : Int) != ((top X.m b : Nat) : Int)) = false := by rw [ht]; simp
     generalize top X.m a = t at *; generalize top X.m b = t2 at *; generalize lcmp X.m (a, i) (b, j) = lc at *; clear QR1 HRt HE ht; obtain ⟨c0, c1, c2, hlt⟩ := cells3 HX11.out.blk; obtain ⟨a0, a1, DA0, DA1⟩ := later2 HA11.out; obtain ⟨b0, b1, DB0, DB1⟩ := later2 HB11.out; obtain ⟨p0, p1, DP0, DP1⟩ := later2 HP11.out; obtain ⟨q0, q1, DQ0, DQ1⟩ := later2 HQ11.out; have D0 := fun d : Later w11.heap.size w11 => Later.cell c0 hlt d; have D1 := fun d : Later w11.heap.size w11 => Later.cell c1 hlt d; go_wp2_with fail
     refine wp_region_later (by kernel_rfl) (by kernel_rfl) ?_; repeat (go_big_quiet_step ((go_at_call 16; exact Calls.later (QR.out _ ((HX11.out.below (Later.h _)).model)))))
     refine wpQuiet_nil ?_; intro _ hw'; obtain ⟨dq, hw''⟩ := hw'; subst hw''; have HX12 := hi_ (HX11.out.below dq.h); have HA12 := hi_ (HA11.out.below dq.h); have HB12 := hi_ (HB11.out.below dq.h); have HP12 := hi_ (HP11.out.below dq.h); have HQ12 := hi_ (HQ11.out.below dq.h); have HW12 := hi_ (HW11.out.trans (dq.h.mono HW11.out.size)); clear D0 D1 DA0 DA1 DB0 DB1 DP0 DP1 DQ0 DQ1 a0 a1 b0 b1 p0 p1 q0 q1 c0 c1 c2 hlt HX11 HA11 HB11 HP11 HQ11 HW11; generalize dq.w = w12 at *; clear dq; go_wp2_with fail
     go_ret
     exact ⟨rfl, HW12.out⟩
    ·have he := HE.out
     rw [if_pos ht] at he; injection he with e1 e2
     subst e1 e2; have hne : ¬ ((top X.m a : Nat) : Int) = ((top X.m b : Nat) : Int) := by omega
     have hne2 : (((top X.m a : Nat) : Int) == ((top X.m b : Nat) : Int)) = false := beq_eq_false_iff_ne.2 hne; have hne3 : (((top X.m a : Nat) : Int) != ((top X.m b : Nat) : Int)) = true := bne_iff_ne.2 hne; generalize top X.m a = t at *; generalize top X.m b = t2 at *; clear QR1 HRt HE ht; go_wp2_with fail
     go_ret
     exact ⟨rfl, HW11.out⟩
end A
end Go.Proofs.YtinphfpdfodkkaaGreatDoor

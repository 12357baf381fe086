/- What the reference's Longhands comes to. -/
import Derived.Test.YtafkeolpadfjfaaGreatDoorSty32
import Derived.Test.YtafkeolpadfjfaaGreatDoorSh1
import Derived.StillTailTactics
set_option linter.unusedVariables false
set_option linter.unusedSimpArgs false
namespace Go.Proofs.YtafkeolpadfjfaaGreatDoor
open Go.RowKit
namespace V
open H Y
/-- A longhand's cells, as the reference has them. -/
def lcell (b : Bool) (p : S.Lh) : List Value := [.string ⟨p.1.toArray⟩, .int .i64 (p.2.1.kind : Nat), .int .i64 p.2.1.num, .string ⟨p.2.1.word.toArray⟩, .bool p.2.2, .bool b]
def lCells (b : Bool) (l : List S.Lh) : List Value := l.flatMap (lcell b)
def OwnL (b : Bool) (base : Nat) (w : World) (v : Value) (l : List S.Lh) : Prop := w.ownsRow base 69 6 v l.length (lCells b l) ∧ (l.length = 0 → v = .slice none 0 0)
theorem OwnL.form {b : Bool} {base : Nat} {w : World} {v : Value} {l : List S.Lh} (h : OwnL b base w v l) : ∃ ao cap, v = .slice ao l.length cap := by
 rcases h.1.2 with ⟨h1, h2⟩ | ⟨g, cap, cur, rfl, _⟩
 ·exact ⟨none, 0, by rw [h1, h2]⟩
 ·exact ⟨_, cap, rfl⟩
theorem OwnL.keep {b : Bool} {base : Nat} {w w' : World} {v : Value} {l : List S.Lh} (h : OwnL b base w v l) (k : Below w.heap.size w w') : OwnL b base w' v l := ⟨own_keepD h.1 k, h.2⟩
theorem own_base {B B' : Nat} {w : World} {e : TypeId} {size : Nat} {v : Value} {n : Nat} {xs : List Value} (h : w.ownsRow B e size v n xs) (hB : B' ≤ B) : w.ownsRow B' e size v n xs := by
 refine ⟨h.1, ?_⟩
 rcases h.2 with h2 | ⟨g, cap, cur, h1, h2, h3⟩
 ·exact Or.inl h2
 ·exact Or.inr ⟨g, cap, cur, h1, Nat.le_trans hB h2, h3⟩
theorem OwnL.base {B B' : Nat} {b : Bool} {w : World} {v : Value} {l : List S.Lh} (h : OwnL b B w v l) (hB : B' ≤ B) : OwnL b B' w v l := ⟨own_base h.1 hB, h.2⟩
theorem infoRDecl : (Tryz.prog.info? 69).map (fun i => (i.zero, i.size, i.bytes)) = some (some (.agg #[.string ByteArray.empty, .int .i64 0, .int .i64 0, .string ByteArray.empty, .bool false, .bool false]), 6, 64) := by kernel_rfl
/-- Longhands, with a mark each. -/
def LhPost (want : List (List UInt8 × Option S.Val)) (w : World) (e : Ending) (w' : World) : Prop :=
 ∃ (v : Value) (l : List S.Lh), e = .returned v ∧ Below w.heap.size w w' ∧ OwnL false w.heap.size w' v l ∧ Hid (S.lhOk l = want)
def HasVals (B : Nat) (w : World) (v : Value) (l : List (List UInt8)) : Prop := ∃ ao, v = .slice ao l.length l.length ∧ WordsAt w ao l ∧ (l = [] → v = .slice none 0 0)
theorem HasVals.below {B : Nat} {w w' : World} {v : Value} {l : List (List UInt8)} (h : HasVals B w v l) (b : Below w.heap.size w w') : HasVals B w' v l := by
 obtain ⟨ao, h1, h2, h3⟩ := h
 exact ⟨ao, h1, h2.below b, h3⟩
theorem words_of {S_ : Nat → Prop} {w : World} {ao : Option Addr} {n cap : Nat} {l : List (List UInt8)} (h : StrsAt S_ w (.slice ao n cap) l) : WordsAt w ao l := fun h0 => by
 obtain ⟨g, hg⟩ := lsl h h0
 subst hg
 refine ⟨g, rfl, ?_, fun k x hx => ?_⟩
 ·exact (ListAt.at_ cStr_len h h0).1
 ·obtain ⟨hk, rfl⟩ := List.getElem?_eq_some_iff.1 hx
  obtain ⟨_, _, _, vk, hc, _⟩ := ListAt.at_ cStr_len h hk
  have := hc 0 (by omega)
  simp only [Nat.mul_one, Nat.add_zero] at this
  exact this
theorem vals_of {l : List (List UInt8)} {w : World} {e : Ending} {w' : World} (h : ValsPost l w e w') : Below w.heap.size w w' ∧ ∃ v, e = .returned v ∧ HasVals w.heap.size w' v l := by
 refine ⟨h.1, ?_⟩
 rcases h.2 with ⟨rfl, rfl⟩ | ⟨g, h0, rfl, hs⟩
 ·exact ⟨_, rfl, none, rfl, (fun h => by cases h), fun _ => rfl⟩
 ·exact ⟨_, rfl, _, rfl, words_of hs, fun h => by rw [h] at h0; cases h0⟩
theorem HasVals.form {B : Nat} {w : World} {v : Value} {l : List (List UInt8)} (h : HasVals B w v l) : ∃ ao, v = .slice ao l.length l.length := ⟨h.choose, h.choose_spec.1⟩
theorem longs_step {v : List UInt8} {n : List UInt8} {ns : List (List UInt8)} {k : Nat} {vs : List (List UInt8)} (h : ns.drop k = n :: ns.drop (k + 1)) : S.longs v (ns.drop k) (vs.drop k) = (n, S.pick v n (vs[k]?)) :: S.longs v (ns.drop (k + 1)) (vs.drop (k + 1)) := by
 rw [h, S.longs, List.tail_drop]
 congr 3
 rw [List.head?_drop]
theorem longs_done {v : List UInt8} {ns vs : List (List UInt8)} {k : Nat} (h : ns.length ≤ k) : S.longs v (ns.drop k) (vs.drop k) = [] := by
 rw [List.drop_eq_nil_of_le h]; rfl
theorem words_row {w : World} {ao : Option Addr} {l : List (List UInt8)} (h : T.StrRow w ao l) : WordsAt w ao l := fun h0 => by
 obtain ⟨g, h1, h2, h3⟩ := h h0
 refine ⟨g, h1, h2, fun k x hx => ?_⟩
 obtain ⟨hk, rfl⟩ := List.getElem?_eq_some_iff.1 hx
 have := h3 k hk
 rw [List.getD_eq_getElem?_getD, List.getElem?_eq_getElem hk] at this
 exact this
theorem rsides_len (nm : List UInt8) : (S.rsides nm).length ≤ 4 := by
 unfold S.rsides
 cases h : S.sidesOf nm with
 | some ns => exact Nat.le_of_eq (S.sides_len h)
 | none =>
  show (if _ then _ else _ : List (List UInt8)).length ≤ 4
  split <;> simp [S.flexNames]
theorem rvalues_mem (nm : List UInt8) (ws : List (List UInt8)) (x : List UInt8) (h : x ∈ S.rvalues nm ws) : x ∈ ws ∨ x.length ≤ 4 := by
 unfold S.rvalues at h
 split at h
 ·unfold S.rflex at h
  split at h
  ·right; simp [S.wAuto] at h; rcases h with rfl | rfl <;> simp
  ·split at h
   ·right; simp [S.wAuto] at h; rcases h with rfl | rfl <;> simp
   ·match ws, h with
    | [], h => simp at h
    | [a], h =>
     simp [S.wPx] at h
     rcases h with rfl | rfl | rfl
     ·left; simp
     ·right; simp
     ·right; simp
    | [a, b], h =>
     simp only at h
     split at h
     ·simp [S.wPx] at h
      rcases h with rfl | rfl | rfl
      ·left; simp
      ·left; simp
      ·right; simp
     ·simp at h
      rcases h with rfl | rfl | rfl
      ·left; simp
      ·right; simp
      ·left; simp
    | [a, b, c], h => left; exact h
    | _ :: _ :: _ :: _ :: _, h => simp at h
 ·unfold S.rfour at h
  cases hf : S.fill ws with
  | none => rw [hf] at h; cases h
  | some vs => rw [hf] at h; exact Or.inl ((S.fill_ok hf).2.1 x h)
set_option maxHeartbeats 32000000 in
set_option maxRecDepth 100000 in
theorem longhands (nm s : List UInt8) (w : World) (hn : nm.length ≤ 1000000) (hs : s.length ≤ 90000) :
  Calls Tryz.prog 110 #[.string ⟨nm.toArray⟩, .string ⟨s.toArray⟩] w (LhPost (S.longhands nm s) w) := by
 have HQ : Hid (S.longhands nm s = if S.rsides nm = [] then [(nm, S.good nm s)] else S.longs s (S.rsides nm) (S.rvalues nm (S.words s))) := Lib.hid rfl
 generalize S.longhands nm s = q at *
 have QS := Lib.hid (fun W => sides nm W hn)
 have hns := rsides_len nm
 have QP := Lib.hid (fun (n x : List UInt8) W (h : x.length ≤ 90000) => show Calls Tryz.prog 21 #[.string ⟨n.toArray⟩, .string ⟨x.toArray⟩] W (RvPost (S.good n x) W) from S.rparse_law n x ▸ parse n x W h)
 have QF := Lib.hid (fun W => rfields s W (by omega))
 have hwn : (S.words s).length ≤ 100000 := by have := (flds_count s []).2 rfl; show (T.flds [] s).length ≤ _; omega
 have HWm := Lib.hid (fun x (h : x ∈ S.words s) => Nat.le_trans (words_mem h) hs)
 have HSm := Lib.hid (fun x (h : x ∈ S.rvalues nm (S.words s)) => show x.length ≤ 90000 from (rvalues_mem nm (S.words s) x h).elim (fun h => Nat.le_trans (words_mem h) hs) (fun h => by omega))
 have HRv : Hid (S.rvalues nm (S.words s) = if nm = [102, 108, 101, 120] then S.rflex (S.words s) else S.rfour (S.words s)) := Lib.hid rfl
 generalize S.rsides nm = ns at *
 generalize S.words s = ws at *
 generalize S.rvalues nm ws = vs at *
 obtain ⟨i0, hi0, hz0, hz1, hz2⟩ := info_parts infoRDecl
 go_enter Tryz.func110, Tryz.ntmps110
 go_wp2_with fail
 refine (QS.out _).mono ?_
 rintro e w1 hv
 obtain ⟨hb, v5, rfl, hvals⟩ := vals_of hv
 have HB1 := Lib.hid hb
 by_cases h0 : ns = []
 ·have HQ2 : Hid (q = [(nm, S.good nm s)]) := Lib.hid (by rw [HQ.out, if_pos h0])
  have Q2 := Lib.hid (QP.out nm s w1 hs)
  subst h0
  obtain rfl := hvals.choose_spec.2.2 rfl
  clear hv hb hvals HQ QS QP
  go_wp2_with fail
  refine Q2.out.mono ?_
  rintro e w2 ⟨⟨rk, rn, rw'⟩, ok, rfl, hb, hok, hno⟩
  have HB2 := Lib.hid (HB1.out.trans (hb.mono HB1.out.size))
  have hsz := HB2.out.size
  unfold rval rcells
  clear hb Q2
  go_wp2_with fail
  go_ret
  refine ⟨_, [(nm, ⟨rk, rn, rw'⟩, ok)], rfl, HB2.out.alloc hsz _, ⟨?_, fun h => by cases h⟩, Lib.hid ?_⟩
  ·exact World.ownsRow_lit (e := 69) (base := w.heap.size) (size := 6) w2 #[.string ⟨nm.toArray⟩, .int .i64 (rk : Nat), .int .i64 rn, .string ⟨rw'.toArray⟩, .bool ok, .bool false] 1 hsz (by unfold maxLen; omega) (by simp)
  ·rw [HQ2.out]
   cases ok with
   | true => rw [hok.out rfl]; rfl
   | false => rw [hno.out rfl]; rfl
 ·have HQ2 : Hid (q = S.longs s ns vs) := Lib.hid (by rw [HQ.out, if_neg h0])
  have hnp : 0 < ns.length := List.length_pos_iff.2 h0
  have HV := Lib.hid hvals
  obtain ⟨ao5, hao⟩ := hvals.form
  subst hao
  generalize hNN : ns.length = N at *
  have HN := Lib.hid hNN
  have e0 : ((N : Int) == 0) = false := by rw [beq_eq_false_iff_ne]; omega
  have n0 : ¬ (N : Int) = 0 := by omega
  clear hv hb hvals HQ QS h0 hNN
  go_wp2_with fail
  refine (QF.out _).mono ?_
  rintro e w2 ⟨ao, cap, rfl, hrow, hb⟩
  have HW2 := Lib.hid (words_row hrow)
  have HB2 := Lib.hid (HB1.out.trans (hb.mono HB1.out.size))
  have HV2 := Lib.hid (HV.out.below hb)
  clear hrow hb QF HV HB1
  go_upto_region 5 with fail
  go_cut [7] (fun v7 wx => v7 = .bool (S.globals.contains s) ∧ wx = w2)
  case first =>
   by_cases h1 : s = [105, 110, 104, 101, 114, 105, 116]
   ·have e1 : (s == [105, 110, 104, 101, 114, 105, 116]) = true := by simpa using h1
    have e2 : S.globals.contains s = true := by rw [h1]; rfl
    have HG := Lib.hid e2
    clear h1 e2
    go_wp2_with fail
    go_meet
    exact ⟨congrArg Value.bool HG.out.symm, rfl⟩
   ·have e1 : (s == [105, 110, 104, 101, 114, 105, 116]) = false := by simpa using h1
    by_cases h2 : s = [105, 110, 105, 116, 105, 97, 108]
    ·have e2 : (s == [105, 110, 105, 116, 105, 97, 108]) = true := by simpa using h2
     have e3 : S.globals.contains s = true := by rw [h2]; rfl
     have HG := Lib.hid e3
     clear h1 h2 e3
     go_wp2_with fail
     go_meet
     exact ⟨congrArg Value.bool HG.out.symm, rfl⟩
    ·have e2 : (s == [105, 110, 105, 116, 105, 97, 108]) = false := by simpa using h2
     have e3 : S.globals.contains s = false := by
      rw [Bool.eq_false_iff]
      intro h
      have := List.contains_iff_mem.1 h
      simp [S.globals] at this
      rcases this with h | h
      ·exact h1 h
      ·exact h2 h
     have HG := Lib.hid e3
     clear h1 h2 e3
     go_wp2_with fail
     go_meet
     exact ⟨congrArg Value.bool HG.out.symm, rfl⟩
  case rest =>
  obtain ⟨rfl, rfl⟩ := hcut
  generalize hG : S.globals.contains s = G at *
  have HG := Lib.hid hG
  clear hG
  rename_i KK1 hKK1
  refine hKK1 _ _ ?_
  go_step
  go_cut [8] (fun v8 wx => v8 = .slice none 0 0 ∧ wx = wc)
  case first =>
   go_wp2_with fail
   go_meet
   exact ⟨rfl, rfl⟩
  case rest =>
  obtain ⟨rfl, hw2⟩ := hcut
  subst hw2
  rename_i KK2 hKK2
  refine hKK2 _ _ ?_
  go_step
  go_cut [8] (fun v8 wx => Hid (HasVals w.heap.size wx v8 vs) ∧ Hid (Below wc.heap.size wc wx))
  case first =>
   by_cases hfx : nm = [102, 108, 101, 120]
   ·have e1 : (nm == [102, 108, 101, 120]) = true := by simpa using hfx
    have HR2 : Hid (vs = S.rflex ws) := Lib.hid (HRv.out.trans (if_pos hfx))
    have QX := Lib.hid (flex ao cap ws wc HW2.out HWm.out (by omega))
    generalize ws.length = M at *
    clear hfx HRv HW2 HWm hwn
    go_wp2_with fail
    refine QX.out.mono ?_
    rintro e w3 hv
    obtain ⟨hb, v8, rfl, hvals⟩ := vals_of hv
    rw [← HR2.out] at hvals
    have HV8 := Lib.hid hvals
    have HB8 := Lib.hid hb
    obtain ⟨ao8, hao⟩ := hvals.form
    subst hao
    clear hv hb hvals QX
    generalize vs.length = M8 at *
    go_wp2_with fail
    go_meet
    exact ⟨HV8, HB8⟩
   ·have e1 : (nm == [102, 108, 101, 120]) = false := by simpa using hfx
    have HR2 : Hid (vs = S.rfour ws) := Lib.hid (HRv.out.trans (if_neg hfx))
    clear hfx HRv HWm QP
    match ws, HW2, HR2, hwn with
    | [], HW2, HR2, hwn =>
     have hv0 : vs = [] := HR2.out
     subst hv0
     clear HW2 HR2
     go_wp2_with fail
     go_meet
     exact ⟨Lib.hid ⟨none, rfl, (fun h => by cases h), fun _ => rfl⟩, Lib.hid (Below.refl _ _)⟩
    | [a], HW2, HR2, hwn =>
     obtain ⟨g, rfl, hg, hc⟩ := HW2.out (by simp)
     have hv0 : vs = [a, a, a, a] := HR2.out
     subst hv0
     have c0 : wc.cell? ⟨g, 0, none⟩ = some (.string ⟨a.toArray⟩) := hc 0 a rfl
     have HS := Lib.hid (fun (U : World) => words_of (strs_lit U [a, a, a, a] 9 (by simp) (by simp)))
     have HB0 := Lib.hid (fun (U : World) (cs : Array Value) (T : TypeId) => (Below.refl U.heap.size U).alloc (Nat.le_refl _) (.cells cs T))
     clear hc HW2 HR2
     go_wp2_with fail
     go_region
     go_wp2_with fail
     go_meet
     exact ⟨Lib.hid ⟨_, rfl, (HS.out wc).below ((Below.refl _ _).drew), fun h => by cases h⟩, Lib.hid ((HB0.out wc _ _).drew)⟩
    | [a, b], HW2, HR2, hwn =>
     obtain ⟨g, rfl, hg, hc⟩ := HW2.out (by simp)
     have hv0 : vs = [a, b, a, b] := HR2.out
     subst hv0
     have c0 : wc.cell? ⟨g, 0, none⟩ = some (.string ⟨a.toArray⟩) := hc 0 a rfl
     have c1 : wc.cell? ⟨g, 1, none⟩ = some (.string ⟨b.toArray⟩) := hc 1 b rfl
     have HS := Lib.hid (fun (U : World) => words_of (strs_lit U [a, b, a, b] 9 (by simp) (by simp)))
     have HB0 := Lib.hid (fun (U : World) (cs : Array Value) (T : TypeId) => (Below.refl U.heap.size U).alloc (Nat.le_refl _) (.cells cs T))
     clear hc HW2 HR2
     go_wp2_with fail
     go_region
     go_wp2_with fail
     go_meet
     exact ⟨Lib.hid ⟨_, rfl, (HS.out wc).below ((Below.refl _ _).drew), fun h => by cases h⟩, Lib.hid ((HB0.out wc _ _).drew)⟩
    | [a, b, c], HW2, HR2, hwn =>
     obtain ⟨g, rfl, hg, hc⟩ := HW2.out (by simp)
     have hv0 : vs = [a, b, c, b] := HR2.out
     subst hv0
     have c0 : wc.cell? ⟨g, 0, none⟩ = some (.string ⟨a.toArray⟩) := hc 0 a rfl
     have c1 : wc.cell? ⟨g, 1, none⟩ = some (.string ⟨b.toArray⟩) := hc 1 b rfl
     have c2 : wc.cell? ⟨g, 2, none⟩ = some (.string ⟨c.toArray⟩) := hc 2 c rfl
     have HS := Lib.hid (fun (U : World) => words_of (strs_lit U [a, b, c, b] 9 (by simp) (by simp)))
     have HB0 := Lib.hid (fun (U : World) (cs : Array Value) (T : TypeId) => (Below.refl U.heap.size U).alloc (Nat.le_refl _) (.cells cs T))
     clear hc HW2 HR2
     go_wp2_with fail
     go_region
     go_wp2_with fail
     go_meet
     exact ⟨Lib.hid ⟨_, rfl, (HS.out wc).below ((Below.refl _ _).drew), fun h => by cases h⟩, Lib.hid ((HB0.out wc _ _).drew)⟩
    | [a, b, c, d], HW2, HR2, hwn =>
     obtain ⟨g, rfl, hg, hc⟩ := HW2.out (by simp)
     have hv0 : vs = [a, b, c, d] := HR2.out
     subst hv0
     have c0 : wc.cell? ⟨g, 0, none⟩ = some (.string ⟨a.toArray⟩) := hc 0 a rfl
     have c1 : wc.cell? ⟨g, 1, none⟩ = some (.string ⟨b.toArray⟩) := hc 1 b rfl
     have c2 : wc.cell? ⟨g, 2, none⟩ = some (.string ⟨c.toArray⟩) := hc 2 c rfl
     have c3 : wc.cell? ⟨g, 3, none⟩ = some (.string ⟨d.toArray⟩) := hc 3 d rfl
     have HS := Lib.hid (fun (U : World) => words_of (strs_lit U [a, b, c, d] 9 (by simp) (by simp)))
     have HB0 := Lib.hid (fun (U : World) (cs : Array Value) (T : TypeId) => (Below.refl U.heap.size U).alloc (Nat.le_refl _) (.cells cs T))
     clear hc HW2 HR2
     go_wp2_with fail
     go_region
     go_wp2_with fail
     go_meet
     exact ⟨Lib.hid ⟨_, rfl, (HS.out wc).below ((Below.refl _ _).drew), fun h => by cases h⟩, Lib.hid ((HB0.out wc _ _).drew)⟩
    | a :: b :: c :: d :: x :: r, HW2, HR2, hwn =>
     have hv0 : vs = [] := HR2.out
     subst hv0
     have hM : 4 < (a :: b :: c :: d :: x :: r).length := by simp
     generalize (a :: b :: c :: d :: x :: r).length = M at *
     have m1 : (1 : Int) ≤ (M : Int) := by omega
     have m2 : ¬ (M : Int) ≤ 4 := by omega
     have d1 : decide ((1 : Int) ≤ (M : Int)) = true := decide_eq_true m1
     have d2 : decide ((M : Int) ≤ 4) = false := decide_eq_false m2
     clear HW2 HR2
     go_wp2_with fail
     go_meet
     exact ⟨Lib.hid ⟨none, rfl, (fun h => by cases h), fun _ => rfl⟩, Lib.hid (Below.refl _ _)⟩
  case rest =>
  rename_i KK3 hKK3
  obtain ⟨HV8, HB8⟩ := hcut
  obtain ⟨ao8, hv8⟩ := HV8.out.form
  subst hv8
  obtain ⟨Wz, hWz⟩ : ∃ W, W = wc := ⟨_, rfl⟩
  subst hWz
  have HN5 := Lib.hid ((HV2.out.below HB8.out))
  have HBw := Lib.hid (HB2.out.trans (HB8.out.mono HB2.out.size))
  obtain ⟨_, h5, hw5, _⟩ := HN5.out
  injection h5 with h5 _ _
  subst h5
  obtain ⟨g5, hg5, hg5l, hc5⟩ := hw5 (by have := HN.out; omega)
  subst hg5
  have HC5 := Lib.hid hc5
  obtain ⟨_, h8, hw8, h8n⟩ := HV8.out
  injection h8 with h8 _ _
  subst h8
  have HW8 := Lib.hid hw8
  generalize hMM : vs.length = M at *
  have HM := Lib.hid hMM
  have HA0 : Hid (S.lhOk [] ++ S.longs s (ns.drop 0) (vs.drop 0) = q) := Lib.hid HQ2.out.symm
  have HO0 : Hid (OwnL false Wz.heap.size Wz (.slice none 0 0) []) := Lib.hid ⟨World.ownsRow_nil _ _ _ _, fun _ => rfl⟩
  have HU0 : Hid (Below Wz.heap.size Wz Wz) := Lib.hid (Below.refl _ _)
  clear HV8 HB8 HN5 HRv HWm HV2 HB2 HQ2 hw5 hc5 hw8 h8n hMM HW2 hwn
  refine hKK3 _ _ ?_
  go_wp2_with fail
  go_loopw [9, 10] (fun v9 v10 wr => ∃ (k : Nat) (acc : List S.Lh), v10 = .int .i64 k ∧ k ≤ N ∧ Hid (acc.length = k) ∧ Hid (S.lhOk acc ++ S.longs s (ns.drop k) (vs.drop k) = q) ∧ Hid (OwnL false Wz.heap.size wr v9 acc) ∧ Hid (Below Wz.heap.size Wz wr)) (fun _ v10 _ => N - (intOf v10).toNat)
  case atStart => exact ⟨0, [], rfl, by omega, Lib.hid rfl, HA0, HO0, HU0⟩
  case round =>
   obtain ⟨k, acc, rfl, hk, HAC, HA, HO, HU⟩ := hrel
   clear HA0 HO0 HU0
   obtain ⟨a9, c9, h9⟩ := HO.out.form
   rw [HAC.out] at h9
   subst h9
   by_cases hlt : k < N
   ·have hkI : (k : Int) < (N : Int) := by omega
    have hkl : k < ns.length := by rw [HN.out]; exact hlt
    have hdr : ns.drop k = ns[k] :: ns.drop (k + 1) := List.drop_eq_getElem_cons hkl
    have c5k : wr.cell? ⟨g5, k, none⟩ = some (.string ⟨(ns[k]).toArray⟩) := (HU.out.cell (p := ⟨g5, k, none⟩) hg5l).trans (HC5.out k _ (List.getElem?_eq_getElem hkl))
    have HA2 := Lib.hid ((congrArg (S.lhOk acc ++ ·) (longs_step (v := s) (vs := vs) hdr)).symm.trans HA.out)
    have hU := HU.out.size
    clear HA hdr
    generalize ns[k] = n1 at *
    clear hkl
    go_upto_region 22 with fail
    go_cut [11] (fun v11 wx => v11 = .pointer (some ⟨wr.heap.size, 0, none⟩) ∧ wx = wr.alloc (.cells #[.string ⟨n1.toArray⟩, .int .i64 0, .int .i64 0, .string ⟨#[]⟩, .bool false, .bool false] 69))
    case first =>
     go_wp2_with fail
     go_meet
     exact ⟨rfl, rfl⟩
    case rest =>
    rename_i KK5 hKK5
    obtain ⟨rfl, hwx⟩ := hcut
    have HD1 : Hid (Blk wr.heap.size #[.string ⟨n1.toArray⟩, .int .i64 0, .int .i64 0, .string ⟨#[]⟩, .bool false, .bool false] 69 (wr.alloc (.cells #[.string ⟨n1.toArray⟩, .int .i64 0, .int .i64 0, .string ⟨#[]⟩, .bool false, .bool false] 69))) := Lib.hid (Blk.new wr _ _)
    have HW1b : Hid (Below wr.heap.size wr (wr.alloc (.cells #[.string ⟨n1.toArray⟩, .int .i64 0, .int .i64 0, .string ⟨#[]⟩, .bool false, .bool false] 69))) := Lib.hid ((Below.refl _ wr).alloc (Nat.le_refl _) _)
    rw [← hwx] at HD1 HW1b
    obtain ⟨W1, hW1⟩ : ∃ W, W = wc := ⟨_, rfl⟩
    subst hW1
    clear hwx
    have hg5r : g5 < wr.heap.size := by omega
    have d5k : W1.cell? ⟨g5, k, none⟩ = some (.string ⟨n1.toArray⟩) := (HW1b.out.cell (p := ⟨g5, k, none⟩) hg5r).trans c5k
    have HC8 : Hid (k < M → ∃ g8, ao8 = some ⟨g8, 0, none⟩ ∧ ∃ y, vs[k]? = some y ∧ y.length ≤ 90000 ∧ W1.cell? ⟨g8, k, none⟩ = some (.string ⟨y.toArray⟩)) := Lib.hid (fun hkM => by
     obtain ⟨g8, h1, h2, h3⟩ := HW8.out (by have := HM.out; omega)
     have hkv : k < vs.length := by rw [HM.out]; exact hkM
     have e := List.getElem?_eq_getElem hkv
     refine ⟨g8, h1, vs[k], e, HSm.out _ (List.getElem_mem hkv), ?_⟩
     exact (HW1b.out.cell (p := ⟨g8, k, none⟩) (Nat.lt_of_lt_of_le h2 hU)).trans ((HU.out.cell (p := ⟨g8, k, none⟩) h2).trans (h3 k _ e)))
    generalize hDD : wr.heap.size = D at *
    have HDD := Lib.hid hDD
    clear c5k hDD
    refine hKK5 _ _ ?_
    go_step
    go_cut [] (fun wx => ∃ (x : S.Val) (ok : Bool), Hid ((if ok then some x else none) = S.pick s n1 (vs[k]?)) ∧ Hid (Blk D #[.string ⟨n1.toArray⟩, .int .i64 (x.kind : Nat), .int .i64 x.num, .string ⟨x.word.toArray⟩, .bool ok, .bool false] 69 wx) ∧ Hid (Below D wr wx))
    case first =>
     cases G with
     | true =>
      have HPk : Hid (S.pick s n1 (vs[k]?) = S.good n1 s) := Lib.hid (S.pick_glob HG.out n1 _)
      have QPx := Lib.hid (QP.out n1 s W1 hs)
      clear HC8 QP
      go_wp2_with fail
      refine QPx.out.mono ?_
      rintro e W2 ⟨⟨rk, rn, rw'⟩, ok, rfl, hb, hok, hno⟩
      have HD2 := Lib.hid (HD1.out.below hb)
      have HW2b := Lib.hid (HW1b.out.trans (hb.mono (by have := HW1b.out.size; have := HDD.out; omega)))
      obtain ⟨hcd, hfd⟩ := cells_of HD2.out
      have y1 : W2.cell? ⟨D, 1, none⟩ = some (.int .i64 0) := hcd 1
      have y2 : W2.cell? ⟨D, 2, none⟩ = some (.int .i64 0) := hcd 2
      have y3 : W2.cell? ⟨D, 3, none⟩ = some (.string ⟨#[]⟩) := hcd 3
      have y4 : W2.cell? ⟨D, 4, none⟩ = some (.bool false) := hcd 4
      have z1 : W2.frozen? ⟨D, 1, none⟩ = false := hfd 1 (by show 1 < 6; omega)
      have z2 : W2.frozen? ⟨D, 2, none⟩ = false := hfd 2 (by show 2 < 6; omega)
      have z3 : W2.frozen? ⟨D, 3, none⟩ = false := hfd 3 (by show 3 < 6; omega)
      have z4 : W2.frozen? ⟨D, 4, none⟩ = false := hfd 4 (by show 4 < 6; omega)
      have HDf := Lib.hid ((((HD2.out.set 1 (.int .i64 (rk : Nat))).set 2 (.int .i64 rn)).set 3 (.string ⟨rw'.toArray⟩)).set 4 (.bool ok))
      have hD : D ≤ D := Nat.le_refl _
      have HWf := Lib.hid ((((HW2b.out.setCell (p := ⟨D, 1, none⟩) hD (.int .i64 (rk : Nat))).setCell (p := ⟨D, 2, none⟩) hD (.int .i64 rn)).setCell (p := ⟨D, 3, none⟩) hD (.string ⟨rw'.toArray⟩)).setCell (p := ⟨D, 4, none⟩) hD (.bool ok))
      have HPf : Hid ((if ok then some (⟨rk, rn, rw'⟩ : S.Val) else none) = S.pick s n1 (vs[k]?)) := Lib.hid (by
       rw [HPk.out]
       cases ok with
       | true => exact (hok.out rfl).symm
       | false => exact (hno.out rfl).symm)
      unfold rval rcells
      clear hb hcd hfd QPx HD1 HW1b hok hno HPk hD HD2 HW2b
      go_wp2_with fail
      go_meet
      exact ⟨⟨rk, rn, rw'⟩, ok, HPf, HDf, HWf⟩
     | false =>
      by_cases hkM : k < M
      ·have hkMI : (k : Int) < (M : Int) := by omega
       obtain ⟨g8, hao, y, hy, hyl, d8⟩ := HC8.out hkM
       subst hao
       have HPy : Hid (S.pick s n1 (vs[k]?) = S.goodP n1 y) := Lib.hid (by rw [S.pick_not HG.out, hy]; rfl)
       clear HC8 hy
       by_cases h1 : y = [105, 110, 104, 101, 114, 105, 116]
       ·have HPk : Hid (S.pick s n1 (vs[k]?) = none) := Lib.hid (by rw [HPy.out, h1]; rfl)
        have e1 : (y == [105, 110, 104, 101, 114, 105, 116]) = true := by simpa using h1
        have e2 : (y != [105, 110, 104, 101, 114, 105, 116]) = false := by rw [bne, e1]; rfl
        clear h1 HPy QP
        have HDf := Lib.hid HD1.out
        have HWf := Lib.hid HW1b.out
        have HPf : Hid ((if false then some (⟨0, 0, []⟩ : S.Val) else none) = S.pick s n1 (vs[k]?)) := Lib.hid (by rw [HPk.out]; rfl)
        clear HPk HD1 HW1b
        go_wp2_with fail
        go_meet
        exact ⟨⟨0, 0, []⟩, false, HPf, HDf, HWf⟩
       ·have e1 : (y == [105, 110, 104, 101, 114, 105, 116]) = false := by simpa using h1
        have e2 : (y != [105, 110, 104, 101, 114, 105, 116]) = true := by rw [bne, e1]; rfl
        by_cases h2 : y = [105, 110, 105, 116, 105, 97, 108]
        ·have HPk : Hid (S.pick s n1 (vs[k]?) = none) := Lib.hid (by rw [HPy.out, h2]; rfl)
         have e3 : (y == [105, 110, 105, 116, 105, 97, 108]) = true := by simpa using h2
         have e4 : (y != [105, 110, 105, 116, 105, 97, 108]) = false := by rw [bne, e3]; rfl
         clear h1 h2 HPy QP
         have HDf := Lib.hid HD1.out
         have HWf := Lib.hid HW1b.out
         have HPf : Hid ((if false then some (⟨0, 0, []⟩ : S.Val) else none) = S.pick s n1 (vs[k]?)) := Lib.hid (by rw [HPk.out]; rfl)
         clear HPk HD1 HW1b
         go_wp2_with fail
         go_meet
         exact ⟨⟨0, 0, []⟩, false, HPf, HDf, HWf⟩
        ·have e3 : (y == [105, 110, 105, 116, 105, 97, 108]) = false := by simpa using h2
         have e4 : (y != [105, 110, 105, 116, 105, 97, 108]) = true := by rw [bne, e3]; rfl
         have HPk : Hid (S.pick s n1 (vs[k]?) = S.good n1 y) := Lib.hid (by
          rw [HPy.out]
          exact if_neg (by
           intro h
           have := List.contains_iff_mem.1 h
           simp [S.globals] at this
           rcases this with h | h
           ·exact h1 h
           ·exact h2 h))
         have QPx := Lib.hid (QP.out n1 y W1.drew hyl)
         have HD1' := Lib.hid (HD1.out.drewN 1)
         have HW1' := Lib.hid (belowN HW1b.out 1)
         clear h1 h2 HPy QP HD1 HW1b
         go_upto_region 26 with fail
         go_still_tail 8, (by kernel_rfl)
         change wpList _ _ _ _ _ W1.drew
         have HD1 : Hid (Blk D #[.string ⟨n1.toArray⟩, .int .i64 0, .int .i64 0, .string ⟨#[]⟩, .bool false, .bool false] 69 W1.drew) := Lib.hid HD1'.out
         have HW1b : Hid (Below D wr W1.drew) := Lib.hid HW1'.out
         clear HD1' HW1' d8 d5k
         generalize W1.drew = W1d at *
         go_wp2_with fail
         refine QPx.out.mono ?_
         rintro e W2 ⟨⟨rk, rn, rw'⟩, ok, rfl, hb, hok, hno⟩
         have HD2 := Lib.hid (HD1.out.below hb)
         have HW2b := Lib.hid (HW1b.out.trans (hb.mono (by have := HW1b.out.size; have := HDD.out; omega)))
         obtain ⟨hcd, hfd⟩ := cells_of HD2.out
         have y1 : W2.cell? ⟨D, 1, none⟩ = some (.int .i64 0) := hcd 1
         have y2 : W2.cell? ⟨D, 2, none⟩ = some (.int .i64 0) := hcd 2
         have y3 : W2.cell? ⟨D, 3, none⟩ = some (.string ⟨#[]⟩) := hcd 3
         have y4 : W2.cell? ⟨D, 4, none⟩ = some (.bool false) := hcd 4
         have z1 : W2.frozen? ⟨D, 1, none⟩ = false := hfd 1 (by show 1 < 6; omega)
         have z2 : W2.frozen? ⟨D, 2, none⟩ = false := hfd 2 (by show 2 < 6; omega)
         have z3 : W2.frozen? ⟨D, 3, none⟩ = false := hfd 3 (by show 3 < 6; omega)
         have z4 : W2.frozen? ⟨D, 4, none⟩ = false := hfd 4 (by show 4 < 6; omega)
         have HDf := Lib.hid ((((HD2.out.set 1 (.int .i64 (rk : Nat))).set 2 (.int .i64 rn)).set 3 (.string ⟨rw'.toArray⟩)).set 4 (.bool ok))
         have hD : D ≤ D := Nat.le_refl _
         have HWf := Lib.hid ((((HW2b.out.setCell (p := ⟨D, 1, none⟩) hD (.int .i64 (rk : Nat))).setCell (p := ⟨D, 2, none⟩) hD (.int .i64 rn)).setCell (p := ⟨D, 3, none⟩) hD (.string ⟨rw'.toArray⟩)).setCell (p := ⟨D, 4, none⟩) hD (.bool ok))
         have HPf : Hid ((if ok then some (⟨rk, rn, rw'⟩ : S.Val) else none) = S.pick s n1 (vs[k]?)) := Lib.hid (by
          rw [HPk.out]
          cases ok with
          | true => exact (hok.out rfl).symm
          | false => exact (hno.out rfl).symm)
         unfold rval rcells
         clear hb hcd hfd QPx HD1 HW1b hok hno HPk hD HD2 HW2b
         go_wp2_with fail
         go_meet
         exact ⟨⟨rk, rn, rw'⟩, ok, HPf, HDf, HWf⟩
      ·have hkMI : ¬ (k : Int) < (M : Int) := by omega
       have HPk : Hid (S.pick s n1 (vs[k]?) = none) := Lib.hid (by
        rw [S.pick_not HG.out, List.getElem?_eq_none (by rw [HM.out]; omega)]; rfl)
       clear HC8 QP
       have HDf := Lib.hid HD1.out
       have HWf := Lib.hid HW1b.out
       have HPf : Hid ((if false then some (⟨0, 0, []⟩ : S.Val) else none) = S.pick s n1 (vs[k]?)) := Lib.hid (by rw [HPk.out]; rfl)
       clear HPk HD1 HW1b
       go_wp2_with fail
       go_meet
       exact ⟨⟨0, 0, []⟩, false, HPf, HDf, HWf⟩
    case rest =>
    rename_i KK6 hKK6
    obtain ⟨x, ok, HPk, HDf, HWf⟩ := hcut
    obtain ⟨W3, hW3⟩ : ∃ W, W = wc := ⟨_, rfl⟩
    subst hW3
    have HA3 : Hid (S.lhOk (acc ++ [(n1, x, ok)]) ++ S.longs s (ns.drop (k + 1)) (vs.drop (k + 1)) = q) := Lib.hid (by
     rw [← HA2.out, ← HPk.out]
     unfold S.lhOk
     rw [List.map_append, List.append_assoc]
     rfl)
    have HAC3 : Hid ((acc ++ [(n1, x, ok)]).length = k + 1) := Lib.hid (by rw [List.length_append, HAC.out]; rfl)
    have HWr : Hid (Below wr.heap.size wr W3) := Lib.hid (by rw [HDD.out]; exact HWf.out)
    have HO3 := Lib.hid (HO.out.keep HWr.out)
    have HU3 := Lib.hid (HU.out.trans (HWr.out.mono HU.out.size))
    obtain ⟨hcd, hfd⟩ := cells_of HDf.out
    have y0 : W3.cell? ⟨D, 0, none⟩ = some (.string ⟨n1.toArray⟩) := hcd 0
    have y1 : W3.cell? ⟨D, 1, none⟩ = some (.int .i64 (x.kind : Nat)) := hcd 1
    have y2 : W3.cell? ⟨D, 2, none⟩ = some (.int .i64 x.num) := hcd 2
    have y3 : W3.cell? ⟨D, 3, none⟩ = some (.string ⟨x.word.toArray⟩) := hcd 3
    have y4 : W3.cell? ⟨D, 4, none⟩ = some (.bool ok) := hcd 4
    have y5 : W3.cell? ⟨D, 5, none⟩ = some (.bool false) := hcd 5
    have HOr := Lib.hid HO3.out.1
    rw [HAC.out] at HOr
    have hU3 := HU3.out.size
    clear hcd hfd HA2 HPk HDf HWf HWr HO HU HO3 HDD hU QP HC8
    refine hKK6 _ _ ?_
    go_wp2_with (at_builtin; refine wpList_append_lies _ rfl _ _ 26 rfl Wz.heap.size 69 i0 _ 6 64 Tryz.underlying26 hi0 hz0 hz1 hz2 rfl (by decide) (.slice a9 k c9) k (lCells false acc) rfl (HOr.out.alloc _) ⟨W3.heap.size, 0, none⟩ 1 1 [.string ⟨n1.toArray⟩, .int .i64 (x.kind : Nat), .int .i64 x.num, .string ⟨x.word.toArray⟩, .bool ok, .bool false] rfl rfl ?c1 ?c2 ?c3 ?c4 ?c5 ?c6 (W3.heap.size + 1) ?c7 ?_)
    case c1 => exact World.news_of_block (heap_alloc_new W3 (.cells #[.string ⟨n1.toArray⟩, .int .i64 (x.kind : Nat), .int .i64 x.num, .string ⟨x.word.toArray⟩, .bool ok, .bool false] 69))
    case c2 => simp [Value.oneCell']
    case c3 => omega
    case c4 => unfold maxLen; omega
    case c5 => omega
    case c6 => simp; omega
    case c7 => simp
    intro gg cap2 w5 hown5 hgrow hat hlt5
    have HO5 : Hid (OwnL false Wz.heap.size w5 (.slice (some ⟨gg, 0, none⟩) (k + 1) cap2) (acc ++ [(n1, x, ok)])) := Lib.hid (by
     refine ⟨?_, fun h => by simp at h⟩
     rw [HAC3.out]
     unfold lCells at *
     rw [List.flatMap_append]
     exact hown5)
    have HB5 : Hid (Below Wz.heap.size Wz w5) := Lib.hid (by
     have h1 := HU3.out.alloc (o := .cells #[.string ⟨n1.toArray⟩, .int .i64 (x.kind : Nat), .int .i64 x.num, .string ⟨x.word.toArray⟩, .bool ok, .bool false] 69) (by omega)
     exact h1.grown hgrow (by simp; omega) (fun q hq => (HOr.out.lt q hq).1))
    clear hown5 hgrow hat
    go_wp2_with fail
    go_roundw
    case rel => exact ⟨k + 1, acc ++ [(n1, x, ok)], by go_num, by omega, HAC3, HA3, HO5, HB5⟩
    case measure => simp [intOf]; omega
   ·obtain rfl : N = k := by omega
    have e1 : ¬ (N : Int) < (N : Int) := by omega
    have HQe : Hid (S.lhOk acc = q) := Lib.hid (by
     rw [← HA.out, longs_done (by rw [HN.out]; exact Nat.le_refl _), List.append_nil])
    have HBe := Lib.hid (HBw.out.trans (HU.out.mono HBw.out.size))
    have HOe := Lib.hid (HO.out.base HBw.out.size)
    clear HA HO HU
    go_wp2_with fail
    go_ret
    exact ⟨_, acc, rfl, HBe.out, (by show OwnL false w.heap.size wr (.slice a9 ns.length c9) acc; rw [HN.out]; exact HOe.out), HQe⟩
end V
end Go.Proofs.YtafkeolpadfjfaaGreatDoor

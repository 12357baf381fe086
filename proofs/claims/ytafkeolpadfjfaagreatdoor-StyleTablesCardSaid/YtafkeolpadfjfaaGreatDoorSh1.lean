/- What expand comes to, at a shorthand with four sides. What expand comes to, at any property. The rules of a sheet: what stands ahead of each opening brace and within; over lists of bytes. No program in sight. What block comes to. -/
import Derived.Test.YtafkeolpadfjfaaGreatDoorSty34
import Derived.Lib.SliceRun
import Derived.Test.YtafkeolpadfjfaaGreatDoorCut1
import Derived.Test.YtafkeolpadfjfaaGreatDoorSty14
set_option linter.unusedVariables false
set_option linter.unusedSimpArgs false
namespace Go.Proofs.YtafkeolpadfjfaaGreatDoor
open Go.RowKit Go.Sort
namespace Y
open H
def globV : Value := .func (.func 106) #[] #[]
set_option maxHeartbeats 1000000 in
theorem globF (t : List UInt8) (W : World) (h : Asc W) : Calls Tryz.prog 106 #[.string ⟨t.toArray⟩] W fun e w' => e = .returned (.bool (S.globals.contains t)) ∧ Below W.heap.size W w' := by
 have Q := Lib.hid (globalsY t W h)
 generalize S.globals.contains t = G at *
 clear h
 go_enter Tryz.func106, Tryz.ntmps106
 go_wp2_with (go_at_call 39; refine Q.out.mono ?_)
 rintro e w' ⟨rfl, hb⟩
 go_wp2_with fail
 go_ret
 exact ⟨rfl, hb⟩
set_option maxHeartbeats 2000000 in
set_option maxRecDepth 100000 in
theorem indexGlob (v : Value) (l : List (List UInt8)) (w : World) (B : Nat → Prop) (hv : StrsAt B w v l) (hl : l.length ≤ 1000000) (hE : YEnv w) :
  Calls Tryz.prog 143 #[v, globV] w fun e w' => ∃ z : Int, e = .returned (.int .i64 z) ∧ (0 ≤ z ↔ l.any S.globals.contains = true) ∧ Below w.heap.size w w' := by
 have HV := Lib.hid hv
 have HE := Lib.hid hE
 have hg1 := hE.big
 have hg2 := hE.big2
 obtain ⟨ao, cap, rfl⟩ := hv.form
 clear hv hE
 unfold globV
 generalize hN : l.length = N at hl ⊢
 have HN := Lib.hid hN
 clear hN
 go_enter Tryz.func143, Tryz.ntmps143
 go_wp2_with fail
 have H0 : Hid ((l.take 0).any S.globals.contains = false) := Lib.hid rfl
 go_loopw [8] (fun ix wr => ∃ k : Nat, ix = .int .i64 k ∧ k ≤ N ∧ Hid (Below w.heap.size w wr) ∧ Hid ((l.take k).any S.globals.contains = false)) (fun ix _ => N - (intOf ix).toNat)
 case atStart => exact ⟨0, rfl, by omega, Lib.hid (Below.refl _ _), H0⟩
 case round =>
  obtain ⟨k, rfl, hk, HB, HA⟩ := hrel
  clear H0
  by_cases hkN : k < N
  ·have hkl : k < l.length := by rw [HN.out]; exact hkN
   have hkI : (k : Int) < (N : Int) := by omega
   have hsl := keeps_strs HV.out (Kept.below HB.out)
   obtain ⟨g, hg⟩ := lsl hsl (by omega)
   subst hg
   obtain ⟨hlt, _, _, vk, hc, hp⟩ := ListAt.at_ cStr_len hsl hkl
   have c0 := hc 0 (by omega)
   simp only [Nat.mul_one, Nat.add_zero] at c0
   have c1 : wr.cell? ⟨g, k, none⟩ = some (.string ⟨(l[k]).toArray⟩) := c0
   have hstep : (l.take (k + 1)).any S.globals.contains = S.globals.contains l[k] := by
    rw [List.take_succ_eq_append_getElem hkl, List.any_append, HA.out]; simp
   have hany : S.globals.contains l[k] = true → l.any S.globals.contains = true := fun h => List.any_eq_true.2 ⟨l[k], List.getElem_mem _, h⟩
   clear hc c0 hp
   have HStep := Lib.hid hstep
   have HAny := Lib.hid hany
   clear hstep hany
   generalize l[k] = lk at *
   have Q := Lib.hid (globF lk wr (HE.out.below HB.out hg1 hg2).asc)
   generalize S.globals.contains lk = G at *
   clear hsl hkl
   go_wp2_with fail
   refine Q.out.mono ?_
   rintro e w2 ⟨rfl, hb2⟩
   have HB2 : Hid (Below w.heap.size w w2) := Lib.hid (HB.out.trans (hb2.mono HB.out.size))
   clear hb2
   cases G with
   | true =>
    have HA2 := Lib.hid (HAny.out rfl)
    clear HStep HAny
    go_wp2_with fail
    go_ret
    exact ⟨_, rfl, ⟨fun _ => HA2.out, fun _ => by omega⟩, HB2.out⟩
   | false =>
    have HA2 : Hid ((l.take (k + 1)).any S.globals.contains = false) := Lib.hid HStep.out
    clear HStep HAny
    go_wp2_with fail
    go_roundw
    case rel => exact ⟨k + 1, by go_num, by omega, HB2, HA2⟩
    case measure => simp [intOf]; omega
  ·obtain rfl : k = N := by omega
   have HA2 : Hid (¬ l.any S.globals.contains = true) := Lib.hid (by
    have h := HA.out
    rw [← HN.out, List.take_length] at h
    rw [h]; simp)
   clear HA
   go_wp2_with fail
   go_ret
   exact ⟨_, rfl, ⟨fun h => (by omega), fun h => absurd h HA2.out⟩, HB.out⟩
set_option maxHeartbeats 2000000 in
theorem anyGlob (v : Value) (l : List (List UInt8)) (w : World) (B : Nat → Prop) (hv : StrsAt B w v l) (hl : l.length ≤ 1000000) (hE : YEnv w) :
  Calls Tryz.prog 105 #[v, globV] w fun e w' => e = .returned (.bool (l.any S.globals.contains)) ∧ Below w.heap.size w w' := by
 have Q := Lib.hid (indexGlob v l w B hv hl hE)
 clear hv hE
 unfold globV at *
 go_enter Tryz.func105, Tryz.ntmps105
 go_wp2_with fail
 refine Q.out.mono ?_
 rintro e w2 ⟨z, rfl, hz, hb⟩
 have HZ := Lib.hid hz
 clear hz
 go_wp2_with fail
 go_ret
 refine ⟨ret_bool ?_, hb⟩
 rw [Bool.eq_iff_iff]
 simp only [decide_eq_true_eq]
 exact HZ.out
/-- One more word, as the loop adds it. -/
def grow1 (l : List (List UInt8)) : List (List UInt8) := l ++ [l.getD (l.length - 2) []]
theorem fill_grow : ∀ l : List (List UInt8), 1 ≤ l.length → l.length < 4 → S.fill (grow1 l) = S.fill l
 | [a], _, _ => rfl
 | [a, b], _, _ => rfl
 | [a, b, c], _, _ => rfl
 | _ :: _ :: _ :: _ :: _, _, h => by simp at h; omega
 | [], h, _ => by simp at h
theorem fill_four : ∀ l : List (List UInt8), l.length = 4 → S.fill l = some l
 | [a, b, c, d], _ => rfl
 | [], h => by cases h
 | [a], h => by cases h
 | [a, b], h => by cases h
 | [a, b, c], h => by cases h
 | _ :: _ :: _ :: _ :: _ :: _, h => by simp at h
theorem fill_bad (l : List (List UInt8)) (h : l.length < 1 ∨ 4 < l.length) : S.fill l = none := by
 match l with
 | [] => rfl
 | [a] => simp at h
 | [a, b] => simp at h
 | [a, b, c] => simp at h
 | [a, b, c, d] => simp at h
 | _ :: _ :: _ :: _ :: _ :: _ => rfl
theorem map_four (ns : List (List UInt8)) (s : List UInt8) (h : ns.length = 4) : (ns.map fun n => (n, s)) = ns.zip [s, s, s, s] := by
 match ns, h with
 | [a, b, c, d], _ => rfl
theorem flds_mem : ∀ (l cur : List UInt8), ∀ x ∈ T.flds cur l, x.length ≤ cur.length + l.length
 | [], cur, x, h => by
  unfold T.flds at h
  split at h
  ·cases h
  ·rw [List.mem_singleton.1 h]; simp
 | b :: r, cur, x, h => by
  rw [T.flds] at h
  split at h
  ·split at h
   ·have := flds_mem r [] x h
    simp at this ⊢; omega
   ·rcases List.mem_cons.1 h with rfl | h
    ·simp
    ·have := flds_mem r [] x h
     simp at this ⊢; omega
  ·have := flds_mem r (cur ++ [b]) x h
   simp at this ⊢; omega
theorem flds_num : ∀ (l cur : List UInt8), (T.flds cur l).length ≤ l.length + 1
 | [], cur => by unfold T.flds; split <;> simp
 | b :: r, cur => by
  rw [T.flds]
  have h1 := flds_num r []
  have h2 := flds_num r (cur ++ [b])
  split
  ·split
   ·simp; omega
   ·simp; omega
  ·simp; omega
theorem words_mem {s x : List UInt8} (h : x ∈ S.words s) : x.length ≤ s.length := by have := flds_mem s [] x h; simpa using this
theorem words_num (s : List UInt8) : (S.words s).length ≤ s.length + 1 := flds_num s []
set_option maxHeartbeats 16000000 in
set_option maxRecDepth 100000 in
theorem expand_sides (nm s : List UInt8) (ns : List (List UInt8)) (w : World) (hn : nm.length ≤ 1000000) (hs : s.length ≤ 90000) (hE : YEnv w) (hsd : S.sidesOf nm = some ns) :
  Calls Tryz.prog 64 #[.string ⟨nm.toArray⟩, .string ⟨s.toArray⟩] w (EachPost (S.expand nm s) w) := by
 have hf : nm ≠ [102, 108, 101, 120] := S.sides_notflex hsd
 have hn4 := S.sides_len hsd
 have HQ : Hid (S.expand nm s = if S.globals.contains s then S.each (ns.map (fun n => (n, s))) else if (S.words s).any S.globals.contains then none else match S.fill (S.words s) with | some vs => S.each (ns.zip vs) | none => none) := Lib.hid (by
  unfold S.expand; rw [if_neg hf, hsd]; rfl)
 generalize S.expand nm s = q at *
 have HE := Lib.hid hE
 have hg1 := hE.big
 have hg2 := hE.big2
 have g0 : (nm == [102, 108, 101, 120]) = false := by simpa using hf
 have QF := Lib.hid (fun W => fields s W (by omega))
 have QS := Lib.hid (fun W => sides nm W hn)
 rw [hsd] at QS
 have HWm := Lib.hid (fun x (h : x ∈ S.words s) => words_mem h)
 have hwn := words_num s
 clear hE hf hsd
 go_enter Tryz.func64, Tryz.ntmps64
 go_wp2_with fail
 refine (QF.out _).mono ?_
 rintro e w1 ⟨A, rfl, hown, hb⟩
 have HU1 := Lib.hid hb
 have HO1 := Lib.hid hown
 have hAlt := (hown.lt A rfl).2
 clear hb hown QF
 generalize S.words s = ws at *
 generalize hNN : ws.length = N at *
 have HN := Lib.hid hNN
 clear hNN
 go_wp2_with fail
 refine (QS.out _).mono ?_
 rintro e w2 ⟨hb, (⟨l, g, h, _, rfl, hst⟩ | ⟨h, _⟩)⟩
 ·obtain rfl := Option.some.inj h
  have HU2 := Lib.hid (HU1.out.trans (hb.mono HU1.out.size))
  have HO2 := Lib.hid (own_keepD HO1.out hb)
  have HS2 := Lib.hid hst
  have hz1 := HU1.out.size
  have hz2 := hb.size
  clear hb hst QS HO1 h
  have QG := Lib.hid (globalsY s w2 (HE.out.below HU2.out hg1 hg2).asc)
  go_wp2_with fail
  rw [Lib.run_eql_slice_nil w2 29 9 (some ⟨g, 0, none⟩) 4 4 0 0 Tryz.underlying29]
  simp only [Result.andThen]
  rw [Oper.upon_value]
  simp only [Option.isNone_some]
  go_wp2_with fail
  refine QG.out.mono ?_
  rintro e w3 ⟨rfl, hb⟩
  have HU3 := Lib.hid (HU2.out.trans (hb.mono HU2.out.size))
  have HO3 := Lib.hid (own_keepD HO2.out hb)
  have HS3 := Lib.hid (keeps_strs HS2.out (Kept.below hb))
  have hz3 := hb.size
  clear hb QG HO2 HS2 HU2
  cases hG : S.globals.contains s with
  | true =>
   have HQ2 : Hid (q = S.each (ns.zip [s, s, s, s])) := Lib.hid (by rw [HQ.out, hG, if_pos rfl, map_four ns s hn4])
   have hl4 := strs_lit w3 [s, s, s, s] 9 (by simp) (by simp)
   have hb4 : Below w3.heap.size w3 (w3.alloc (.cells (sCells [s, s, s, s]).toArray 9)) := (Below.refl _ _).alloc (Nat.le_refl _) _
   have HU4 := Lib.hid (HU3.out.trans (hb4.mono HU3.out.size))
   have QE := Lib.hid (each _ _ ns [s, s, s, s] _ _ _ (keeps_strs HS3.out (Kept.below hb4)) hl4 (by rw [hn4]; simp) (by omega) (fun x hx => by simp at hx; subst hx; exact hs) (HE.out.below HU4.out hg1 hg2))
   unfold sCells at QE HU4
   simp only [List.map_cons, List.map_nil, List.length_cons, List.length_nil, Nat.zero_add] at QE HU4
   clear hl4 hb4 HQ hG
   go_wp2_with fail
   refine QE.out.mono ?_
   rintro e w5 ⟨hb, hcase⟩
   have HU5 := Lib.hid (HU4.out.trans (hb.mono HU4.out.size))
   have hz4 := HU4.out.size
   clear hb QE
   rcases hcase with ⟨l, v, hl, rfl, hown⟩ | ⟨hl, rfl⟩
   ·have HO := Lib.hid (hown.base hz4)
    have HL := Lib.hid (HQ2.out.trans hl)
    obtain ⟨ao, cap, hv⟩ := hown.form
    generalize (l.map plainD).length = n at hv
    subst hv
    clear hown hl HQ2
    go_wp2_with fail
    go_ret2
    exact ⟨HU5.out, Or.inl ⟨l, _, HL.out, rfl, HO.out⟩⟩
   ·have HL := Lib.hid (HQ2.out.trans hl)
    clear hl HQ2
    go_wp2_with fail
    go_ret2
    exact ⟨HU5.out, Or.inr ⟨HL.out, rfl⟩⟩
  | false =>
   have HQ2 : Hid (q = if ws.any S.globals.contains then none else match S.fill ws with | some vs => S.each (ns.zip vs) | none => none) := Lib.hid (by rw [HQ.out, hG, if_neg Bool.false_ne_true])
   clear HQ hG
   rcases (by omega : N < 1 ∨ 4 < N ∨ (1 ≤ N ∧ N ≤ 4)) with h1 | h4 | ⟨h1, h4⟩
   ·have HQ3 : Hid (q = none) := Lib.hid (by rw [HQ2.out, fill_bad ws (Or.inl (by rw [HN.out]; exact h1))]; split <;> rfl)
    have e1 : (N : Int) < 1 := by omega
    have f1 : decide ((N : Int) < 1) = true := decide_eq_true e1
    clear HQ2 h1
    go_wp2_with fail
    go_ret2
    exact ⟨HU3.out, Or.inr ⟨HQ3.out, rfl⟩⟩
   ·have HQ3 : Hid (q = none) := Lib.hid (by rw [HQ2.out, fill_bad ws (Or.inr (by rw [HN.out]; exact h4))]; split <;> rfl)
    have e1 : ¬ (N : Int) < 1 := by omega
    have f1 : decide ((N : Int) < 1) = false := decide_eq_false e1
    have e2 : (4 : Int) < (N : Int) := by omega
    have f2 : decide ((4 : Int) < (N : Int)) = true := decide_eq_true e2
    clear HQ2 h4
    go_wp2_with fail
    go_ret2
    exact ⟨HU3.out, Or.inr ⟨HQ3.out, rfl⟩⟩
   ·have e1 : ¬ (N : Int) < 1 := by omega
    have f1 : decide ((N : Int) < 1) = false := decide_eq_false e1
    have e2 : ¬ (4 : Int) < (N : Int) := by omega
    have f2 : decide ((4 : Int) < (N : Int)) = false := decide_eq_false e2
    have hst : StrsAt (w.heap.size ≤ ·) w3 (.slice (some ⟨A, 0, none⟩) N N) ws := strs_own (l := ws) (T := 9) (by rw [HN.out]; exact HO3.out) (fun h => by rw [HN.out] at h; omega)
    have QC := Lib.hid (anyGlob _ ws w3 _ hst (by rw [HN.out]; omega) (HE.out.below HU3.out hg1 hg2))
    unfold globV at QC
    clear hst
    go_wp2_with fail
    refine QC.out.mono ?_
    rintro e w4 ⟨rfl, hb⟩
    have HU4 := Lib.hid (HU3.out.trans (hb.mono HU3.out.size))
    have HO4 := Lib.hid (own_keepD HO3.out hb)
    have HS4 := Lib.hid (keeps_strs HS3.out (Kept.below hb))
    have hz4 := hb.size
    clear hb QC HO3 HS3 HU3
    cases hA : ws.any S.globals.contains with
    | true =>
     have HQ3 : Hid (q = none) := Lib.hid (by rw [HQ2.out, hA, if_pos rfl])
     clear HQ2 hA
     go_wp2_with fail
     go_ret2
     exact ⟨HU4.out, Or.inr ⟨HQ3.out, rfl⟩⟩
    | false =>
     have HQ3 : Hid (q = match S.fill ws with | some vs => S.each (ns.zip vs) | none => none) := Lib.hid (by rw [HQ2.out, hA, if_neg Bool.false_ne_true])
     clear HQ2 hA
     obtain ⟨i0, hi0, hz0, hzz1, hzz2⟩ := info_parts T.infoString
     have HSt : Hid (StrsAt (fun k => (Value.slice (some ⟨A, 0, none⟩) N N).ownBlock ≠ some k) w4 (.slice (some ⟨g, 0, none⟩) 4 4) ns) := Lib.hid (by
      refine keeps_strs HS4.out (Kept.wide fun k hk he => ?_)
      have he : A = k := by simpa [Value.ownBlock] using he
      omega)
     have HO5 : Hid (w4.ownsRow w.heap.size 9 1 (.slice (some ⟨A, 0, none⟩) N N) ws.length (sCells ws)) := Lib.hid (by rw [HN.out]; exact HO4.out)
     have HM0 : Hid (∀ x ∈ ws, x.length ≤ 90000) := Lib.hid (fun x hx => Nat.le_trans (HWm.out x hx) hs)
     have hNl : (N : Int) = ((ws.length : Nat) : Int) := by rw [HN.out]
     clear HO4 HS4 HWm
     go_wp2_with fail
     go_loopw [6, 8] (fun v6 v8 wr => ∃ cur : List (List UInt8), v8 = .int .i64 ((cur.length : Nat) : Int) ∧ 1 ≤ cur.length ∧ cur.length ≤ 4 ∧ Hid (S.fill cur = S.fill ws) ∧ Hid (∀ x ∈ cur, x.length ≤ 90000) ∧ Hid (wr.ownsRow w.heap.size 9 1 v6 cur.length (sCells cur)) ∧ Hid (StrsAt (fun k => v6.ownBlock ≠ some k) wr (.slice (some ⟨g, 0, none⟩) 4 4) ns) ∧ Hid (Below w.heap.size w wr)) (fun _ v8 _ => 4 - (intOf v8).toNat)
     case atStart => exact ⟨ws, congrArg (Value.int IntKind.i64) (by first | exact hNl | omega), by have := HN.out; omega, by have := HN.out; omega, Lib.hid rfl, HM0, HO5, HSt, HU4⟩
     case round =>
      obtain ⟨cur, rfl, hc1, hc4, HF, HM, HO, HS, HU⟩ := hrel
      clear HM0 HO5 HSt HU4 hNl
      have hshape : ∃ g6 cap6, u6 = .slice (some ⟨g6, 0, none⟩) cur.length cap6 := by
       rcases HO.out.2 with ⟨hv, h0⟩ | ⟨g6, cap6, cu, hv, _⟩
       ·omega
       ·exact ⟨g6, cap6, hv⟩
      obtain ⟨g6, cap6, rfl⟩ := hshape
      by_cases hlt : cur.length < 4
      ·have hcell := HO.out.cellAt (cur.length - 2) (by omega)
       have hx : (sCells cur)[cur.length - 2]? = some (.string ⟨(cur.getD (cur.length - 2) []).toArray⟩) := by
        unfold sCells
        rw [List.getElem?_map, List.getD_eq_getElem?_getD, List.getElem?_eq_getElem (by omega : cur.length - 2 < cur.length)]; rfl
       have c0 : wr.cell? ⟨g6, cur.length - 2, none⟩ = some (.string ⟨(cur.getD (cur.length - 2) []).toArray⟩) := hcell.trans hx
       have HF2 : Hid (S.fill (cur ++ [cur.getD (cur.length - 2) []]) = S.fill ws) := Lib.hid ((fill_grow cur hc1 hlt).trans HF.out)
       have HM2 : Hid (∀ x ∈ cur ++ [cur.getD (cur.length - 2) []], x.length ≤ 90000) := Lib.hid (fun x hx => by
        rcases List.mem_append.1 hx with h | h
        ·exact HM.out x h
        ·rw [List.mem_singleton.1 h]
         refine HM.out _ ?_
         rw [List.getD_eq_getElem?_getD, List.getElem?_eq_getElem (by omega : cur.length - 2 < cur.length)]
         exact List.getElem_mem _)
       have hU := HU.out.size
       clear hcell hx HF HM
       generalize cur.getD (cur.length - 2) [] = x at *
       generalize hkk : cur.length = k at *
       have HKK := Lib.hid hkk
       have hmax : max (0 : Int) ((k : Int) - 2) = ((k - 2 : Nat) : Int) := by omega
       have wk : IntKind.i64.wrap ((k : Int) - 2) = (k : Int) - 2 := IntWalk.i64_in _ (by omega)
       have hkI : (k : Int) < 4 := by omega
       have hk2 : ((k - 2 : Nat) : Int) < (k : Int) := by omega
       have hk3 : k - 2 < k := by omega
       have hbA : Below wr.heap.size wr (wr.alloc (.cells #[.string ⟨x.toArray⟩] 9)) := (Below.refl _ wr).alloc (Nat.le_refl _) _
       have HS2 := Lib.hid (keeps_strs HS.out (Kept.below hbA))
       have HU2 := Lib.hid (HU.out.trans (hbA.mono hU))
       clear HS hbA hkk
       go_wp2_with (at_builtin; refine wpList_append_lies _ rfl _ _ 29 rfl w.heap.size 9 i0 _ 1 16 Tryz.underlying29 hi0 hz0 hzz1 hzz2 rfl (by decide) (.slice (some ⟨g6, 0, none⟩) k cap6) k (sCells cur) rfl (HO.out.alloc _) ⟨wr.heap.size, 0, none⟩ 1 1 [.string ⟨x.toArray⟩] rfl rfl ?c1 ?c2 ?c3 ?c4 ?c5 ?c6 (wr.heap.size + 1) ?c7 ?_)
       case c1 => exact World.news_of_block (heap_alloc_new wr (.cells #[.string ⟨x.toArray⟩] 9))
       case c2 => simp [Value.oneCell']
       case c3 => omega
       case c4 => unfold maxLen; omega
       case c5 => omega
       case c6 => simp; omega
       case c7 => simp
       intro gg cap2 w5 hown5 hgrow hat hlt5
       have HO6 : Hid (w5.ownsRow w.heap.size 9 1 (.slice (some ⟨gg, 0, none⟩) (k + 1) cap2) (cur ++ [x]).length (sCells (cur ++ [x]))) := Lib.hid (by
        rw [List.length_append, HKK.out]
        unfold sCells at *
        rw [List.map_append]
        exact hown5)
       have HB5 : Hid (Below w.heap.size w w5) := Lib.hid (HU2.out.grown hgrow (by simp; omega) (fun q hq => (HO.out.lt q hq).1))
       have HS5 : Hid (StrsAt (fun j => (Value.slice (some ⟨gg, 0, none⟩) (k + 1) cap2).ownBlock ≠ some j) w5 (.slice (some ⟨g, 0, none⟩) 4 4) ns) := Lib.hid (keeps_strs HS2.out (kept_grown hgrow (hat.imp id fun h => Nat.le_of_eq h.symm) (by simp)))
       clear hown5 hgrow hat HO HU HU2 HS2
       go_wp2_with fail
       go_roundw
       case rel => exact ⟨cur ++ [x], congrArg (Value.int IntKind.i64) (by rw [List.length_append, HKK.out]; push_cast; rfl), by rw [List.length_append]; simp, by rw [List.length_append, HKK.out]; simp; omega, HF2, HM2, HO6, HS5, HB5⟩
       case measure => simp [intOf]; omega
      ·have h4 : cur.length = 4 := by omega
       have HQ4 : Hid (q = S.each (ns.zip cur)) := Lib.hid (by rw [HQ3.out, ← HF.out, fill_four cur h4])
       have hcs : StrsAt (w.heap.size ≤ ·) wr (.slice (some ⟨g6, 0, none⟩) cur.length cap6) cur := strs_own HO.out (fun h => by omega)
       have QE := Lib.hid (each _ _ ns cur wr _ _ HS.out hcs (by rw [hn4, h4]; exact Nat.le_refl _) (by omega) HM.out (HE.out.below HU.out hg1 hg2))
       rw [h4] at QE ⊢
       have hz5 := HU.out.size
       have hkI : ¬ ((4 : Nat) : Int) < 4 := by omega
       clear hcs HF HM HO HS HQ3
       go_wp2_with fail
       refine QE.out.mono ?_
       rintro e w5 ⟨hb, hcase⟩
       have HU5 := Lib.hid (HU.out.trans (hb.mono HU.out.size))
       clear hb QE
       rcases hcase with ⟨l, v, hl, rfl, hown⟩ | ⟨hl, rfl⟩
       ·have HOf := Lib.hid (hown.base hz5)
        have HL := Lib.hid (HQ4.out.trans hl)
        obtain ⟨ao, cap, hv⟩ := hown.form
        generalize (l.map plainD).length = n at hv
        subst hv
        clear hown hl HQ4
        go_wp2_with fail
        go_ret2
        exact ⟨HU5.out, Or.inl ⟨l, _, HL.out, rfl, HOf.out⟩⟩
       ·have HL := Lib.hid (HQ4.out.trans hl)
        clear hl HQ4
        go_wp2_with fail
        go_ret2
        exact ⟨HU5.out, Or.inr ⟨HL.out, rfl⟩⟩
 ·cases h
end Y
end Go.Proofs.YtafkeolpadfjfaaGreatDoor
namespace Go.Proofs.YtafkeolpadfjfaaGreatDoor
open Go.RowKit Go.Sort
namespace Y
open H
theorem glob_cases {s : List UInt8} : (s = [110, 111, 110, 101] ∨ s = [97, 117, 116, 111] ∨ s = [105, 110, 104, 101, 114, 105, 116] ∨ s = [105, 110, 105, 116, 105, 97, 108]) ∨ (s ≠ [110, 111, 110, 101] ∧ s ≠ [97, 117, 116, 111] ∧ s ≠ [105, 110, 104, 101, 114, 105, 116] ∧ s ≠ [105, 110, 105, 116, 105, 97, 108]) := by
 by_cases h0 : s = [110, 111, 110, 101]
 ·exact Or.inl (Or.inl h0)
 by_cases h1 : s = [97, 117, 116, 111]
 ·exact Or.inl (Or.inr (Or.inl h1))
 by_cases h2 : s = [105, 110, 104, 101, 114, 105, 116]
 ·exact Or.inl (Or.inr (Or.inr (Or.inl h2)))
 by_cases h3 : s = [105, 110, 105, 116, 105, 97, 108]
 ·exact Or.inl (Or.inr (Or.inr (Or.inr h3)))
 exact Or.inr ⟨h0, h1, h2, h3⟩
set_option maxHeartbeats 4000000 in
set_option maxRecDepth 100000 in
theorem flex_none (s : List UInt8) (ao : Option Addr) (w : World) (h0 : s ≠ [110, 111, 110, 101]) (h1 : s ≠ [97, 117, 116, 111]) (h2 : s ≠ [105, 110, 104, 101, 114, 105, 116]) (h3 : s ≠ [105, 110, 105, 116, 105, 97, 108]) :
  Calls Tryz.prog 102 #[.string ⟨s.toArray⟩, .slice ao 0 0] w (EachPost (flexOf s []) w) := by
 have g0 : (s == [110, 111, 110, 101]) = false := by simpa using h0
 have g1 : (s == [97, 117, 116, 111]) = false := by simpa using h1
 have g2 : (s == [105, 110, 104, 101, 114, 105, 116]) = false := by simpa using h2
 have g3 : (s == [105, 110, 105, 116, 105, 97, 108]) = false := by simpa using h3
 have HQ : Hid (flexOf s [] = none) := Lib.hid (by
  unfold flexOf S.flexVals
  rw [if_neg h0, if_neg h1, if_neg (by
   intro h
   have := List.contains_iff_mem.1 h
   simp [S.globals] at this
   rcases this with h | h
   ·exact h2 h
   ·exact h3 h)])
 generalize flexOf s [] = q at *
 have hb : ∀ a b T, Below w.heap.size w ((w.alloc (.cells a T)).alloc (.cells b T)) := fun a b T => by
  have b1 : Below w.heap.size w (w.alloc (.cells a T)) := (Below.refl _ w).alloc (Nat.le_refl _) _
  exact b1.alloc b1.size _
 have HB := Lib.hid hb
 clear hb h0 h1 h2 h3
 go_enter Tryz.func102, Tryz.ntmps102
 go_upto_region 11 with fail
 have HB2 := Lib.hid (HB.out #[.string ⟨#[102, 108, 101, 120, 45, 103, 114, 111, 119]⟩, .string ⟨#[102, 108, 101, 120, 45, 115, 104, 114, 105, 110, 107]⟩, .string ⟨#[102, 108, 101, 120, 45, 98, 97, 115, 105, 115]⟩] #[.string ⟨#[]⟩, .string ⟨#[49]⟩, .string ⟨#[48, 112, 120]⟩] 9)
 generalize ((w.alloc (.cells #[.string ⟨#[102, 108, 101, 120, 45, 103, 114, 111, 119]⟩, .string ⟨#[102, 108, 101, 120, 45, 115, 104, 114, 105, 110, 107]⟩, .string ⟨#[102, 108, 101, 120, 45, 98, 97, 115, 105, 115]⟩] 9)).alloc (.cells #[.string ⟨#[]⟩, .string ⟨#[49]⟩, .string ⟨#[48, 112, 120]⟩] 9)) = W0 at *
 refine wp_region_later (by kernel_rfl) (by kernel_rfl) ?_
 repeat (go_big_quiet_step (fail))
 refine wpQuiet_nil ?_
 intro _ hw'
 obtain ⟨dq, hw''⟩ := hw'
 subst hw''
 have HB3 := Lib.hid (HB2.out.trans (dq.h.mono HB2.out.size))
 go_wp2_with fail
 go_ret2
 exact ⟨HB3.out, Or.inr ⟨HQ.out, rfl⟩⟩
theorem flex (s : List UInt8) (l : List (List UInt8)) (A : Nat) (w : World) (hl : ∀ x ∈ l, x.length ≤ 90000) (hn : l.length ≤ 1000000) (hw : 0 < l.length → A < w.heap.size ∧ ∀ k x, l[k]? = some x → w.cell? ⟨A, k, none⟩ = some (.string ⟨x.toArray⟩)) (hE : YEnv w) :
  Calls Tryz.prog 102 #[.string ⟨s.toArray⟩, .slice (some ⟨A, 0, none⟩) l.length l.length] w (EachPost (flexOf s l) w) := by
 rcases glob_cases (s := s) with h | ⟨h0, h1, h2, h3⟩
 ·exact flex_word s _ l w h hE
 ·cases l with
  | nil => exact flex_none s _ w h0 h1 h2 h3
  | cons a r =>
   obtain ⟨hA, hc⟩ := hw (by simp)
   exact flex_rest s a r A w hA hc hl (by simp at hn; omega) h0 h1 h2 h3 hE
set_option maxHeartbeats 4000000 in
set_option maxRecDepth 100000 in
theorem expand_flex (s : List UInt8) (w : World) (hs : s.length ≤ 90000) (hE : YEnv w) :
  Calls Tryz.prog 64 #[.string ⟨#[102, 108, 101, 120]⟩, .string ⟨s.toArray⟩] w (EachPost (S.expand [102, 108, 101, 120] s) w) := by
 have HQ : Hid (S.expand [102, 108, 101, 120] s = flexOf s (S.words s)) := Lib.hid (by unfold S.expand; rw [if_pos rfl]; rfl)
 generalize S.expand [102, 108, 101, 120] s = q at *
 have HE := Lib.hid hE
 have hg1 := hE.big
 have hg2 := hE.big2
 have QF := Lib.hid (fun W => fields s W (by omega))
 have hwn := words_num s
 have HX : Hid (∀ A W, (W.ownsRow w.heap.size 9 1 (.slice (some ⟨A, 0, none⟩) (S.words s).length (S.words s).length) (S.words s).length (sCells (S.words s))) → YEnv W → Calls Tryz.prog 102 #[.string ⟨s.toArray⟩, .slice (some ⟨A, 0, none⟩) (S.words s).length (S.words s).length] W (EachPost (flexOf s (S.words s)) W)) := Lib.hid (fun A W hown hW => flex s (S.words s) A W (fun x hx => Nat.le_trans (words_mem hx) hs) (by omega) (fun h0 => ⟨(hown.lt A rfl).2, fun k x hx => by
  obtain ⟨hk, rfl⟩ := List.getElem?_eq_some_iff.1 hx
  rw [hown.cellAt k (by omega)]
  unfold sCells
  rw [List.getElem?_map, List.getElem?_eq_getElem hk]; rfl⟩) hW)
 generalize S.words s = ws at *
 clear hE hwn
 go_enter Tryz.func64, Tryz.ntmps64
 go_wp2_with fail
 refine (QF.out _).mono ?_
 rintro e w1 ⟨A, rfl, hown, hb⟩
 have QX := Lib.hid (HX.out A w1 hown (HE.out.below hb hg1 hg2))
 have HB := Lib.hid hb
 clear hb hown QF HX
 generalize ws.length = N at *
 go_wp2_with fail
 refine QX.out.mono ?_
 rintro e w5 ⟨hb, hcase⟩
 have HB5 := Lib.hid (HB.out.trans (hb.mono HB.out.size))
 have hsz := HB.out.size
 clear hb QX
 rcases hcase with ⟨l, u, hr, rfl, hown⟩ | ⟨hr, rfl⟩
 ·have HO := Lib.hid (hown.base hsz)
  have HQ5 := Lib.hid (HQ.out.trans hr)
  obtain ⟨ao, cap, hv⟩ := hown.form
  generalize (l.map plainD).length = n at hv
  subst hv
  clear hown hr HQ
  go_wp2_with fail
  go_ret2
  exact ⟨HB5.out, Or.inl ⟨l, _, HQ5.out, rfl, HO.out⟩⟩
 ·have HQ5 := Lib.hid (HQ.out.trans hr)
  clear hr HQ
  go_wp2_with fail
  go_ret2
  exact ⟨HB5.out, Or.inr ⟨HQ5.out, rfl⟩⟩
theorem expand (nm s : List UInt8) (w : World) (hn : nm.length ≤ 1000000) (hs : s.length ≤ 90000) (hE : YEnv w) :
  Calls Tryz.prog 64 #[.string ⟨nm.toArray⟩, .string ⟨s.toArray⟩] w (EachPost (S.expand nm s) w) := by
 by_cases hf : nm = [102, 108, 101, 120]
 ·subst hf; exact expand_flex s w hs hE
 ·cases hsd : S.sidesOf nm with
  | none => exact expand_one nm s w hn hs hE hf hsd
  | some ns => exact expand_sides nm s ns w hn hs hE hsd
end Y
end Go.Proofs.YtafkeolpadfjfaaGreatDoor
namespace Go.Proofs.YtafkeolpadfjfaaGreatDoor
namespace S
/-- What is passed between rules: white space, a closing brace, a semicolon. -/
def idle (c : UInt8) : Bool := T.sp c || c == 125 || c == 59
/-- What stands within a part behind its opening sign, and behind the part. -/
def inside (r : List UInt8) : List UInt8 := r.take (scan closers 0 0 r)
def behind (r : List UInt8) : List UInt8 := r.drop (scan closers 0 0 r + 1)
def rawN : Nat → List UInt8 → List (List UInt8 × List UInt8)
 | 0, _ => []
 | _ + 1, [] => []
 | n + 1, c :: t =>
  if idle c then rawN n t
  else if c = 64 then
   match (c :: t).drop (scan [59, 123] 0 0 (c :: t)) with
   | [] => []
   | d :: r => if d = 123 then rawN n (behind r) else rawN n r
  else match (c :: t).drop (scan [123] 0 0 (c :: t)) with
   | [] => []
   | _ :: r => ((c :: t).take (scan [123] 0 0 (c :: t)), inside r) :: rawN n (behind r)
/-- The rules' texts. -/
def raw (s : List UInt8) : List (List UInt8 × List UInt8) := rawN (s.length + 1) s
theorem behind_le (r : List UInt8) : (behind r).length ≤ r.length := by unfold behind; rw [List.length_drop]; omega
theorem drop_cons_len {s r : List UInt8} {k : Nat} {c : UInt8} (h : s.drop k = c :: r) : r.length + 1 ≤ s.length := by
 have := congrArg List.length h
 rw [List.length_drop, List.length_cons] at this
 omega
theorem rawN_enough : ∀ (n m : Nat) (s : List UInt8), s.length < n → s.length < m → rawN n s = rawN m s
 | 0, _, _, h, _ => by omega
 | _, 0, _, _, h => by omega
 | n + 1, m + 1, [], _, _ => rfl
 | n + 1, m + 1, c :: t, h1, h2 => by
  rw [List.length_cons] at h1 h2
  have ih := fun (u : List UInt8) (h : u.length ≤ t.length) => rawN_enough n m u (by omega) (by omega)
  rw [rawN, rawN]
  split
  ·exact ih t (Nat.le_refl _)
  ·split
   ·rename_i hc
    cases hd : (c :: t).drop (scan [59, 123] 0 0 (c :: t)) with
    | nil => rfl
    | cons d r =>
     have hl := drop_cons_len hd
     rw [List.length_cons] at hl
     dsimp only
     split
     ·exact ih _ (Nat.le_trans (behind_le r) (by omega))
     ·exact ih r (by omega)
   ·cases hd : (c :: t).drop (scan [123] 0 0 (c :: t)) with
    | nil => rfl
    | cons d r =>
     have hl := drop_cons_len hd
     rw [List.length_cons] at hl
     dsimp only
     rw [ih _ (Nat.le_trans (behind_le r) (by omega))]
theorem raw_idle {c : UInt8} {t : List UInt8} (h : idle c = true) : raw (c :: t) = raw t := by
 unfold raw
 rw [rawN, if_pos h]
 exact rawN_enough _ _ _ (by rw [List.length_cons]; omega) (by omega)
theorem raw_at {t : List UInt8} : raw (64 :: t) = match (64 :: t).drop (scan [59, 123] 0 0 (64 :: t)) with
   | [] => []
   | d :: r => if d = 123 then raw (behind r) else raw r := by
 have hi : ¬ idle 64 = true := by decide
 unfold raw
 rw [rawN, if_neg hi, if_pos rfl]
 cases hd : (64 :: t).drop (scan [59, 123] 0 0 (64 :: t)) with
 | nil => rfl
 | cons d r =>
  have hl := drop_cons_len hd
  rw [List.length_cons] at hl
  have hb := behind_le r
  dsimp only
  split
  ·exact rawN_enough _ _ _ (by rw [List.length_cons]; omega) (by omega)
  ·exact rawN_enough _ _ _ (by rw [List.length_cons]; omega) (by omega)
theorem raw_rule {c : UInt8} {t : List UInt8} (h1 : idle c = false) (h2 : c ≠ 64) : raw (c :: t) = match (c :: t).drop (scan [123] 0 0 (c :: t)) with
   | [] => []
   | _ :: r => ((c :: t).take (scan [123] 0 0 (c :: t)), inside r) :: raw (behind r) := by
 have hi : ¬ idle c = true := by rw [h1]; exact Bool.false_ne_true
 unfold raw
 rw [rawN, if_neg hi, if_neg h2]
 cases hd : (c :: t).drop (scan [123] 0 0 (c :: t)) with
 | nil => rfl
 | cons d r =>
  have hl := drop_cons_len hd
  rw [List.length_cons] at hl
  have hb := behind_le r
  dsimp only
  rw [rawN_enough _ ((behind r).length + 1) _ (by rw [List.length_cons]; omega) (by omega)]
/-- The reference's form of a part: on to its end, and whether it is closed. -/
theorem nx_brace (r : List UInt8) : nx (123 :: r) = 1 + min (scan closers 0 0 r + 1) r.length := by
 rw [nx, if_neg (by decide), if_pos (Or.inr (Or.inr rfl))]
theorem behind_nx (r : List UInt8) : (123 :: r).drop (nx (123 :: r)) = behind r := by
 rw [nx_brace, show 1 + min (scan closers 0 0 r + 1) r.length = min (scan closers 0 0 r + 1) r.length + 1 by omega, List.drop_succ_cons]
 unfold behind
 have hs := scan_le closers r 0 0
 rcases Nat.lt_or_ge (scan closers 0 0 r) r.length with h | h
 ·rw [Nat.min_eq_left (by omega)]
 ·rw [Nat.min_eq_right (by omega), List.drop_length, List.drop_eq_nil_of_le (by omega)]
theorem inside_open {r : List UInt8} (h : r.length ≤ scan closers 0 0 r) : inside r = r := by
 unfold inside; exact List.take_of_length_le h
end S
end Go.Proofs.YtafkeolpadfjfaaGreatDoor
namespace Go.Proofs.YtafkeolpadfjfaaGreatDoor
open Go.RowKit Go.Sort
namespace Y
open H
set_option maxHeartbeats 4000000 in
set_option maxRecDepth 100000 in
theorem block (b : Nat) (s r : List UInt8) (d : UInt8) (i : Nat) (w : World) (hs : s.length ≤ 900000) (hd : s.drop i = d :: r) (hR : IsSc b s i w) :
  Calls Tryz.prog 51 #[.pointer (some ⟨b, 0, none⟩)] w fun e w' => ∃ j, e = .returned (.string ⟨(S.inside r).toArray⟩) ∧ IsSc b s j w' ∧ But b w w' ∧ i < j ∧ j ≤ s.length ∧ Hid (s.drop j = S.behind r) := by
 have hi := lt_drop hd
 have hlenA := Nat.le_of_eq (drop_len hd)
 have hlenB := Nat.le_of_eq (drop_len hd).symm
 have hmore := drop_more hd
 have zs := bytes_size s
 have hsc := S.scan_le S.closers r 0 0
 have HW1 : Hid (IsSc b s (i + 1) (w.setCell ⟨b, 1, none⟩ (.int .i64 ((i : Int) + 1)))) := Lib.hid (sc_set hR)
 have QU := Lib.hid (fun W (h : IsSc b s (i + 1) W) => untilC b s [41, 93, 125] (i + 1) W (by omega) (by omega) h)
 rw [hmore] at QU
 have hE : ∃ E, E = i + 1 + S.scan S.closers 0 0 r := ⟨_, rfl⟩
 obtain ⟨E, hE⟩ := hE
 have QU2 : Hid (∀ W, IsSc b s (i + 1) W → Calls Tryz.prog 50 #[.pointer (some ⟨b, 0, none⟩), .string ⟨#[41, 93, 125]⟩] W (UnPost b s E W)) := Lib.hid (fun W h => by rw [hE]; exact QU.out W h)
 have hx : (⟨s.toArray⟩ : ByteArray).extract (i + 1) E = ⟨(S.inside r).toArray⟩ := by
  rw [slice_str s (i + 1) E (by omega) (by omega), hmore]
  unfold S.inside
  rw [hE, show i + 1 + S.scan S.closers 0 0 r - (i + 1) = S.scan S.closers 0 0 r by omega]
 have HBh : Hid (s.drop (min (E + 1) s.length) = S.behind r) := Lib.hid (by
  unfold S.behind
  rw [← hmore, List.drop_drop, show i + 1 + (S.scan S.closers 0 0 (s.drop (i + 1)) + 1) = E + 1 by rw [hmore]; omega]
  rcases Nat.le_total (E + 1) s.length with h | h
  ·rw [Nat.min_eq_left h]
  ·rw [Nat.min_eq_right h, List.drop_length, List.drop_eq_nil_of_le h])
 have hE1 : i + 1 ≤ E := by omega
 have hE2 : E ≤ s.length := by omega
 obtain ⟨hc, hf⟩ := cells_of hR
 have c1 : w.cell? ⟨b, 1, none⟩ = some (.int .i64 (i : Nat)) := hc 1
 have f1 : w.frozen? ⟨b, 1, none⟩ = false := hf 1 (by show 1 < 2; omega)
 have c11 : (w.setCell ⟨b, 1, none⟩ (.int .i64 ((i : Int) + 1))).cell? ⟨b, 1, none⟩ = some (.int .i64 ((i : Int) + 1)) := by have := (cells_of HW1.out).1 1; simpa using this
 have HBt : Hid (But b w (w.setCell ⟨b, 1, none⟩ (.int .i64 ((i : Int) + 1)))) := Lib.hid (But.set _ _ _)
 have hiI : (i : Int) + 1 ≤ (E : Int) := by omega
 have hEI : (E : Int) ≤ (s.length : Int) := by omega
 clear hd hmore hR QU hE hc hf hsc
 generalize S.inside r = ins at *
 go_enter Tryz.func51, Tryz.ntmps51
 go_upto_region 2 with fail
 generalize (w.setCell ⟨b, 1, none⟩ (.int .i64 ((i : Int) + 1))) = W1 at *
 clear c1 f1
 go_wp2_with fail
 refine (QU2.out _ HW1.out).mono ?_
 rintro e W2 ⟨rfl, h2, hb2⟩
 have HW2 := Lib.hid h2
 have HB2 := Lib.hid (HBt.out.trans hb2)
 obtain ⟨hc, hf⟩ := cells_of h2
 have c0 : W2.cell? ⟨b, 0, none⟩ = some (.string ⟨s.toArray⟩) := hc 0
 have c1 : W2.cell? ⟨b, 1, none⟩ = some (.int .i64 (E : Nat)) := hc 1
 have f1 : W2.frozen? ⟨b, 1, none⟩ = false := hf 1 (by show 1 < 2; omega)
 have wj : IntKind.i64.wrap ((E : Int) + 1) = (E : Int) + 1 := IntWalk.i64_in _ (by omega)
 have hmin : min ((E : Int) + 1) (s.length : Int) = ((min (E + 1) s.length : Nat) : Int) := by omega
 clear h2 hb2 hc hf HW1 HBt QU2 c11
 go_wp2_with fail
 go_quiet (fail)
 go_upto_region 5 with fail
 go_region
 go_wp2_with fail
 go_ret
 exact ⟨min (E + 1) s.length, rfl, (HW2.out.drewN _).set 1 _, (HB2.out.drewN _).trans (But.set _ _ _), by omega, by omega, HBh⟩
end Y
end Go.Proofs.YtafkeolpadfjfaaGreatDoor

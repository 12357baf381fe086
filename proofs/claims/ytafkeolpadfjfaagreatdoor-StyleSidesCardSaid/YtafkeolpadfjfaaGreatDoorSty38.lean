/- What expand comes to, at a shorthand with four sides. What the shorthand flex comes to. What expand comes to, at any property. -/
import Derived.Test.YtafkeolpadfjfaaGreatDoorSty22
import Derived.Lib.SliceRun
import Derived.Test.YtafkeolpadfjfaaGreatDoorLater
set_option linter.unusedVariables false
set_option linter.unusedSimpArgs false
namespace Go.Proofs.YtafkeolpadfjfaaGreatDoor
open Go.RowKit Go.Sort
namespace Y
open H

def globV : Value := .func (.func 106) #[] #[]

set_option maxHeartbeats 1000000 in
theorem globF (t : List UInt8) (W : World) (h : Asc W) : Calls Tryz.prog 106 #[.string ⟨t.toArray⟩] W fun e w' => e = .returned (.bool (S.globals.contains t)) ∧ Below W.heap.size W w' := by
  have Q := Lib.hid (globalsY t W h)
  generalize S.globals.contains t = G at *
  clear h
  go_enter Tryz.func106, Tryz.ntmps106
  go_wp2_with (go_at_call 39; refine Q.out.mono ?_)
  rintro e w' ⟨rfl, hb⟩
  go_wp2_with fail
  go_ret
  exact ⟨rfl, hb⟩

set_option maxHeartbeats 2000000 in
set_option maxRecDepth 100000 in
theorem indexGlob (v : Value) (l : List (List UInt8)) (w : World) (B : Nat → Prop) (hv : StrsAt B w v l) (hl : l.length ≤ 1000000) (hE : YEnv w) :
    Calls Tryz.prog 143 #[v, globV] w fun e w' => ∃ z : Int, e = .returned (.int .i64 z) ∧ (0 ≤ z ↔ l.any S.globals.contains = true) ∧ Below w.heap.size w w' := by
  have HV := Lib.hid hv
  have HE := Lib.hid hE
  have hg1 := hE.big
  have hg2 := hE.big2
  obtain ⟨ao, cap, rfl⟩ := hv.form
  clear hv hE
  unfold globV
  generalize hN : l.length = N at hl ⊢
  have HN := Lib.hid hN
  clear hN
  go_enter Tryz.func143, Tryz.ntmps143
  go_wp2_with fail
  have H0 : Hid ((l.take 0).any S.globals.contains = false) := Lib.hid rfl
  go_loopw [8] (fun ix wr => ∃ k : Nat, ix = .int .i64 k ∧ k ≤ N ∧ Hid (Below w.heap.size w wr) ∧ Hid ((l.take k).any S.globals.contains = false)) (fun ix _ => N - (intOf ix).toNat)
  case atStart => exact ⟨0, rfl, by omega, Lib.hid (Below.refl _ _), H0⟩
  case round =>
    obtain ⟨k, rfl, hk, HB, HA⟩ := hrel
    clear H0
    by_cases hkN : k < N
    · have hkl : k < l.length := by rw [HN.out]; exact hkN
      have hkI : (k : Int) < (N : Int) := by omega
      have hsl := keeps_strs HV.out (Kept.below HB.out)
      obtain ⟨g, hg⟩ := lsl hsl (by omega)
      subst hg
      obtain ⟨hlt, _, _, vk, hc, hp⟩ := ListAt.at_ cStr_len hsl hkl
      have c0 := hc 0 (by omega)
      simp only [Nat.mul_one, Nat.add_zero] at c0
      have c1 : wr.cell? ⟨g, k, none⟩ = some (.string ⟨(l[k]).toArray⟩) := c0
      have hstep : (l.take (k + 1)).any S.globals.contains = S.globals.contains l[k] := by
        rw [List.take_succ_eq_append_getElem hkl, List.any_append, HA.out]; simp
      have hany : S.globals.contains l[k] = true → l.any S.globals.contains = true := fun h => List.any_eq_true.2 ⟨l[k], List.getElem_mem _, h⟩
      clear hc c0 hp
      have HStep := Lib.hid hstep
      have HAny := Lib.hid hany
      clear hstep hany
      generalize l[k] = lk at *
      have Q := Lib.hid (globF lk wr (HE.out.below HB.out hg1 hg2).asc)
      generalize S.globals.contains lk = G at *
      clear hsl hkl
      go_wp2_with fail
      refine Q.out.mono ?_
      rintro e w2 ⟨rfl, hb2⟩
      have HB2 : Hid (Below w.heap.size w w2) := Lib.hid (HB.out.trans (hb2.mono HB.out.size))
      clear hb2
      cases G with
      | true =>
        have HA2 := Lib.hid (HAny.out rfl)
        clear HStep HAny
        go_wp2_with fail
        go_ret
        exact ⟨_, rfl, ⟨fun _ => HA2.out, fun _ => by omega⟩, HB2.out⟩
      | false =>
        have HA2 : Hid ((l.take (k + 1)).any S.globals.contains = false) := Lib.hid HStep.out
        clear HStep HAny
        go_wp2_with fail
        go_roundw
        case rel => exact ⟨k + 1, by go_num, by omega, HB2, HA2⟩
        case measure => simp [intOf]; omega
    · obtain rfl : k = N := by omega
      have HA2 : Hid (¬ l.any S.globals.contains = true) := Lib.hid (by
        have h := HA.out
        rw [← HN.out, List.take_length] at h
        rw [h]; simp)
      clear HA
      go_wp2_with fail
      go_ret
      exact ⟨_, rfl, ⟨fun h => (by omega), fun h => absurd h HA2.out⟩, HB.out⟩

set_option maxHeartbeats 2000000 in
theorem anyGlob (v : Value) (l : List (List UInt8)) (w : World) (B : Nat → Prop) (hv : StrsAt B w v l) (hl : l.length ≤ 1000000) (hE : YEnv w) :
    Calls Tryz.prog 105 #[v, globV] w fun e w' => e = .returned (.bool (l.any S.globals.contains)) ∧ Below w.heap.size w w' := by
  have Q := Lib.hid (indexGlob v l w B hv hl hE)
  clear hv hE
  unfold globV at *
  go_enter Tryz.func105, Tryz.ntmps105
  go_wp2_with fail
  refine Q.out.mono ?_
  rintro e w2 ⟨z, rfl, hz, hb⟩
  have HZ := Lib.hid hz
  clear hz
  go_wp2_with fail
  go_ret
  refine ⟨ret_bool ?_, hb⟩
  rw [Bool.eq_iff_iff]
  simp only [decide_eq_true_eq]
  exact HZ.out

/-- One more word, as the loop adds it. -/
def grow1 (l : List (List UInt8)) : List (List UInt8) := l ++ [l.getD (l.length - 2) []]
theorem fill_grow : ∀ l : List (List UInt8), 1 ≤ l.length → l.length < 4 → S.fill (grow1 l) = S.fill l
  | [a], _, _ => rfl
  | [a, b], _, _ => rfl
  | [a, b, c], _, _ => rfl
  | _ :: _ :: _ :: _ :: _, _, h => by simp at h; omega
  | [], h, _ => by simp at h
theorem fill_four : ∀ l : List (List UInt8), l.length = 4 → S.fill l = some l
  | [a, b, c, d], _ => rfl
  | [], h => by cases h
  | [a], h => by cases h
  | [a, b], h => by cases h
  | [a, b, c], h => by cases h
  | _ :: _ :: _ :: _ :: _ :: _, h => by simp at h
theorem fill_bad (l : List (List UInt8)) (h : l.length < 1 ∨ 4 < l.length) : S.fill l = none := by
  match l with
  | [] => rfl
  | [a] => simp at h
  | [a, b] => simp at h
  | [a, b, c] => simp at h
  | [a, b, c, d] => simp at h
  | _ :: _ :: _ :: _ :: _ :: _ => rfl
theorem map_four (ns : List (List UInt8)) (s : List UInt8) (h : ns.length = 4) : (ns.map fun n => (n, s)) = ns.zip [s, s, s, s] := by
  match ns, h with
  | [a, b, c, d], _ => rfl
theorem flds_mem : ∀ (l cur : List UInt8), ∀ x ∈ T.flds cur l, x.length ≤ cur.length + l.length
  | [], cur, x, h => by
    unfold T.flds at h
    split at h
    · cases h
    · rw [List.mem_singleton.1 h]; simp
  | b :: r, cur, x, h => by
    rw [T.flds] at h
    split at h
    · split at h
      · have := flds_mem r [] x h
        simp at this ⊢; omega
      · rcases List.mem_cons.1 h with rfl | h
        · simp
        · have := flds_mem r [] x h
          simp at this ⊢; omega
    · have := flds_mem r (cur ++ [b]) x h
      simp at this ⊢; omega
theorem flds_num : ∀ (l cur : List UInt8), (T.flds cur l).length ≤ l.length + 1
  | [], cur => by unfold T.flds; split <;> simp
  | b :: r, cur => by
    rw [T.flds]
    have h1 := flds_num r []
    have h2 := flds_num r (cur ++ [b])
    split
    · split
      · simp; omega
      · simp; omega
    · simp; omega
theorem words_mem {s x : List UInt8} (h : x ∈ S.words s) : x.length ≤ s.length := by have := flds_mem s [] x h; simpa using this
theorem words_num (s : List UInt8) : (S.words s).length ≤ s.length + 1 := flds_num s []

set_option maxHeartbeats 16000000 in
set_option maxRecDepth 100000 in
theorem expand_sides (nm s : List UInt8) (ns : List (List UInt8)) (w : World) (hn : nm.length ≤ 1000000) (hs : s.length ≤ 90000) (hE : YEnv w) (hsd : S.sidesOf nm = some ns) :
    Calls Tryz.prog 64 #[.string ⟨nm.toArray⟩, .string ⟨s.toArray⟩] w (EachPost (S.expand nm s) w) := by
  have hf : nm ≠ [102, 108, 101, 120] := S.sides_notflex hsd
  have hn4 := S.sides_len hsd
  have HQ : Hid (S.expand nm s = if S.globals.contains s then S.each (ns.map (fun n => (n, s))) else if (S.words s).any S.globals.contains then none else match S.fill (S.words s) with | some vs => S.each (ns.zip vs) | none => none) := Lib.hid (by
    unfold S.expand; rw [if_neg hf, hsd]; rfl)
  generalize S.expand nm s = q at *
  have HE := Lib.hid hE
  have hg1 := hE.big
  have hg2 := hE.big2
  have g0 : (nm == [102, 108, 101, 120]) = false := by simpa using hf
  have QF := Lib.hid (fun W => fields s W (by omega))
  have QS := Lib.hid (fun W => sides nm W hn)
  rw [hsd] at QS
  have HWm := Lib.hid (fun x (h : x ∈ S.words s) => words_mem h)
  have hwn := words_num s
  clear hE hf hsd
  go_enter Tryz.func64, Tryz.ntmps64
  go_wp2_with fail
  refine (QF.out _).mono ?_
  rintro e w1 ⟨A, rfl, hown, hb⟩
  have HU1 := Lib.hid hb
  have HO1 := Lib.hid hown
  have hAlt := (hown.lt A rfl).2
  clear hb hown QF
  generalize S.words s = ws at *
  generalize hNN : ws.length = N at *
  have HN := Lib.hid hNN
  clear hNN
  go_wp2_with fail
  refine (QS.out _).mono ?_
  rintro e w2 ⟨hb, (⟨l, g, h, _, rfl, hst⟩ | ⟨h, _⟩)⟩
  · obtain rfl := Option.some.inj h
    have HU2 := Lib.hid (HU1.out.trans (hb.mono HU1.out.size))
    have HO2 := Lib.hid (own_keepD HO1.out hb)
    have HS2 := Lib.hid hst
    have hz1 := HU1.out.size
    have hz2 := hb.size
    clear hb hst QS HO1 h
    have QG := Lib.hid (globalsY s w2 (HE.out.below HU2.out hg1 hg2).asc)
    go_wp2_with fail
    rw [Lib.run_eql_slice_nil w2 29 9 (some ⟨g, 0, none⟩) 4 4 0 0 Tryz.underlying29]
    simp only [Result.andThen]
    rw [Oper.upon_value]
    simp only [Option.isNone_some]
    go_wp2_with fail
    refine QG.out.mono ?_
    rintro e w3 ⟨rfl, hb⟩
    have HU3 := Lib.hid (HU2.out.trans (hb.mono HU2.out.size))
    have HO3 := Lib.hid (own_keepD HO2.out hb)
    have HS3 := Lib.hid (keeps_strs HS2.out (Kept.below hb))
    have hz3 := hb.size
    clear hb QG HO2 HS2 HU2
    cases hG : S.globals.contains s with
    | true =>
      have HQ2 : Hid (q = S.each (ns.zip [s, s, s, s])) := Lib.hid (by rw [HQ.out, hG, if_pos rfl, map_four ns s hn4])
      have hl4 := strs_lit w3 [s, s, s, s] 9 (by simp) (by simp)
      have hb4 : Below w3.heap.size w3 (w3.alloc (.cells (sCells [s, s, s, s]).toArray 9)) := (Below.refl _ _).alloc (Nat.le_refl _) _
      have HU4 := Lib.hid (HU3.out.trans (hb4.mono HU3.out.size))
      have QE := Lib.hid (each _ _ ns [s, s, s, s] _ _ _ (keeps_strs HS3.out (Kept.below hb4)) hl4 (by rw [hn4]; simp) (by omega) (fun x hx => by simp at hx; subst hx; exact hs) (HE.out.below HU4.out hg1 hg2))
      unfold sCells at QE HU4
      simp only [List.map_cons, List.map_nil, List.length_cons, List.length_nil, Nat.zero_add] at QE HU4
      clear hl4 hb4 HQ hG
      go_wp2_with fail
      refine QE.out.mono ?_
      rintro e w5 ⟨hb, hcase⟩
      have HU5 := Lib.hid (HU4.out.trans (hb.mono HU4.out.size))
      have hz4 := HU4.out.size
      clear hb QE
      rcases hcase with ⟨l, v, hl, rfl, hown⟩ | ⟨hl, rfl⟩
      · have HO := Lib.hid (hown.base hz4)
        have HL := Lib.hid (HQ2.out.trans hl)
        obtain ⟨ao, cap, hv⟩ := hown.form
        generalize (l.map plainD).length = n at hv
        subst hv
        clear hown hl HQ2
        go_wp2_with fail
        go_ret2
        exact ⟨HU5.out, Or.inl ⟨l, _, HL.out, rfl, HO.out⟩⟩
      · have HL := Lib.hid (HQ2.out.trans hl)
        clear hl HQ2
        go_wp2_with fail
        go_ret2
        exact ⟨HU5.out, Or.inr ⟨HL.out, rfl⟩⟩
    | false =>
      have HQ2 : Hid (q = if ws.any S.globals.contains then none else match S.fill ws with | some vs => S.each (ns.zip vs) | none => none) := Lib.hid (by rw [HQ.out, hG, if_neg Bool.false_ne_true])
      clear HQ hG
      rcases (by omega : N < 1 ∨ 4 < N ∨ (1 ≤ N ∧ N ≤ 4)) with h1 | h4 | ⟨h1, h4⟩
      · have HQ3 : Hid (q = none) := Lib.hid (by rw [HQ2.out, fill_bad ws (Or.inl (by rw [HN.out]; exact h1))]; split <;> rfl)
        have e1 : (N : Int) < 1 := by omega
        have f1 : decide ((N : Int) < 1) = true := decide_eq_true e1
        clear HQ2 h1
        go_wp2_with fail
        go_ret2
        exact ⟨HU3.out, Or.inr ⟨HQ3.out, rfl⟩⟩
      · have HQ3 : Hid (q = none) := Lib.hid (by rw [HQ2.out, fill_bad ws (Or.inr (by rw [HN.out]; exact h4))]; split <;> rfl)
        have e1 : ¬ (N : Int) < 1 := by omega
        have f1 : decide ((N : Int) < 1) = false := decide_eq_false e1
        have e2 : (4 : Int) < (N : Int) := by omega
        have f2 : decide ((4 : Int) < (N : Int)) = true := decide_eq_true e2
        clear HQ2 h4
        go_wp2_with fail
        go_ret2
        exact ⟨HU3.out, Or.inr ⟨HQ3.out, rfl⟩⟩
      · have e1 : ¬ (N : Int) < 1 := by omega
        have f1 : decide ((N : Int) < 1) = false := decide_eq_false e1
        have e2 : ¬ (4 : Int) < (N : Int) := by omega
        have f2 : decide ((4 : Int) < (N : Int)) = false := decide_eq_false e2
        have hst : StrsAt (w.heap.size ≤ ·) w3 (.slice (some ⟨A, 0, none⟩) N N) ws := strs_own (l := ws) (T := 9) (by rw [HN.out]; exact HO3.out) (fun h => by rw [HN.out] at h; omega)
        have QC := Lib.hid (anyGlob _ ws w3 _ hst (by rw [HN.out]; omega) (HE.out.below HU3.out hg1 hg2))
        unfold globV at QC
        clear hst
        go_wp2_with fail
        refine QC.out.mono ?_
        rintro e w4 ⟨rfl, hb⟩
        have HU4 := Lib.hid (HU3.out.trans (hb.mono HU3.out.size))
        have HO4 := Lib.hid (own_keepD HO3.out hb)
        have HS4 := Lib.hid (keeps_strs HS3.out (Kept.below hb))
        have hz4 := hb.size
        clear hb QC HO3 HS3 HU3
        cases hA : ws.any S.globals.contains with
        | true =>
          have HQ3 : Hid (q = none) := Lib.hid (by rw [HQ2.out, hA, if_pos rfl])
          clear HQ2 hA
          go_wp2_with fail
          go_ret2
          exact ⟨HU4.out, Or.inr ⟨HQ3.out, rfl⟩⟩
        | false =>
          have HQ3 : Hid (q = match S.fill ws with | some vs => S.each (ns.zip vs) | none => none) := Lib.hid (by rw [HQ2.out, hA, if_neg Bool.false_ne_true])
          clear HQ2 hA
          obtain ⟨i0, hi0, hz0, hzz1, hzz2⟩ := info_parts T.infoString
          have HSt : Hid (StrsAt (fun k => (Value.slice (some ⟨A, 0, none⟩) N N).ownBlock ≠ some k) w4 (.slice (some ⟨g, 0, none⟩) 4 4) ns) := Lib.hid (by
            refine keeps_strs HS4.out (Kept.wide fun k hk he => ?_)
            have he : A = k := by simpa [Value.ownBlock] using he
            omega)
          have HO5 : Hid (w4.ownsRow w.heap.size 9 1 (.slice (some ⟨A, 0, none⟩) N N) ws.length (sCells ws)) := Lib.hid (by rw [HN.out]; exact HO4.out)
          have HM0 : Hid (∀ x ∈ ws, x.length ≤ 90000) := Lib.hid (fun x hx => Nat.le_trans (HWm.out x hx) hs)
          have hNl : (N : Int) = ((ws.length : Nat) : Int) := by rw [HN.out]
          clear HO4 HS4 HWm
          go_wp2_with fail
          go_loopw [6, 8] (fun v6 v8 wr => ∃ cur : List (List UInt8), v8 = .int .i64 ((cur.length : Nat) : Int) ∧ 1 ≤ cur.length ∧ cur.length ≤ 4 ∧ Hid (S.fill cur = S.fill ws) ∧ Hid (∀ x ∈ cur, x.length ≤ 90000) ∧ Hid (wr.ownsRow w.heap.size 9 1 v6 cur.length (sCells cur)) ∧ Hid (StrsAt (fun k => v6.ownBlock ≠ some k) wr (.slice (some ⟨g, 0, none⟩) 4 4) ns) ∧ Hid (Below w.heap.size w wr)) (fun _ v8 _ => 4 - (intOf v8).toNat)
          case atStart => exact ⟨ws, congrArg (Value.int IntKind.i64) (by first | exact hNl | omega), by have := HN.out; omega, by have := HN.out; omega, Lib.hid rfl, HM0, HO5, HSt, HU4⟩
          case round =>
            obtain ⟨cur, rfl, hc1, hc4, HF, HM, HO, HS, HU⟩ := hrel
            clear HM0 HO5 HSt HU4 hNl
            have hshape : ∃ g6 cap6, u6 = .slice (some ⟨g6, 0, none⟩) cur.length cap6 := by
              rcases HO.out.2 with ⟨hv, h0⟩ | ⟨g6, cap6, cu, hv, _⟩
              · omega
              · exact ⟨g6, cap6, hv⟩
            obtain ⟨g6, cap6, rfl⟩ := hshape
            by_cases hlt : cur.length < 4
            · have hcell := HO.out.cellAt (cur.length - 2) (by omega)
              have hx : (sCells cur)[cur.length - 2]? = some (.string ⟨(cur.getD (cur.length - 2) []).toArray⟩) := by
                unfold sCells
                rw [List.getElem?_map, List.getD_eq_getElem?_getD, List.getElem?_eq_getElem (by omega : cur.length - 2 < cur.length)]; rfl
              have c0 : wr.cell? ⟨g6, cur.length - 2, none⟩ = some (.string ⟨(cur.getD (cur.length - 2) []).toArray⟩) := hcell.trans hx
              have HF2 : Hid (S.fill (cur ++ [cur.getD (cur.length - 2) []]) = S.fill ws) := Lib.hid ((fill_grow cur hc1 hlt).trans HF.out)
              have HM2 : Hid (∀ x ∈ cur ++ [cur.getD (cur.length - 2) []], x.length ≤ 90000) := Lib.hid (fun x hx => by
                rcases List.mem_append.1 hx with h | h
                · exact HM.out x h
                · rw [List.mem_singleton.1 h]
                  refine HM.out _ ?_
                  rw [List.getD_eq_getElem?_getD, List.getElem?_eq_getElem (by omega : cur.length - 2 < cur.length)]
                  exact List.getElem_mem _)
              have hU := HU.out.size
              clear hcell hx HF HM
              generalize cur.getD (cur.length - 2) [] = x at *
              generalize hkk : cur.length = k at *
              have HKK := Lib.hid hkk
              have hmax : max (0 : Int) ((k : Int) - 2) = ((k - 2 : Nat) : Int) := by omega
              have wk : IntKind.i64.wrap ((k : Int) - 2) = (k : Int) - 2 := IntWalk.i64_in _ (by omega)
              have hkI : (k : Int) < 4 := by omega
              have hk2 : ((k - 2 : Nat) : Int) < (k : Int) := by omega
              have hk3 : k - 2 < k := by omega
              have hbA : Below wr.heap.size wr (wr.alloc (.cells #[.string ⟨x.toArray⟩] 9)) := (Below.refl _ wr).alloc (Nat.le_refl _) _
              have HS2 := Lib.hid (keeps_strs HS.out (Kept.below hbA))
              have HU2 := Lib.hid (HU.out.trans (hbA.mono hU))
              clear HS hbA hkk
              go_wp2_with (at_builtin; refine wpList_append_lies _ rfl _ _ 29 rfl w.heap.size 9 i0 _ 1 16 Tryz.underlying29 hi0 hz0 hzz1 hzz2 rfl (by decide) (.slice (some ⟨g6, 0, none⟩) k cap6) k (sCells cur) rfl (HO.out.alloc _) ⟨wr.heap.size, 0, none⟩ 1 1 [.string ⟨x.toArray⟩] rfl rfl ?c1 ?c2 ?c3 ?c4 ?c5 ?c6 (wr.heap.size + 1) ?c7 ?_)
              case c1 => exact World.news_of_block (heap_alloc_new wr (.cells #[.string ⟨x.toArray⟩] 9))
              case c2 => simp [Value.oneCell']
              case c3 => omega
              case c4 => unfold maxLen; omega
              case c5 => omega
              case c6 => simp; omega
              case c7 => simp
              intro gg cap2 w5 hown5 hgrow hat hlt5
              have HO6 : Hid (w5.ownsRow w.heap.size 9 1 (.slice (some ⟨gg, 0, none⟩) (k + 1) cap2) (cur ++ [x]).length (sCells (cur ++ [x]))) := Lib.hid (by
                rw [List.length_append, HKK.out]
                unfold sCells at *
                rw [List.map_append]
                exact hown5)
              have HB5 : Hid (Below w.heap.size w w5) := Lib.hid (HU2.out.grown hgrow (by simp; omega) (fun q hq => (HO.out.lt q hq).1))
              have HS5 : Hid (StrsAt (fun j => (Value.slice (some ⟨gg, 0, none⟩) (k + 1) cap2).ownBlock ≠ some j) w5 (.slice (some ⟨g, 0, none⟩) 4 4) ns) := Lib.hid (keeps_strs HS2.out (kept_grown hgrow (hat.imp id fun h => Nat.le_of_eq h.symm) (by simp)))
              clear hown5 hgrow hat HO HU HU2 HS2
              go_wp2_with fail
              go_roundw
              case rel => exact ⟨cur ++ [x], congrArg (Value.int IntKind.i64) (by rw [List.length_append, HKK.out]; push_cast; rfl), by rw [List.length_append]; simp, by rw [List.length_append, HKK.out]; simp; omega, HF2, HM2, HO6, HS5, HB5⟩
              case measure => simp [intOf]; omega
            · have h4 : cur.length = 4 := by omega
              have HQ4 : Hid (q = S.each (ns.zip cur)) := Lib.hid (by rw [HQ3.out, ← HF.out, fill_four cur h4])
              have hcs : StrsAt (w.heap.size ≤ ·) wr (.slice (some ⟨g6, 0, none⟩) cur.length cap6) cur := strs_own HO.out (fun h => by omega)
              have QE := Lib.hid (each _ _ ns cur wr _ _ HS.out hcs (by rw [hn4, h4]; exact Nat.le_refl _) (by omega) HM.out (HE.out.below HU.out hg1 hg2))
              rw [h4] at QE ⊢
              have hz5 := HU.out.size
              have hkI : ¬ ((4 : Nat) : Int) < 4 := by omega
              clear hcs HF HM HO HS HQ3
              go_wp2_with fail
              refine QE.out.mono ?_
              rintro e w5 ⟨hb, hcase⟩
              have HU5 := Lib.hid (HU.out.trans (hb.mono HU.out.size))
              clear hb QE
              rcases hcase with ⟨l, v, hl, rfl, hown⟩ | ⟨hl, rfl⟩
              · have HOf := Lib.hid (hown.base hz5)
                have HL := Lib.hid (HQ4.out.trans hl)
                obtain ⟨ao, cap, hv⟩ := hown.form
                generalize (l.map plainD).length = n at hv
                subst hv
                clear hown hl HQ4
                go_wp2_with fail
                go_ret2
                exact ⟨HU5.out, Or.inl ⟨l, _, HL.out, rfl, HOf.out⟩⟩
              · have HL := Lib.hid (HQ4.out.trans hl)
                clear hl HQ4
                go_wp2_with fail
                go_ret2
                exact ⟨HU5.out, Or.inr ⟨HL.out, rfl⟩⟩
  · cases h

end Y
end Go.Proofs.YtafkeolpadfjfaaGreatDoor

namespace Go.Proofs.YtafkeolpadfjfaaGreatDoor
open Go.RowKit Go.Sort
namespace Y
open H

/-- What is left of the words of a row at g. -/
def TailV (g : Nat) (l rest : List (List UInt8)) (v : Value) : Prop := ∃ o ao, o + rest.length = l.length ∧ rest = l.drop o ∧ v = .slice ao rest.length rest.length ∧ (0 < rest.length → ao = some ⟨g, o, none⟩)
def flexOf (s : List UInt8) (l : List (List UInt8)) : Option (List (List UInt8 × S.Val)) := match S.flexVals s l with | some vs => S.each (S.flexNames.zip vs) | none => none

/-- A call of each with names and values written out. -/
theorem each_flex (Nb Vb : Nat) (a b c : List UInt8) (w W : World) (hU : Below w.heap.size w W) (hN : Blk Nb #[.string ⟨#[102, 108, 101, 120, 45, 103, 114, 111, 119]⟩, .string ⟨#[102, 108, 101, 120, 45, 115, 104, 114, 105, 110, 107]⟩, .string ⟨#[102, 108, 101, 120, 45, 98, 97, 115, 105, 115]⟩] 9 W) (hV : Blk Vb #[.string ⟨a.toArray⟩, .string ⟨b.toArray⟩, .string ⟨c.toArray⟩] 9 W)
    (hla : a.length ≤ 90000) (hlb : b.length ≤ 90000) (hlc : c.length ≤ 90000) (hE : YEnv W) :
    Calls Tryz.prog 104 #[.slice (some ⟨Nb, 0, none⟩) 3 3, .slice (some ⟨Vb, 0, none⟩) 3 3] W (EachPost (S.each (S.flexNames.zip [a, b, c])) W) := by
  have st : ∀ (g : Nat) (x y z : List UInt8), Blk g #[.string ⟨x.toArray⟩, .string ⟨y.toArray⟩, .string ⟨z.toArray⟩] 9 W → StrsAt (fun _ => True) W (.slice (some ⟨g, 0, none⟩) 3 3) [x, y, z] := by
    intro g x y z h
    refine ⟨[(x, .bool false), (y, .bool false), (z, .bool false)], rfl, Or.inr ⟨g, 3, rfl, by simp, trivial, h.lt, fun o ho => ?_⟩, fun p hp => trivial⟩
    have := (cells_of h).1 o
    rw [this]
    simp [cStr]
  exact each _ _ S.flexNames [a, b, c] W _ _ (st Nb _ _ _ hN) (st Vb _ _ _ hV) (by simp [S.flexNames]) (by simp [S.flexNames]) (fun x hx => by
    simp at hx
    rcases hx with rfl | rfl | rfl <;> assumption) hE

set_option maxHeartbeats 8000000 in
set_option maxRecDepth 100000 in
theorem flex_word (s : List UInt8) (v : Value) (l : List (List UInt8)) (w : World) (hs : s = [110, 111, 110, 101] ∨ s = [97, 117, 116, 111] ∨ s = [105, 110, 104, 101, 114, 105, 116] ∨ s = [105, 110, 105, 116, 105, 97, 108]) (hE : YEnv w) :
    Calls Tryz.prog 102 #[.string ⟨s.toArray⟩, v] w (EachPost (flexOf s l) w) := by
  have HE := Lib.hid hE
  have hg1 := hE.big
  have hg2 := hE.big2
  have hls : s.length ≤ 90000 := by rcases hs with rfl | rfl | rfl | rfl <;> decide
  have hW1 : Below w.heap.size w (w.alloc (.cells #[.string ⟨#[102, 108, 101, 120, 45, 103, 114, 111, 119]⟩, .string ⟨#[102, 108, 101, 120, 45, 115, 104, 114, 105, 110, 107]⟩, .string ⟨#[102, 108, 101, 120, 45, 98, 97, 115, 105, 115]⟩] 9)) := (Below.refl _ w).alloc (Nat.le_refl _) _
  have hN1 := Blk.new w #[.string ⟨#[102, 108, 101, 120, 45, 103, 114, 111, 119]⟩, .string ⟨#[102, 108, 101, 120, 45, 115, 104, 114, 105, 110, 107]⟩, .string ⟨#[102, 108, 101, 120, 45, 98, 97, 115, 105, 115]⟩] 9
  have HX : Hid (∀ a b c : List UInt8, a.length ≤ 90000 → b.length ≤ 90000 → c.length ≤ 90000 → flexOf s l = S.each (S.flexNames.zip [a, b, c]) → Calls Tryz.prog 104 #[.slice (some ⟨w.heap.size, 0, none⟩) 3 3, .slice (some ⟨w.heap.size + 1, 0, none⟩) 3 3] ((w.alloc (.cells #[.string ⟨#[102, 108, 101, 120, 45, 103, 114, 111, 119]⟩, .string ⟨#[102, 108, 101, 120, 45, 115, 104, 114, 105, 110, 107]⟩, .string ⟨#[102, 108, 101, 120, 45, 98, 97, 115, 105, 115]⟩] 9)).alloc (.cells #[.string ⟨a.toArray⟩, .string ⟨b.toArray⟩, .string ⟨c.toArray⟩] 9)) (EachPost (flexOf s l) w)) := Lib.hid (fun a b c ha hb hc he => by
    have hW2 := hW1.alloc hW1.size (.cells #[.string ⟨a.toArray⟩, .string ⟨b.toArray⟩, .string ⟨c.toArray⟩] 9)
    have hsz : (w.alloc (.cells #[.string ⟨#[102, 108, 101, 120, 45, 103, 114, 111, 119]⟩, .string ⟨#[102, 108, 101, 120, 45, 115, 104, 114, 105, 110, 107]⟩, .string ⟨#[102, 108, 101, 120, 45, 98, 97, 115, 105, 115]⟩] 9)).heap.size = w.heap.size + 1 := by simp
    have hV := Blk.new (w.alloc (.cells #[.string ⟨#[102, 108, 101, 120, 45, 103, 114, 111, 119]⟩, .string ⟨#[102, 108, 101, 120, 45, 115, 104, 114, 105, 110, 107]⟩, .string ⟨#[102, 108, 101, 120, 45, 98, 97, 115, 105, 115]⟩] 9)) #[.string ⟨a.toArray⟩, .string ⟨b.toArray⟩, .string ⟨c.toArray⟩] 9
    rw [hsz] at hV
    refine (each_flex _ _ a b c w _ hW2 (hN1.alloc _) hV ha hb hc (HE.out.below hW2 hg1 hg2)).mono ?_
    rintro e w' ⟨hb, hcase⟩
    rw [he]
    refine ⟨hW2.trans (hb.mono hW2.size), ?_⟩
    rcases hcase with ⟨q, u, h1, h2, h3⟩ | h
    · exact Or.inl ⟨q, u, h1, h2, h3.base hW2.size⟩
    · exact Or.inr h)
  clear hE hW1 hN1
  rcases hs with hs | hs | hs | hs
  · have QX := Lib.hid (HX.out [48] [48] [97, 117, 116, 111] (by first | decide | exact hls) (by first | decide | exact hls) (by first | decide | exact hls) (by rw [hs]; rfl))
    have g0 : (s == [110, 111, 110, 101]) = true := by rw [hs]; rfl
    generalize flexOf s l = q at *
    clear HX hs
    go_enter Tryz.func102, Tryz.ntmps102
    go_wp2_with fail
    refine QX.out.mono ?_
    rintro e w5 ⟨hb, hcase⟩
    have HB := Lib.hid hb
    clear hb QX
    rcases hcase with ⟨r, u, hr, rfl, hown⟩ | ⟨hr, rfl⟩
    · have HO := Lib.hid hown
      have HQ := Lib.hid hr
      obtain ⟨ao, cap, hv⟩ := hown.form
      generalize (r.map plainD).length = n at hv
      subst hv
      clear hown hr
      go_wp2_with fail
      go_ret2
      exact ⟨HB.out, Or.inl ⟨r, _, HQ.out, rfl, HO.out⟩⟩
    · have HQ := Lib.hid hr
      clear hr
      go_wp2_with fail
      go_ret2
      exact ⟨HB.out, Or.inr ⟨HQ.out, rfl⟩⟩
  · have QX := Lib.hid (HX.out [49] [49] [97, 117, 116, 111] (by first | decide | exact hls) (by first | decide | exact hls) (by first | decide | exact hls) (by rw [hs]; rfl))
    have g0 : (s == [110, 111, 110, 101]) = false := by rw [hs]; rfl
    have g1 : (s == [97, 117, 116, 111]) = true := by rw [hs]; rfl
    generalize flexOf s l = q at *
    clear HX hs
    go_enter Tryz.func102, Tryz.ntmps102
    go_wp2_with fail
    refine QX.out.mono ?_
    rintro e w5 ⟨hb, hcase⟩
    have HB := Lib.hid hb
    clear hb QX
    rcases hcase with ⟨r, u, hr, rfl, hown⟩ | ⟨hr, rfl⟩
    · have HO := Lib.hid hown
      have HQ := Lib.hid hr
      obtain ⟨ao, cap, hv⟩ := hown.form
      generalize (r.map plainD).length = n at hv
      subst hv
      clear hown hr
      go_wp2_with fail
      go_ret2
      exact ⟨HB.out, Or.inl ⟨r, _, HQ.out, rfl, HO.out⟩⟩
    · have HQ := Lib.hid hr
      clear hr
      go_wp2_with fail
      go_ret2
      exact ⟨HB.out, Or.inr ⟨HQ.out, rfl⟩⟩
  · have QX := Lib.hid (HX.out s s s (by first | decide | exact hls) (by first | decide | exact hls) (by first | decide | exact hls) (by rw [hs]; rfl))
    have g0 : (s == [110, 111, 110, 101]) = false := by rw [hs]; rfl
    have g1 : (s == [97, 117, 116, 111]) = false := by rw [hs]; rfl
    have g2 : (s == [105, 110, 104, 101, 114, 105, 116]) = true := by rw [hs]; rfl
    generalize flexOf s l = q at *
    clear HX hs
    go_enter Tryz.func102, Tryz.ntmps102
    go_wp2_with fail
    refine QX.out.mono ?_
    rintro e w5 ⟨hb, hcase⟩
    have HB := Lib.hid hb
    clear hb QX
    rcases hcase with ⟨r, u, hr, rfl, hown⟩ | ⟨hr, rfl⟩
    · have HO := Lib.hid hown
      have HQ := Lib.hid hr
      obtain ⟨ao, cap, hv⟩ := hown.form
      generalize (r.map plainD).length = n at hv
      subst hv
      clear hown hr
      go_wp2_with fail
      go_ret2
      exact ⟨HB.out, Or.inl ⟨r, _, HQ.out, rfl, HO.out⟩⟩
    · have HQ := Lib.hid hr
      clear hr
      go_wp2_with fail
      go_ret2
      exact ⟨HB.out, Or.inr ⟨HQ.out, rfl⟩⟩
  · have QX := Lib.hid (HX.out s s s (by first | decide | exact hls) (by first | decide | exact hls) (by first | decide | exact hls) (by rw [hs]; rfl))
    have g0 : (s == [110, 111, 110, 101]) = false := by rw [hs]; rfl
    have g1 : (s == [97, 117, 116, 111]) = false := by rw [hs]; rfl
    have g2 : (s == [105, 110, 104, 101, 114, 105, 116]) = false := by rw [hs]; rfl
    have g3 : (s == [105, 110, 105, 116, 105, 97, 108]) = true := by rw [hs]; rfl
    generalize flexOf s l = q at *
    clear HX hs
    go_enter Tryz.func102, Tryz.ntmps102
    go_wp2_with fail
    refine QX.out.mono ?_
    rintro e w5 ⟨hb, hcase⟩
    have HB := Lib.hid hb
    clear hb QX
    rcases hcase with ⟨r, u, hr, rfl, hown⟩ | ⟨hr, rfl⟩
    · have HO := Lib.hid hown
      have HQ := Lib.hid hr
      obtain ⟨ao, cap, hv⟩ := hown.form
      generalize (r.map plainD).length = n at hv
      subst hv
      clear hown hr
      go_wp2_with fail
      go_ret2
      exact ⟨HB.out, Or.inl ⟨r, _, HQ.out, rfl, HO.out⟩⟩
    · have HQ := Lib.hid hr
      clear hr
      go_wp2_with fail
      go_ret2
      exact ⟨HB.out, Or.inr ⟨HQ.out, rfl⟩⟩

/-- The state of flex: what is left of the words, and the three values so far. -/
structure Fx (w : World) (g : Nat) (l rest : List (List UInt8)) (a b c : List UInt8) (v : Value) (W : World) : Prop where
  below : Below w.heap.size w W
  names : Blk w.heap.size #[.string ⟨#[102, 108, 101, 120, 45, 103, 114, 111, 119]⟩, .string ⟨#[102, 108, 101, 120, 45, 115, 104, 114, 105, 110, 107]⟩, .string ⟨#[102, 108, 101, 120, 45, 98, 97, 115, 105, 115]⟩] 9 W
  vals : Blk (w.heap.size + 1) #[.string ⟨a.toArray⟩, .string ⟨b.toArray⟩, .string ⟨c.toArray⟩] 9 W
  tail : TailV g l rest v
section
variable {w W W' : World} {g : Nat} {l rest : List (List UInt8)} {a b c : List UInt8} {v : Value}
theorem Fx.later (h : Fx w g l rest a b c v W) (k : Below W.heap.size W W') : Fx w g l rest a b c v W' := ⟨h.below.trans (k.mono h.below.size), h.names.below k, h.vals.below k, h.tail⟩
theorem Fx.set0 (h : Fx w g l rest a b c v W) (x : List UInt8) : Fx w g l rest x b c v (W.setCell ⟨w.heap.size + 1, 0, none⟩ (.string ⟨x.toArray⟩)) := ⟨h.below.setCell (by show w.heap.size ≤ w.heap.size + 1; omega) _, h.names.far (by omega) _ _, h.vals.set 0 _, h.tail⟩
theorem Fx.set1 (h : Fx w g l rest a b c v W) (x : List UInt8) : Fx w g l rest a x c v (W.setCell ⟨w.heap.size + 1, 1, none⟩ (.string ⟨x.toArray⟩)) := ⟨h.below.setCell (by show w.heap.size ≤ w.heap.size + 1; omega) _, h.names.far (by omega) _ _, h.vals.set 1 _, h.tail⟩
theorem Fx.set2 (h : Fx w g l rest a b c v W) (x : List UInt8) : Fx w g l rest a b x v (W.setCell ⟨w.heap.size + 1, 2, none⟩ (.string ⟨x.toArray⟩)) := ⟨h.below.setCell (by show w.heap.size ≤ w.heap.size + 1; omega) _, h.names.far (by omega) _ _, h.vals.set 2 _, h.tail⟩
theorem Fx.with_ (h : Fx w g l rest a b c v W) {rest' : List (List UInt8)} {v' : Value} (k : TailV g l rest' v') : Fx w g l rest' a b c v' W := ⟨h.below, h.names, h.vals, k⟩
theorem Fx.name (h : Fx w g l rest a b c v W) {k : Nat} {x : Value} (hx : (#[.string ⟨#[102, 108, 101, 120, 45, 103, 114, 111, 119]⟩, .string ⟨#[102, 108, 101, 120, 45, 115, 104, 114, 105, 110, 107]⟩, .string ⟨#[102, 108, 101, 120, 45, 98, 97, 115, 105, 115]⟩] : Array Value)[k]? = some x) : W.cell? ⟨w.heap.size, k, none⟩ = some x := ((cells_of h.names).1 k).trans hx
theorem Fx.val (h : Fx w g l rest a b c v W) {k : Nat} {x : Value} (hx : (#[.string ⟨a.toArray⟩, .string ⟨b.toArray⟩, .string ⟨c.toArray⟩] : Array Value)[k]? = some x) : W.cell? ⟨w.heap.size + 1, k, none⟩ = some x := ((cells_of h.vals).1 k).trans hx
theorem Fx.soft (h : Fx w g l rest a b c v W) {k : Nat} (hk : k < 3) : W.frozen? ⟨w.heap.size + 1, k, none⟩ = false := (cells_of h.vals).2 k hk
end
theorem tail_next {g : Nat} {l rest : List (List UInt8)} {x : List UInt8} {o : Nat} (h1 : o + (rest.length + 1) = l.length) (h2 : x :: rest = l.drop o) : TailV g l rest (.slice (if rest.length = 0 then some ⟨g, o, none⟩ else some ⟨g, o + 1, none⟩) rest.length rest.length) := by
  refine ⟨o + 1, _, by omega, ?_, rfl, fun h => if_neg (by omega)⟩
  rw [← List.drop_drop, ← h2]; rfl



set_option maxHeartbeats 16000000 in
set_option maxRecDepth 100000 in
theorem flex_rest (s a : List UInt8) (r : List (List UInt8)) (g : Nat) (w : World) (hg : g < w.heap.size)
    (hc : ∀ k x, (a :: r)[k]? = some x → w.cell? ⟨g, k, none⟩ = some (.string ⟨x.toArray⟩)) (hl : ∀ x ∈ a :: r, x.length ≤ 90000) (hn : r.length ≤ 1000000)
    (h0 : s ≠ [110, 111, 110, 101]) (h1 : s ≠ [97, 117, 116, 111]) (h2 : s ≠ [105, 110, 104, 101, 114, 105, 116]) (h3 : s ≠ [105, 110, 105, 116, 105, 97, 108]) (hE : YEnv w) :
    Calls Tryz.prog 102 #[.string ⟨s.toArray⟩, .slice (some ⟨g, 0, none⟩) (r.length + 1) (r.length + 1)] w (EachPost (flexOf s (a :: r)) w) := by
  have HE := Lib.hid hE
  have hg1 := hE.big
  have hg2 := hE.big2
  have HC := Lib.hid hc
  have HL := Lib.hid hl
  have g0 : (s == [110, 111, 110, 101]) = false := by simpa using h0
  have g1 : (s == [97, 117, 116, 111]) = false := by simpa using h1
  have g2 : (s == [105, 110, 104, 101, 114, 105, 116]) = false := by simpa using h2
  have g3 : (s == [105, 110, 105, 116, 105, 97, 108]) = false := by simpa using h3
  have HQ : Hid (flexOf s (a :: r) = if S.part [102, 108, 101, 120, 45, 103, 114, 111, 119] a then (if (S.flexOne [102, 108, 101, 120, 45, 98, 97, 115, 105, 115] [48, 112, 120] (S.flexOne [102, 108, 101, 120, 45, 115, 104, 114, 105, 110, 107] [49] r).2).2 = [] then S.each (S.flexNames.zip [a, (S.flexOne [102, 108, 101, 120, 45, 115, 104, 114, 105, 110, 107] [49] r).1, (S.flexOne [102, 108, 101, 120, 45, 98, 97, 115, 105, 115] [48, 112, 120] (S.flexOne [102, 108, 101, 120, 45, 115, 104, 114, 105, 110, 107] [49] r).2).1]) else none) else none) := Lib.hid (by
    have hgl : S.globals.contains s = false := by
      rw [Bool.eq_false_iff]
      intro h
      have := List.contains_iff_mem.1 h
      simp [S.globals] at this
      rcases this with h | h
      · exact h2 h
      · exact h3 h
    unfold flexOf
    rw [S.flexVals_cons h0 h1 hgl]
    split <;> rename_i h
    · split at h
      · split at h
        · injection h with h; subst h; rw [if_pos ‹_›, if_pos ‹_›]; rfl
        · cases h
      · cases h
    · split at h
      · split at h
        · cases h
        · rw [if_pos ‹_›, if_neg ‹_›]
      · rw [if_neg ‹_›])
  generalize flexOf s (a :: r) = q at *
  have QP0 := Lib.hid (fun (U : World) (hU : YEnv U) => show Calls Tryz.prog 142 #[.string ⟨#[102, 108, 101, 120, 45, 103, 114, 111, 119]⟩, .string ⟨a.toArray⟩] U _ from part [102, 108, 101, 120, 45, 103, 114, 111, 119] a U (hl a (List.mem_cons_self ..)) hU)
  generalize hP : S.part [102, 108, 101, 120, 45, 103, 114, 111, 119] a = P at *
  have c0 : w.cell? ⟨g, 0, none⟩ = some (.string ⟨a.toArray⟩) := hc 0 a rfl
  have hrl := hn
  generalize hR : r.length + 1 = R at *
  have HR := Lib.hid hR
  have hR0 : 0 < R := by omega
  have hRI : (0 : Int) < (R : Int) := by omega
  have hRz : ((R : Int) == 0) = false := by rw [beq_eq_false_iff_ne]; omega
  have hRn : ¬ (R : Int) = 0 := by omega
  clear hE hc hl h0 h1 h2 h3 hP hR hn hrl
  go_enter Tryz.func102, Tryz.ntmps102
  go_upto_region 11 with fail
  have HF0 : Hid (Fx w g (a :: r) (a :: r) [] [49] [48, 112, 120] (.slice (some ⟨g, 0, none⟩) (a :: r).length (a :: r).length) ((w.alloc (.cells #[.string ⟨#[102, 108, 101, 120, 45, 103, 114, 111, 119]⟩, .string ⟨#[102, 108, 101, 120, 45, 115, 104, 114, 105, 110, 107]⟩, .string ⟨#[102, 108, 101, 120, 45, 98, 97, 115, 105, 115]⟩] 9)).alloc (.cells #[.string ⟨#[]⟩, .string ⟨#[49]⟩, .string ⟨#[48, 112, 120]⟩] 9))) := Lib.hid (by
    have b1 : Below w.heap.size w (w.alloc (.cells #[.string ⟨#[102, 108, 101, 120, 45, 103, 114, 111, 119]⟩, .string ⟨#[102, 108, 101, 120, 45, 115, 104, 114, 105, 110, 107]⟩, .string ⟨#[102, 108, 101, 120, 45, 98, 97, 115, 105, 115]⟩] 9)) := (Below.refl _ w).alloc (Nat.le_refl _) _
    refine ⟨b1.alloc b1.size _, (Blk.new w #[.string ⟨#[102, 108, 101, 120, 45, 103, 114, 111, 119]⟩, .string ⟨#[102, 108, 101, 120, 45, 115, 104, 114, 105, 110, 107]⟩, .string ⟨#[102, 108, 101, 120, 45, 98, 97, 115, 105, 115]⟩] 9).alloc _, ?_, 0, _, by omega, rfl, rfl, fun _ => rfl⟩
    have := Blk.new (w.alloc (.cells #[.string ⟨#[102, 108, 101, 120, 45, 103, 114, 111, 119]⟩, .string ⟨#[102, 108, 101, 120, 45, 115, 104, 114, 105, 110, 107]⟩, .string ⟨#[102, 108, 101, 120, 45, 98, 97, 115, 105, 115]⟩] 9)) #[.string ⟨#[]⟩, .string ⟨#[49]⟩, .string ⟨#[48, 112, 120]⟩] 9
    rw [show (w.alloc (.cells #[.string ⟨#[102, 108, 101, 120, 45, 103, 114, 111, 119]⟩, .string ⟨#[102, 108, 101, 120, 45, 115, 104, 114, 105, 110, 107]⟩, .string ⟨#[102, 108, 101, 120, 45, 98, 97, 115, 105, 115]⟩] 9)).heap.size = w.heap.size + 1 by simp] at this
    exact this)
  generalize ((w.alloc (.cells #[.string ⟨#[102, 108, 101, 120, 45, 103, 114, 111, 119]⟩, .string ⟨#[102, 108, 101, 120, 45, 115, 104, 114, 105, 110, 107]⟩, .string ⟨#[102, 108, 101, 120, 45, 98, 97, 115, 105, 115]⟩] 9)).alloc (.cells #[.string ⟨#[]⟩, .string ⟨#[49]⟩, .string ⟨#[48, 112, 120]⟩] 9)) = W0 at *
  have hb0 := HF0.out.below
  have hW0 := hb0.size
  have n0 := HF0.out.name (k := 0) rfl
  have d0 : W0.cell? ⟨g, 0, none⟩ = some (.string ⟨a.toArray⟩) := (hb0.cell (p := ⟨g, 0, none⟩) hg).trans c0
  have hl0 := HF0.out.names.lt
  have hgl0 := Nat.lt_of_lt_of_le hg hW0
  have D0 := fun d : Later W0.heap.size W0 => Later.cell n0 hl0 d
  have D1 := fun d : Later W0.heap.size W0 => Later.cell d0 hgl0 d
  have QPP := Lib.hid (fun (U : World) (hU : Below W0.heap.size W0 U) => QP0.out U (HE.out.below (hb0.trans (hU.mono hW0)) hg1 hg2))
  clear hb0 n0 d0 QP0 c0
  refine wp_region_later (by kernel_rfl) (by kernel_rfl) ?_
  repeat (go_big_quiet_step ((go_at_call 142; exact Calls.later (QPP.out _ (Later.h _)))))
  refine wpQuiet_nil ?_
  intro _ hw'
  obtain ⟨dq, hw''⟩ := hw'
  subst hw''
  have HF1 := Lib.hid (HF0.out.later dq.h)
  have hb1 := HF1.out.below
  generalize dq.w = W1 at *
  clear D0 D1 QPP HF0 dq hW0 hl0 hgl0
  cases P with
  | false =>
    have HQ2 : Hid (q = none) := Lib.hid (by rw [HQ.out]; rfl)
    go_wp2_with fail
    go_ret2
    exact ⟨hb1, Or.inr ⟨HQ2.out, rfl⟩⟩
  | true =>
    have HQ2 := Lib.hid (HQ.out.trans (if_pos rfl))
    have d0 : W1.cell? ⟨g, 0, none⟩ = some (.string ⟨a.toArray⟩) := (hb1.cell (p := ⟨g, 0, none⟩) hg).trans (HC.out 0 a rfl)
    have f0 := HF1.out.soft (k := 0) (by omega)
    have HF2 := Lib.hid (HF1.out.set0 a)
    have v0 := HF1.out.val (k := 0) rfl
    clear HQ HF1 hb1
    go_upto_region 14 with fail
    go_cut [1] (fun v1 wx => Hid (Fx w g (a :: r) r a [49] [48, 112, 120] v1 wx))
    case first =>
      rcases (by omega : R = 1 ∨ 1 < R) with hR1 | hR1
      · have hr0 : r.length = 0 := by have := HR.out; omega
        subst hR1
        go_wp2_with fail
        go_meet
        refine Lib.hid (HF2.out.with_ ?_)
        have := tail_next (g := g) (l := a :: r) (rest := r) (x := a) (o := 0) (by simp) rfl
        rw [if_pos hr0, hr0] at this
        exact this
      · have hr0 : ¬ r.length = 0 := by have := HR.out; omega
        have hRI1 : (1 : Int) ≤ (R : Int) := by omega
        have hRI2 : ¬ (R : Int) = 1 := by omega
        have hRn1 : ¬ R = 1 := by omega
        go_wp2_with fail
        go_meet
        refine Lib.hid (HF2.out.with_ ?_)
        have := tail_next (g := g) (l := a :: r) (rest := r) (x := a) (o := 0) (by simp) rfl
        rw [if_neg hr0] at this
        rw [show R - 1 = r.length by have := HR.out; omega]
        exact this
    case rest =>
    have HF1 := hcut
    have HLa := Lib.hid (HL.out a (List.mem_cons_self ..))
    clear hcut HF2 v0 f0 d0
    generalize a :: r = L at *
    rename_i KK1 hKK1
    refine hKK1 _ _ ?_
    go_step
    go_cut [1] (fun v1 wx => ∃ (y : List UInt8) (z : List (List UInt8)), Hid (S.flexOne [102, 108, 101, 120, 45, 115, 104, 114, 105, 110, 107] [49] r = (y, z)) ∧ Hid (y.length ≤ 90000) ∧ Hid (Fx w g L z a y [48, 112, 120] v1 wx))
    case first =>
      have hb := HF1.out.below
      have HQP := Lib.hid (fun (x : List UInt8) (hx : x.length ≤ 90000) (U : World) (hU : Below wc.heap.size wc U) => show Calls Tryz.prog 142 #[.string ⟨#[102, 108, 101, 120, 45, 115, 104, 114, 105, 110, 107]⟩, .string ⟨x.toArray⟩] U _ from part [102, 108, 101, 120, 45, 115, 104, 114, 105, 110, 107] x U hx (HE.out.below (hb.trans (hU.mono hb.size)) hg1 hg2))
      have n0 := HF1.out.name (k := 1) rfl
      have hl0 := HF1.out.names.lt
      have hgl0 := Nat.lt_of_lt_of_le hg hb.size
      obtain ⟨o, ao, ho, hdr, hv, hao⟩ := HF1.out.tail
      subst hv
      go_step
      cases r with
      | nil =>
        have HF3 := Lib.hid HF1.out
        clear HF1 HQP hdr hao n0
        simp only [List.length_nil] at HF3 ⊢
        refine wp_region_later (by kernel_rfl) (by kernel_rfl) ?_
        repeat (go_big_quiet_step (fail))
        refine wpQuiet_nil ?_
        intro _ hw'
        obtain ⟨dq, hw''⟩ := hw'
        subst hw''
        go_wp2_with fail
        go_meet
        exact ⟨_, _, Lib.hid rfl, Lib.hid (by decide), Lib.hid (HF3.out.later dq.h)⟩
      | cons x s2 =>
        obtain rfl := hao (by simp)
        have hgo : L[o]? = some x := by
          have := congrArg (fun l => l[0]?) hdr
          simpa using this.symm
        have d0 : wc.cell? ⟨g, o, none⟩ = some (.string ⟨x.toArray⟩) := (hb.cell (p := ⟨g, o, none⟩) hg).trans (HC.out o x hgo)
        have hxl : x.length ≤ 90000 := HL.out x (List.mem_of_getElem? hgo)
        have QPP := Lib.hid (fun U hU => HQP.out x hxl U hU)
        have HFO : Hid (S.flexOne [102, 108, 101, 120, 45, 115, 104, 114, 105, 110, 107] [49] (x :: s2) = if S.part [102, 108, 101, 120, 45, 115, 104, 114, 105, 110, 107] x then (x, s2) else ([49], x :: s2)) := Lib.hid rfl
        generalize S.part [102, 108, 101, 120, 45, 115, 104, 114, 105, 110, 107] x = B at *
        have D0 := fun d : Later wc.heap.size wc => Later.cell n0 hl0 d
        have D1 := fun d : Later wc.heap.size wc => Later.cell d0 hgl0 d
        have HT := Lib.hid (fun (h1 : o + (s2.length + 1) = L.length) => tail_next (g := g) (l := L) (rest := s2) (x := x) (o := o) h1 hdr)
        have HO := Lib.hid ho
        have HF3 := Lib.hid HF1.out
        have HXL := Lib.hid hxl
        have HLs : Hid ((x :: s2).length = s2.length + 1) := Lib.hid (List.length_cons ..)
        generalize hM : (x :: s2).length = M at *
        have HM := Lib.hid hM
        have hM0 : 0 < M := by have := HLs.out; omega
        have hMI : (0 : Int) < (M : Int) := by omega
        have hMd : decide ((0 : Int) < (M : Int)) = true := decide_eq_true hMI
        clear HF1 HQP hdr hao n0 d0 hxl hgo ho hM hb
        refine wp_region_later (by kernel_rfl) (by kernel_rfl) ?_
        repeat (go_big_quiet_step ((go_at_call 142; exact Calls.later (QPP.out _ (Later.h _)))))
        refine wpQuiet_nil ?_
        intro _ hw'
        obtain ⟨dq, hw''⟩ := hw'
        subst hw''
        have HF4 := Lib.hid (HF3.out.later dq.h)
        have hb1 := HF4.out.below
        have hgo : L[o]? = some x := by
          obtain ⟨o2, ao2, ho2, hdr2, hv2, hao2⟩ := HF4.out.tail
          have h1 := HO.out
          have h2 := HM.out
          have : o2 = o := by omega
          subst this
          have := congrArg (fun l => l[0]?) hdr2
          simpa using this.symm
        have d0 : dq.w.cell? ⟨g, o, none⟩ = some (.string ⟨x.toArray⟩) := (hb1.cell (p := ⟨g, o, none⟩) hg).trans (HC.out o x hgo)
        generalize dq.w = W1 at *
        clear D0 D1 QPP HF3 dq hgo hl0 hgl0
        cases B with
        | false =>
          have HFO2 := Lib.hid (HFO.out.trans (if_neg Bool.false_ne_true))
          have HF5 := Lib.hid HF4.out
          clear HFO HF4 d0
          go_wp2_with fail
          go_meet
          exact ⟨_, _, HFO2, Lib.hid (by decide), HF5⟩
        | true =>
          have HFO2 := Lib.hid (HFO.out.trans (if_pos rfl))
          have f0 := HF4.out.soft (k := 1) (by omega)
          have v0 := HF4.out.val (k := 1) rfl
          have HF5 := Lib.hid (HF4.out.set1 x)
          clear HFO HF4 hb1
          rcases (by omega : M = 1 ∨ 1 < M) with hR1 | hR1
          · have hr0 : s2.length = 0 := by have := HLs.out; omega
            have HT2 := Lib.hid (HT.out (by have := HO.out; have := HLs.out; omega))
            rw [if_pos hr0, hr0] at HT2
            clear HT HO HLs HM
            subst hR1
            go_wp2_with fail
            go_meet
            exact ⟨_, _, HFO2, HXL, Lib.hid (HF5.out.with_ HT2.out)⟩
          · have hr0 : ¬ s2.length = 0 := by have := HLs.out; omega
            have HT2 := Lib.hid (HT.out (by have := HO.out; have := HLs.out; omega))
            rw [if_neg hr0] at HT2
            have hs2 : s2.length = M - 1 := by have := HLs.out; omega
            rw [hs2] at HT2
            have hRI1 : (1 : Int) ≤ (M : Int) := by omega
            have hRI2 : ¬ (M : Int) = 1 := by omega
            have hRn1 : ¬ M = 1 := by omega
            clear HT HO HLs HM hs2 hr0
            go_wp2_with fail
            go_meet
            exact ⟨_, _, HFO2, HXL, Lib.hid (HF5.out.with_ HT2.out)⟩
    case rest =>
    obtain ⟨x1, r1, HR1, HY1, HF2⟩ := hcut
    clear HF1
    rename_i KK2 hKK2
    refine hKK2 _ _ ?_
    go_step
    go_cut [1] (fun v1 wx => ∃ (y : List UInt8) (z : List (List UInt8)), Hid (S.flexOne [102, 108, 101, 120, 45, 98, 97, 115, 105, 115] [48, 112, 120] r1 = (y, z)) ∧ Hid (y.length ≤ 90000) ∧ Hid (Fx w g L z a x1 y v1 wx))
    case first =>
      have hb := HF2.out.below
      have HQP := Lib.hid (fun (x : List UInt8) (hx : x.length ≤ 90000) (U : World) (hU : Below wc.heap.size wc U) => show Calls Tryz.prog 142 #[.string ⟨#[102, 108, 101, 120, 45, 98, 97, 115, 105, 115]⟩, .string ⟨x.toArray⟩] U _ from part [102, 108, 101, 120, 45, 98, 97, 115, 105, 115] x U hx (HE.out.below (hb.trans (hU.mono hb.size)) hg1 hg2))
      have n0 := HF2.out.name (k := 2) rfl
      have hl0 := HF2.out.names.lt
      have hgl0 := Nat.lt_of_lt_of_le hg hb.size
      obtain ⟨o, ao, ho, hdr, hv, hao⟩ := HF2.out.tail
      subst hv
      go_step
      cases r1 with
      | nil =>
        have HF3 := Lib.hid HF2.out
        clear HF2 HQP hdr hao n0
        simp only [List.length_nil] at HF3 ⊢
        refine wp_region_later (by kernel_rfl) (by kernel_rfl) ?_
        repeat (go_big_quiet_step (fail))
        refine wpQuiet_nil ?_
        intro _ hw'
        obtain ⟨dq, hw''⟩ := hw'
        subst hw''
        go_wp2_with fail
        go_meet
        exact ⟨_, _, Lib.hid rfl, Lib.hid (by decide), Lib.hid (HF3.out.later dq.h)⟩
      | cons x s2 =>
        obtain rfl := hao (by simp)
        have hgo : L[o]? = some x := by
          have := congrArg (fun l => l[0]?) hdr
          simpa using this.symm
        have d0 : wc.cell? ⟨g, o, none⟩ = some (.string ⟨x.toArray⟩) := (hb.cell (p := ⟨g, o, none⟩) hg).trans (HC.out o x hgo)
        have hxl : x.length ≤ 90000 := HL.out x (List.mem_of_getElem? hgo)
        have QPP := Lib.hid (fun U hU => HQP.out x hxl U hU)
        have HFO : Hid (S.flexOne [102, 108, 101, 120, 45, 98, 97, 115, 105, 115] [48, 112, 120] (x :: s2) = if S.part [102, 108, 101, 120, 45, 98, 97, 115, 105, 115] x then (x, s2) else ([48, 112, 120], x :: s2)) := Lib.hid rfl
        generalize S.part [102, 108, 101, 120, 45, 98, 97, 115, 105, 115] x = B at *
        have D0 := fun d : Later wc.heap.size wc => Later.cell n0 hl0 d
        have D1 := fun d : Later wc.heap.size wc => Later.cell d0 hgl0 d
        have HT := Lib.hid (fun (h1 : o + (s2.length + 1) = L.length) => tail_next (g := g) (l := L) (rest := s2) (x := x) (o := o) h1 hdr)
        have HO := Lib.hid ho
        have HF3 := Lib.hid HF2.out
        have HXL := Lib.hid hxl
        have HLs : Hid ((x :: s2).length = s2.length + 1) := Lib.hid (List.length_cons ..)
        generalize hM : (x :: s2).length = M at *
        have HM := Lib.hid hM
        have hM0 : 0 < M := by have := HLs.out; omega
        have hMI : (0 : Int) < (M : Int) := by omega
        have hMd : decide ((0 : Int) < (M : Int)) = true := decide_eq_true hMI
        clear HF2 HQP hdr hao n0 d0 hxl hgo ho hM hb
        refine wp_region_later (by kernel_rfl) (by kernel_rfl) ?_
        repeat (go_big_quiet_step ((go_at_call 142; exact Calls.later (QPP.out _ (Later.h _)))))
        refine wpQuiet_nil ?_
        intro _ hw'
        obtain ⟨dq, hw''⟩ := hw'
        subst hw''
        have HF4 := Lib.hid (HF3.out.later dq.h)
        have hb1 := HF4.out.below
        have hgo : L[o]? = some x := by
          obtain ⟨o2, ao2, ho2, hdr2, hv2, hao2⟩ := HF4.out.tail
          have h1 := HO.out
          have h2 := HM.out
          have : o2 = o := by omega
          subst this
          have := congrArg (fun l => l[0]?) hdr2
          simpa using this.symm
        have d0 : dq.w.cell? ⟨g, o, none⟩ = some (.string ⟨x.toArray⟩) := (hb1.cell (p := ⟨g, o, none⟩) hg).trans (HC.out o x hgo)
        generalize dq.w = W1 at *
        clear D0 D1 QPP HF3 dq hgo hl0 hgl0
        cases B with
        | false =>
          have HFO2 := Lib.hid (HFO.out.trans (if_neg Bool.false_ne_true))
          have HF5 := Lib.hid HF4.out
          clear HFO HF4 d0
          go_wp2_with fail
          go_meet
          exact ⟨_, _, HFO2, Lib.hid (by decide), HF5⟩
        | true =>
          have HFO2 := Lib.hid (HFO.out.trans (if_pos rfl))
          have f0 := HF4.out.soft (k := 2) (by omega)
          have v0 := HF4.out.val (k := 2) rfl
          have HF5 := Lib.hid (HF4.out.set2 x)
          clear HFO HF4 hb1
          rcases (by omega : M = 1 ∨ 1 < M) with hR1 | hR1
          · have hr0 : s2.length = 0 := by have := HLs.out; omega
            have HT2 := Lib.hid (HT.out (by have := HO.out; have := HLs.out; omega))
            rw [if_pos hr0, hr0] at HT2
            clear HT HO HLs HM
            subst hR1
            go_wp2_with fail
            go_meet
            exact ⟨_, _, HFO2, HXL, Lib.hid (HF5.out.with_ HT2.out)⟩
          · have hr0 : ¬ s2.length = 0 := by have := HLs.out; omega
            have HT2 := Lib.hid (HT.out (by have := HO.out; have := HLs.out; omega))
            rw [if_neg hr0] at HT2
            have hs2 : s2.length = M - 1 := by have := HLs.out; omega
            rw [hs2] at HT2
            have hRI1 : (1 : Int) ≤ (M : Int) := by omega
            have hRI2 : ¬ (M : Int) = 1 := by omega
            have hRn1 : ¬ M = 1 := by omega
            clear HT HO HLs HM hs2 hr0
            go_wp2_with fail
            go_meet
            exact ⟨_, _, HFO2, HXL, Lib.hid (HF5.out.with_ HT2.out)⟩
    case rest =>
    obtain ⟨x2, r2, HR2, HY2, HF3⟩ := hcut
    clear HF2
    have hz := HF3.out.below
    rename_i KK3 hKK3
    refine hKK3 _ _ ?_
    obtain ⟨o, ao, ho, hdr, hv, hao⟩ := HF3.out.tail
    subst hv
    have HQ3 : Hid (q = if r2 = [] then S.each (S.flexNames.zip [a, x1, x2]) else none) := Lib.hid (by
      have h1 := HR1.out
      have h2 := HR2.out
      rw [HQ2.out, h1]
      dsimp only
      rw [h2])
    have QE := Lib.hid (each_flex w.heap.size (w.heap.size + 1) a x1 x2 w wc hz HF3.out.names HF3.out.vals (HLa.out) HY1.out HY2.out (HE.out.below hz hg1 hg2))
    have HB := Lib.hid hz
    clear HQ2 HR1 HR2 ho hdr hao HF3 hz HY1 HY2 HL HC
    cases r2 with
    | nil =>
      have HQ4 := Lib.hid (HQ3.out.trans (if_pos rfl))
      clear HQ3
      simp only [List.length_nil]
      go_wp2_with fail
      refine QE.out.mono ?_
      rintro e w5 ⟨hb, hcase⟩
      have HB5 := Lib.hid (HB.out.trans (hb.mono HB.out.size))
      have hsz := HB.out.size
      clear hb QE
      rcases hcase with ⟨l, u, hr, rfl, hown⟩ | ⟨hr, rfl⟩
      · have HO := Lib.hid (hown.base hsz)
        have HQ5 := Lib.hid (HQ4.out.trans hr)
        obtain ⟨ao, cap, hv⟩ := hown.form
        generalize (l.map plainD).length = n at hv
        subst hv
        clear hown hr HQ4
        go_wp2_with fail
        go_ret2
        exact ⟨HB5.out, Or.inl ⟨l, _, HQ5.out, rfl, HO.out⟩⟩
      · have HQ5 := Lib.hid (HQ4.out.trans hr)
        clear hr HQ4
        go_wp2_with fail
        go_ret2
        exact ⟨HB5.out, Or.inr ⟨HQ5.out, rfl⟩⟩
    | cons x s2 =>
      have HQ4 := Lib.hid (HQ3.out.trans (if_neg (by simp)))
      have hM0 : 0 < (x :: s2).length := by simp
      generalize (x :: s2).length = M at *
      have hMI : (0 : Int) < (M : Int) := by omega
      have hMd : decide ((0 : Int) < (M : Int)) = true := decide_eq_true hMI
      clear HQ3 QE
      go_wp2_with fail
      go_ret2
      exact ⟨HB.out, Or.inr ⟨HQ4.out, rfl⟩⟩

end Y
end Go.Proofs.YtafkeolpadfjfaaGreatDoor

namespace Go.Proofs.YtafkeolpadfjfaaGreatDoor
open Go.RowKit Go.Sort
namespace Y
open H

theorem glob_cases {s : List UInt8} : (s = [110, 111, 110, 101] ∨ s = [97, 117, 116, 111] ∨ s = [105, 110, 104, 101, 114, 105, 116] ∨ s = [105, 110, 105, 116, 105, 97, 108]) ∨ (s ≠ [110, 111, 110, 101] ∧ s ≠ [97, 117, 116, 111] ∧ s ≠ [105, 110, 104, 101, 114, 105, 116] ∧ s ≠ [105, 110, 105, 116, 105, 97, 108]) := by
  by_cases h0 : s = [110, 111, 110, 101]
  · exact Or.inl (Or.inl h0)
  by_cases h1 : s = [97, 117, 116, 111]
  · exact Or.inl (Or.inr (Or.inl h1))
  by_cases h2 : s = [105, 110, 104, 101, 114, 105, 116]
  · exact Or.inl (Or.inr (Or.inr (Or.inl h2)))
  by_cases h3 : s = [105, 110, 105, 116, 105, 97, 108]
  · exact Or.inl (Or.inr (Or.inr (Or.inr h3)))
  exact Or.inr ⟨h0, h1, h2, h3⟩

set_option maxHeartbeats 4000000 in
set_option maxRecDepth 100000 in
theorem flex_none (s : List UInt8) (ao : Option Addr) (w : World) (h0 : s ≠ [110, 111, 110, 101]) (h1 : s ≠ [97, 117, 116, 111]) (h2 : s ≠ [105, 110, 104, 101, 114, 105, 116]) (h3 : s ≠ [105, 110, 105, 116, 105, 97, 108]) :
    Calls Tryz.prog 102 #[.string ⟨s.toArray⟩, .slice ao 0 0] w (EachPost (flexOf s []) w) := by
  have g0 : (s == [110, 111, 110, 101]) = false := by simpa using h0
  have g1 : (s == [97, 117, 116, 111]) = false := by simpa using h1
  have g2 : (s == [105, 110, 104, 101, 114, 105, 116]) = false := by simpa using h2
  have g3 : (s == [105, 110, 105, 116, 105, 97, 108]) = false := by simpa using h3
  have HQ : Hid (flexOf s [] = none) := Lib.hid (by
    unfold flexOf S.flexVals
    rw [if_neg h0, if_neg h1, if_neg (by
      intro h
      have := List.contains_iff_mem.1 h
      simp [S.globals] at this
      rcases this with h | h
      · exact h2 h
      · exact h3 h)])
  generalize flexOf s [] = q at *
  have hb : ∀ a b T, Below w.heap.size w ((w.alloc (.cells a T)).alloc (.cells b T)) := fun a b T => by
    have b1 : Below w.heap.size w (w.alloc (.cells a T)) := (Below.refl _ w).alloc (Nat.le_refl _) _
    exact b1.alloc b1.size _
  have HB := Lib.hid hb
  clear hb h0 h1 h2 h3
  go_enter Tryz.func102, Tryz.ntmps102
  go_upto_region 11 with fail
  have HB2 := Lib.hid (HB.out #[.string ⟨#[102, 108, 101, 120, 45, 103, 114, 111, 119]⟩, .string ⟨#[102, 108, 101, 120, 45, 115, 104, 114, 105, 110, 107]⟩, .string ⟨#[102, 108, 101, 120, 45, 98, 97, 115, 105, 115]⟩] #[.string ⟨#[]⟩, .string ⟨#[49]⟩, .string ⟨#[48, 112, 120]⟩] 9)
  generalize ((w.alloc (.cells #[.string ⟨#[102, 108, 101, 120, 45, 103, 114, 111, 119]⟩, .string ⟨#[102, 108, 101, 120, 45, 115, 104, 114, 105, 110, 107]⟩, .string ⟨#[102, 108, 101, 120, 45, 98, 97, 115, 105, 115]⟩] 9)).alloc (.cells #[.string ⟨#[]⟩, .string ⟨#[49]⟩, .string ⟨#[48, 112, 120]⟩] 9)) = W0 at *
  refine wp_region_later (by kernel_rfl) (by kernel_rfl) ?_
  repeat (go_big_quiet_step (fail))
  refine wpQuiet_nil ?_
  intro _ hw'
  obtain ⟨dq, hw''⟩ := hw'
  subst hw''
  have HB3 := Lib.hid (HB2.out.trans (dq.h.mono HB2.out.size))
  go_wp2_with fail
  go_ret2
  exact ⟨HB3.out, Or.inr ⟨HQ.out, rfl⟩⟩

theorem flex (s : List UInt8) (l : List (List UInt8)) (A : Nat) (w : World) (hl : ∀ x ∈ l, x.length ≤ 90000) (hn : l.length ≤ 1000000) (hw : 0 < l.length → A < w.heap.size ∧ ∀ k x, l[k]? = some x → w.cell? ⟨A, k, none⟩ = some (.string ⟨x.toArray⟩)) (hE : YEnv w) :
    Calls Tryz.prog 102 #[.string ⟨s.toArray⟩, .slice (some ⟨A, 0, none⟩) l.length l.length] w (EachPost (flexOf s l) w) := by
  rcases glob_cases (s := s) with h | ⟨h0, h1, h2, h3⟩
  · exact flex_word s _ l w h hE
  · cases l with
    | nil => exact flex_none s _ w h0 h1 h2 h3
    | cons a r =>
      obtain ⟨hA, hc⟩ := hw (by simp)
      exact flex_rest s a r A w hA hc hl (by simp at hn; omega) h0 h1 h2 h3 hE

set_option maxHeartbeats 4000000 in
set_option maxRecDepth 100000 in
theorem expand_flex (s : List UInt8) (w : World) (hs : s.length ≤ 90000) (hE : YEnv w) :
    Calls Tryz.prog 64 #[.string ⟨#[102, 108, 101, 120]⟩, .string ⟨s.toArray⟩] w (EachPost (S.expand [102, 108, 101, 120] s) w) := by
  have HQ : Hid (S.expand [102, 108, 101, 120] s = flexOf s (S.words s)) := Lib.hid (by unfold S.expand; rw [if_pos rfl]; rfl)
  generalize S.expand [102, 108, 101, 120] s = q at *
  have HE := Lib.hid hE
  have hg1 := hE.big
  have hg2 := hE.big2
  have QF := Lib.hid (fun W => fields s W (by omega))
  have hwn := words_num s
  have HX : Hid (∀ A W, (W.ownsRow w.heap.size 9 1 (.slice (some ⟨A, 0, none⟩) (S.words s).length (S.words s).length) (S.words s).length (sCells (S.words s))) → YEnv W → Calls Tryz.prog 102 #[.string ⟨s.toArray⟩, .slice (some ⟨A, 0, none⟩) (S.words s).length (S.words s).length] W (EachPost (flexOf s (S.words s)) W)) := Lib.hid (fun A W hown hW => flex s (S.words s) A W (fun x hx => Nat.le_trans (words_mem hx) hs) (by omega) (fun h0 => ⟨(hown.lt A rfl).2, fun k x hx => by
    obtain ⟨hk, rfl⟩ := List.getElem?_eq_some_iff.1 hx
    rw [hown.cellAt k (by omega)]
    unfold sCells
    rw [List.getElem?_map, List.getElem?_eq_getElem hk]; rfl⟩) hW)
  generalize S.words s = ws at *
  clear hE hwn
  go_enter Tryz.func64, Tryz.ntmps64
  go_wp2_with fail
  refine (QF.out _).mono ?_
  rintro e w1 ⟨A, rfl, hown, hb⟩
  have QX := Lib.hid (HX.out A w1 hown (HE.out.below hb hg1 hg2))
  have HB := Lib.hid hb
  clear hb hown QF HX
  generalize ws.length = N at *
  go_wp2_with fail
  refine QX.out.mono ?_
  rintro e w5 ⟨hb, hcase⟩
  have HB5 := Lib.hid (HB.out.trans (hb.mono HB.out.size))
  have hsz := HB.out.size
  clear hb QX
  rcases hcase with ⟨l, u, hr, rfl, hown⟩ | ⟨hr, rfl⟩
  · have HO := Lib.hid (hown.base hsz)
    have HQ5 := Lib.hid (HQ.out.trans hr)
    obtain ⟨ao, cap, hv⟩ := hown.form
    generalize (l.map plainD).length = n at hv
    subst hv
    clear hown hr HQ
    go_wp2_with fail
    go_ret2
    exact ⟨HB5.out, Or.inl ⟨l, _, HQ5.out, rfl, HO.out⟩⟩
  · have HQ5 := Lib.hid (HQ.out.trans hr)
    clear hr HQ
    go_wp2_with fail
    go_ret2
    exact ⟨HB5.out, Or.inr ⟨HQ5.out, rfl⟩⟩

theorem expand (nm s : List UInt8) (w : World) (hn : nm.length ≤ 1000000) (hs : s.length ≤ 90000) (hE : YEnv w) :
    Calls Tryz.prog 64 #[.string ⟨nm.toArray⟩, .string ⟨s.toArray⟩] w (EachPost (S.expand nm s) w) := by
  by_cases hf : nm = [102, 108, 101, 120]
  · subst hf; exact expand_flex s w hs hE
  · cases hsd : S.sidesOf nm with
    | none => exact expand_one nm s w hn hs hE hf hsd
    | some ns => exact expand_sides nm s ns w hn hs hE hsd

end Y
end Go.Proofs.YtafkeolpadfjfaaGreatDoor

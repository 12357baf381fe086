/- The statement MarkupKinds: it returns true at every two strings. -/
import Derived.Test.YtlnginciehjlnaaGreatDoorFin
import Derived.Test.YtlnginciehjlnaaGreatDoorLater
import Derived.Test.YtlnginciehjlnaaGreatDoorKinds1
import Derived.Deep.DeepCutAuto
import Derived.IntWalk
set_option linter.unusedVariables false
set_option linter.unusedSimpArgs false
namespace Go.Proofs.YtlnginciehjlnaaGreatDoor
open Go.RowKit
namespace M

theorem all_lenK : ∀ (n : Nat) (raw s : List UInt8), (all n raw s).length ≤ s.length
  | 0, _, _ => by unfold all; simp
  | n + 1, raw, s => by
    unfold all
    split
    · simp
    · rename_i hs
      have hf := step_fits raw s true (ne_len hs) (step_true raw s)
      have ih := all_lenK n (step raw s true).2 (s.drop (step raw s true).1.n)
      rw [List.length_drop] at ih
      split
      · omega
      · rw [List.length_cons]; omega
theorem run_lenK (raw s : List UInt8) : (run raw s).length ≤ s.length := all_lenK _ raw s

/-- Names are no longer than the text. -/
def Short (N : Nat) (t : Tok) : Prop := t.name.length ≤ N ∧ ∀ p ∈ t.attrs, p.1.length ≤ N

theorem short_none (N : Nat) (k : Nat) (t : List UInt8) (c : Bool) (x : List UInt8) (h : t.length ≤ N) : Short N ⟨k, t, [], c, x⟩ := ⟨h, fun p hp => by cases hp⟩

theorem attr_short {c : UInt8} {r u : List UInt8} {a : List UInt8 × List UInt8} (h : attr c r = some (a, u)) : a.1.length ≤ r.length + 1 := by
  have h0 := K.tw_le inName r
  have hn : a.1 = lower (c :: r.takeWhile inName) := by
    unfold attr at h
    split at h
    · cases h
    · split at h
      · cases h
      · split at h
        · split at h
          · cases h
          · rw [← (Prod.mk.inj (Option.some.inj h)).1]
        · rw [← (Prod.mk.inj (Option.some.inj h)).1]
  rw [hn]
  simp only [lower, List.length_map, List.length_cons]
  omega

theorem tagLoop_short (N : Nat) : ∀ (n : Nat) (l : List (List UInt8 × List UInt8)) (r : List UInt8) {y : List (List UInt8 × List UInt8) × Bool × List UInt8}, r.length ≤ N → (∀ p ∈ l, p.1.length ≤ N) → tagLoop n l r = some y → ∀ p ∈ y.1, p.1.length ≤ N
  | 0, l, r, _, _, _, h => by cases h
  | n + 1, l, r, y, hr, hl, h => by
    have h0 := dw_le skips r
    unfold tagLoop at h
    split at h
    · cases h
    · rename_i d t heq
      rw [heq, List.length_cons] at h0
      split at h
      · rw [← Option.some.inj h]; exact hl
      · split at h
        · cases h
        · rename_i a u hv
          have h1 := attr_short hv
          have h2 := attr_rest hv
          refine tagLoop_short N n _ _ (by omega) (fun p hp => ?_) h
          unfold add at hp
          split at hp
          · exact hl p hp
          · split at hp
            · rcases List.mem_append.1 hp with hp | hp
              · exact hl p hp
              · obtain rfl : p = a := by simpa using hp
                omega
            · exact hl p hp

theorem lower_len (l : List UInt8) : (lower l).length = l.length := by simp [lower]

theorem upto_short (N : Nat) (s mark : List UInt8) (skip kind : Nat) (e : Bool) : Short N (upto s skip mark kind e).tok := by
  rw [K.upto_shape]; exact short_none N _ _ _ _ (by simp)
theorem endTag_short (s : List UInt8) (e : Bool) : Short s.length (endTag s e).tok := by
  unfold endTag
  split
  · exact short_none _ _ _ _ _ (by simp)
  · refine short_none _ _ _ _ _ ?_
    have := K.tw_le goesOn (s.drop 2)
    rw [List.length_drop] at this
    rw [lower_len]; omega
theorem startTag_short (s : List UInt8) (e : Bool) : Short s.length (startTag s e).tok := by
  unfold startTag
  split
  · exact short_none _ _ _ _ _ (by simp)
  · rename_i t u hst
    have h0 := dw_le goesOn (s.drop 1)
    have h1 := K.tw_le goesOn (s.drop 1)
    rw [List.length_drop] at h0 h1
    unfold start at hst
    split at hst
    · cases hst
    · rename_i l c u' hv
      rw [← (Prod.mk.inj (Option.some.inj hst)).1]
      refine ⟨?_, tagLoop_short s.length _ _ _ (by omega) (fun p hp => by cases hp) hv⟩
      show (lower ((s.drop 1).takeWhile goesOn)).length ≤ _
      rw [lower_len]; omega
theorem plain_short (N : Nat) (s : List UInt8) (e : Bool) : Short N (plain s e).tok := by
  unfold plain
  split <;> exact short_none _ _ _ _ _ (by simp)
theorem normal_short (s : List UInt8) (e : Bool) : Short s.length (normal s e).tok := by
  unfold normal
  split
  · exact short_none _ _ _ _ _ (by simp)
  · split
    · exact upto_short _ _ _ _ _ _
    · split
      · exact short_none _ _ _ _ _ (by simp)
      · split
        · exact plain_short _ _ _
        · split
          · exact startTag_short _ _
          · split
            · exact short_none _ _ _ _ _ (by simp)
            · split
              · exact endTag_short _ _
              · exact upto_short _ _ _ _ _ _
theorem step_short (raw s : List UInt8) (e : Bool) : Short s.length (step raw s e).1.tok := by
  unfold step
  split
  · exact normal_short s e
  · unfold rawStep
    split
    · exact short_none _ _ _ _ _ (by simp)
    · exact endTag_short _ _
    · exact short_none _ _ _ _ _ (by simp)
theorem all_short (N : Nat) : ∀ (n : Nat) (raw s : List UInt8), s.length ≤ N → ∀ t ∈ all n raw s, Short N t
  | 0, _, _, _, t, h => by cases h
  | n + 1, raw, s, hN, t, h => by
    unfold all at h
    split at h
    · cases h
    · have hd : (s.drop (step raw s true).1.n).length ≤ N := by rw [List.length_drop]; omega
      split at h
      · exact all_short N n _ _ hd t h
      · rcases List.mem_cons.1 h with rfl | h
        · have := step_short raw s true
          exact ⟨Nat.le_trans this.1 hN, fun p hp => Nat.le_trans (this.2 p hp) hN⟩
        · exact all_short N n _ _ hd t h

end M
namespace K

theorem refLowerL (l : List UInt8) (w : World) (h : l.length ≤ 1000000) (hl : M.lower l = l) :
    Calls Tryz.prog 25 #[.string ⟨l.toArray⟩] w fun e w' => e = .returned (.string ⟨l.toArray⟩) ∧ Below w.heap.size w w' := by
  have := T.refLower ⟨l.toArray⟩ w (by rw [T.bytes_size]; omega)
  rw [T.bytes_toList] at this
  have e1 : l.map T.low = l := hl
  rw [e1] at this
  exact this

theorem toks_len {s : List UInt8} (h : s.length ≤ 2000) : (toks s).length ≤ 10000 := by
  have h1 := M.run_lenK [] (U.nlr false (U.rep s))
  have h2 := U.nlr_length (U.rep s) false
  have h3 := U.rep_le s
  unfold toks
  omega

/-- The cells of a copied token. -/
def Cp (R : Nat) (tk : Nat) (tn : List UInt8) (x : Value) (tc : Bool) (tt : List UInt8) (w : World) : Prop :=
  w.cell? ⟨R, 0, none⟩ = some (.int .i64 tk) ∧ w.cell? ⟨R, 1, none⟩ = some (.string ⟨tn.toArray⟩) ∧ w.cell? ⟨R, 2, none⟩ = some x ∧ w.cell? ⟨R, 3, none⟩ = some (.bool tc) ∧ w.cell? ⟨R, 4, none⟩ = some (.string ⟨tt.toArray⟩)

theorem Cp.below {R tk : Nat} {tn : List UInt8} {x : Value} {tc : Bool} {tt : List UInt8} {w w' : World} (h : Cp R tk tn x tc tt w) (hR : R < w.heap.size) (b : Below w.heap.size w w') : Cp R tk tn x tc tt w' := by
  have hc : ∀ o, w'.cell? ⟨R, o, none⟩ = w.cell? ⟨R, o, none⟩ := fun o => b.cell (p := ⟨R, o, none⟩) hR
  obtain ⟨h0, h1, h2, h3, h4⟩ := h
  exact ⟨(hc _).trans h0, (hc _).trans h1, (hc _).trans h2, (hc _).trans h3, (hc _).trans h4⟩

set_option maxHeartbeats 4000000 in
set_option maxRecDepth 100000 in
theorem MarkupKinds (s n : List UInt8) (w : World) (hs0 : s.length ≤ 9223372036854775807) (hn0 : n.length ≤ 9223372036854775807) (hE : Env w) :
    Calls Tryz.prog 9 #[.string ⟨s.toArray⟩, .string ⟨n.toArray⟩] w fun e w' => e = .returned (.bool true) ∧ Below w.heap.size w w' := by
  have HE := Lib.hid hE
  clear hE
  by_cases hs : s.length ≤ 1500
  · have hs1 : (s.length : Int) ≤ 1500 := by omega
    have QT := Lib.hid (fun W h => Tokens s W (by omega) h)
    have HG : Hid (∀ t ∈ toks s, M.Good t) := Lib.hid (M.run_good _)
    have htl := toks_len (s := s) (by omega)
    have HN : Hid (∀ t ∈ toks s, M.Short 10000 t) := Lib.hid (M.all_short 10000 _ [] _ (by have h2 := U.nlr_length (U.rep s) false; have h3 := U.rep_le s; omega))
    generalize toks s = TS at *
    go_enter Tryz.func9, Tryz.ntmps9
    go_wp2_with fail
    refine (awake _ HE.out).mono ?_
    rintro e w1 ⟨rfl, b1⟩
    have HE1 := Lib.hid (HE.out.same b1)
    go_wp2_with fail
    refine (QT.out _ HE1.out).mono ?_
    rintro e w2 ⟨v, rfl, hts, b2⟩
    have HE2 := Lib.hid (HE1.out.same b2)
    have hb12 := b1.trans (b2.mono b1.size)
    have HTS := Lib.hid hts
    obtain ⟨ao, cap, rfl⟩ := toks_form hts
    clear hts QT
    go_wp2_with fail
    go_loopw [6] (fun u wr => ∃ k : Nat, u = .int .i64 k ∧ k ≤ TS.length ∧ Below w2.heap.size w2 wr) (fun u _ => TS.length - (intOf u).toNat)
    case atStart => exact ⟨0, rfl, Nat.zero_le _, Below.refl _ _⟩
    case round =>
      obtain ⟨k, rfl, hk, hB⟩ := hrel
      obtain ⟨wo, rfl⟩ : ∃ wo : World, wo = wr := ⟨_, rfl⟩
      by_cases hlt : k < TS.length
      · have hlt1 : (k : Int) < (TS.length : Int) := by omega
        obtain ⟨g1, x1, t1, ha1⟩ := toks_at HTS.out hlt
        have hgood := HG.out TS[k] (List.getElem_mem hlt)
        have hshort := HN.out TS[k] (List.getElem_mem hlt)
        generalize TS[k] = t at *
        obtain ⟨tk, tn, ta, tc, tt⟩ := t
        obtain ⟨gk, gtag, grest, gonly, gtext, glow, gat⟩ := hgood
        dsimp only at ha1 gk gtag grest gonly gtext glow gat
        obtain ⟨y1, c1, rfl⟩ := attrs_form ha1
        obtain ⟨⟨d1, f1⟩, l1, e0, e1, e2, e3, e4⟩ := t1.below hB
        dsimp only at e0 e1 e3 e4
        injection f1 with f1 _ f1'
        subst f1 f1'
        have hal := own_len ha1
        have HA1 := Lib.hid ha1
        have hnl : tn.length ≤ 1000000 := Nat.le_trans hshort.1 (by omega)
        have HSH := Lib.hid hshort.2
        have QL := Lib.hid (fun W => refLowerL tn W hnl glow)
        have GAT := Lib.hid gat
        have ga64 := gat.len
        clear ha1 t1 glow gat hshort
        go_upto_region 8 with fail
        refine code_gen ?_
        intro F hF
        have hBF : Below wo.heap.size wo F := by rw [hF]; exact (Below.refl _ _).alloc (Nat.le_refl _) _
        have hFt : F.heap[wo.heap.size]? = some (.cells #[.int .i64 tk, .string ⟨tn.toArray⟩, .slice y1 ta.length c1, .bool tc, .string ⟨tt.toArray⟩] 30 (0, 0)) := by rw [hF]; exact heap_alloc_new _ _
        obtain ⟨hcr, _⟩ := cells_of hFt
        have HCP : Hid (Cp wo.heap.size tk tn (.slice y1 ta.length c1) tc tt F) := Lib.hid ⟨hcr 0, hcr 1, hcr 2, hcr 3, hcr 4⟩
        have hlR := lt_of_block hFt
        have hB2 : Below w2.heap.size w2 F := hB.trans (hBF.mono hB.size)
        have hzB := hB.size
        have hzF := hBF.size
        clear hF hcr hFt hBF e0 e1 e2 e3 e4 l1
        obtain ⟨R, hR⟩ : ∃ R, R = wo.heap.size := ⟨_, rfl⟩
        rw [← hR] at HCP hlR ⊢
        clear hR
        have hkind : tk = 1 ∨ tk = 2 ∨ tk = 3 ∨ tk = 4 ∨ tk = 5 := by omega
        obtain ⟨B, hBv⟩ : ∃ B, B = decide (tk = 1 ∨ tk = 2) := ⟨_, rfl⟩
        go_cut [8] (fun s8 wx => s8 = .bool B ∧ wx = F)
        case first =>
          obtain ⟨q0, q1, q2, q3, q4⟩ := HCP.out
          rcases hkind with rfl | rfl | rfl | rfl | rfl
          all_goals (subst hBv; go_wp2_with fail; go_meet; exact ⟨rfl, rfl⟩)
        case rest =>
         obtain ⟨rfl, hwF⟩ := hcut
         have hFw := hwF.symm
         clear hwF
         subst hFw
         go_upto_region 9 with fail
         go_cut [99] (fun s99 wx => s99 = .bool false ∧ Below F.heap.size F wx)
         case first =>
          obtain ⟨q0, q1, q2, q3, q4⟩ := HCP.out
          have ga65 : (ta.length : Int) ≤ 64 := by omega
          rcases hkind with rfl | rfl | rfl | rfl | rfl
          · have q0' : F.cell? ⟨R, 0, none⟩ = some (.int .i64 1) := q0
            obtain ⟨hne, rfl⟩ := gtag (by decide)
            have hne2 : tn.isEmpty = false := by cases tn with | nil => exact absurd rfl hne | cons _ _ => rfl
            have q4' : F.cell? ⟨R, 4, none⟩ = some (.string ⟨#[]⟩) := q4
            obtain rfl : B = true := hBv.trans (by decide)
            have Q0 := fun d : Later F.heap.size F => Later.cell q0' hlR d
            have Q1 := fun d : Later F.heap.size F => Later.cell q1 hlR d
            have Q2 := fun d : Later F.heap.size F => Later.cell q2 hlR d
            have Q3 := fun d : Later F.heap.size F => Later.cell q3 hlR d
            have Q4 := fun d : Later F.heap.size F => Later.cell q4' hlR d
            clear gtag grest gonly gtext q0 q1 q2 q3 q4 q0' q4' hBv hne
            refine wp_region_later (by kernel_rfl) (by kernel_rfl) ?_
            repeat (go_big_quiet_step ((go_at_call 25; exact Calls.later (QL.out _))))
            refine wpQuiet_nil ?_
            intro _ hw'
            obtain ⟨dq, hw''⟩ := hw'
            subst hw''
            go_wp2_with fail
            go_meet
            first | exact ⟨rfl, dq.h⟩ | exact ⟨congrArg Value.bool (decide_eq_false (by omega)), dq.h⟩
          · have q0' : F.cell? ⟨R, 0, none⟩ = some (.int .i64 2) := q0
            obtain ⟨hne, rfl⟩ := gtag (by decide)
            have hne2 : tn.isEmpty = false := by cases tn with | nil => exact absurd rfl hne | cons _ _ => rfl
            have q4' : F.cell? ⟨R, 4, none⟩ = some (.string ⟨#[]⟩) := q4
            obtain rfl : B = true := hBv.trans (by decide)
            obtain ⟨rfl, rfl⟩ := gonly (by decide)
            have Q0 := fun d : Later F.heap.size F => Later.cell q0' hlR d
            have Q1 := fun d : Later F.heap.size F => Later.cell q1 hlR d
            have Q2 := fun d : Later F.heap.size F => Later.cell q2 hlR d
            have Q3 := fun d : Later F.heap.size F => Later.cell q3 hlR d
            have Q4 := fun d : Later F.heap.size F => Later.cell q4' hlR d
            clear gtag grest gonly gtext q0 q1 q2 q3 q4 q0' q4' hBv hne
            refine wp_region_later (by kernel_rfl) (by kernel_rfl) ?_
            repeat (go_big_quiet_step ((go_at_call 25; exact Calls.later (QL.out _))))
            refine wpQuiet_nil ?_
            intro _ hw'
            obtain ⟨dq, hw''⟩ := hw'
            subst hw''
            go_wp2_with fail
            go_meet
            first | exact ⟨rfl, dq.h⟩ | exact ⟨congrArg Value.bool (decide_eq_false (by omega)), dq.h⟩
          · have q0' : F.cell? ⟨R, 0, none⟩ = some (.int .i64 3) := q0
            obtain rfl : tn = [] := grest (by decide)
            obtain rfl : B = false := hBv.trans (by decide)
            have q4' := q4
            obtain ⟨rfl, rfl⟩ := gonly (by decide)
            have hte := gtext rfl
            have hte2 : tt.isEmpty = false := by cases tt with | nil => exact absurd rfl hte | cons _ _ => rfl
            have Q0 := fun d : Later F.heap.size F => Later.cell q0' hlR d
            have Q1 := fun d : Later F.heap.size F => Later.cell q1 hlR d
            have Q2 := fun d : Later F.heap.size F => Later.cell q2 hlR d
            have Q3 := fun d : Later F.heap.size F => Later.cell q3 hlR d
            have Q4 := fun d : Later F.heap.size F => Later.cell q4' hlR d
            clear gtag grest gonly gtext q0 q1 q2 q3 q4 q0' q4' hBv hte
            refine wp_region_later (by kernel_rfl) (by kernel_rfl) ?_
            repeat (go_big_quiet_step ((go_at_call 25; exact Calls.later (QL.out _))))
            refine wpQuiet_nil ?_
            intro _ hw'
            obtain ⟨dq, hw''⟩ := hw'
            subst hw''
            go_wp2_with fail
            go_meet
            first | exact ⟨rfl, dq.h⟩ | exact ⟨congrArg Value.bool (decide_eq_false (by omega)), dq.h⟩
          · have q0' : F.cell? ⟨R, 0, none⟩ = some (.int .i64 4) := q0
            obtain rfl : tn = [] := grest (by decide)
            obtain rfl : B = false := hBv.trans (by decide)
            have q4' := q4
            obtain ⟨rfl, rfl⟩ := gonly (by decide)
            have Q0 := fun d : Later F.heap.size F => Later.cell q0' hlR d
            have Q1 := fun d : Later F.heap.size F => Later.cell q1 hlR d
            have Q2 := fun d : Later F.heap.size F => Later.cell q2 hlR d
            have Q3 := fun d : Later F.heap.size F => Later.cell q3 hlR d
            have Q4 := fun d : Later F.heap.size F => Later.cell q4' hlR d
            clear gtag grest gonly gtext q0 q1 q2 q3 q4 q0' q4' hBv
            refine wp_region_later (by kernel_rfl) (by kernel_rfl) ?_
            repeat (go_big_quiet_step ((go_at_call 25; exact Calls.later (QL.out _))))
            refine wpQuiet_nil ?_
            intro _ hw'
            obtain ⟨dq, hw''⟩ := hw'
            subst hw''
            go_wp2_with fail
            go_meet
            first | exact ⟨rfl, dq.h⟩ | exact ⟨congrArg Value.bool (decide_eq_false (by omega)), dq.h⟩
          · have q0' : F.cell? ⟨R, 0, none⟩ = some (.int .i64 5) := q0
            obtain rfl : tn = [] := grest (by decide)
            obtain rfl : B = false := hBv.trans (by decide)
            have q4' := q4
            obtain ⟨rfl, rfl⟩ := gonly (by decide)
            have Q0 := fun d : Later F.heap.size F => Later.cell q0' hlR d
            have Q1 := fun d : Later F.heap.size F => Later.cell q1 hlR d
            have Q2 := fun d : Later F.heap.size F => Later.cell q2 hlR d
            have Q3 := fun d : Later F.heap.size F => Later.cell q3 hlR d
            have Q4 := fun d : Later F.heap.size F => Later.cell q4' hlR d
            clear gtag grest gonly gtext q0 q1 q2 q3 q4 q0' q4' hBv
            refine wp_region_later (by kernel_rfl) (by kernel_rfl) ?_
            repeat (go_big_quiet_step ((go_at_call 25; exact Calls.later (QL.out _))))
            refine wpQuiet_nil ?_
            intro _ hw'
            obtain ⟨dq, hw''⟩ := hw'
            subst hw''
            go_wp2_with fail
            go_meet
            first | exact ⟨rfl, dq.h⟩ | exact ⟨congrArg Value.bool (decide_eq_false (by omega)), dq.h⟩
         case rest =>
          obtain ⟨rfl, bF⟩ := hcut
          have hB3 : Below w2.heap.size w2 wc := hB2.trans (bF.mono (by omega))
          have HC2 := Lib.hid (HCP.out.below hlR bF)
          have hlR2 : R < wc.heap.size := Nat.lt_of_lt_of_le hlR bF.size
          have HA2 := Lib.hid (own_below hB3 HA1.out)
          have c2 := HC2.out.2.2.1
          clear hBv gtag grest gonly gtext hkind bF hB2 hzF
          go_wp2_with fail
          go_loopw [9] (fun u wx => ∃ m : Nat, u = .int .i64 m ∧ m ≤ ta.length ∧ Below wc.heap.size wc wx) (fun u _ => ta.length - (intOf u).toNat)
          case atStart => exact ⟨0, rfl, Nat.zero_le _, Below.refl _ _⟩
          case round =>
            obtain ⟨m, rfl, hm, hBm⟩ := hrel
            have hzm := hBm.size
            clear c2
            have c2 : wr.cell? ⟨R, 2, none⟩ = some (.slice y1 ta.length c1) := (hBm.cell (p := ⟨R, 2, none⟩) hlR2).trans HC2.out.2.2.1
            have hlRr : R < wr.heap.size := by omega
            by_cases hlm : m < ta.length
            · have hm0 : (0 : Int) ≤ (m : Int) := by omega
              have hm1 : (m : Int) < (ta.length : Int) := by omega
              obtain ⟨ga, za⟩ := attrs_at HA2.out hlm
              have zb := za.below hBm
              obtain ⟨hpn1, hpn2⟩ := GAT.out.name ta[m] (List.getElem_mem hlm)
              have hpl : ta[m].1.length ≤ 1000000 := Nat.le_trans (HSH.out _ (List.getElem_mem hlm)) (by omega)
              have QP := Lib.hid (fun W => refLowerL ta[m].1 W hpl hpn2)
              obtain ⟨⟨d3, f3⟩, l3, r0, r1⟩ := zb
              injection f3 with f3 _ f3'
              subst f3 f3'
              have hpe : ta[m].1.isEmpty = false := by cases hh : ta[m].1 with | nil => exact absurd hh hpn1 | cons _ _ => rfl
              rcases Nat.eq_zero_or_pos m with hm00 | hmp
              · have hm01 : (m : Int) ≤ 0 := by omega
                have hm02 : decide (0 < m) = false := decide_eq_false (by omega)
                generalize ta[m].1 = pn at *
                have X2 := fun d : Later wr.heap.size wr => Later.cell c2 hlRr d
                have X0 := fun d : Later wr.heap.size wr => Later.cell r0 l3 d
                clear za r1 hpn1 hpn2 hm00
                go_wp2_with fail
                refine wp_region_later (by kernel_rfl) (by kernel_rfl) ?_
                repeat (go_big_quiet_step ((go_at_call 25; exact Calls.later (QP.out _))))
                refine wpQuiet_nil ?_
                intro _ hw'
                obtain ⟨dq, hw''⟩ := hw'
                subst hw''
                go_wp2_with fail
                go_roundw
                case rel => exact ⟨m + 1, by go_num, by omega, hBm.trans (dq.h.mono hzm)⟩
                case measure => simp [intOf]; omega
              · obtain ⟨m', rfl⟩ : ∃ m', m = m' + 1 := ⟨m - 1, by omega⟩
                have hap := (List.pairwise_iff_getElem.1 GAT.out.apart) m' (m' + 1) (by omega) hlm (by omega)
                obtain ⟨gb, zb⟩ := attrs_at HA2.out (k := m') (by omega)
                obtain ⟨⟨d4, f4⟩, l4, s0, s1⟩ := zb.below hBm
                injection f4 with f4 _ f4'
                injection f4 with f4
                injection f4 with f4
                subst f4
                have hpq : (ta[m' + 1].1 == ta[m'].1) = false := by simpa using fun h => hap h.symm
                have hs1 : IntKind.i64.wrap (((m' + 1 : Nat) : Int) - 1) = (m' : Int) := by
                  rw [show (((m' + 1 : Nat) : Int) - 1) = (m' : Int) by omega]; exact IntWalk.i64_in _ (by omega)
                have hs2 : (((m' + 1 : Nat) : Int) - 1) = (m' : Int) := by omega
                have hs3 : (0 : Int) ≤ (m' : Int) := by omega
                have hs4 : (m' : Int) < (ta.length : Int) := by omega
                generalize ta[m' + 1].1 = pn at *
                generalize ta[m'].1 = pq at *
                have X2 := fun d : Later wr.heap.size wr => Later.cell c2 hlRr d
                have X0 := fun d : Later wr.heap.size wr => Later.cell r0 l3 d
                have X1 := fun d : Later wr.heap.size wr => Later.cell s0 l3 d
                have hmp1 : (0 : Int) < ((m' + 1 : Nat) : Int) := by omega
                clear za zb r1 s1 hpn1 hpn2 hap
                go_wp2_with fail
                refine wp_region_later (by kernel_rfl) (by kernel_rfl) ?_
                repeat (go_big_quiet_step ((go_at_call 25; exact Calls.later (QP.out _))))
                refine wpQuiet_nil ?_
                intro _ hw'
                obtain ⟨dq, hw''⟩ := hw'
                subst hw''
                go_wp2_with fail
                go_roundw
                case rel => exact ⟨m' + 1 + 1, by go_num, by omega, hBm.trans (dq.h.mono hzm)⟩
                case measure => simp [intOf]; omega
            · have hge : (ta.length : Int) ≤ (m : Int) := by omega
              go_wp2_with fail
              go_roundw
              case rel =>
                have hbb := hB3.trans (hBm.mono (by have := hB3.size; omega))
                first | exact ⟨k + 1, by go_num, by omega, hbb⟩ | ((repeat apply Exists.intro); exact ⟨⟨k + 1, by go_num, by omega, hbb⟩, rfl⟩)
              case measure => simp [intOf]; omega
      · have hge : (TS.length : Int) ≤ (k : Int) := by omega
        have HEo := Lib.hid (HE2.out.same hB)
        have Q1 := Lib.hid (fun W h => IsVoid n W h)
        have Q2 := Lib.hid (fun W => rVoid n W)
        have Q3 := Lib.hid (fun W h => IsRaw n W h)
        have Q4 := Lib.hid (fun W => rRaw n W)
        have Q5 := Lib.hid (fun W h => IsPlain n W h)
        have Q6 := Lib.hid (fun W => rPlain n W)
        generalize isVoid n = B1 at *
        generalize M.isRaw n = B2 at *
        generalize M.isPlain n = B3 at *
        go_wp2_with fail
        refine (Q1.out _ HEo.out).mono ?_
        rintro e w3 ⟨rfl, b3⟩
        go_wp2_with fail
        refine (Q2.out _).mono ?_
        rintro e w4 ⟨rfl, b4⟩
        have HE4 := Lib.hid ((HEo.out.same b3).same b4)
        go_wp2_with fail
        refine (Q3.out _ HE4.out).mono ?_
        rintro e w5 ⟨rfl, b5⟩
        go_wp2_with fail
        refine (Q4.out _).mono ?_
        rintro e w6 ⟨rfl, rfl⟩
        have HE5 := Lib.hid (HE4.out.same b5)
        go_wp2_with fail
        refine (Q5.out _ HE5.out).mono ?_
        rintro e w7 ⟨rfl, b7⟩
        go_wp2_with fail
        refine (Q6.out _).mono ?_
        rintro e w8 ⟨rfl, rfl⟩
        go_wp2_with fail
        go_ret
        have z1 := hb12.size
        have z2 := hB.size
        have z3 := b3.size
        have z4 := b4.size
        have z5 := b5.size
        exact ⟨rfl, ((((hb12.trans (hB.mono z1)).trans (b3.mono (by omega))).trans (b4.mono (by omega))).trans (b5.mono (by omega))).trans (b7.mono (by omega))⟩
  · have hs1 : 1500 < (s.length : Int) := by omega
    clear hs
    go_enter Tryz.func9, Tryz.ntmps9
    go_wp2_with fail
    refine (awake _ HE.out).mono ?_
    rintro e w1 ⟨rfl, b1⟩
    have HE1 := Lib.hid (HE.out.same b1)
    go_wp2_with fail
    refine (awake _ HE1.out).mono ?_
    rintro e w2 ⟨rfl, b2⟩
    go_wp2_with fail
    go_ret
    exact ⟨rfl, b1.trans (b2.mono b1.size)⟩

end K
end Go.Proofs.YtlnginciehjlnaaGreatDoor

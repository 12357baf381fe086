/- The statement MarkupTags: it returns true at every two slices of strings and every Boolean. -/
import Derived.Test.YtlnginciehjlnaaGreatDoorFin
import Derived.Test.YtlnginciehjlnaaGreatDoorEnv
import Derived.Test.YtlnginciehjlnaaGreatDoorRefA
import Derived.Test.YtlnginciehjlnaaGreatDoorTags1
import Derived.Test.YtlnginciehjlnaaGreatDoorLater
import Derived.Deep.RegionHeld3
import Derived.Deep.DeepCutAuto
import Derived.Deep.QuietTactic
import Derived.BigQuiet
set_option linter.unusedVariables false
set_option linter.unusedSimpArgs false
namespace Go.Proofs.YtlnginciehjlnaaGreatDoor
open Go.RowKit
namespace K

/-- The first pairs of names and values. -/
def prs (S V : Nat → List UInt8) (k : Nat) : List (List UInt8 × List UInt8) := (List.range k).map (fun j => (S j, V j))
theorem prs_succ (S V : Nat → List UInt8) (k : Nat) : prs S V (k + 1) = prs S V k ++ [(S k, V k)] := by simp [prs, List.range_succ]
theorem prs_length (S V : Nat → List UInt8) (k : Nat) : (prs S V k).length = k := by simp [prs]
theorem prs_get (S V : Nat → List UInt8) (k j : Nat) (h : j < (prs S V k).length) : (prs S V k)[j] = (S j, V j) := by simp [prs]
theorem prs_mem {S V : Nat → List UInt8} {k : Nat} {p : List UInt8 × List UInt8} (h : p ∈ prs S V k) : ∃ j, j < k ∧ p = (S j, V j) := by
  unfold prs at h
  obtain ⟨j, hj, rfl⟩ := List.mem_map.1 h
  exact ⟨j, List.mem_range.1 hj, rfl⟩

/-- The text ahead of its end. -/
def docAt (S V : Nat → List UInt8) (k : Nat) : List UInt8 := [60, 120] ++ M.attrsText (prs S V k)
theorem docAt_succ (S V : Nat → List UInt8) (k : Nat) : docAt S V (k + 1) = docAt S V k ++ (32 :: (S k ++ 61 :: 34 :: (E.escape true (V k) ++ [34]))) := by
  unfold docAt M.attrsText
  rw [prs_succ, List.flatMap_append, List.append_assoc]
  simp [M.one]

structure GoodPrs (S V : Nat → List UInt8) (k : Nat) : Prop where
  each : ∀ j, j < k → (M.Small (S j) ∧ (S j).length ≤ 20) ∧ (V j).length ≤ 100 ∧ U.rep (V j) = V j
  apart : (prs S V k).Pairwise fun p q => p.1 ≠ q.1

theorem GoodPrs.zero (S V : Nat → List UInt8) : GoodPrs S V 0 := ⟨fun j h => by omega, List.Pairwise.nil⟩
theorem GoodPrs.succ {S V : Nat → List UInt8} {k : Nat} (h : GoodPrs S V k) (h1 : M.Small (S k) ∧ (S k).length ≤ 20) (h2 : (V k).length ≤ 100) (h3 : U.rep (V k) = V k) (h4 : ∀ j, j < k → S j ≠ S k) : GoodPrs S V (k + 1) := by
  refine ⟨fun j hj => ?_, ?_⟩
  · rcases Nat.lt_or_ge j k with hj' | hj'
    · exact h.each j hj'
    · obtain rfl : j = k := by omega
      exact ⟨h1, h2, h3⟩
  · rw [prs_succ, List.pairwise_append]
    refine ⟨h.apart, List.pairwise_singleton _ _, fun p hp q hq => ?_⟩
    obtain ⟨j, hj, rfl⟩ := prs_mem hp
    obtain rfl : q = (S k, V k) := by simpa using hq
    exact h4 j hj
theorem GoodPrs.len {S V : Nat → List UInt8} : ∀ {k : Nat}, GoodPrs S V k → (docAt S V k).length ≤ 2 + 630 * k
  | 0, _ => by simp [docAt, prs, M.attrsText]
  | k + 1, h => by
    have h0 : GoodPrs S V k := ⟨fun j hj => h.each j (by omega), by have := h.apart; rw [prs_succ, List.pairwise_append] at this; exact this.1⟩
    have ih := GoodPrs.len h0
    obtain ⟨⟨_, h1⟩, h2, _⟩ := h.each k (by omega)
    have he := E.escape_len true (V k)
    rw [docAt_succ]
    simp only [List.length_append, List.length_cons, List.length_nil]
    omega

theorem plainB_small {s : List UInt8} (h : plainB s = true) : M.Small s ∧ s.length ≤ 20 := by
  unfold plainB at h
  simp only [Bool.and_eq_true, decide_eq_true_eq, List.all_eq_true] at h
  obtain ⟨h1, h2, h3⟩ := h
  refine ⟨⟨by rintro rfl; simp at h2, fun c hc => ?_⟩, h3⟩
  have := h1 c hc
  unfold smallC at this
  simpa using this

/-- The tokens of such a text. -/
theorem tags_toks {S V : Nat → List UInt8} {k : Nat} (h : GoodPrs S V k) (hk : k ≤ 20) (cl : Bool) : toks (M.tagDoc (prs S V k) cl) = [⟨1, [120], prs S V k, cl, []⟩, .txt 3 [121]] := by
  have h1 : ∀ p ∈ prs S V k, M.Small p.1 := fun p hp => by
    obtain ⟨j, hj, rfl⟩ := prs_mem hp
    exact (h.each j hj).1.1
  have h2 : ∀ p ∈ prs S V k, M.Small p.1 ∧ U.rep p.2 = p.2 := fun p hp => by
    obtain ⟨j, hj, rfl⟩ := prs_mem hp
    exact ⟨(h.each j hj).1.1, (h.each j hj).2.2⟩
  exact (toks_plain (M.tagDoc_rep _ cl h2) (M.tagDoc_no13 _ cl h1)).trans (M.run_tags _ cl h1 h.apart (by rw [prs_length]; omega))

theorem tagDoc_eq (S V : Nat → List UInt8) (k : Nat) (cl : Bool) : M.tagDoc (prs S V k) cl = docAt S V k ++ ((if cl then [47] else []) ++ [62, 121]) := by
  unfold M.tagDoc docAt
  rw [List.append_assoc]

set_option maxHeartbeats 8000000 in
set_option maxRecDepth 100000 in
theorem MarkupTags (ao1 : Option Addr) (n1 c1 : Nat) (S : Nat → List UInt8) (ao2 : Option Addr) (n2 c2 : Nat) (V : Nat → List UInt8) (cl : Bool) (w : World) (hn1 : n1 ≤ 9223372036854775807) (hS : StrArg w ao1 n1 S) (hn2 : n2 ≤ 9223372036854775807) (hV : StrArg w ao2 n2 V) (hE : Env w) :
    Calls Tryz.prog 4 #[.slice ao1 n1 c1, .slice ao2 n2 c2, .bool cl] w fun e w' => e = .returned (.bool true) ∧ Below w.heap.size w w' := by
  have HE := Lib.hid hE
  have HS := Lib.hid hS
  have HV := Lib.hid hV
  clear hE hS hV
  by_cases h20 : n1 ≤ 20
  · have h20' : (n1 : Int) ≤ 20 := by omega
    by_cases hle : n1 ≤ n2
    · have hle' : (n1 : Int) ≤ (n2 : Int) := by omega
      go_enter Tryz.func4, Tryz.ntmps4
      go_wp2_with fail
      refine (awake _ HE.out).mono ?_
      rintro e w1 ⟨rfl, b1⟩
      have z1 := b1.size
      have HE1 := Lib.hid (HE.out.same b1)
      go_wp2_with fail
      go_loopw [7, 8] (fun u v wr => ∃ k : Nat, u = .string ⟨(docAt S V k).toArray⟩ ∧ v = .int .i64 k ∧ k ≤ n1 ∧ Below w1.heap.size w1 wr ∧ Hid (GoodPrs S V k)) (fun _ v _ => n1 - (intOf v).toNat)
      case atStart => exact ⟨0, rfl, rfl, Nat.zero_le _, Below.refl _ _, Lib.hid (GoodPrs.zero S V)⟩
      case round =>
        obtain ⟨k, rfl, rfl, hk, hB, HG⟩ := hrel
        obtain ⟨wo, rfl⟩ : ∃ wo : World, wo = wr := ⟨_, rfl⟩
        have hzB := hB.size
        by_cases hlt : k < n1
        · have hlt1 : (k : Int) < (n1 : Int) := by omega
          have hlt0 : (0 : Int) ≤ (k : Int) := by omega
          have hlt2 : (k : Int) < (n2 : Int) := by omega
          obtain ⟨g1, o1, rfl, hg1, hcs⟩ := HS.out (by omega)
          obtain ⟨g2, o2, rfl, hg2, hcv⟩ := HV.out (by omega)
          have hl1 : g1 < wo.heap.size := by omega
          have hl2 : g2 < wo.heap.size := by omega
          obtain ⟨hck, hsz⟩ := hcs k hlt
          obtain ⟨hcv1, hvz⟩ := hcv k (by omega)
          have x1 : wo.cell? ⟨g1, o1 + k, none⟩ = some (.string ⟨(S k).toArray⟩) := by
            rw [hB.cell (p := ⟨g1, o1 + k, none⟩) (by show g1 < _; omega), b1.cell (p := ⟨g1, o1 + k, none⟩) hg1]; exact hck
          have x2 : wo.cell? ⟨g2, o2 + k, none⟩ = some (.string ⟨(V k).toArray⟩) := by
            rw [hB.cell (p := ⟨g2, o2 + k, none⟩) (by show g2 < _; omega), b1.cell (p := ⟨g2, o2 + k, none⟩) hg2]; exact hcv1
          obtain ⟨nm, hnm⟩ : ∃ nm, S k = nm := ⟨_, rfl⟩
          obtain ⟨vl, hvl⟩ : ∃ vl, V k = vl := ⟨_, rfl⟩
          rw [hnm] at x1 hsz
          rw [hvl] at x2 hvz
          have HNM := Lib.hid hnm
          have HVL := Lib.hid hvl
          have HCS := Lib.hid hcs
          have X1 := fun d : Later wo.heap.size wo => Later.cell x1 hl1 d
          have X2 := fun d : Later wo.heap.size wo => Later.cell x2 hl2 d
          clear hnm hvl hck hcv1 hcs hcv
          have q1 := fun W => lplain nm W hsz
          obtain ⟨BAD, hBAD⟩ : ∃ BAD, (!plainB nm || (decide (100 < vl.length) || (!(U.rep vl == vl) || !(U.nlr false vl == vl)))) = BAD := ⟨_, rfl⟩
          have HBAD := Lib.hid hBAD
          clear hBAD
          go_upto_region 7 with fail
          go_cut [70] (fun s70 wx => s70 = .bool BAD ∧ Below wo.heap.size wo wx)
          case first =>
            cases hp : plainB nm with
            | false =>
              rw [hp] at q1
              have QP := Lib.hid q1
              have HB1 : Hid (BAD = true) := Lib.hid (by rw [← HBAD.out, hp]; rfl)
              clear q1 hp HBAD
              refine wp_region_later (by kernel_rfl) (by kernel_rfl) ?_
              repeat (go_big_quiet_step ((first | (go_at_call 14; exact Calls.later_same (QP.out _)))))
              refine wpQuiet_nil ?_
              intro _ hw'
              obtain ⟨dq, hw''⟩ := hw'
              subst hw''
              go_wp2_with fail
              go_meet
              exact ⟨congrArg Value.bool HB1.out.symm, dq.h⟩
            | true =>
              rw [hp] at q1
              have QP := Lib.hid q1
              clear q1
              by_cases h100 : 100 < vl.length
              · have h101 : (100 : Int) < (vl.length : Int) := by omega
                have HB1 : Hid (BAD = true) := Lib.hid (by rw [← HBAD.out, hp, decide_eq_true h100]; rfl)
                clear hp HBAD h100
                refine wp_region_later (by kernel_rfl) (by kernel_rfl) ?_
                repeat (go_big_quiet_step ((first | (go_at_call 14; exact Calls.later_same (QP.out _)))))
                refine wpQuiet_nil ?_
                intro _ hw'
                obtain ⟨dq, hw''⟩ := hw'
                subst hw''
                go_wp2_with fail
                go_meet
                exact ⟨congrArg Value.bool HB1.out.symm, dq.h⟩
              · have h101 : (vl.length : Int) ≤ 100 := by omega
                have h102 : decide ((100 : Int) < (vl.length : Int)) = false := decide_eq_false (by omega)
                have q2 := fun W => refRepairS vl W (by omega)
                have q3 := fun W => refNewlinesS vl W (by omega)
                have HB0 : Hid (BAD = (!(U.rep vl == vl) || !(U.nlr false vl == vl))) := Lib.hid (by rw [← HBAD.out, hp, decide_eq_false h100]; rfl)
                clear hp HBAD h100
                generalize U.rep vl = rv at *
                generalize U.nlr false vl = nv at *
                have QR := Lib.hid q2
                have QN := Lib.hid q3
                clear q2 q3
                cases hr : (rv == vl) with
                | false =>
                  have hr' : (rv != vl) = true := by rw [bne, hr]; rfl
                  have HB1 : Hid (BAD = true) := Lib.hid (by rw [HB0.out, hr]; rfl)
                  clear HB0
                  refine wp_region_later (by kernel_rfl) (by kernel_rfl) ?_
                  repeat (go_big_quiet_step ((first | (go_at_call 14; exact Calls.later_same (QP.out _)) | (go_at_call 15; exact Calls.later (QR.out _)))))
                  refine wpQuiet_nil ?_
                  intro _ hw'
                  obtain ⟨dq, hw''⟩ := hw'
                  subst hw''
                  go_wp2_with fail
                  go_meet
                  exact ⟨congrArg Value.bool HB1.out.symm, dq.h⟩
                | true =>
                  have hr' : (rv != vl) = false := by rw [bne, hr]; rfl
                  cases hn : (nv == vl) with
                  | false =>
                    have hn' : (nv != vl) = true := by rw [bne, hn]; rfl
                    have HB1 : Hid (BAD = true) := Lib.hid (by rw [HB0.out, hr, hn]; rfl)
                    clear HB0
                    refine wp_region_later (by kernel_rfl) (by kernel_rfl) ?_
                    repeat (go_big_quiet_step ((first | (go_at_call 14; exact Calls.later_same (QP.out _)) | (go_at_call 15; exact Calls.later (QR.out _)) | (go_at_call 16; exact Calls.later_same (QN.out _)))))
                    refine wpQuiet_nil ?_
                    intro _ hw'
                    obtain ⟨dq, hw''⟩ := hw'
                    subst hw''
                    go_wp2_with fail
                    go_meet
                    exact ⟨congrArg Value.bool HB1.out.symm, dq.h⟩
                  | true =>
                    have hn' : (nv != vl) = false := by rw [bne, hn]; rfl
                    have HB1 : Hid (BAD = false) := Lib.hid (by rw [HB0.out, hr, hn]; rfl)
                    clear HB0
                    refine wp_region_later (by kernel_rfl) (by kernel_rfl) ?_
                    repeat (go_big_quiet_step ((first | (go_at_call 14; exact Calls.later_same (QP.out _)) | (go_at_call 15; exact Calls.later (QR.out _)) | (go_at_call 16; exact Calls.later_same (QN.out _)))))
                    refine wpQuiet_nil ?_
                    intro _ hw'
                    obtain ⟨dq, hw''⟩ := hw'
                    subst hw''
                    go_wp2_with fail
                    go_meet
                    exact ⟨congrArg Value.bool HB1.out.symm, dq.h⟩
          case rest =>
            obtain ⟨rfl, hbx⟩ := hcut
            have hBx := hB.trans (hbx.mono hzB)
            have hzx := hBx.size
            cases hb : BAD with
            | true =>
              clear HBAD q1
              go_wp2_with fail
              go_ret
              exact ⟨rfl, b1.trans (hBx.mono z1)⟩
            | false =>
              have hbd := HBAD.out
              rw [hb] at hbd
              simp only [Bool.or_eq_false_iff, Bool.not_eq_false', decide_eq_false_iff_not, beq_iff_eq] at hbd
              obtain ⟨hp1, hp2, hp3, hp4⟩ := hbd
              have hvl100 : vl.length ≤ 100 := by omega
              have HSM := Lib.hid (plainB_small hp1)
              have HRV := Lib.hid hp3
              have y1 : wc.cell? ⟨g1, o1 + k, none⟩ = some (.string ⟨nm.toArray⟩) := (hbx.cell (p := ⟨g1, o1 + k, none⟩) hl1).trans x1
              have y2 : wc.cell? ⟨g2, o2 + k, none⟩ = some (.string ⟨vl.toArray⟩) := (hbx.cell (p := ⟨g2, o2 + k, none⟩) hl2).trans x2
              have hnl := HSM.out.2
              clear HBAD hp1 hp2 hp3 hp4 q1 x1 x2 X1 X2 hb
              go_wp2_with fail
              go_loopw [9] (fun u wx => ∃ j : Nat, u = .int .i64 j ∧ j ≤ k ∧ Below wc.heap.size wc wx ∧ Hid (∀ m, m < j → S m ≠ nm)) (fun u _ => k - (intOf u).toNat)
              case atStart => exact ⟨0, rfl, Nat.zero_le _, Below.refl _ _, Lib.hid (fun m h => by omega)⟩
              case round =>
                obtain ⟨j, rfl, hj, hBj, HJ⟩ := hrel
                have hzj := hBj.size
                have r1 : wr.cell? ⟨g1, o1 + k, none⟩ = some (.string ⟨nm.toArray⟩) := (hBj.cell (p := ⟨g1, o1 + k, none⟩) (by show g1 < _; omega)).trans y1
                have r2 : wr.cell? ⟨g2, o2 + k, none⟩ = some (.string ⟨vl.toArray⟩) := (hBj.cell (p := ⟨g2, o2 + k, none⟩) (by show g2 < _; omega)).trans y2
                clear y1 y2
                by_cases hjk : j < k
                · have hj0 : (0 : Int) ≤ (j : Int) := by omega
                  have hj1 : (j : Int) < (k : Int) := by omega
                  have hj2 : (j : Int) < (n1 : Int) := by omega
                  have r3 : wr.cell? ⟨g1, o1 + j, none⟩ = some (.string ⟨(S j).toArray⟩) := by
                    rw [hBj.cell (p := ⟨g1, o1 + j, none⟩) (by show g1 < _; omega), hBx.cell (p := ⟨g1, o1 + j, none⟩) (by show g1 < _; omega), b1.cell (p := ⟨g1, o1 + j, none⟩) hg1]
                    exact (HCS.out j (by omega)).1
                  obtain ⟨sj, hsj⟩ : ∃ sj, S j = sj := ⟨_, rfl⟩
                  rw [hsj] at r3
                  cases he : (sj == nm) with
                  | true =>
                    clear hsj HJ
                    go_wp2_with fail
                    go_quiet (fail)
                    go_wp2_with fail
                    go_ret
                    exact ⟨rfl, b1.trans ((hBx.trans ((belowN hBj _).mono hzx)).mono z1)⟩
                  | false =>
                    have HJ' : Hid (∀ m, m < j + 1 → S m ≠ nm) := Lib.hid (fun m hm => by
                      rcases Nat.lt_or_ge m j with h | h
                      · exact HJ.out m h
                      · obtain rfl : m = j := by omega
                        rw [hsj]; simpa using he)
                    clear hsj HJ
                    go_wp2_with fail
                    go_quiet (fail)
                    go_wp2_with fail
                    go_roundw
                    case rel => exact ⟨j + 1, by go_num, by omega, belowN hBj _, HJ'⟩
                    case measure => simp [intOf]; omega
                · obtain rfl : j = k := by omega
                  have HG' : Hid (GoodPrs S V (j + 1)) := Lib.hid (HG.out.succ (by rw [HNM.out]; exact HSM.out) (by rw [HVL.out]; exact hvl100) (by rw [HVL.out]; exact HRV.out) (fun m hm => by rw [HNM.out]; exact HJ.out m hm))
                  have hdl := HG.out.len
                  have hdl' := HG'.out.len
                  have hds := docAt_succ S V j
                  rw [HNM.out, HVL.out] at hds
                  have he1 := E.escape_len true vl
                  have QE : Hid (∀ W, Calls Tryz.prog 17 #[.string ⟨vl.toArray⟩, .bool true] W fun e w' => e = .returned (.string ⟨(E.escape true vl).toArray⟩) ∧ w' = W) := Lib.hid (fun W => (refEscape true vl W (by omega)).mono fun _ _ h => ⟨h.1, h.2.symm⟩)
                  generalize E.escape true vl = es at *
                  generalize docAt S V j = d0 at *
                  have a1 : (⟨#[32]⟩ : ByteArray) ++ ⟨nm.toArray⟩ = ⟨(32 :: nm).toArray⟩ := T.append_bytes [32] nm
                  have a2 : (⟨(32 :: nm).toArray⟩ : ByteArray) ++ ⟨#[61, 34]⟩ = ⟨(32 :: nm ++ [61, 34]).toArray⟩ := T.append_bytes _ [61, 34]
                  have a3 := T.append_bytes (32 :: nm ++ [61, 34]) es
                  have a4 : (⟨(32 :: nm ++ [61, 34] ++ es).toArray⟩ : ByteArray) ++ ⟨#[34]⟩ = ⟨(32 :: nm ++ [61, 34] ++ es ++ [34]).toArray⟩ := T.append_bytes _ [34]
                  have a5 : (⟨d0.toArray⟩ : ByteArray) ++ ⟨(32 :: nm ++ [61, 34] ++ es ++ [34]).toArray⟩ = ⟨(docAt S V (j + 1)).toArray⟩ := by
                    rw [T.append_bytes, hds]; simp
                  have l1 : (32 :: nm).length ≤ 1000 := by rw [List.length_cons]; omega
                  have l2 : (32 :: nm ++ [61, 34]).length ≤ 1000 := by simp; omega
                  have l3 : (32 :: nm ++ [61, 34] ++ es).length ≤ 1000 := by simp; omega
                  have l4 : (32 :: nm ++ [61, 34] ++ es ++ [34]).length ≤ 1000 := by simp; omega
                  have l5 : (docAt S V (j + 1)).length ≤ 20000 := by omega
                  have l0 : d0.length ≤ 20000 := by omega
                  generalize 32 :: nm ++ [61, 34] ++ es ++ [34] = m4 at *
                  generalize 32 :: nm ++ [61, 34] ++ es = m3 at *
                  generalize 32 :: nm ++ [61, 34] = m2 at *
                  generalize 32 :: nm = m1 at *
                  obtain ⟨d1, hd1⟩ : ∃ d1, docAt S V (j + 1) = d1 := ⟨_, rfl⟩
                  rw [hd1] at a5 l5
                  have HD1 := Lib.hid hd1
                  have s0 := T.bytes_size d0
                  have s1 := T.bytes_size m1
                  have s2 := T.bytes_size m2
                  have s3 := T.bytes_size m3
                  have s4 := T.bytes_size m4
                  have s5 := T.bytes_size d1
                  have s6 := T.bytes_size es
                  have s7 := T.bytes_size nm
                  clear hd1 hds hdl hdl' HJ HG
                  go_wp2_with fail
                  go_quiet ((go_at_call 17; exact Calls.quiet_of_same (QE.out _)))
                  go_wp2_with fail
                  go_roundw
                  case rel =>
                    have hbb := fun n : Nat => hBx.trans ((belowN hBj n).mono hzx)
                    first | exact ⟨j + 1, by rw [HD1.out], by go_num, by omega, hbb _, HG'⟩ | ((repeat apply Exists.intro); exact ⟨⟨j + 1, by rw [HD1.out], by go_num, by omega, hbb _, HG'⟩, rfl⟩)
                  case measure => simp [intOf]; omega
        · obtain rfl : k = n1 := by omega
          have hge : (k : Int) ≤ (k : Int) := by omega
          have hdl := HG.out.len
          have htk := tags_toks HG.out h20 cl
          have hde := tagDoc_eq S V k cl
          have hdl2 : (M.tagDoc (prs S V k) cl).length ≤ 20000 := by rw [hde]; cases cl <;> simp <;> omega
          have hpl := prs_length S V k
          have hpg := prs_get S V k
          have HPG := Lib.hid hpg
          have QT := Lib.hid (fun W h => Tokens (M.tagDoc (prs S V k) cl) W (by omega) h)
          rw [htk] at QT
          have HEo := Lib.hid (HE1.out.same hB)
          obtain ⟨d2, hd2⟩ : ∃ d2, M.tagDoc (prs S V k) cl = d2 := ⟨_, rfl⟩
          rw [hd2] at QT hde hdl2
          have s0 := T.bytes_size (docAt S V k)
          have s2 := T.bytes_size d2
          clear htk hd2 hpg HG
          generalize docAt S V k = d0 at *
          cases cl with
          | true =>
            have a1 : (⟨d0.toArray⟩ : ByteArray) ++ ⟨#[47]⟩ = ⟨(d0 ++ [47]).toArray⟩ := T.append_bytes d0 [47]
            have a2 : (⟨(d0 ++ [47]).toArray⟩ : ByteArray) ++ ⟨#[62, 121]⟩ = ⟨d2.toArray⟩ := by rw [hde]; exact (T.append_bytes (d0 ++ [47]) [62, 121]).trans (by simp)
            have s1 := T.bytes_size (d0 ++ [47])
            have l1 : (d0 ++ [47]).length ≤ 20000 := by simp; omega
            generalize d0 ++ [47] = d1 at *
            clear hde
            go_wp2_with fail
            refine (QT.out _ HEo.out).mono ?_
            rintro e w3 ⟨v, rfl, hts, b3⟩
            have hz3 := b3.size
            have hB3 := hB.trans (b3.mono hzB)
            obtain ⟨gt, y0, t0, ha0⟩ := toks_at hts (k := 0) (by show 0 < 2; omega)
            obtain ⟨gt1, y1, t1, ha1⟩ := toks_at hts (k := 1) (by show 1 < 2; omega)
            have ha0 : HasAttrs _ y0 (prs S V k) w3 := ha0
            obtain ⟨⟨d1c, f1⟩, l1c, e0, e1, e2, e3, e4⟩ := t0
            obtain ⟨⟨d2c, f2⟩, l2c, i0, i1, i2, i3, i4⟩ := t1
            rw [f1] at f2
            injection f2 with f2 f2a f2b
            injection f2 with f2
            injection f2 with f2
            subst f1
            subst f2
            obtain ⟨q1, q2, rfl⟩ := attrs_form ha0
            have e0' : w3.cell? ⟨gt, 0, none⟩ = some (.int .i64 1) := e0
            have e1' : w3.cell? ⟨gt, 1, none⟩ = some (.string ⟨#[120]⟩) := e1
            have e2' : w3.cell? ⟨gt, 2, none⟩ = some (.slice q1 (prs S V k).length q2) := e2
            have e3' : w3.cell? ⟨gt, 3, none⟩ = some (.bool true) := e3
            have e9' : w3.cell? ⟨gt, 9, none⟩ = some (.string ⟨#[121]⟩) := i4
            rw [hpl] at e2'
            have HA0 := Lib.hid ha0
            have E2 := Lib.hid e2'
            clear e0 e1 e2 e3 e4 i0 i1 i2 i3 i4 ha0 ha1 hts QT
            go_wp2_with fail
            go_loopw [11] (fun u wx => ∃ j : Nat, u = .int .i64 j ∧ j ≤ k ∧ Below w3.heap.size w3 wx) (fun u _ => k - (intOf u).toNat)
            case atStart => exact ⟨0, rfl, Nat.zero_le _, Below.refl _ _⟩
            case round =>
              obtain ⟨j, rfl, hj, hBj⟩ := hrel
              clear e0' e1' e2' e3' e9'
              have hzj := hBj.size
              by_cases hjk : j < k
              · have hj0 : (0 : Int) ≤ (j : Int) := by omega
                have hj1 : (j : Int) < (k : Int) := by omega
                have hj2 : (j : Int) < (n2 : Int) := by omega
                obtain ⟨g1, o1, rfl, hg1, hcs⟩ := HS.out (by omega)
                obtain ⟨g2, o2, rfl, hg2, hcv⟩ := HV.out (by omega)
                have c2 : wr.cell? ⟨gt, 2, none⟩ = some (.slice q1 k q2) := (hBj.cell (p := ⟨gt, 2, none⟩) l1c).trans E2.out
                obtain ⟨ga, za⟩ := attrs_at HA0.out (k := j) (by rw [hpl]; exact hjk)
                rw [HPG.out j (by rw [hpl]; exact hjk)] at za
                obtain ⟨⟨d3, f3⟩, l3, r0, r1⟩ := za.below hBj
                injection f3 with f3 _ f3'
                subst f3 f3'
                have r2 : wr.cell? ⟨g1, o1 + j, none⟩ = some (.string ⟨(S j).toArray⟩) := by
                  rw [hBj.cell (p := ⟨g1, o1 + j, none⟩) (by show g1 < _; omega), hB3.cell (p := ⟨g1, o1 + j, none⟩) (by show g1 < _; omega), b1.cell (p := ⟨g1, o1 + j, none⟩) hg1]
                  exact (hcs j hjk).1
                have r3 : wr.cell? ⟨g2, o2 + j, none⟩ = some (.string ⟨(V j).toArray⟩) := by
                  rw [hBj.cell (p := ⟨g2, o2 + j, none⟩) (by show g2 < _; omega), hB3.cell (p := ⟨g2, o2 + j, none⟩) (by show g2 < _; omega), b1.cell (p := ⟨g2, o2 + j, none⟩) hg2]
                  exact (hcv j (by omega)).1
                dsimp only at r0 r1
                generalize S j = sj at *
                generalize V j = vj at *
                clear za hcs hcv
                go_wp2_with fail
                go_quiet (fail)
                go_wp2_with fail
                go_roundw
                case rel => exact ⟨j + 1, by go_num, by omega, belowN hBj _⟩
                case measure => simp [intOf]; omega
              · have hge2 : (k : Int) ≤ (j : Int) := by omega
                go_wp2_with fail
                go_ret
                exact ⟨rfl, b1.trans ((hB3.trans (hBj.mono (by omega))).mono z1)⟩
          | false =>
            have a2 : (⟨d0.toArray⟩ : ByteArray) ++ ⟨#[62, 121]⟩ = ⟨d2.toArray⟩ := by rw [hde]; exact (T.append_bytes d0 [62, 121]).trans (by simp)
            clear hde
            go_wp2_with fail
            refine (QT.out _ HEo.out).mono ?_
            rintro e w3 ⟨v, rfl, hts, b3⟩
            have hz3 := b3.size
            have hB3 := hB.trans (b3.mono hzB)
            obtain ⟨gt, y0, t0, ha0⟩ := toks_at hts (k := 0) (by show 0 < 2; omega)
            obtain ⟨gt1, y1, t1, ha1⟩ := toks_at hts (k := 1) (by show 1 < 2; omega)
            have ha0 : HasAttrs _ y0 (prs S V k) w3 := ha0
            obtain ⟨⟨d1c, f1⟩, l1c, e0, e1, e2, e3, e4⟩ := t0
            obtain ⟨⟨d2c, f2⟩, l2c, i0, i1, i2, i3, i4⟩ := t1
            rw [f1] at f2
            injection f2 with f2 f2a f2b
            injection f2 with f2
            injection f2 with f2
            subst f1
            subst f2
            obtain ⟨q1, q2, rfl⟩ := attrs_form ha0
            have e0' : w3.cell? ⟨gt, 0, none⟩ = some (.int .i64 1) := e0
            have e1' : w3.cell? ⟨gt, 1, none⟩ = some (.string ⟨#[120]⟩) := e1
            have e2' : w3.cell? ⟨gt, 2, none⟩ = some (.slice q1 (prs S V k).length q2) := e2
            have e3' : w3.cell? ⟨gt, 3, none⟩ = some (.bool false) := e3
            have e9' : w3.cell? ⟨gt, 9, none⟩ = some (.string ⟨#[121]⟩) := i4
            rw [hpl] at e2'
            have HA0 := Lib.hid ha0
            have E2 := Lib.hid e2'
            clear e0 e1 e2 e3 e4 i0 i1 i2 i3 i4 ha0 ha1 hts QT
            go_wp2_with fail
            go_loopw [11] (fun u wx => ∃ j : Nat, u = .int .i64 j ∧ j ≤ k ∧ Below w3.heap.size w3 wx) (fun u _ => k - (intOf u).toNat)
            case atStart => exact ⟨0, rfl, Nat.zero_le _, Below.refl _ _⟩
            case round =>
              obtain ⟨j, rfl, hj, hBj⟩ := hrel
              clear e0' e1' e2' e3' e9'
              have hzj := hBj.size
              by_cases hjk : j < k
              · have hj0 : (0 : Int) ≤ (j : Int) := by omega
                have hj1 : (j : Int) < (k : Int) := by omega
                have hj2 : (j : Int) < (n2 : Int) := by omega
                obtain ⟨g1, o1, rfl, hg1, hcs⟩ := HS.out (by omega)
                obtain ⟨g2, o2, rfl, hg2, hcv⟩ := HV.out (by omega)
                have c2 : wr.cell? ⟨gt, 2, none⟩ = some (.slice q1 k q2) := (hBj.cell (p := ⟨gt, 2, none⟩) l1c).trans E2.out
                obtain ⟨ga, za⟩ := attrs_at HA0.out (k := j) (by rw [hpl]; exact hjk)
                rw [HPG.out j (by rw [hpl]; exact hjk)] at za
                obtain ⟨⟨d3, f3⟩, l3, r0, r1⟩ := za.below hBj
                injection f3 with f3 _ f3'
                subst f3 f3'
                have r2 : wr.cell? ⟨g1, o1 + j, none⟩ = some (.string ⟨(S j).toArray⟩) := by
                  rw [hBj.cell (p := ⟨g1, o1 + j, none⟩) (by show g1 < _; omega), hB3.cell (p := ⟨g1, o1 + j, none⟩) (by show g1 < _; omega), b1.cell (p := ⟨g1, o1 + j, none⟩) hg1]
                  exact (hcs j hjk).1
                have r3 : wr.cell? ⟨g2, o2 + j, none⟩ = some (.string ⟨(V j).toArray⟩) := by
                  rw [hBj.cell (p := ⟨g2, o2 + j, none⟩) (by show g2 < _; omega), hB3.cell (p := ⟨g2, o2 + j, none⟩) (by show g2 < _; omega), b1.cell (p := ⟨g2, o2 + j, none⟩) hg2]
                  exact (hcv j (by omega)).1
                dsimp only at r0 r1
                generalize S j = sj at *
                generalize V j = vj at *
                clear za hcs hcv
                go_wp2_with fail
                go_quiet (fail)
                go_wp2_with fail
                go_roundw
                case rel => exact ⟨j + 1, by go_num, by omega, belowN hBj _⟩
                case measure => simp [intOf]; omega
              · have hge2 : (k : Int) ≤ (j : Int) := by omega
                go_wp2_with fail
                go_ret
                exact ⟨rfl, b1.trans ((hB3.trans (hBj.mono (by omega))).mono z1)⟩
    · have hle' : (n2 : Int) < (n1 : Int) := by omega
      go_enter Tryz.func4, Tryz.ntmps4
      go_wp2_with fail
      refine (awake _ HE.out).mono ?_
      rintro e w1 ⟨rfl, b1⟩
      have HE1 := Lib.hid (HE.out.same b1)
      go_wp2_with fail
      refine (awake _ HE1.out).mono ?_
      rintro e w2 ⟨rfl, b2⟩
      go_wp2_with fail
      go_ret
      exact ⟨rfl, b1.trans (b2.mono b1.size)⟩
  · have h20' : 20 < (n1 : Int) := by omega
    go_enter Tryz.func4, Tryz.ntmps4
    go_wp2_with fail
    refine (awake _ HE.out).mono ?_
    rintro e w1 ⟨rfl, b1⟩
    have HE1 := Lib.hid (HE.out.same b1)
    go_wp2_with fail
    refine (awake _ HE1.out).mono ?_
    rintro e w2 ⟨rfl, b2⟩
    go_wp2_with fail
    go_ret
    exact ⟨rfl, b1.trans (b2.mono b1.size)⟩

end K
end Go.Proofs.YtlnginciehjlnaaGreatDoor

/- The reader of selectors: nth. -/
import Derived.Test.YtnmcgmbhkmfiaaaGreatDoorSel11
set_option linter.unusedVariables false
set_option linter.unusedSimpArgs false
namespace Go.Proofs.YtnmcgmbhkmfiaaaGreatDoor
open Go.RowKit
namespace K
open H

def wd (k : Nat) : List UInt8 := if k = 0 then [111, 100, 100] else [101, 118, 101, 110]

/-- None of the first k words is next. -/
def NoWd (r : List UInt8) (k : Nat) : Prop := ∀ m, m < k → L.lower (r.take (wd m).length) ≠ wd m

theorem nth_word {r : List UInt8} {k : Nat} (hk : k < 2) (hn : NoWd r k) (h : L.lower (r.take (wd k).length) = wd k) : L.nth r = some (⟨9, [], [], 2, ((wd k).length : Int) % 2⟩, r.drop (wd k).length) := by
  rcases (by omega : k = 0 ∨ k = 1) with rfl | rfl
  · have h' : L.lower (r.take 3) = [111, 100, 100] := h
    unfold L.nth; rw [if_pos h']; rfl
  · have h0 : ¬ L.lower (r.take 3) = [111, 100, 100] := hn 0 (by omega)
    have h' : L.lower (r.take 4) = [101, 118, 101, 110] := h
    unfold L.nth; rw [if_neg h0, if_pos h']; rfl

theorem nth_rest {r : List UInt8} (hn : NoWd r 2) : L.nth r = L.nthRest r := by
  have h0 : ¬ L.lower (r.take 3) = [111, 100, 100] := hn 0 (by omega)
  have h1 : ¬ L.lower (r.take 4) = [101, 118, 101, 110] := hn 1 (by omega)
  unfold L.nth; rw [if_neg h0, if_neg h1]

theorem NoWd.more {r : List UInt8} {k : Nat} (h : NoWd r k) (hk : L.lower (r.take (wd k).length) ≠ wd k) : NoWd r (k + 1) := by
  intro m hm
  rcases Nat.lt_or_ge m k with h1 | h1
  · exact h m h1
  · obtain rfl : m = k := by omega
    exact hk

theorem wd_len (k : Nat) : 3 ≤ (wd k).length ∧ (wd k).length ≤ 4 := by unfold wd; split <;> simp

theorem lower_length (l : List UInt8) : (L.lower l).length = l.length := by unfold L.lower; simp

/-- The reader, the test that is built, and the two words. -/
def NthSt (b : Nat) (s : List UInt8) (i A B R : Nat) (w wr : World) : Prop :=
  RdSt b s i false R tzero 77 w wr ∧ Blk A (tcells ⟨9, [], [], 0, 0⟩ (.slice none 0 0)) 77 wr ∧ Blk B #[.string ⟨(wd 0).toArray⟩, .string ⟨(wd 1).toArray⟩] 9 wr

theorem NthSt.below {b : Nat} {s : List UInt8} {i A B R : Nat} {w wr w' : World} (h : NthSt b s i A B R w wr) (hb : Below wr.heap.size wr w') : NthSt b s i A B R w w' := ⟨h.1.below hb, h.2.1.below hb, h.2.2.below hb⟩

theorem wd_cell {B : Nat} {wr : World} (h : Blk B #[.string ⟨(wd 0).toArray⟩, .string ⟨(wd 1).toArray⟩] 9 wr) {k : Nat} (hk : k < 2) : wr.cell? ⟨B, k, none⟩ = some (.string ⟨(wd k).toArray⟩) := by
  rw [(cells_of h).1 k]
  rcases (by omega : k = 0 ∨ k = 1) with rfl | rfl <;> rfl

theorem RdSt.place {b : Nat} {s : List UInt8} {i : Nat} {bad : Bool} {R : Nat} {r : Array Value} {T : TypeId} {w0 w : World} (h : RdSt b s i bad R r T w0 w) {z : Int} (j : Nat) (hz : z = (j : Int)) : RdSt b s j bad R r T w0 (w.setCell ⟨b, 1, none⟩ (.int .i64 z)) :=
  ⟨h.rdr.place j hz, h.res.far (by have := h.hb; have := h.hR; omega) 1 _, h.but.trans (But.set _ _ _), h.hb, h.hR⟩
theorem RdSt.fail {b : Nat} {s : List UInt8} {i : Nat} {bad : Bool} {R : Nat} {r : Array Value} {T : TypeId} {w0 w : World} (h : RdSt b s i bad R r T w0 w) : RdSt b s i true R r T w0 (w.setCell ⟨b, 2, none⟩ (.bool true)) :=
  ⟨h.rdr.fail, h.res.far (by have := h.hb; have := h.hR; omega) 2 _, h.but.trans (But.set _ _ _), h.hb, h.hR⟩

theorem coef_no {s : List UInt8} {j : Nat} (h : L.isDig (s.getD j 0) = false) : L.coef (s.drop j) = some (1, false, s.drop j) := by
  cases hd : s.drop j with
  | nil => rfl
  | cons c r =>
    rw [getD_drop hd] at h
    simp [L.coef, h]

theorem coef_yes {s : List UInt8} {j : Nat} (h : L.isDig (s.getD j 0) = true) : L.coef (s.drop j) = (match L.number (s.drop j) with | none => none | some (n, r) => some (n, true, r)) := by
  cases hd : s.drop j with
  | nil =>
    rw [getD_past (by have := congrArg List.length hd; rw [List.length_drop] at this; simp at this; omega)] at h
    exact absurd h (by decide)
  | cons c r =>
    rw [getD_drop hd] at h
    simp [L.coef, h]
    cases L.number (c :: r) <;> rfl

theorem tail_n {s : List UInt8} {j : Nat} {g : Int} {n : Nat} {sm : Bool} (h : L.isN (s.getD j 0) = true) : j + 1 ≤ s.length ∧ L.nthTail g n sm (s.drop j) = (match L.offset (s.drop (j + 1)) with | none => none | some (b, u) => some (⟨9, [], [], g * n, b⟩, u)) := by
  cases hd : s.drop j with
  | nil =>
    rw [getD_past (by have := congrArg List.length hd; rw [List.length_drop] at this; simp at this; omega)] at h
    exact absurd h (by decide)
  | cons c r =>
    rw [getD_drop hd] at h
    refine ⟨lt_drop hd, ?_⟩
    rw [drop_more hd]
    simp [L.nthTail, h]
    cases L.offset r <;> rfl

theorem tail_o {s : List UInt8} {j : Nat} {g : Int} {n : Nat} {sm : Bool} (h : L.isN (s.getD j 0) = false) : L.nthTail g n sm (s.drop j) = if sm then some (⟨9, [], [], 0, g * n⟩, s.drop j) else none := by
  cases hd : s.drop j with
  | nil => rfl
  | cons c r =>
    rw [getD_drop hd] at h
    simp [L.nthTail, h]

theorem rest_none {r : List UInt8} {g : Int} {ok : Bool} {u : List UInt8} (h : L.sign r = (g, ok, u)) (hc : L.coef u = none) : L.nthRest r = none := by
  unfold L.nthRest; rw [h]; simp only [hc]
theorem rest_some {r : List UInt8} {g : Int} {ok sm : Bool} {u v : List UInt8} {n : Nat} (h : L.sign r = (g, ok, u)) (hc : L.coef u = some (n, sm, v)) : L.nthRest r = L.nthTail g n sm v := by
  unfold L.nthRest; rw [h]; simp only [hc]

theorem offset_no {t u v : List UInt8} {g : Int} (h : L.space t = u) (hs : L.sign u = (g, false, v)) : L.offset t = some (0, t) := by
  unfold L.offset; rw [h, hs]
theorem offset_yes {t u v x : List UInt8} {g : Int} (h : L.space t = u) (hs : L.sign u = (g, true, v)) (hv : L.space v = x) : L.offset t = (match L.number x with | none => none | some (n, y) => some (g * n, y)) := by
  unfold L.offset; rw [h, hs]; simp only [hv]
  cases L.number x <;> rfl

set_option maxHeartbeats 4000000 in
set_option maxRecDepth 100000 in
theorem nth (b : Nat) (s : List UInt8) (i : Nat) (w : World) (hs : s.length ≤ 1000000) (hi : i ≤ s.length) (hR : IsRdr b s i false w) (hE : ErrEnv w) (ht : top ≤ b) :
    Calls Tryz.prog 69 #[.pointer (some ⟨b, 0, none⟩)] w (TstPost b s i (L.nth (s.drop i)) w) := by
  have HR := Lib.hid hR
  have HE := Lib.hid hE
  have hlb := lt_of_block hR
  clear hR hE
  go_enter Tryz.func69, Tryz.ntmps69
  go_wp2_with fail
  have HN : Hid (NthSt b s i (w.heap.size + 1) (w.heap.size + 1 + 1) w.heap.size w (((w.alloc (.cells tzero 77)).alloc (.cells (tcells ⟨9, [], [], 0, 0⟩ (.slice none 0 0)) 77)).alloc (.cells #[.string ⟨(wd 0).toArray⟩, .string ⟨(wd 1).toArray⟩] 9))) := by
    refine Lib.hid ⟨((RdSt.new HR.out tzero _).alloc _).alloc _, ?_, ?_⟩
    · have := (Blk.new (w.alloc (.cells tzero 77)) (tcells ⟨9, [], [], 0, 0⟩ (.slice none 0 0)) 77).alloc (.cells #[.string ⟨(wd 0).toArray⟩, .string ⟨(wd 1).toArray⟩] 9)
      simpa using this
    · have := Blk.new ((w.alloc (.cells tzero 77)).alloc (.cells (tcells ⟨9, [], [], 0, 0⟩ (.slice none 0 0)) 77)) #[.string ⟨(wd 0).toArray⟩, .string ⟨(wd 1).toArray⟩] 9
      simpa using this
  have hzz : (((w.alloc (.cells tzero 77)).alloc (.cells (tcells ⟨9, [], [], 0, 0⟩ (.slice none 0 0)) 77)).alloc (.cells #[.string ⟨(wd 0).toArray⟩, .string ⟨(wd 1).toArray⟩] 9)).heap.size = w.heap.size + 3 := by simp
  have hA : w.heap.size < w.heap.size + 1 := Nat.lt_succ_self _
  have hB : w.heap.size + 1 < w.heap.size + 1 + 1 := Nat.lt_succ_self _
  have hRR : b < w.heap.size := hlb
  have HZ : Hid (w.heap.size ≤ w.heap.size) := Lib.hid (Nat.le_refl _)
  clear hzz
  generalize hR0 : w.heap.size = R at HN hA hB hRR HZ ⊢
  have hR1 : w.heap.size ≤ R := by omega
  clear hR0
  generalize R + 1 + 1 = B at *
  generalize R + 1 = A at *
  go_loopw [16] (fun ix wr => ∃ k : Nat, ix = .int .i64 k ∧ k ≤ 2 ∧ Hid (NthSt b s i A B R w wr) ∧ Hid (NoWd (s.drop i) k)) (fun ix _ => 2 - (intOf ix).toNat)
  case atStart => exact ⟨0, rfl, by omega, HN, Lib.hid (fun m hm => by omega)⟩
  case round =>
    obtain ⟨k, rfl, hk, HSt, HW⟩ := hrel
    by_cases hk2 : k < 2
    · have hk2' : (k : Int) < 2 := by omega
      have hkc := wd_cell HSt.out.2.2 hk2
      obtain ⟨hw3, hw4⟩ := wd_len k
      obtain ⟨hcr, hfr⟩ := cells_of HSt.out.1.rdr
      have c0 : wr.cell? ⟨b, 0, none⟩ = some (.string ⟨s.toArray⟩) := hcr 0
      have c1 : wr.cell? ⟨b, 1, none⟩ = some (.int .i64 i) := hcr 1
      have hlr := HSt.out.1.lt
      clear hcr hfr
      have Hword := fun (h : L.lower ((s.drop i).take (wd k).length) = wd k) => nth_word hk2 HW.out h
      have Hmore := fun (h : L.lower ((s.drop i).take (wd k).length) ≠ wd k) => HW.out.more h
      have hword := Lib.hid Hword
      have hmore := Lib.hid Hmore
      clear Hword Hmore HW
      generalize wd k = W at *
      go_wp2_with fail
      have D0 := fun d : Later wr.heap.size wr => Later.cell c0 hlr d
      have D1 := fun d : Later wr.heap.size wr => Later.cell c1 hlr d
      have hii : (0 : Int) ≤ (i : Int) := by omega
      have hii2 : (i : Int) ≤ (s.length : Int) := by omega
      have hWW : (0 : Int) ≤ (W.length : Int) := by omega
      have g1 : IntKind.i64.wrap ((s.length : Int) - (i : Int)) = (s.length : Int) - (i : Int) := IntWalk.i64_in _ (by omega)
      have g2 : IntKind.i64.wrap ((i : Int) + (W.length : Int)) = (i : Int) + (W.length : Int) := IntWalk.i64_in _ (by omega)
      have g3' : (i : Int) + (W.length : Int) = ((i + W.length : Nat) : Int) := by omega
      have G3 := Lib.hid g3'
      clear g3'
      have g3 : ((i : Int) + (W.length : Int)).toNat = i + W.length := by omega
      have zs := bytes_size s
      have zW := bytes_size W
      by_cases hgd : W.length ≤ s.length - i
      · have hg4 : decide ((W.length : Int) ≤ (s.length : Int) - (i : Int)) = true := decide_eq_true (by omega)
        have hg5 : (i : Int) + (W.length : Int) ≤ (s.length : Int) := by omega
        have hg6 : (i : Int) ≤ (i : Int) + (W.length : Int) := by omega
        have hx := slice_str s i (i + W.length) (by omega) (by omega)
        rw [Nat.add_sub_cancel_left] at hx
        have QL := Lib.hid (fun X => LowerS ((s.drop i).take W.length) X (by rw [List.length_take, List.length_drop]; omega))
        generalize L.lower ((s.drop i).take W.length) = l at *
        cases hq : (l == W) with
        | true =>
          have HS := Lib.hid (hword.out (by simpa using hq))
          clear hword hmore
          refine wp_region_later (by kernel_rfl) (by kernel_rfl) ?_
          repeat (go_big_quiet_step ((go_at_call 45; exact Calls.later (QL.out _))))
          refine wpQuiet_nil ?_
          intro _ hw'
          obtain ⟨dq, hw''⟩ := hw'
          subst hw''
          have st := HSt.out.below dq.h
          obtain ⟨hcb, hfb⟩ := cells_of st.1.rdr
          obtain ⟨hcx, hfx⟩ := cells_of st.2.1
          obtain ⟨hcr, hfr⟩ := cells_of st.1.res
          have hl1 := st.1.lt
          have hl2 := st.2.1.lt
          have hl3 := st.1.res.lt
          unfold tcells at hcx hfx
          unfold tzero at hcr hfr
          have ST := Lib.hid (((st.1.place (i + W.length) G3.out).far (k := A) (by omega) (by omega) 3 (.int .i64 2)).far (k := A) (by omega) (by omega) 4 (.int .i64 ((W.length : Int) % 2)))
          have n1 : A ≠ b := by omega
          have n2 : b ≠ A := by omega
          have n3 : A ≠ R := by omega
          have n4 : R ≠ A := by omega
          have n5 : R ≠ b := by omega
          have n6 : b ≠ R := by omega
          clear D0 D1 g1 g2 g3 zs zW hx st
          go_wp2_with fail
          refine bodyPost_ret (v := tval ⟨9, [], [], 2, (W.length : Int) % 2⟩ (.slice none 0 0)) (by simp [results, Tryz.results69, go_sem, tval, tcells, hcr, n4, n5]) rfl ⟨_, i + W.length, false, rfl, ?_, ?_, by omega, by omega, Lib.hid (Got.yes ?_)⟩
          · exact (ST.out.six _ _ _ _ _ _).1
          · exact (ST.out.six _ _ _ _ _ _).2
          · rw [HS.out, List.drop_drop]
        | false =>
          have HW := Lib.hid (hmore.out (by simpa using hq))
          clear hword hmore
          refine wp_region_later (by kernel_rfl) (by kernel_rfl) ?_
          repeat (go_big_quiet_step ((go_at_call 45; exact Calls.later (QL.out _))))
          refine wpQuiet_nil ?_
          intro _ hw'
          obtain ⟨dq, hw''⟩ := hw'
          subst hw''
          clear D0 D1 g1 g2 g3 zs zW hx
          go_wp2_with fail
          go_roundw
          case rel => exact ⟨k + 1, by go_num, by omega, Lib.hid (HSt.out.below dq.h), HW⟩
          case measure => simp [intOf]; omega
      · have hg4 : decide ((W.length : Int) ≤ (s.length : Int) - (i : Int)) = false := decide_eq_false (by omega)
        have HW := Lib.hid (hmore.out (by
          intro h
          have := congrArg List.length h
          rw [lower_length, List.length_take, List.length_drop] at this
          omega))
        clear hword hmore
        refine wp_region_later (by kernel_rfl) (by kernel_rfl) ?_
        repeat (go_big_quiet_step (fail))
        refine wpQuiet_nil ?_
        intro _ hw'
        obtain ⟨dq, hw''⟩ := hw'
        subst hw''
        clear D0 D1 g1 g2 g3 zs zW
        go_wp2_with fail
        go_roundw
        case rel => exact ⟨k + 1, by go_num, by omega, Lib.hid (HSt.out.below dq.h), HW⟩
        case measure => simp [intOf]; omega
    · obtain rfl : k = 2 := by omega
      have HM : Hid (L.nth (s.drop i) = L.nthRest (s.drop i)) := Lib.hid (nth_rest HW.out)
      have ST0 := Lib.hid HSt.out.1
      have X0 := Lib.hid HSt.out.2.1
      have n1 : A ≠ b := by omega
      have n2 : b ≠ A := by omega
      have n3 : A ≠ R := by omega
      have n4 : R ≠ A := by omega
      have n5 : R ≠ b := by omega
      have n6 : b ≠ R := by omega
      clear HW HSt hk hk2 HN HR
      go_wp2_with fail
      refine (sign_any b s i false _ hs hi ST0.out.rdr).mono ?_
      rintro e w1 ⟨g, ok, j1, rfl, hr1, hb1, h1, h1', hg, HS1, _⟩
      have ST1 := Lib.hid (ST0.out.step hr1 hb1)
      have X1 := Lib.hid (X0.out.but hb1 n1)
      clear hr1 hb1 ST0 X0
      have P := Lib.hid (peek b s j1 false w1 hs h1' ST1.out.rdr)
      have hg1 : -1 ≤ g := by omega
      have hg2 : g ≤ 1 := by omega
      have HG := Lib.hid hg
      clear hg
      go_wp2_with fail
      refine (P.out).mono ?_
      rintro e w2 ⟨rfl, nn, hw2⟩
      have ST2 : Hid (RdSt b s j1 false R tzero 77 w w2) := Lib.hid (by rw [hw2]; exact ST1.out.drewN _)
      have X2 : Hid (Blk A (tcells ⟨9, [], [], 0, 0⟩ (.slice none 0 0)) 77 w2) := Lib.hid (by rw [hw2]; exact X1.out)
      clear hw2 P ST1 X1
      go_wp2_with fail
      refine (digit (s.getD j1 0) _).mono ?_
      rintro e w3 ⟨rfl, rfl⟩
      cases hd1 : L.isDig (s.getD j1 0)
      case' true =>
        have HC := Lib.hid (coef_yes hd1)
        clear hd1
        go_wp2_with fail
        refine (number_any b s j1 _ hs h1' ST2.out.rdr (HE.out.but ST2.out.but ht) ht).mono ?_
        rintro e w4 (⟨n, j2, rfl, hr4, hb4, h2, h2', hn, HN4⟩ | ⟨z, j2, rfl, hr4, hb4, h2, h2', HN4⟩)
        case' inr =>
          have ST4 := Lib.hid (ST2.out.step hr4 hb4)
          have X4 := Lib.hid (X2.out.but hb4 n1)
          have HF : Hid (L.nth (s.drop i) = none) := Lib.hid (by
            rw [HM.out]
            exact rest_none (HS1.out (by trivial)) (by rw [HC.out, HN4.out]))
          have P4 := Lib.hid (peek b s j2 true w4 hs h2' ST4.out.rdr)
          clear hr4 hb4 ST2 X2 HM HS1 HC HN4
          go_wp2_with fail
          refine (P4.out).mono ?_
          rintro e w5 ⟨rfl, nn5, hw5⟩
          have ST5 : Hid (RdSt b s j2 true R tzero 77 w w5) := Lib.hid (by rw [hw5]; exact ST4.out.drewN _)
          have X5 : Hid (Blk A (tcells ⟨9, [], [], 0, 0⟩ (.slice none 0 0)) 77 w5) := Lib.hid (by rw [hw5]; exact X4.out)
          clear hw5 P4 ST4 X4
          obtain ⟨gz, hgz⟩ : ∃ m, IntKind.i64.wrap (g * z) = m := ⟨_, rfl⟩
          have hc5 : ∃ c5, s.getD j2 0 = c5 := ⟨_, rfl⟩
          obtain ⟨c5, hc5⟩ := hc5
          rw [hc5]
          have hl5 : L.isN c5 = true → j2 + 1 ≤ s.length := fun h => (tail_n (g := 1) (n := 1) (sm := true) (by rw [hc5]; exact h)).1
          clear hc5
          cases hN : L.isN c5 with
          | false =>
            have e1 : (((c5).toNat : Int) == 110) = false := byte_ne (n := 110) (by intro h; rw [h] at hN; exact absurd hN (by decide)) (by decide)
            have e2 : (((c5).toNat : Int) == 78) = false := byte_ne (n := 78) (by intro h; rw [h] at hN; exact absurd hN (by decide)) (by decide)
            have m1 : (((c5).toNat : Int) != 110) = true := by rw [bne, e1]; rfl
            have m2 : (((c5).toNat : Int) != 78) = true := by rw [bne, e2]; rfl
            have p1 : ¬ (((c5).toNat : Int) = 110) := by rw [← beq_iff_eq, e1]; exact Bool.false_ne_true
            have p2 : ¬ (((c5).toNat : Int) = 78) := by rw [← beq_iff_eq, e2]; exact Bool.false_ne_true
            obtain ⟨hcb, hfb⟩ := cells_of ST5.out.rdr
            obtain ⟨hcx, hfx⟩ := cells_of X5.out
            obtain ⟨hcr, hfr⟩ := cells_of ST5.out.res
            have hl1 := ST5.out.lt
            have hl2 := X5.out.lt
            have hl3 := ST5.out.res.lt
            unfold tcells at hcx hfx
            unfold tzero at hcr hfr
            have ST := Lib.hid (ST5.out.far (k := A) (by omega) (by omega) 4 (.int .i64 gz))
            clear hN hl5
            go_wp2_with fail
            refine bodyPost_ret (v := tval ⟨9, [], [], 0, gz⟩ (.slice none 0 0)) (by simp [results, Tryz.results69, go_sem, tval, tcells, hcr, n4, n5]) rfl ⟨_, j2, true, rfl, ?_, ?_, by omega, by omega, Lib.hid ?_⟩
            · exact (ST.out.six _ _ _ _ _ _).1
            · exact (ST.out.six _ _ _ _ _ _).2
            · rw [HF.out]; exact Got.no rfl
          | true =>
            have hj5 := hl5 hN
            have hw : c5 = 110 ∨ c5 = 78 := by unfold L.isN at hN; simpa using hN
            clear hN hl5
            have hJ : (j2 : Int) + 1 = ((j2 + 1 : Nat) : Int) := by omega
            have HJ := Lib.hid hJ
            clear hJ
            obtain ⟨hcb, hfb⟩ := cells_of ST5.out.rdr
            obtain ⟨hcx, hfx⟩ := cells_of X5.out
            obtain ⟨hcr, hfr⟩ := cells_of ST5.out.res
            have hl1 := ST5.out.lt
            have hl2 := X5.out.lt
            have hl3 := ST5.out.res.lt
            unfold tcells at hcx hfx
            unfold tzero at hcr hfr
            have ST6 := Lib.hid ((ST5.out.place (j2 + 1) HJ.out).far (k := A) (by omega) (by omega) 3 (.int .i64 gz))
            have X6 : Hid (Blk A (tcells ⟨9, [], [], gz, 0⟩ (.slice none 0 0)) 77 _) := Lib.hid ((X5.out.far n1 1 (.int .i64 ((j2 : Int) + 1))).set 3 (.int .i64 gz))
            clear ST5 X5
            rcases hw with rfl | rfl
            all_goals
              go_wp2_with fail
              clear hcb hfb hcx hfx hcr hfr hl1 hl2 hl3 hgz
              generalize ((w5.setCell ⟨b, 1, none⟩ (.int .i64 ((j2 : Int) + 1))).setCell ⟨A, 3, none⟩ (.int .i64 gz)) = W at *
              refine (space_any b s (j2 + 1) true _ hs hj5 ST6.out.rdr).mono ?_
              rintro e w7 ⟨j3, rfl, hr7, hb7, h3, h3', _⟩
              have ST7 := Lib.hid (ST6.out.step hr7 hb7)
              have X7 := Lib.hid (X6.out.but hb7 n1)
              clear hr7 hb7 ST6 X6
              go_wp2_with fail
              refine (sign_any b s j3 true _ hs h3' ST7.out.rdr).mono ?_
              rintro e w8 ⟨g2, ok2, j4, rfl, hr8, hb8, h4, h4', _, _, HO⟩
              obtain rfl : ok2 = false := HO.out (by trivial)
              have ST8 := Lib.hid (ST7.out.step hr8 hb8)
              have X8 := Lib.hid (X7.out.but hb8 n1)
              clear hr8 hb8 ST7 X7 HO
              obtain ⟨hcb, hfb⟩ := cells_of ST8.out.rdr
              obtain ⟨hcx, hfx⟩ := cells_of X8.out
              obtain ⟨hcr, hfr⟩ := cells_of ST8.out.res
              have hl1 := ST8.out.lt
              have hl2 := X8.out.lt
              have hl3 := ST8.out.res.lt
              unfold tcells at hcx hfx
              unfold tzero at hcr hfr
              have ST := Lib.hid (ST8.out.place (j2 + 1) HJ.out)
              go_wp2_with fail
              refine bodyPost_ret (v := tval ⟨9, [], [], gz, 0⟩ (.slice none 0 0)) (by simp [results, Tryz.results69, go_sem, tval, tcells, hcr, n4, n5]) rfl ⟨_, j2 + 1, true, rfl, ?_, ?_, by omega, by omega, Lib.hid ?_⟩
              · exact (ST.out.six _ _ _ _ _ _).1
              · exact (ST.out.six _ _ _ _ _ _).2
              · rw [HF.out]; exact Got.no rfl
        case' inl =>
          have ST4 := Lib.hid (ST2.out.step hr4 hb4)
          have X4 := Lib.hid (X2.out.but hb4 n1)
          have HF : Hid (L.nth (s.drop i) = L.nthTail g n true (s.drop j2)) := Lib.hid (by
            rw [HM.out]
            exact rest_some (HS1.out (by trivial)) (by rw [HC.out, HN4.out]))
          have hn0 : (0 : Int) ≤ (n : Int) := by omega
          have hn1 : (n : Int) ≤ 999999 := by omega
          have gm : IntKind.i64.wrap (g * (n : Int)) = g * (n : Int) := IntWalk.i64_in _ (by rcases HG.out with rfl | rfl <;> omega)
          clear hr4 hb4 ST2 X2 HM HS1 HC HN4
          have P4 := Lib.hid (peek b s j2 false w4 hs h2' ST4.out.rdr)
          go_wp2_with fail
          refine (P4.out).mono ?_
          rintro e w5 ⟨rfl, nn5, hw5⟩
          have ST5 : Hid (RdSt b s j2 false R tzero 77 w w5) := Lib.hid (by rw [hw5]; exact ST4.out.drewN _)
          have X5 : Hid (Blk A (tcells ⟨9, [], [], 0, 0⟩ (.slice none 0 0)) 77 w5) := Lib.hid (by rw [hw5]; exact X4.out)
          clear hw5 P4 ST4 X4
          have HF0 := HF
          clear HF
          have h05 : i ≤ j2 := by omega
          have hc5 : ∃ c5, s.getD j2 0 = c5 := ⟨_, rfl⟩
          obtain ⟨c5, hc5⟩ := hc5
          rw [hc5]
          have hl5 : L.isN c5 = true → j2 + 1 ≤ s.length := fun h => (tail_n (g := 1) (n := 1) (sm := true) (by rw [hc5]; exact h)).1
          have HT : Hid ((L.isN c5 = true → L.nth (s.drop i) = (match L.offset (s.drop (j2 + 1)) with | none => none | some (b, u) => some (⟨9, [], [], g * (n : Int), b⟩, u))) ∧ (L.isN c5 = false → L.nth (s.drop i) = (if true then some (⟨9, [], [], 0, g * (n : Int)⟩, s.drop j2) else none))) := Lib.hid ⟨fun h => HF0.out.trans (tail_n (by rw [hc5]; exact h)).2, fun h => HF0.out.trans (tail_o (by rw [hc5]; exact h))⟩
          clear hc5 HF0
          cases hN : L.isN c5
          case' false =>
            have HF := Lib.hid (HT.out.2 hN)
            have e1 : (((c5).toNat : Int) == 110) = false := byte_ne (n := 110) (by intro h; rw [h] at hN; exact absurd hN (by decide)) (by decide)
            have e2 : (((c5).toNat : Int) == 78) = false := byte_ne (n := 78) (by intro h; rw [h] at hN; exact absurd hN (by decide)) (by decide)
            have m1 : (((c5).toNat : Int) != 110) = true := by rw [bne, e1]; rfl
            have m2 : (((c5).toNat : Int) != 78) = true := by rw [bne, e2]; rfl
            have p1 : ¬ (((c5).toNat : Int) = 110) := by rw [← beq_iff_eq, e1]; exact Bool.false_ne_true
            have p2 : ¬ (((c5).toNat : Int) = 78) := by rw [← beq_iff_eq, e2]; exact Bool.false_ne_true
            obtain ⟨hcb, hfb⟩ := cells_of ST5.out.rdr
            obtain ⟨hcx, hfx⟩ := cells_of X5.out
            obtain ⟨hcr, hfr⟩ := cells_of ST5.out.res
            have hl1 := ST5.out.lt
            have hl2 := X5.out.lt
            have hl3 := ST5.out.res.lt
            unfold tcells at hcx hfx
            unfold tzero at hcr hfr
            have ST := Lib.hid (ST5.out.far (k := A) (by omega) (by omega) 4 (.int .i64 (g * (n : Int))))
            clear hN hl5 HT
            go_wp2_with fail
            refine bodyPost_ret (v := tval ⟨9, [], [], 0, g * (n : Int)⟩ (.slice none 0 0)) (by simp [results, Tryz.results69, go_sem, tval, tcells, hcr, n4, n5]) rfl ⟨_, j2, false, rfl, ?_, ?_, by omega, by omega, Lib.hid ?_⟩
            · exact (ST.out.six _ _ _ _ _ _).1
            · exact (ST.out.six _ _ _ _ _ _).2
            · rw [HF.out]; exact Got.yes rfl
          case' true =>
            have HF := Lib.hid (HT.out.1 hN)
            have hj5 := hl5 hN
            have hw : c5 = 110 ∨ c5 = 78 := by unfold L.isN at hN; simpa using hN
            clear hN hl5 HT
            have hJ : (j2 : Int) + 1 = ((j2 + 1 : Nat) : Int) := by omega
            have HJ := Lib.hid hJ
            clear hJ
            obtain ⟨hcb, hfb⟩ := cells_of ST5.out.rdr
            obtain ⟨hcx, hfx⟩ := cells_of X5.out
            obtain ⟨hcr, hfr⟩ := cells_of ST5.out.res
            have hl1 := ST5.out.lt
            have hl2 := X5.out.lt
            have hl3 := ST5.out.res.lt
            unfold tcells at hcx hfx
            unfold tzero at hcr hfr
            have ST6 := Lib.hid ((ST5.out.place (j2 + 1) HJ.out).far (k := A) (by omega) (by omega) 3 (.int .i64 (g * (n : Int))))
            have X6 : Hid (Blk A (tcells ⟨9, [], [], (g * (n : Int)), 0⟩ (.slice none 0 0)) 77 _) := Lib.hid ((X5.out.far n1 1 (.int .i64 ((j2 : Int) + 1))).set 3 (.int .i64 (g * (n : Int))))
            clear ST5 X5
            rcases hw with rfl | rfl
            all_goals
              go_wp2_with fail
              clear hcb hfb hcx hfx hcr hfr hl1 hl2 hl3 gm
              generalize ((w5.setCell ⟨b, 1, none⟩ (.int .i64 ((j2 : Int) + 1))).setCell ⟨A, 3, none⟩ (.int .i64 ((g * (n : Int))))) = W at *
              generalize hMM : (g * (n : Int)) = M at HF X6
              clear hMM
              obtain ⟨JJ, rfl⟩ : ∃ JJ, JJ = j2 := ⟨_, rfl⟩
      case' false =>
        have HF : Hid (L.nth (s.drop i) = L.nthTail g 1 false (s.drop j1)) := Lib.hid (by
          rw [HM.out]
          exact rest_some (HS1.out (by trivial)) (coef_no hd1))
        clear HM HS1 hd1
        have P4 := Lib.hid (peek b s j1 false w2 hs h1' ST2.out.rdr)
        go_wp2_with fail
        refine (P4.out).mono ?_
        rintro e w5 ⟨rfl, nn5, hw5⟩
        have ST5 : Hid (RdSt b s j1 false R tzero 77 w w5) := Lib.hid (by rw [hw5]; exact ST2.out.drewN _)
        have X5 : Hid (Blk A (tcells ⟨9, [], [], 0, 0⟩ (.slice none 0 0)) 77 w5) := Lib.hid (by rw [hw5]; exact X2.out)
        clear hw5 P4 ST2 X2
        have HF0 := HF
        clear HF
        have h05 : i ≤ j1 := by omega
        have gm : IntKind.i64.wrap g = g := IntWalk.i64_in _ (by omega)
        have hc5 : ∃ c5, s.getD j1 0 = c5 := ⟨_, rfl⟩
        obtain ⟨c5, hc5⟩ := hc5
        rw [hc5]
        have hl5 : L.isN c5 = true → j1 + 1 ≤ s.length := fun h => (tail_n (g := 1) (n := 1) (sm := true) (by rw [hc5]; exact h)).1
        have HT : Hid ((L.isN c5 = true → L.nth (s.drop i) = (match L.offset (s.drop (j1 + 1)) with | none => none | some (b, u) => some (⟨9, [], [], g * ((1 : Nat) : Int), b⟩, u))) ∧ (L.isN c5 = false → L.nth (s.drop i) = (if false then some (⟨9, [], [], 0, g * ((1 : Nat) : Int)⟩, s.drop j1) else none))) := Lib.hid ⟨fun h => HF0.out.trans (tail_n (by rw [hc5]; exact h)).2, fun h => HF0.out.trans (tail_o (by rw [hc5]; exact h))⟩
        clear hc5 HF0
        cases hN : L.isN c5
        case' false =>
          have HF := Lib.hid (HT.out.2 hN)
          have e1 : (((c5).toNat : Int) == 110) = false := byte_ne (n := 110) (by intro h; rw [h] at hN; exact absurd hN (by decide)) (by decide)
          have e2 : (((c5).toNat : Int) == 78) = false := byte_ne (n := 78) (by intro h; rw [h] at hN; exact absurd hN (by decide)) (by decide)
          have m1 : (((c5).toNat : Int) != 110) = true := by rw [bne, e1]; rfl
          have m2 : (((c5).toNat : Int) != 78) = true := by rw [bne, e2]; rfl
          have p1 : ¬ (((c5).toNat : Int) = 110) := by rw [← beq_iff_eq, e1]; exact Bool.false_ne_true
          have p2 : ¬ (((c5).toNat : Int) = 78) := by rw [← beq_iff_eq, e2]; exact Bool.false_ne_true
          obtain ⟨hcb, hfb⟩ := cells_of ST5.out.rdr
          obtain ⟨hcx, hfx⟩ := cells_of X5.out
          obtain ⟨hcr, hfr⟩ := cells_of ST5.out.res
          have hl1 := ST5.out.lt
          have hl2 := X5.out.lt
          have hl3 := ST5.out.res.lt
          unfold tcells at hcx hfx
          unfold tzero at hcr hfr
          have ST := Lib.hid (ST5.out.fail.far (k := A) (by omega) (by omega) 4 (.int .i64 g))
          clear hN hl5 HT
          go_wp2_with fail
          refine bodyPost_ret (v := tval ⟨9, [], [], 0, g⟩ (.slice none 0 0)) (by simp [results, Tryz.results69, go_sem, tval, tcells, hcr, n4, n5]) rfl ⟨_, j1, true, rfl, ?_, ?_, by omega, by omega, Lib.hid ?_⟩
          · exact (ST.out.six _ _ _ _ _ _).1
          · exact (ST.out.six _ _ _ _ _ _).2
          · rw [HF.out]; exact Got.no rfl
        case' true =>
          have HF := Lib.hid (HT.out.1 hN)
          rw [show g * ((1 : Nat) : Int) = g by omega] at HF
          have hj5 := hl5 hN
          have hw : c5 = 110 ∨ c5 = 78 := by unfold L.isN at hN; simpa using hN
          clear hN hl5 HT
          have hJ : (j1 : Int) + 1 = ((j1 + 1 : Nat) : Int) := by omega
          have HJ := Lib.hid hJ
          clear hJ
          obtain ⟨hcb, hfb⟩ := cells_of ST5.out.rdr
          obtain ⟨hcx, hfx⟩ := cells_of X5.out
          obtain ⟨hcr, hfr⟩ := cells_of ST5.out.res
          have hl1 := ST5.out.lt
          have hl2 := X5.out.lt
          have hl3 := ST5.out.res.lt
          unfold tcells at hcx hfx
          unfold tzero at hcr hfr
          have ST6 := Lib.hid ((ST5.out.place (j1 + 1) HJ.out).far (k := A) (by omega) (by omega) 3 (.int .i64 g))
          have X6 : Hid (Blk A (tcells ⟨9, [], [], g, 0⟩ (.slice none 0 0)) 77 _) := Lib.hid ((X5.out.far n1 1 (.int .i64 ((j1 : Int) + 1))).set 3 (.int .i64 g))
          clear ST5 X5
          rcases hw with rfl | rfl
          all_goals
            go_wp2_with fail
            clear hcb hfb hcx hfx hcr hfr hl1 hl2 hl3 gm
            generalize ((w5.setCell ⟨b, 1, none⟩ (.int .i64 ((j1 : Int) + 1))).setCell ⟨A, 3, none⟩ (.int .i64 (g))) = W at *
            generalize hMM : g = M at HF X6
            clear hMM
            obtain ⟨JJ, rfl⟩ : ∃ JJ, JJ = j1 := ⟨_, rfl⟩
      all_goals
        refine (space_any b s (JJ + 1) false _ hs hj5 ST6.out.rdr).mono ?_
        rintro e w7 ⟨j3, rfl, hr7, hb7, h3, h3', HSp⟩
        have ST7 := Lib.hid (ST6.out.step hr7 hb7)
        have X7 := Lib.hid (X6.out.but hb7 n1)
        clear hr7 hb7 ST6 X6
        go_wp2_with fail
        refine (sign_any b s j3 false _ hs h3' ST7.out.rdr).mono ?_
        rintro e w8 ⟨g2, ok2, j4, rfl, hr8, hb8, h4, h4', hg', HS2, _⟩
        have ST8 := Lib.hid (ST7.out.step hr8 hb8)
        have X8 := Lib.hid (X7.out.but hb8 n1)
        have HG2 := Lib.hid hg'
        clear hr8 hb8 ST7 X7 hg'
        cases ok2
        case false =>
          obtain ⟨hcb, hfb⟩ := cells_of ST8.out.rdr
          obtain ⟨hcx, hfx⟩ := cells_of X8.out
          obtain ⟨hcr, hfr⟩ := cells_of ST8.out.res
          have hl1 := ST8.out.lt
          have hl2 := X8.out.lt
          have hl3 := ST8.out.res.lt
          unfold tcells at hcx hfx
          unfold tzero at hcr hfr
          have ST := Lib.hid (ST8.out.place (JJ + 1) HJ.out)
          go_wp2_with fail
          refine bodyPost_ret (v := tval ⟨9, [], [], M, 0⟩ (.slice none 0 0)) (by simp [results, Tryz.results69, go_sem, tval, tcells, hcr, n4, n5]) rfl ⟨_, JJ + 1, false, rfl, ?_, ?_, by omega, by omega, Lib.hid ?_⟩
          · exact (ST.out.six _ _ _ _ _ _).1
          · exact (ST.out.six _ _ _ _ _ _).2
          · rw [HF.out, offset_no HSp.out.symm (HS2.out (by trivial))]; exact Got.yes rfl
        case true =>
          go_wp2_with fail
          refine (space_any b s j4 false _ hs h4' ST8.out.rdr).mono ?_
          rintro e w9 ⟨j5, rfl, hr9, hb9, h5, h5', HSp2⟩
          have ST9 := Lib.hid (ST8.out.step hr9 hb9)
          have X9 := Lib.hid (X8.out.but hb9 n1)
          clear hr9 hb9 ST8 X8
          go_wp2_with fail
          refine (number_any b s j5 _ hs h5' ST9.out.rdr (HE.out.but ST9.out.but ht) ht).mono ?_
          rintro e w10 (⟨m2, j6, rfl, hr10, hb10, h6, h6', hm2, HN6⟩ | ⟨z2, j6, rfl, hr10, hb10, h6, h6', HN6⟩)
          all_goals
            have ST8 := Lib.hid (ST9.out.step hr10 hb10)
            have X8 := Lib.hid (X9.out.but hb10 n1)
            clear hr10 hb10 ST9 X9
          · have gm2 : IntKind.i64.wrap (g2 * (m2 : Int)) = g2 * (m2 : Int) := IntWalk.i64_in _ (by rcases HG2.out with rfl | rfl <;> omega)
            obtain ⟨hcb, hfb⟩ := cells_of ST8.out.rdr
            obtain ⟨hcx, hfx⟩ := cells_of X8.out
            obtain ⟨hcr, hfr⟩ := cells_of ST8.out.res
            have hl1 := ST8.out.lt
            have hl2 := X8.out.lt
            have hl3 := ST8.out.res.lt
            unfold tcells at hcx hfx
            unfold tzero at hcr hfr
            have ST := Lib.hid (ST8.out.far (k := A) (by omega) (by omega) 4 (.int .i64 (g2 * (m2 : Int))))
            go_wp2_with fail
            refine bodyPost_ret (v := tval ⟨9, [], [], M, g2 * (m2 : Int)⟩ (.slice none 0 0)) (by simp [results, Tryz.results69, go_sem, tval, tcells, hcr, n4, n5]) rfl ⟨_, j6, false, rfl, ?_, ?_, by omega, by omega, Lib.hid ?_⟩
            · exact (ST.out.six _ _ _ _ _ _).1
            · exact (ST.out.six _ _ _ _ _ _).2
            · rw [HF.out, offset_yes HSp.out.symm (HS2.out (by trivial)) HSp2.out.symm, HN6.out]; exact Got.yes rfl
          · obtain ⟨gz2, hgz2⟩ : ∃ m, IntKind.i64.wrap (g2 * z2) = m := ⟨_, rfl⟩
            obtain ⟨hcb, hfb⟩ := cells_of ST8.out.rdr
            obtain ⟨hcx, hfx⟩ := cells_of X8.out
            obtain ⟨hcr, hfr⟩ := cells_of ST8.out.res
            have hl1 := ST8.out.lt
            have hl2 := X8.out.lt
            have hl3 := ST8.out.res.lt
            unfold tcells at hcx hfx
            unfold tzero at hcr hfr
            have ST := Lib.hid (ST8.out.far (k := A) (by omega) (by omega) 4 (.int .i64 gz2))
            go_wp2_with fail
            refine bodyPost_ret (v := tval ⟨9, [], [], M, gz2⟩ (.slice none 0 0)) (by simp [results, Tryz.results69, go_sem, tval, tcells, hcr, n4, n5]) rfl ⟨_, j6, true, rfl, ?_, ?_, by omega, by omega, Lib.hid ?_⟩
            · exact (ST.out.six _ _ _ _ _ _).1
            · exact (ST.out.six _ _ _ _ _ _).2
            · rw [HF.out, offset_yes HSp.out.symm (HS2.out (by trivial)) HSp2.out.symm, HN6.out]; exact Got.no rfl

end K
end Go.Proofs.YtnmcgmbhkmfiaaaGreatDoor

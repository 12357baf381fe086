/- What clean comes to. -/
import Derived.Test.YtafkeolpadfjfaaGreatDoorSty19
import Derived.Test.YtafkeolpadfjfaaGreatDoorCases
import Derived.Lib.IndexMore
set_option linter.unusedVariables false
set_option linter.unusedSimpArgs false
namespace Go.Proofs.YtafkeolpadfjfaaGreatDoor
open Go.RowKit Go.Sort
namespace Y
open H
theorem cut_cm : ∀ t : List UInt8, (Lib.index t [42, 47] = -1 ∧ S.cm t = t.length) ∨ Lib.index t [42, 47] = (S.cm t : Nat)
 | [] => Or.inl ⟨by rfl, by rfl⟩
 | c :: t => by
  by_cases h : ∃ r, c = 42 ∧ t = 47 :: r
  ·obtain ⟨r, rfl, rfl⟩ := h
   refine Or.inr ?_
   unfold Lib.index
   rw [if_pos (by simp [List.isPrefixOf])]
   rfl
  ·have h1 : [42, 47].isPrefixOf (c :: t) = false := by
    rw [Bool.eq_false_iff]
    intro hp
    apply h
    cases t with
    | nil => simp [List.isPrefixOf] at hp
    | cons d r =>
     simp [List.isPrefixOf] at hp
     exact ⟨r, hp.1.symm, by rw [hp.2]⟩
   have h2 : S.cm (c :: t) = S.cm t + 1 := by
    rw [S.cm]
    intro x h3 h4; exact h ⟨x, h3, h4⟩
   unfold Lib.index
   rw [h1, h2, if_neg Bool.false_ne_true]
   rcases cut_cm t with ⟨i1, i2⟩ | i1
   ·exact Or.inl ⟨by rw [i1]; rfl, by rw [i2]; rfl⟩
   ·refine Or.inr ?_
    rw [i1]
    have : (((S.cm t : Nat) : Int) == -1) = false := by rw [beq_eq_false_iff_ne]; omega
    rw [this, if_neg Bool.false_ne_true]
    omega
/-- bytealg.MaxLen holds some number. -/
def HasMax (w : World) : Prop := (∃ m, w.cell? ⟨6, 0, none⟩ = some (.int .i64 m)) ∧ 6 < w.heap.size
theorem HasMax.below {w w' : World} {B : Nat} (h : HasMax w) (b : Below B w w') (hB : 6 < B) : HasMax w' := by
 obtain ⟨⟨m, hm⟩, hz⟩ := h
 exact ⟨⟨m, (b.cell (p := ⟨6, 0, none⟩) hB).trans hm⟩, Nat.lt_of_lt_of_le hz b.size⟩
theorem CutC (t : List UInt8) (w : World) (hs : t.length ≤ 1000000) (hM : HasMax w) : ∃ u fa, Calls Tryz.prog 62 #[.string ⟨t.toArray⟩, .string ⟨#[42, 47]⟩] w fun e w' => e = .returned (.tuple #[.string ⟨(t.take (S.cm t)).toArray⟩, .string u, .bool fa]) ∧ ∃ n, w' = w.drewN n := by
 obtain ⟨⟨m, hm⟩, hz⟩ := hM
 have := Tryz.strings_Cut ⟨t.toArray⟩ ⟨#[42, 47]⟩ m w (by rw [bytes_size]; omega) hm
 have hx : (Lib.cut t [42, 47]).1 = t.take (S.cm t) := by
  unfold Lib.cut
  rcases cut_cm t with ⟨i1, i2⟩ | i1
  ·rw [i1, i2, List.take_length]; rfl
  ·rw [i1, if_pos (by omega)]; rfl
 rw [bytes_toList, show (⟨#[42, 47]⟩ : ByteArray).data.toList = [42, 47] from rfl, hx] at this
 exact ⟨_, _, this⟩
theorem prefC (s p : List UInt8) (b : Bool) (w : World) (hb : p.isPrefixOf s = b) :
  Calls Tryz.prog 66 #[.string ⟨s.toArray⟩, .string ⟨p.toArray⟩] w fun e w' => e = .returned (.bool b) ∧ w = w' := by
 have := Tryz.strings_HasPrefix ⟨s.toArray⟩ ⟨p.toArray⟩ w
 rw [bytes_toList, bytes_toList] at this
 unfold Lib.hasPrefix at this
 rw [hb] at this
 exact this.mono fun e w' ⟨h1, h2⟩ => ⟨h1, h2.symm⟩
theorem clean_q {q : UInt8} (hq : q = 34 ∨ q = 39) (c : UInt8) (t : List UInt8) : S.clean q (c :: t) = c :: S.clean (if c = q then 0 else q) t := by
 have q0 : q ≠ 0 := by rcases hq with rfl | rfl <;> decide
 have q1 : q ≠ 1 := by rcases hq with rfl | rfl <;> decide
 rw [S.clean]
 ·rw [if_neg q1, if_neg q0]
 ·intro x h; exact absurd h q0
 ·intro x h; exact absurd h q1
theorem isb_drewN {B b : Nat} {bs : List Value} {w : World} (h : Lib.IsBuilderF 109 5 B b bs w) : ∀ n, Lib.IsBuilderF 109 5 B b bs (w.drewN n)
 | 0 => h
 | n + 1 => by
  rcases isb_drewN h n with h1 | h1
  ·exact Or.inl h1
  ·exact Or.inr h1.drew
theorem drewN_below {B : Nat} {a w : World} (h : Below B a w) : ∀ q, Below B a (w.drewN q)
 | 0 => h
 | q + 1 => (drewN_below h q).drew
def ClRel (s : List UInt8) (B : Nat) (w1 : World) (v4 v5 : Value) (wr : World) : Prop :=
 ∃ (k : Nat) (m : UInt8) (q : Int) (acc : List UInt8), k ≤ s.length + 1 ∧ v4 = .int .u8 q ∧ v5 = .int .i64 k ∧ ((m = 0 ∧ q = 0) ∨ (m = 34 ∧ q = 34) ∨ (m = 39 ∧ q = 39)) ∧ Lib.IsBuilderF 109 5 B B (Lib.byteCells acc) wr ∧ Below B w1 wr ∧ Hid (acc ++ S.clean m (s.drop k) = S.clean 0 s) ∧ acc.length ≤ k
set_option maxHeartbeats 16000000 in
set_option maxRecDepth 100000 in
theorem clean (s0 s : List UInt8) (w : World) (hs : s.length ≤ 900000) (hR : Calls Tryz.prog 65 #[.string ⟨s0.toArray⟩] w fun e w' => e = .returned (.string ⟨s.toArray⟩) ∧ Below w.heap.size w w') (hM : HasMax w) :
  Calls Tryz.prog 33 #[.string ⟨s0.toArray⟩] w fun e w' => e = .returned (.string ⟨(S.clean 0 s).toArray⟩) ∧ Below w.heap.size w w' := by
 have QR := Lib.hid hR
 have HM := Lib.hid hM
 have hMz := hM.2
 clear hR hM
 go_enter Tryz.func33, Tryz.ntmps33
 go_wp2_with (go_at_call 65; refine QR.out.mono ?_)
 rintro e w1 ⟨rfl, hb0⟩
 have hz1 := hb0.size
 have HM1 := Lib.hid (HM.out.below hb0 hMz)
 have HB0 := Lib.hid hb0
 clear QR hb0 HM
 have zs := bytes_size s
 go_wp2_with fail
 go_loopw [4, 5] (fun v4 v5 wr => ClRel s w1.heap.size w1 v4 v5 wr) (fun _ v5 _ => s.length + 1 - (intOf v5).toNat)
 case atStart =>
  exact ⟨0, 0, 0, [], by omega, rfl, rfl, Or.inl ⟨rfl, rfl⟩, Lib.IsBuilderF.of (Lib.fresh_isBuilder _ _ w1), (Below.refl _ w1).alloc (Nat.le_refl _) _, Lib.hid rfl, Nat.zero_le _⟩
 case round =>
  obtain ⟨k, m, q, acc, hk, rfl, rfl, hmq, hI, hbw, HA, hal⟩ := hrel
  have hsz := hbw.size
  by_cases hlt : k < s.length
  ·have hltI : (k : Int) < (s.length : Int) := by omega
   obtain ⟨c, t, hd⟩ := drop_cons hlt
   have hix := at_drop hd (by rw [bytes_size]; exact hlt)
   have hmore := drop_more hd
   have hlen := drop_len hd
   have hWB := fun (W : World) (hW : Lib.IsBuilderF 109 5 w1.heap.size w1.heap.size (Lib.byteCells acc) W) (hz : w1.heap.size ≤ W.heap.size) (c : Int) => Bld.WriteByte_k w1.heap.size w1.heap.size _ c W hW (by rw [Lib.byteCells_length]; omega) hz
   have QW := Lib.hid hWB
   clear hWB
   rcases hmq with ⟨hm, hq⟩ | hmq
   ·subst hm
    by_cases h34 : c = 34 ∨ c = 39
    ·have HN : Hid ((acc ++ [c]) ++ S.clean c (s.drop (k + 1)) = S.clean 0 s) := Lib.hid (by
      rw [← HA.out, hd, S.clean_start h34, hmore, List.append_assoc]; rfl)
     have hcase : (((c.toNat : Int) == 34) = true ∧ Hid (c = 34 ∧ (c.toNat : Int) = 34)) ∨ (((c.toNat : Int) == 34) = false ∧ ((c.toNat : Int) == 39) = true ∧ Hid (c = 39 ∧ (c.toNat : Int) = 39)) := by
      rcases h34 with h | h
      ·have := byte_is (c := c) (n := 34) (by rw [h]; rfl) (by decide)
       exact Or.inl ⟨this, Lib.hid ⟨h, by simpa using this⟩⟩
      ·have := byte_is (c := c) (n := 39) (by rw [h]; rfl) (by decide)
       exact Or.inr ⟨byte_ne (c := c) (n := 34) (by rw [h]; decide) (by decide), this, Lib.hid ⟨h, by simpa using this⟩⟩
     have hnew : (c = 0 ∧ (c.toNat : Int) = 0) ∨ (c = 34 ∧ (c.toNat : Int) = 34) ∨ (c = 39 ∧ (c.toNat : Int) = 39) := by
      rcases hcase with ⟨_, h⟩ | ⟨_, _, h⟩
      ·exact Or.inr (Or.inl h.out)
      ·exact Or.inr (Or.inr h.out)
     have HNW := Lib.hid hnew
     clear HA hd hmore h34 hnew hlen
     rcases hcase with ⟨q1, H1⟩ | ⟨q1, q2, H1⟩
     all_goals
      subst hq
      go_wp2_with (go_at_call 67; refine (QW.out _ hI hsz _).mono ?_)
      rintro e W1 ⟨rfl, h1, b1, k1⟩
      go_wp2_with fail
      go_roundw
      case rel => exact ⟨k + 1, c, _, acc ++ [c], by omega, rfl, by go_num, HNW.out, by rw [Lib.byteCells_append]; exact Or.inr h1, hbw.trans b1, HN, by simp; omega⟩
      case measure => simp [intOf]; omega
    ·have q34 : ((c.toNat : Int) == 34) = false := byte_ne (c := c) (n := 34) (fun h => h34 (Or.inl h)) (by decide)
     have q39 : ((c.toNat : Int) == 39) = false := byte_ne (c := c) (n := 39) (fun h => h34 (Or.inr h)) (by decide)
     have hxt : (⟨s.toArray⟩ : ByteArray).extract k s.length = ⟨(c :: t).toArray⟩ := by
      rw [slice_str s k s.length (by omega) (Nat.le_refl _), hd, List.take_of_length_le (by rw [List.length_cons]; omega)]
     have hcom : (∃ u, c = 47 ∧ t = 42 :: u) ∨ (∀ r, ¬ (c = 47 ∧ t = 42 :: r)) := by
      by_cases h : ∃ u, c = 47 ∧ t = 42 :: u
      ·exact Or.inl h
      ·exact Or.inr fun r hr => h ⟨r, hr⟩
     rcases hcom with ⟨u, hc, ht⟩ | hno
     ·have HN : Hid ((acc ++ [32]) ++ S.clean 0 (s.drop (min (k + S.cm u + 3) s.length + 1)) = S.clean 0 s) := Lib.hid (by
       have hu : s.drop (k + 2) = u := by rw [show k + 2 = (k + 1) + 1 by omega, ← List.drop_drop, hmore, ht]; rfl
       have hul : s.length = k + 2 + u.length := by rw [ht, List.length_cons] at hlen; omega
       have he : s.drop (min (k + S.cm u + 3) s.length + 1) = u.drop (S.cm u + 2) := by
        rcases Nat.le_total (k + S.cm u + 3) s.length with h | h
        ·rw [Nat.min_eq_left h, ← hu, List.drop_drop]; congr 1; omega
        ·rw [Nat.min_eq_right h, List.drop_eq_nil_of_le (Nat.le_succ _), List.drop_eq_nil_of_le (by omega)]
       rw [he, ← HA.out, hd, hc, ht, S.clean_open, S.clean_in, List.append_assoc]; rfl)
      have hP := prefC (c :: t) [47, 42] true wr (by rw [hc, ht]; simp [List.isPrefixOf])
      have hxt2 : (⟨s.toArray⟩ : ByteArray).extract (k + 2) s.length = ⟨u.toArray⟩ := by
       have hu : s.drop (k + 2) = u := by rw [show k + 2 = (k + 1) + 1 by omega, ← List.drop_drop, hmore, ht]; rfl
       rw [slice_str s (k + 2) s.length (by rw [ht, List.length_cons] at hlen; omega) (Nat.le_refl _), hu, List.take_of_length_le (by rw [ht, List.length_cons] at hlen; omega)]
      have hul : s.length = k + 2 + u.length := by rw [ht, List.length_cons] at hlen; omega
      obtain ⟨uu, fa, QC⟩ := CutC u wr (by omega) (HM1.out.below hbw HM1.out.2)
      have QP := Lib.hid hP
      have QCH := Lib.hid QC
      have hcmle := S.cm_le u
      have zt : (u.take (S.cm u)).length = S.cm u := by rw [List.length_take]; omega
      have zu := bytes_size (u.take (S.cm u))
      rw [zt] at zu
      have w0 : IntKind.i64.wrap ((k : Int) + 2) = (k : Int) + 2 := IntWalk.i64_in _ (by omega)
      have w1' : IntKind.i64.wrap ((k : Int) + ((S.cm u : Nat) : Int)) = (k : Int) + ((S.cm u : Nat) : Int) := IntWalk.i64_in _ (by omega)
      have w2 : IntKind.i64.wrap ((k : Int) + ((S.cm u : Nat) : Int) + 3) = (k : Int) + ((S.cm u : Nat) : Int) + 3 := IntWalk.i64_in _ (by omega)
      have hmin : min ((k : Int) + ((S.cm u : Nat) : Int) + 3) (s.length : Int) = ((min (k + S.cm u + 3) s.length : Nat) : Int) := by omega
      have t2 : ((k : Int) + 2).toNat = k + 2 := by omega
      have g2 : (0 : Int) ≤ (k : Int) + 2 := by omega
      have l2 : (k : Int) + 2 ≤ (s.length : Int) := by omega
      have hk2 : k < min (k + S.cm u + 3) s.length + 1 ∧ min (k + S.cm u + 3) s.length + 1 ≤ s.length + 1 := by omega
      generalize min (k + S.cm u + 3) s.length = k2 at *
      generalize u.take (S.cm u) = uc at *
      generalize S.cm u = cu at *
      clear HA hd hmore hc ht hP QC h34 hlen hul
      subst hq
      go_wp2_with (go_at_call 66; (try rw [hxt]); refine QP.out.mono ?_; rintro e w' ⟨rfl, rfl⟩)
      go_upto_region 13 with fail
      go_wp2_with (go_at_call 62; (try rw [hxt2]); refine QCH.out.mono ?_)
      rintro e w' ⟨rfl, n, rfl⟩
      have hI2 := isb_drewN hI n
      have hb2 := drewN_below hbw n
      have hs2 := hb2.size
      generalize wr.drewN n = wn at *
      clear hI hbw QCH QP
      go_upto_region 15 with fail
      go_wp2_with (go_at_call 67; refine (QW.out _ hI2 hs2 _).mono ?_)
      rintro e W1 ⟨rfl, h1, b1, k1⟩
      go_wp2_with fail
      go_roundw
      case rel => exact ⟨k2 + 1, 0, 0, acc ++ [32], hk2.2, rfl, by go_num, Or.inl ⟨rfl, rfl⟩, by rw [Lib.byteCells_append]; exact Or.inr h1, hb2.trans b1, HN, by simp; omega⟩
      case measure => simp [intOf]; omega
     ·have HN : Hid ((acc ++ [c]) ++ S.clean 0 (s.drop (k + 1)) = S.clean 0 s) := Lib.hid (by
       rw [← HA.out, hd, S.clean_else h34 hno, hmore, List.append_assoc]; rfl)
      have hP := prefC (c :: t) [47, 42] false wr (by
       rw [Bool.eq_false_iff]
       intro hp
       cases t with
       | nil => simp [List.isPrefixOf] at hp
       | cons d r =>
        simp [List.isPrefixOf] at hp
        exact hno r ⟨hp.1.symm, by rw [hp.2]⟩)
      have QP := Lib.hid hP
      clear HA hd hmore hno hP h34 hlen
      subst hq
      go_wp2_with (first | (go_at_call 66; (try rw [hxt]); refine QP.out.mono ?_; rintro e w' ⟨rfl, rfl⟩) | (go_at_call 67; refine (QW.out _ hI hsz _).mono ?_))
      rintro e W1 ⟨rfl, h1, b1, k1⟩
      go_wp2_with fail
      go_roundw
      case rel => exact ⟨k + 1, 0, 0, acc ++ [c], by omega, rfl, by go_num, Or.inl ⟨rfl, rfl⟩, by rw [Lib.byteCells_append]; exact Or.inr h1, hbw.trans b1, HN, by simp; omega⟩
      case measure => simp [intOf]; omega
   ·have hq34 : m = 34 ∨ m = 39 := by rcases hmq with h | h <;> simp [h.1]
    have hcl := clean_q hq34 c t
    have hqm : (((c.toNat : Int) == q) = decide (c = m)) ∧ (q == 0) = false ∧ (q != 0) = true ∧ ¬ q = 0 := by
     rcases hmq with ⟨rfl, rfl⟩ | ⟨rfl, rfl⟩
     ·exact ⟨by rw [show ((34 : Int)) = ((34 : Nat) : Int) from rfl, byte_eq c 34 (by decide)]; rw [Bool.eq_iff_iff]; simp, by decide, by decide, by decide⟩
     ·exact ⟨by rw [show ((39 : Int)) = ((39 : Nat) : Int) from rfl, byte_eq c 39 (by decide)]; rw [Bool.eq_iff_iff]; simp, by decide, by decide, by decide⟩
    obtain ⟨e1, e2, e3, e4⟩ := hqm
    by_cases hcm : c = m
    ·have e5 : ((c.toNat : Int) == q) = true := by rw [e1]; exact decide_eq_true hcm
     have HN : Hid ((acc ++ [c]) ++ S.clean 0 (s.drop (k + 1)) = S.clean 0 s) := Lib.hid (by
      rw [← HA.out, hd, hcl, if_pos hcm, hmore, List.append_assoc]; rfl)
     clear HA hd hmore hcl e1 hcm hmq hq34 hlen
     go_wp2_with (go_at_call 67; refine (QW.out _ hI hsz _).mono ?_)
     rintro e W1 ⟨rfl, h1, b1, k1⟩
     go_wp2_with fail
     go_roundw
     case rel => exact ⟨k + 1, 0, 0, acc ++ [c], by omega, rfl, by go_num, Or.inl ⟨rfl, rfl⟩, by rw [Lib.byteCells_append]; exact Or.inr h1, hbw.trans b1, HN, by simp; omega⟩
     case measure => simp [intOf]; omega
    ·have e5 : ((c.toNat : Int) == q) = false := by rw [e1]; exact decide_eq_false hcm
     have HN : Hid ((acc ++ [c]) ++ S.clean m (s.drop (k + 1)) = S.clean 0 s) := Lib.hid (by
      rw [← HA.out, hd, hcl, if_neg hcm, hmore, List.append_assoc]; rfl)
     have HM2 : Hid ((m = 0 ∧ q = 0) ∨ (m = 34 ∧ q = 34) ∨ (m = 39 ∧ q = 39)) := Lib.hid (Or.inr hmq)
     clear HA hd hmore hcl e1 hcm hmq hq34 hlen
     go_wp2_with (go_at_call 67; refine (QW.out _ hI hsz _).mono ?_)
     rintro e W1 ⟨rfl, h1, b1, k1⟩
     go_wp2_with fail
     go_roundw
     case rel => exact ⟨k + 1, m, q, acc ++ [c], by omega, rfl, by go_num, HM2.out, by rw [Lib.byteCells_append]; exact Or.inr h1, hbw.trans b1, HN, by simp; omega⟩
     case measure => simp [intOf]; omega
  ·have HQ : Hid (acc = S.clean 0 s) := Lib.hid (by
    have h := HA.out
    rw [List.drop_eq_nil_of_le (by omega), S.clean_nil, List.append_nil] at h
    exact h)
   have hltI : ¬ (k : Int) < (s.length : Int) := by omega
   clear HA hmq
   go_wp2_with (go_at_call 60; refine (Tryz.Builder_String_any_k w1.heap.size w1.heap.size acc _ hI hsz).mono ?_)
   rintro e W1 rfl _ b1 _
   go_wp2_with fail
   go_ret
   exact ⟨ret_strY (by rw [HQ.out]), HB0.out.trans ((hbw.trans b1).mono hz1)⟩
end Y
end Go.Proofs.YtafkeolpadfjfaaGreatDoor

/- What the reference's str, Next and Plain come to. -/
import Derived.Test.YtafkeolpadfjfaaGreatDoorSty14
import Derived.Test.YtafkeolpadfjfaaGreatDoorSty19
set_option linter.unusedVariables false
set_option linter.unusedSimpArgs false
namespace Go.Proofs.YtafkeolpadfjfaaGreatDoor
open Go.RowKit
namespace V
open H Y
def notQ (q : UInt8) (c : UInt8) : Bool := decide (c ≠ q)
theorem strLen_end {s t : List UInt8} {q : UInt8} {i : Nat} (hd : s.drop i = q :: t) : i + 1 + S.strLen q t = min (twEnd (notQ q) s (i + 1) + 1) s.length := by
 have h1 := drop_len hd
 have h2 : s.drop (i + 1) = t := drop_more hd
 unfold S.strLen twEnd notQ
 rw [h2]
 omega
set_option maxHeartbeats 2000000 in
set_option maxRecDepth 100000 in
theorem str (s t : List UInt8) (q : UInt8) (i : Nat) (w : World) (hs : s.length ≤ 1000000) (hd : s.drop i = q :: t) :
  Calls Tryz.prog 70 #[.string ⟨s.toArray⟩, .int .i64 (i : Nat)] w fun e w' => e = .returned (.int .i64 ((i + 1 + S.strLen q t : Nat) : Int)) ∧ w = w' := by
 have hi := lt_drop hd
 have HR := Lib.hid (strLen_end hd)
 generalize i + 1 + S.strLen q t = R at *
 have zs := bytes_size s
 have hix := at_drop hd (by rw [bytes_size]; exact hi)
 have hi0 : (i : Int) < (s.length : Int) := by omega
 have HE0 : Hid (twEnd (notQ q) s (i + 1) = twEnd (notQ q) s (i + 1)) := Lib.hid rfl
 generalize hE : twEnd (notQ q) s (i + 1) = E at HR
 rw [hE] at HE0
 have HE := Lib.hid hE
 clear hd HE0 hE
 go_enter Tryz.func70, Tryz.ntmps70
 go_wp2_with fail
 clear hix
 go_loop [1] (fun v1 => ∃ k : Nat, v1 = .int .i64 k ∧ k ≤ s.length ∧ Hid (twEnd (notQ q) s k = E)) (fun v1 => s.length - (intOf v1).toNat)
 case atStart => exact ⟨i + 1, by go_num, by omega, HE⟩
 case round =>
  obtain ⟨k, rfl, hk, HK⟩ := hrel
  clear HE
  by_cases hlt : k < s.length
  ·have hlI : (k : Int) < (s.length : Int) := by omega
   obtain ⟨c, r, hd⟩ := drop_cons hlt
   have hkx := at_drop hd (by rw [bytes_size]; exact hlt)
   cases hc : notQ q c with
   | true =>
    have hcq : c ≠ q := of_decide_eq_true hc
    have HK2 := Lib.hid ((twEnd_step hd hc).trans HK.out)
    have e1 : ((c.toNat : Int) == (q.toNat : Int)) = false := by rw [beq_eq_false_iff_ne]; intro h; exact hcq (UInt8.toNat_inj.1 (by omega))
    have e2 : ((c.toNat : Int) != (q.toNat : Int)) = true := by rw [bne, e1]; rfl
    have e3 : ¬ (c.toNat : Int) = (q.toNat : Int) := by simpa using e1
    have e4 : ¬ c.toNat = q.toNat := by omega
    clear hd hc hcq HK
    go_wp2_with fail
    go_round
    case rel => exact ⟨k + 1, by go_num, by omega, HK2⟩
    case measure => simp [intOf]; omega
   | false =>
    have hcq : c = q := by simpa [notQ] using hc
    have HK2 := Lib.hid ((twEnd_stop hd hc).symm.trans HK.out)
    have hm : min ((k : Int) + 1) (s.length : Int) = (R : Int) := by have := HR.out; have := HK2.out; omega
    have e1 : ((c.toNat : Int) == (q.toNat : Int)) = true := by rw [hcq]; simp
    have e2 : ((c.toNat : Int) != (q.toNat : Int)) = false := by rw [bne, e1]; rfl
    have e3 : (c.toNat : Int) = (q.toNat : Int) := by simpa using e1
    clear hd hc hcq HK HK2
    go_wp2_with fail
    go_ret
    exact ⟨rfl, rfl⟩
  ·have hlI : ¬ (k : Int) < (s.length : Int) := by omega
   have hm : min ((k : Int) + 1) (s.length : Int) = (R : Int) := by have h1 := HR.out; have h2 := HK.out; rw [twEnd_past (by omega)] at h2; omega
   clear HK
   go_wp2_with fail
   go_ret
   exact ⟨rfl, rfl⟩
theorem isB {c : UInt8} {n : Nat} (h : c = UInt8.ofNat n) (hn : n < 256) : ((c.toNat : Int) == (n : Int)) = true ∧ ((c.toNat : Int) != (n : Int)) = false ∧ (c.toNat : Int) = (n : Int) := by
 have e := byte_is h hn
 exact ⟨e, by rw [bne, e]; rfl, by simpa using e⟩
theorem noB {c : UInt8} {n : Nat} (h : c ≠ UInt8.ofNat n) (hn : n < 256) : ((c.toNat : Int) == (n : Int)) = false ∧ ((c.toNat : Int) != (n : Int)) = true ∧ ¬ (c.toNat : Int) = (n : Int) := by
 have e := byte_ne h hn
 exact ⟨e, by rw [bne, e]; rfl, by simpa using e⟩
set_option maxHeartbeats 8000000 in
set_option maxRecDepth 100000 in
theorem next : ∀ (n : Nat) (s t : List UInt8) (c : UInt8) (i : Nat) (w : World), s.length ≤ 1000000 → s.length - i ≤ n → s.drop i = c :: t →
  Calls Tryz.prog 53 #[.string ⟨s.toArray⟩, .int .i64 (i : Nat)] w fun e w' => e = .returned (.int .i64 ((i + S.nx (c :: t) : Nat) : Int)) ∧ w = w' := by
 intro n
 induction n with
 | zero =>
  intro s t c i w hs hn hd
  have := lt_drop hd
  omega
 | succ n ih =>
  intro s t c i w hs hn hd
  have hi := lt_drop hd
  have IH := Lib.hid (fun (j : Nat) (c' : UInt8) (t' : List UInt8) (hij : i < j) (hd' : s.drop j = c' :: t') => ih s t' c' j w hs (by omega) hd')
  have zs := bytes_size s
  have hix := at_drop hd (by rw [bytes_size]; exact hi)
  have hi0 : (i : Int) < (s.length : Int) := by omega
  have hlen := drop_len hd
  have HM := Lib.hid (drop_more hd)
  clear ih
  by_cases hq : c = 34 ∨ c = 39
  ·have HQ := Lib.hid (str s t c i w hs hd)
   have HN : Hid (i + S.nx (c :: t) = i + 1 + S.strLen c t) := Lib.hid (by rw [S.nx, if_pos hq]; omega)
   generalize i + S.nx (c :: t) = R at *
   rcases hq with hq | hq
   ·obtain ⟨a34c, b34c, m34c⟩ : ((c.toNat : Int) == 34) = true ∧ ((c.toNat : Int) != 34) = false ∧ (c.toNat : Int) = 34 := isB (n := 34) hq (by decide)
    clear hd hq
    go_enter Tryz.func53, Tryz.ntmps53
    go_wp2_with fail
    refine HQ.out.mono ?_
    rintro e w' ⟨rfl, rfl⟩
    go_wp2_with fail
    go_ret
    exact ⟨ret_int (by have := HN.out; omega), rfl⟩
   ·obtain ⟨a34c, b34c, m34c⟩ : ((c.toNat : Int) == 34) = false ∧ ((c.toNat : Int) != 34) = true ∧ ¬ (c.toNat : Int) = 34 := noB (n := 34) (by rw [hq]; decide) (by decide)
    obtain ⟨a39c, b39c, m39c⟩ : ((c.toNat : Int) == 39) = true ∧ ((c.toNat : Int) != 39) = false ∧ (c.toNat : Int) = 39 := isB (n := 39) hq (by decide)
    clear hd hq
    go_enter Tryz.func53, Tryz.ntmps53
    go_wp2_with fail
    refine HQ.out.mono ?_
    rintro e w' ⟨rfl, rfl⟩
    go_wp2_with fail
    go_ret
    exact ⟨ret_int (by have := HN.out; omega), rfl⟩
  ·obtain ⟨a34c, b34c, m34c⟩ : ((c.toNat : Int) == 34) = false ∧ ((c.toNat : Int) != 34) = true ∧ ¬ (c.toNat : Int) = 34 := noB (n := 34) (fun h => hq (Or.inl h)) (by decide)
   obtain ⟨a39c, b39c, m39c⟩ : ((c.toNat : Int) == 39) = false ∧ ((c.toNat : Int) != 39) = true ∧ ¬ (c.toNat : Int) = 39 := noB (n := 39) (fun h => hq (Or.inr h)) (by decide)
   by_cases ho : c = 40 ∨ c = 91 ∨ c = 123
   ·have HN : Hid (min (i + 1 + S.scan S.closers 0 0 (s.drop (i + 1)) + 1) s.length = i + S.nx (c :: t)) := Lib.hid (by rw [S.nx, if_neg hq, if_pos ho, HM.out]; omega)
    have hRb : i + S.nx (c :: t) ≤ 1000000 := by have := S.nx_le (c :: t); rw [List.length_cons] at this; omega
    generalize i + S.nx (c :: t) = R at *
    have hw : IntKind.i64.wrap ((i : Int) + 1) = (i : Int) + 1 := IntWalk.i64_in _ (by omega)
    have hcase : (((c.toNat : Int) != 40) = false ∧ (c.toNat : Int) = 40) ∨ ((((c.toNat : Int) != 40) = true ∧ ¬ (c.toNat : Int) = 40) ∧ ((c.toNat : Int) != 91) = false ∧ (c.toNat : Int) = 91) ∨ ((((c.toNat : Int) != 40) = true ∧ ¬ (c.toNat : Int) = 40) ∧ (((c.toNat : Int) != 91) = true ∧ ¬ (c.toNat : Int) = 91) ∧ ((c.toNat : Int) != 123) = false ∧ (c.toNat : Int) = 123) := by
     rcases ho with h | h | h
     ·exact Or.inl (isB (n := 40) h (by decide)).2
     ·exact Or.inr (Or.inl ⟨(noB (n := 40) (by rw [h]; decide) (by decide)).2, (isB (n := 91) h (by decide)).2⟩)
     ·exact Or.inr (Or.inr ⟨(noB (n := 40) (by rw [h]; decide) (by decide)).2, (noB (n := 91) (by rw [h]; decide) (by decide)).2, (isB (n := 123) h (by decide)).2⟩)
    clear hd hq ho HM hw
    rcases hcase with ⟨h1, h2⟩ | ⟨⟨h1, h2⟩, h3, h4⟩ | ⟨⟨h1, h2⟩, ⟨h3, h4⟩, h5, h6⟩
    all_goals
     go_enter Tryz.func53, Tryz.ntmps53
     go_wp2_with fail
     go_loop [1] (fun v1 => ∃ k : Nat, v1 = .int .i64 k ∧ i < k ∧ k ≤ s.length ∧ Hid (min (k + S.scan S.closers 0 0 (s.drop k) + 1) s.length = R)) (fun v1 => s.length - (intOf v1).toNat)
     case atStart => exact ⟨i + 1, by go_num, by omega, by omega, HN⟩
     case round =>
      obtain ⟨k, rfl, hik, hk, HK⟩ := hrel
      clear HN
      by_cases hlt : k < s.length
      ·have hlI : (k : Int) < (s.length : Int) := by omega
       obtain ⟨d, r, hd⟩ := drop_cons hlt
       have hkx := at_drop hd (by rw [bytes_size]; exact hlt)
       by_cases hcl : d = 41 ∨ d = 93 ∨ d = 125
       ·have HR : Hid (R = k + 1) := Lib.hid (by
         have h := HK.out
         rw [hd, S.scan_stop (by rcases hcl with rfl | rfl | rfl <;> decide)] at h
         omega)
        have hcase2 : (((d.toNat : Int) == 41) = true ∧ (d.toNat : Int) = 41) ∨ ((((d.toNat : Int) == 41) = false ∧ ¬ (d.toNat : Int) = 41) ∧ ((d.toNat : Int) == 93) = true ∧ (d.toNat : Int) = 93) ∨ ((((d.toNat : Int) == 41) = false ∧ ¬ (d.toNat : Int) = 41) ∧ (((d.toNat : Int) == 93) = false ∧ ¬ (d.toNat : Int) = 93) ∧ ((d.toNat : Int) == 125) = true ∧ (d.toNat : Int) = 125) := by
         rcases hcl with h | h | h
         ·have q := isB (n := 41) h (by decide); exact Or.inl ⟨q.1, q.2.2⟩
         ·have p := noB (n := 41) (c := d) (by rw [h]; decide) (by decide); have q := isB (n := 93) h (by decide); exact Or.inr (Or.inl ⟨⟨p.1, p.2.2⟩, q.1, q.2.2⟩)
         ·have p := noB (n := 41) (c := d) (by rw [h]; decide) (by decide); have p2 := noB (n := 93) (c := d) (by rw [h]; decide) (by decide); have q := isB (n := 125) h (by decide); exact Or.inr (Or.inr ⟨⟨p.1, p.2.2⟩, ⟨p2.1, p2.2.2⟩, q.1, q.2.2⟩)
        clear hcl hd HK
        rcases hcase2 with ⟨g1, g2⟩ | ⟨⟨g1, g2⟩, g3, g4⟩ | ⟨⟨g1, g2⟩, ⟨g3, g4⟩, g5, g6⟩
        all_goals
         go_wp2_with fail
         go_ret
         exact ⟨ret_int (by have := HR.out; omega), rfl⟩
       ·obtain ⟨a41d, b41d, m41d⟩ : ((d.toNat : Int) == 41) = false ∧ ((d.toNat : Int) != 41) = true ∧ ¬ (d.toNat : Int) = 41 := noB (n := 41) (fun h => hcl (Or.inl h)) (by decide)
        obtain ⟨a93d, b93d, m93d⟩ : ((d.toNat : Int) == 93) = false ∧ ((d.toNat : Int) != 93) = true ∧ ¬ (d.toNat : Int) = 93 := noB (n := 93) (fun h => hcl (Or.inr (Or.inl h))) (by decide)
        obtain ⟨a125d, b125d, m125d⟩ : ((d.toNat : Int) == 125) = false ∧ ((d.toNat : Int) != 125) = true ∧ ¬ (d.toNat : Int) = 125 := noB (n := 125) (fun h => hcl (Or.inr (Or.inr h))) (by decide)
        have HQ := Lib.hid (IH.out k d r hik hd)
        have hnx := S.nx_pos (c := d) (t := r)
        have hnl := S.nx_le (d :: r)
        have hdl := drop_len hd
        rw [List.length_cons] at hnl
        have HK2 : Hid (min (k + S.nx (d :: r) + S.scan S.closers 0 0 (s.drop (k + S.nx (d :: r))) + 1) s.length = R) := Lib.hid (by
         have h := HK.out
         rw [hd, S.scan_next (by intro h; apply hcl; simpa [S.closers] using h)] at h
         rw [← List.drop_drop, hd]
         omega)
        generalize S.nx (d :: r) = N at *
        clear hcl hd HK
        go_wp2_with fail
        refine HQ.out.mono ?_
        rintro e w' ⟨rfl, rfl⟩
        go_wp2_with fail
        go_round
        case rel => exact ⟨k + N, by go_num, by omega, by omega, HK2⟩
        case measure => simp [intOf]; omega
      ·have hlI : ¬ (k : Int) < (s.length : Int) := by omega
       have HR : Hid (R = k) := Lib.hid (by
        have h := HK.out
        omega)
       clear HK
       go_wp2_with fail
       go_ret
       exact ⟨ret_int (by have := HR.out; omega), rfl⟩
   ·obtain ⟨a40c, b40c, m40c⟩ : ((c.toNat : Int) == 40) = false ∧ ((c.toNat : Int) != 40) = true ∧ ¬ (c.toNat : Int) = 40 := noB (n := 40) (fun h => ho (Or.inl h)) (by decide)
    obtain ⟨a91c, b91c, m91c⟩ : ((c.toNat : Int) == 91) = false ∧ ((c.toNat : Int) != 91) = true ∧ ¬ (c.toNat : Int) = 91 := noB (n := 91) (fun h => ho (Or.inr (Or.inl h))) (by decide)
    obtain ⟨a123c, b123c, m123c⟩ : ((c.toNat : Int) == 123) = false ∧ ((c.toNat : Int) != 123) = true ∧ ¬ (c.toNat : Int) = 123 := noB (n := 123) (fun h => ho (Or.inr (Or.inr h))) (by decide)
    have HN : Hid (i + S.nx (c :: t) = i + 1) := Lib.hid (by rw [S.nx, if_neg hq, if_neg ho])
    generalize i + S.nx (c :: t) = R at *
    clear hd hq ho HM
    go_enter Tryz.func53, Tryz.ntmps53
    go_wp2_with fail
    go_ret
    exact ⟨ret_int (by have := HN.out; omega), rfl⟩
theorem clean_in2 (t : List UInt8) : S.clean 0 (47 :: 42 :: t) = 32 :: S.clean 0 (t.drop (S.cm t + 2)) := by rw [S.clean_open, S.clean_in]
theorem cm_stop (r : List UInt8) : S.cm (42 :: 47 :: r) = 0 := by rw [S.cm]
theorem cm_step {d : UInt8} {r : List UInt8} (h : ∀ x, ¬ (d = 42 ∧ r = 47 :: x)) : S.cm (d :: r) = S.cm r + 1 := by
 rw [S.cm]
 intro x h1 h2
 exact h x ⟨h1, h2⟩
theorem take_drop_add (s : List UInt8) (k n : Nat) (acc : List UInt8) (h : k + n ≤ s.length) : (⟨acc.toArray⟩ : ByteArray) ++ (⟨s.toArray⟩ : ByteArray).extract k (k + n) = ⟨(acc ++ (s.drop k).take n).toArray⟩ := by
 rw [slice_str s k (k + n) (by omega) h, append_bytes, show k + n - k = n by omega]
/-- One piece of the reference's Plain: what is written for it and how long it is. -/
theorem clean_piece {q : UInt8} (hq : q = 34 ∨ q = 39) (t : List UInt8) : S.clean 0 (q :: t) = (q :: t).take (1 + S.strLen q t) ++ S.clean 0 ((q :: t).drop (1 + S.strLen q t)) := by
 rw [S.clean_start hq, S.clean_quote hq, show 1 + S.strLen q t = S.strLen q t + 1 by omega, List.take_succ_cons, List.drop_succ_cons]
 rfl
set_option maxHeartbeats 16000000 in
set_option maxRecDepth 100000 in
theorem plain (s0 s : List UInt8) (w : World) (hs : s.length ≤ 900000) (hR : Calls Tryz.prog 69 #[.string ⟨s0.toArray⟩] w fun e w' => e = .returned (.string ⟨s.toArray⟩) ∧ Below w.heap.size w w') :
  Calls Tryz.prog 35 #[.string ⟨s0.toArray⟩] w fun e w' => e = .returned (.string ⟨(S.clean 0 s).toArray⟩) ∧ Below w.heap.size w w' := by
 have HR := Lib.hid hR
 have zs := bytes_size s
 have HA0 : Hid (([] : List UInt8) ++ S.clean 0 (s.drop 0) = S.clean 0 s) := Lib.hid rfl
 generalize S.clean 0 s = C at *
 clear hR
 go_enter Tryz.func35, Tryz.ntmps35
 go_wp2_with fail
 refine HR.out.mono ?_
 rintro e w1 ⟨rfl, hb⟩
 have HB := Lib.hid hb
 clear hb HR
 go_wp2_with fail
 go_loop [3, 4] (fun v3 v4 => ∃ (k : Nat) (acc : List UInt8), v3 = .string ⟨acc.toArray⟩ ∧ v4 = .int .i64 k ∧ k ≤ s.length + 2 ∧ acc.length ≤ k ∧ Hid (acc ++ S.clean 0 (s.drop k) = C)) (fun _ v4 => s.length + 2 - (intOf v4).toNat)
 case atStart => exact ⟨0, [], rfl, rfl, by omega, by simp, HA0⟩
 case round =>
  obtain ⟨k, acc, rfl, rfl, hk, ha, HA⟩ := hrel
  have zacc := bytes_size acc
  clear HA0
  by_cases hlt : k < s.length
  ·have hlI : (k : Int) < (s.length : Int) := by omega
   obtain ⟨c, t, hd⟩ := drop_cons hlt
   have hix := at_drop hd (by rw [bytes_size]; exact hlt)
   have hlenA := Nat.le_of_eq (drop_len hd)
   have hlenB := Nat.le_of_eq (drop_len hd).symm
   have hmore := drop_more hd
   by_cases hq : c = 34 ∨ c = 39
   ·have HS := Lib.hid (str s t c k w1 (by omega) hd)
    have hsl : S.strLen c t ≤ t.length := by unfold S.strLen; omega
    have HA2 : Hid ((acc ++ (s.drop k).take (1 + S.strLen c t)) ++ S.clean 0 (s.drop (k + (1 + S.strLen c t))) = C) := Lib.hid (by
     rw [← HA.out, ← List.drop_drop, hd, clean_piece hq, List.append_assoc])
    have HX := Lib.hid (take_drop_add s k (1 + S.strLen c t) acc (by omega))
    have hal : (acc ++ (s.drop k).take (1 + S.strLen c t)).length ≤ k + (1 + S.strLen c t) := by rw [List.length_append, List.length_take]; omega
    generalize acc ++ (s.drop k).take (1 + S.strLen c t) = acc2 at *
    obtain ⟨a47c, b47c, m47c⟩ : ((c.toNat : Int) == 47) = false ∧ ((c.toNat : Int) != 47) = true ∧ ¬ (c.toNat : Int) = 47 := noB (n := 47) (by rcases hq with rfl | rfl <;> decide) (by decide)
    generalize S.strLen c t = sl at *
    have hwn : IntKind.i64.wrap (((k + 1 + sl : Nat) : Int) - (k : Int)) = ((1 + sl : Nat) : Int) := by rw [show ((k + 1 + sl : Nat) : Int) - (k : Int) = ((1 + sl : Nat) : Int) by omega]; exact IntWalk.i64_in _ (by omega)
    have hwk : IntKind.i64.wrap ((k : Int) + ((1 + sl : Nat) : Int)) = ((k + (1 + sl) : Nat) : Int) := by rw [show (k : Int) + ((1 + sl : Nat) : Int) = ((k + (1 + sl) : Nat) : Int) by omega]; exact IntWalk.i64_in _ (by omega)
    have hcase : (((c.toNat : Int) == 34) = true ∧ (c.toNat : Int) = 34) ∨ ((((c.toNat : Int) == 34) = false ∧ ¬ (c.toNat : Int) = 34) ∧ ((c.toNat : Int) == 39) = true ∧ (c.toNat : Int) = 39) := by
     rcases hq with h | h
     ·have q := isB (n := 34) h (by decide); exact Or.inl ⟨q.1, q.2.2⟩
     ·have p := noB (n := 34) (c := c) (by rw [h]; decide) (by decide); have q := isB (n := 39) h (by decide); exact Or.inr ⟨⟨p.1, p.2.2⟩, q.1, q.2.2⟩
    clear hq hd hmore HA
    rcases hcase with ⟨g1, g2⟩ | ⟨⟨g1, g2⟩, g3, g4⟩
    all_goals
     by_cases hk1 : (k : Int) + 1 < (s.length : Int)
     all_goals
      go_wp2_with fail
      refine HS.out.mono ?_
      rintro e w' ⟨rfl, rfl⟩
      go_wp2_with fail
      go_round
      case rel => exact ⟨k + (1 + sl), acc2, congrArg Value.string (by rw [← HX.out]; congr 2 <;> omega), congrArg (Value.int IntKind.i64) (by push_cast; omega), by omega, hal, HA2⟩
      case measure => simp [intOf]; omega
   ·obtain ⟨a34c, b34c, m34c⟩ : ((c.toNat : Int) == 34) = false ∧ ((c.toNat : Int) != 34) = true ∧ ¬ (c.toNat : Int) = 34 := noB (n := 34) (fun h => hq (Or.inl h)) (by decide)
    obtain ⟨a39c, b39c, m39c⟩ : ((c.toNat : Int) == 39) = false ∧ ((c.toNat : Int) != 39) = true ∧ ¬ (c.toNat : Int) = 39 := noB (n := 39) (fun h => hq (Or.inr h)) (by decide)
    have hwk : IntKind.i64.wrap ((k : Int) + 1) = (k : Int) + 1 := IntWalk.i64_in _ (by omega)
    by_cases hcm : ∃ r, c = 47 ∧ t = 42 :: r
    ·obtain ⟨r, h47, ht⟩ := hcm
     obtain ⟨a47c, b47c, m47c⟩ : ((c.toNat : Int) == 47) = true ∧ ((c.toNat : Int) != 47) = false ∧ (c.toNat : Int) = 47 := isB (n := 47) h47 (by decide)
     have hd1 : s.drop (k + 1) = 42 :: r := hmore.trans ht
     have hlt1 := lt_drop hd1
     have hlI1 : (k : Int) + 1 < (s.length : Int) := by omega
     obtain ⟨d, hdd⟩ : ∃ d : UInt8, d = 42 := ⟨_, rfl⟩
     rw [← hdd] at hd1
     have hix1 := at_drop hd1 (by rw [bytes_size]; exact hlt1)
     obtain ⟨a42d, b42d, m42d⟩ : ((d.toNat : Int) == 42) = true ∧ ((d.toNat : Int) != 42) = false ∧ (d.toNat : Int) = 42 := isB (n := 42) hdd (by decide)
     have hr2 : s.drop (k + 2) = r := drop_more hd1
     have hlenC := Nat.le_of_eq (drop_len hd1)
     have hlenD := Nat.le_of_eq (drop_len hd1).symm
     have hcl := S.cm_le r
     have HA2 : Hid ((acc ++ [32]) ++ S.clean 0 (s.drop (k + 2 + S.cm r + 2)) = C) := Lib.hid (by
      rw [← HA.out, hd, h47, ht, clean_in2, show k + 2 + S.cm r + 2 = (k + 2) + (S.cm r + 2) by omega, ← List.drop_drop, hr2, List.append_assoc]
      rfl)
     have HE0 : Hid (k + 2 + S.cm (s.drop (k + 2)) = k + 2 + S.cm r) := Lib.hid (by rw [hr2])
     generalize hE : k + 2 + S.cm r = E at *
     have HX := Lib.hid (append_bytes acc [32])
     have hwk2 : IntKind.i64.wrap ((k : Int) + 2) = (k : Int) + 2 := IntWalk.i64_in _ (by omega)
     clear hq hd hmore HA h47 ht hd1 hdd hr2
     go_wp2_with fail
     go_loop [4] (fun v4 => ∃ j : Nat, v4 = .int .i64 j ∧ k + 2 ≤ j ∧ j ≤ s.length ∧ Hid (j + S.cm (s.drop j) = E)) (fun v4 => s.length - (intOf v4).toNat)
     case atStart => exact ⟨k + 2, by go_num, by omega, by omega, HE0⟩
     case round =>
      obtain ⟨j, rfl, hkj, hj, HJ⟩ := hrel
      clear HE0 hix hix1
      by_cases hjl : j < s.length
      ·have hjI : (j : Int) < (s.length : Int) := by omega
       obtain ⟨x, y, hxy⟩ := drop_cons hjl
       have hjx := at_drop hxy (by rw [bytes_size]; exact hjl)
       have hjm := drop_more hxy
       have hwj : IntKind.i64.wrap ((j : Int) + 1) = (j : Int) + 1 := IntWalk.i64_in _ (by omega)
       by_cases hx : x = 42
       ·obtain ⟨a42x, b42x, m42x⟩ : ((x.toNat : Int) == 42) = true ∧ ((x.toNat : Int) != 42) = false ∧ (x.toNat : Int) = 42 := isB (n := 42) hx (by decide)
        by_cases hj1 : j + 1 < s.length
        ·have hjI1 : (j : Int) + 1 < (s.length : Int) := by omega
         obtain ⟨z, u, hzu⟩ := drop_cons hj1
         have hjz := at_drop hzu (by rw [bytes_size]; exact hj1)
         by_cases hz : z = 47
         ·obtain ⟨a47z, b47z, m47z⟩ : ((z.toNat : Int) == 47) = true ∧ ((z.toNat : Int) != 47) = false ∧ (z.toNat : Int) = 47 := isB (n := 47) hz (by decide)
          have HEj : Hid (E = j) := Lib.hid (by
           have h := HJ.out
           rw [hxy, ← hjm, hzu, hx, hz, cm_stop] at h
           omega)
          clear hxy hjm hzu hx hz HJ
          go_wp2_with fail
          go_round
          case rel => exact ⟨E + 2, acc ++ [32], congrArg Value.string HX.out, (by have := HEj.out; subst this; go_num), by have := HEj.out; omega, by rw [List.length_append]; have := HEj.out; simp; omega, HA2⟩
          case measure => have := HEj.out; simp [intOf]; omega
         ·obtain ⟨a47z, b47z, m47z⟩ : ((z.toNat : Int) == 47) = false ∧ ((z.toNat : Int) != 47) = true ∧ ¬ (z.toNat : Int) = 47 := noB (n := 47) hz (by decide)
          have HJ2 : Hid (j + 1 + S.cm (s.drop (j + 1)) = E) := Lib.hid (by
           have h := HJ.out
           rw [hxy, cm_step (by rintro v ⟨_, h2⟩; rw [h2] at hjm; rw [hjm] at hzu; injection hzu with h3 _; exact hz h3.symm)] at h
           rw [hjm]; omega)
          clear hxy hjm hzu hx hz HJ
          go_wp2_with fail
          go_round
          case rel => exact ⟨j + 1, by go_num, by omega, by omega, HJ2⟩
          case measure => simp [intOf]; omega
        ·have hjI1 : ¬ (j : Int) + 1 < (s.length : Int) := by omega
         have HJ2 : Hid (j + 1 + S.cm (s.drop (j + 1)) = E) := Lib.hid (by
          have h := HJ.out
          rw [hxy, cm_step (by rintro v ⟨_, h2⟩; have := drop_len hxy; rw [h2] at this; simp at this; omega)] at h
          rw [hjm]; omega)
         clear hxy hjm hx HJ
         go_wp2_with fail
         go_round
         case rel => exact ⟨j + 1, by go_num, by omega, by omega, HJ2⟩
         case measure => simp [intOf]; omega
       ·obtain ⟨a42x, b42x, m42x⟩ : ((x.toNat : Int) == 42) = false ∧ ((x.toNat : Int) != 42) = true ∧ ¬ (x.toNat : Int) = 42 := noB (n := 42) hx (by decide)
        have HJ2 : Hid (j + 1 + S.cm (s.drop (j + 1)) = E) := Lib.hid (by
         have h := HJ.out
         rw [hxy, cm_step (by rintro v ⟨h1, _⟩; exact hx h1)] at h
         rw [hjm]; omega)
        clear hxy hjm hx HJ
        go_wp2_with fail
        go_round
        case rel => exact ⟨j + 1, by go_num, by omega, by omega, HJ2⟩
        case measure => simp [intOf]; omega
      ·have hjI : ¬ (j : Int) < (s.length : Int) := by omega
       have HEj : Hid (E = j) := Lib.hid (by
        have h := HJ.out
        rw [List.drop_eq_nil_of_le (by omega)] at h
        exact h.symm)
       clear HJ
       go_wp2_with fail
       go_round
       case rel => exact ⟨E + 2, acc ++ [32], congrArg Value.string HX.out, (by have := HEj.out; subst this; go_num), by have := HEj.out; omega, by rw [List.length_append]; have := HEj.out; simp; omega, HA2⟩
       case measure => have := HEj.out; simp [intOf]; omega
    ·have HA2 : Hid ((acc ++ (s.drop k).take 1) ++ S.clean 0 (s.drop (k + 1)) = C) := Lib.hid (by
      rw [← HA.out, hmore, hd, S.clean_else hq (fun r h => hcm ⟨r, h⟩), List.append_assoc]
      rfl)
     have HX := Lib.hid (take_drop_add s k 1 acc (by omega))
     have hal : (acc ++ (s.drop k).take 1).length ≤ k + 1 := by rw [List.length_append, List.length_take]; omega
     generalize acc ++ (s.drop k).take 1 = acc2 at *
     by_cases h47 : c = 47
     ·obtain ⟨a47c, b47c, m47c⟩ : ((c.toNat : Int) == 47) = true ∧ ((c.toNat : Int) != 47) = false ∧ (c.toNat : Int) = 47 := isB (n := 47) h47 (by decide)
      by_cases hk1 : k + 1 < s.length
      ·have hkI1 : (k : Int) + 1 < (s.length : Int) := by omega
       obtain ⟨d, r, hd1⟩ := drop_cons hk1
       have hix1 := at_drop hd1 (by rw [bytes_size]; exact hk1)
       obtain ⟨a42d, b42d, m42d⟩ : ((d.toNat : Int) == 42) = false ∧ ((d.toNat : Int) != 42) = true ∧ ¬ (d.toNat : Int) = 42 := noB (n := 42) (by intro h; exact hcm ⟨r, h47, by rw [← hmore, hd1, h]; rfl⟩) (by decide)
       clear hq hd hmore HA h47 hd1 hcm
       go_wp2_with fail
       go_round
       case rel => exact ⟨k + 1, acc2, congrArg Value.string HX.out, by go_num, by omega, hal, HA2⟩
       case measure => simp [intOf]; omega
      ·have hkI1 : ¬ (k : Int) + 1 < (s.length : Int) := by omega
       clear hq hd hmore HA h47 hcm
       go_wp2_with fail
       go_round
       case rel => exact ⟨k + 1, acc2, congrArg Value.string HX.out, by go_num, by omega, hal, HA2⟩
       case measure => simp [intOf]; omega
     ·obtain ⟨a47c, b47c, m47c⟩ : ((c.toNat : Int) == 47) = false ∧ ((c.toNat : Int) != 47) = true ∧ ¬ (c.toNat : Int) = 47 := noB (n := 47) h47 (by decide)
      clear hq hd hmore HA h47 hcm
      by_cases hk1 : (k : Int) + 1 < (s.length : Int)
      all_goals
       go_wp2_with fail
       go_round
       case rel => exact ⟨k + 1, acc2, congrArg Value.string HX.out, by go_num, by omega, hal, HA2⟩
       case measure => simp [intOf]; omega
  ·have HC : Hid (acc = C) := Lib.hid (by rw [← HA.out, List.drop_eq_nil_of_le (by omega), S.clean_nil, List.append_nil])
   have hlI : ¬ (k : Int) < (s.length : Int) := by omega
   clear HA
   go_wp2_with fail
   go_ret
   exact ⟨ret_strY (by rw [HC.out]), HB.out⟩
end V
end Go.Proofs.YtafkeolpadfjfaaGreatDoor

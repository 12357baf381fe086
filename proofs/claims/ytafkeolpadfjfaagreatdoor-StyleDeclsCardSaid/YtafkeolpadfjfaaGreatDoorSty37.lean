/- What the reference's str, Next and Plain come to. What the reference's decl comes to. -/
import Derived.Test.YtafkeolpadfjfaaGreatDoorSty12
import Derived.Test.YtafkeolpadfjfaaGreatDoorSty19
import Derived.Test.YtafkeolpadfjfaaGreatDoorSty36
import Derived.Test.YtafkeolpadfjfaaGreatDoorSty21
import Derived.Deep.CutBlock
set_option linter.unusedVariables false
set_option linter.unusedSimpArgs false
namespace Go.Proofs.YtafkeolpadfjfaaGreatDoor
open Go.RowKit
namespace V
open H Y

def notQ (q : UInt8) (c : UInt8) : Bool := decide (c ≠ q)
theorem strLen_end {s t : List UInt8} {q : UInt8} {i : Nat} (hd : s.drop i = q :: t) : i + 1 + S.strLen q t = min (twEnd (notQ q) s (i + 1) + 1) s.length := by
  have h1 := drop_len hd
  have h2 : s.drop (i + 1) = t := drop_more hd
  unfold S.strLen twEnd notQ
  rw [h2]
  omega

set_option maxHeartbeats 2000000 in
set_option maxRecDepth 100000 in
theorem str (s t : List UInt8) (q : UInt8) (i : Nat) (w : World) (hs : s.length ≤ 1000000) (hd : s.drop i = q :: t) :
    Calls Tryz.prog 70 #[.string ⟨s.toArray⟩, .int .i64 (i : Nat)] w fun e w' => e = .returned (.int .i64 ((i + 1 + S.strLen q t : Nat) : Int)) ∧ w = w' := by
  have hi := lt_drop hd
  have HR := Lib.hid (strLen_end hd)
  generalize i + 1 + S.strLen q t = R at *
  have zs := bytes_size s
  have hix := at_drop hd (by rw [bytes_size]; exact hi)
  have hi0 : (i : Int) < (s.length : Int) := by omega
  have HE0 : Hid (twEnd (notQ q) s (i + 1) = twEnd (notQ q) s (i + 1)) := Lib.hid rfl
  generalize hE : twEnd (notQ q) s (i + 1) = E at HR
  rw [hE] at HE0
  have HE := Lib.hid hE
  clear hd HE0 hE
  go_enter Tryz.func70, Tryz.ntmps70
  go_wp2_with fail
  clear hix
  go_loop [1] (fun v1 => ∃ k : Nat, v1 = .int .i64 k ∧ k ≤ s.length ∧ Hid (twEnd (notQ q) s k = E)) (fun v1 => s.length - (intOf v1).toNat)
  case atStart => exact ⟨i + 1, by go_num, by omega, HE⟩
  case round =>
    obtain ⟨k, rfl, hk, HK⟩ := hrel
    clear HE
    by_cases hlt : k < s.length
    · have hlI : (k : Int) < (s.length : Int) := by omega
      obtain ⟨c, r, hd⟩ := drop_cons hlt
      have hkx := at_drop hd (by rw [bytes_size]; exact hlt)
      cases hc : notQ q c with
      | true =>
        have hcq : c ≠ q := of_decide_eq_true hc
        have HK2 := Lib.hid ((twEnd_step hd hc).trans HK.out)
        have e1 : ((c.toNat : Int) == (q.toNat : Int)) = false := by rw [beq_eq_false_iff_ne]; intro h; exact hcq (UInt8.toNat_inj.1 (by omega))
        have e2 : ((c.toNat : Int) != (q.toNat : Int)) = true := by rw [bne, e1]; rfl
        have e3 : ¬ (c.toNat : Int) = (q.toNat : Int) := by simpa using e1
        have e4 : ¬ c.toNat = q.toNat := by omega
        clear hd hc hcq HK
        go_wp2_with fail
        go_round
        case rel => exact ⟨k + 1, by go_num, by omega, HK2⟩
        case measure => simp [intOf]; omega
      | false =>
        have hcq : c = q := by simpa [notQ] using hc
        have HK2 := Lib.hid ((twEnd_stop hd hc).symm.trans HK.out)
        have hm : min ((k : Int) + 1) (s.length : Int) = (R : Int) := by have := HR.out; have := HK2.out; omega
        have e1 : ((c.toNat : Int) == (q.toNat : Int)) = true := by rw [hcq]; simp
        have e2 : ((c.toNat : Int) != (q.toNat : Int)) = false := by rw [bne, e1]; rfl
        have e3 : (c.toNat : Int) = (q.toNat : Int) := by simpa using e1
        clear hd hc hcq HK HK2
        go_wp2_with fail
        go_ret
        exact ⟨rfl, rfl⟩
    · have hlI : ¬ (k : Int) < (s.length : Int) := by omega
      have hm : min ((k : Int) + 1) (s.length : Int) = (R : Int) := by have h1 := HR.out; have h2 := HK.out; rw [twEnd_past (by omega)] at h2; omega
      clear HK
      go_wp2_with fail
      go_ret
      exact ⟨rfl, rfl⟩

theorem isB {c : UInt8} {n : Nat} (h : c = UInt8.ofNat n) (hn : n < 256) : ((c.toNat : Int) == (n : Int)) = true ∧ ((c.toNat : Int) != (n : Int)) = false ∧ (c.toNat : Int) = (n : Int) := by
  have e := byte_is h hn
  exact ⟨e, by rw [bne, e]; rfl, by simpa using e⟩
theorem noB {c : UInt8} {n : Nat} (h : c ≠ UInt8.ofNat n) (hn : n < 256) : ((c.toNat : Int) == (n : Int)) = false ∧ ((c.toNat : Int) != (n : Int)) = true ∧ ¬ (c.toNat : Int) = (n : Int) := by
  have e := byte_ne h hn
  exact ⟨e, by rw [bne, e]; rfl, by simpa using e⟩
theorem scan_here {c : UInt8} {t : List UInt8} (h : c ∈ S.closers) : S.scan S.closers 0 0 (c :: t) = 0 := S.scan_stop h

set_option maxHeartbeats 8000000 in
set_option maxRecDepth 100000 in
theorem next : ∀ (n : Nat) (s t : List UInt8) (c : UInt8) (i : Nat) (w : World), s.length ≤ 1000000 → s.length - i ≤ n → s.drop i = c :: t →
    Calls Tryz.prog 53 #[.string ⟨s.toArray⟩, .int .i64 (i : Nat)] w fun e w' => e = .returned (.int .i64 ((i + S.nx (c :: t) : Nat) : Int)) ∧ w = w' := by
  intro n
  induction n with
  | zero =>
    intro s t c i w hs hn hd
    have := lt_drop hd
    omega
  | succ n ih =>
    intro s t c i w hs hn hd
    have hi := lt_drop hd
    have IH := Lib.hid (fun (j : Nat) (c' : UInt8) (t' : List UInt8) (hij : i < j) (hd' : s.drop j = c' :: t') => ih s t' c' j w hs (by omega) hd')
    have zs := bytes_size s
    have hix := at_drop hd (by rw [bytes_size]; exact hi)
    have hi0 : (i : Int) < (s.length : Int) := by omega
    have hlen := drop_len hd
    have HM := Lib.hid (drop_more hd)
    clear ih
    by_cases hq : c = 34 ∨ c = 39
    · have HQ := Lib.hid (str s t c i w hs hd)
      have HN : Hid (i + S.nx (c :: t) = i + 1 + S.strLen c t) := Lib.hid (by rw [S.nx, if_pos hq]; omega)
      generalize i + S.nx (c :: t) = R at *
      rcases hq with hq | hq
      · obtain ⟨a34c, b34c, m34c⟩ : ((c.toNat : Int) == 34) = true ∧ ((c.toNat : Int) != 34) = false ∧ (c.toNat : Int) = 34 := isB (n := 34) hq (by decide)
        clear hd hq
        go_enter Tryz.func53, Tryz.ntmps53
        go_wp2_with fail
        refine HQ.out.mono ?_
        rintro e w' ⟨rfl, rfl⟩
        go_wp2_with fail
        go_ret
        exact ⟨ret_int (by have := HN.out; omega), rfl⟩
      · obtain ⟨a34c, b34c, m34c⟩ : ((c.toNat : Int) == 34) = false ∧ ((c.toNat : Int) != 34) = true ∧ ¬ (c.toNat : Int) = 34 := noB (n := 34) (by rw [hq]; decide) (by decide)
        obtain ⟨a39c, b39c, m39c⟩ : ((c.toNat : Int) == 39) = true ∧ ((c.toNat : Int) != 39) = false ∧ (c.toNat : Int) = 39 := isB (n := 39) hq (by decide)
        clear hd hq
        go_enter Tryz.func53, Tryz.ntmps53
        go_wp2_with fail
        refine HQ.out.mono ?_
        rintro e w' ⟨rfl, rfl⟩
        go_wp2_with fail
        go_ret
        exact ⟨ret_int (by have := HN.out; omega), rfl⟩
    · obtain ⟨a34c, b34c, m34c⟩ : ((c.toNat : Int) == 34) = false ∧ ((c.toNat : Int) != 34) = true ∧ ¬ (c.toNat : Int) = 34 := noB (n := 34) (fun h => hq (Or.inl h)) (by decide)
      obtain ⟨a39c, b39c, m39c⟩ : ((c.toNat : Int) == 39) = false ∧ ((c.toNat : Int) != 39) = true ∧ ¬ (c.toNat : Int) = 39 := noB (n := 39) (fun h => hq (Or.inr h)) (by decide)
      by_cases ho : c = 40 ∨ c = 91 ∨ c = 123
      · have HN : Hid (min (i + 1 + S.scan S.closers 0 0 (s.drop (i + 1)) + 1) s.length = i + S.nx (c :: t)) := Lib.hid (by rw [S.nx, if_neg hq, if_pos ho, HM.out]; omega)
        have hRb : i + S.nx (c :: t) ≤ 1000000 := by have := S.nx_le (c :: t); rw [List.length_cons] at this; omega
        generalize i + S.nx (c :: t) = R at *
        have hw : IntKind.i64.wrap ((i : Int) + 1) = (i : Int) + 1 := IntWalk.i64_in _ (by omega)
        have hcase : (((c.toNat : Int) != 40) = false ∧ (c.toNat : Int) = 40) ∨ ((((c.toNat : Int) != 40) = true ∧ ¬ (c.toNat : Int) = 40) ∧ ((c.toNat : Int) != 91) = false ∧ (c.toNat : Int) = 91) ∨ ((((c.toNat : Int) != 40) = true ∧ ¬ (c.toNat : Int) = 40) ∧ (((c.toNat : Int) != 91) = true ∧ ¬ (c.toNat : Int) = 91) ∧ ((c.toNat : Int) != 123) = false ∧ (c.toNat : Int) = 123) := by
          rcases ho with h | h | h
          · exact Or.inl (isB (n := 40) h (by decide)).2
          · exact Or.inr (Or.inl ⟨(noB (n := 40) (by rw [h]; decide) (by decide)).2, (isB (n := 91) h (by decide)).2⟩)
          · exact Or.inr (Or.inr ⟨(noB (n := 40) (by rw [h]; decide) (by decide)).2, (noB (n := 91) (by rw [h]; decide) (by decide)).2, (isB (n := 123) h (by decide)).2⟩)
        clear hd hq ho HM hw
        rcases hcase with ⟨h1, h2⟩ | ⟨⟨h1, h2⟩, h3, h4⟩ | ⟨⟨h1, h2⟩, ⟨h3, h4⟩, h5, h6⟩
        all_goals
          go_enter Tryz.func53, Tryz.ntmps53
          go_wp2_with fail
          go_loop [1] (fun v1 => ∃ k : Nat, v1 = .int .i64 k ∧ i < k ∧ k ≤ s.length ∧ Hid (min (k + S.scan S.closers 0 0 (s.drop k) + 1) s.length = R)) (fun v1 => s.length - (intOf v1).toNat)
          case atStart => exact ⟨i + 1, by go_num, by omega, by omega, HN⟩
          case round =>
            obtain ⟨k, rfl, hik, hk, HK⟩ := hrel
            clear HN
            by_cases hlt : k < s.length
            · have hlI : (k : Int) < (s.length : Int) := by omega
              obtain ⟨d, r, hd⟩ := drop_cons hlt
              have hkx := at_drop hd (by rw [bytes_size]; exact hlt)
              by_cases hcl : d = 41 ∨ d = 93 ∨ d = 125
              · have HR : Hid (R = k + 1) := Lib.hid (by
                  have h := HK.out
                  rw [hd, S.scan_stop (by rcases hcl with rfl | rfl | rfl <;> decide)] at h
                  omega)
                have hcase2 : (((d.toNat : Int) == 41) = true ∧ (d.toNat : Int) = 41) ∨ ((((d.toNat : Int) == 41) = false ∧ ¬ (d.toNat : Int) = 41) ∧ ((d.toNat : Int) == 93) = true ∧ (d.toNat : Int) = 93) ∨ ((((d.toNat : Int) == 41) = false ∧ ¬ (d.toNat : Int) = 41) ∧ (((d.toNat : Int) == 93) = false ∧ ¬ (d.toNat : Int) = 93) ∧ ((d.toNat : Int) == 125) = true ∧ (d.toNat : Int) = 125) := by
                  rcases hcl with h | h | h
                  · have q := isB (n := 41) h (by decide); exact Or.inl ⟨q.1, q.2.2⟩
                  · have p := noB (n := 41) (c := d) (by rw [h]; decide) (by decide); have q := isB (n := 93) h (by decide); exact Or.inr (Or.inl ⟨⟨p.1, p.2.2⟩, q.1, q.2.2⟩)
                  · have p := noB (n := 41) (c := d) (by rw [h]; decide) (by decide); have p2 := noB (n := 93) (c := d) (by rw [h]; decide) (by decide); have q := isB (n := 125) h (by decide); exact Or.inr (Or.inr ⟨⟨p.1, p.2.2⟩, ⟨p2.1, p2.2.2⟩, q.1, q.2.2⟩)
                clear hcl hd HK
                rcases hcase2 with ⟨g1, g2⟩ | ⟨⟨g1, g2⟩, g3, g4⟩ | ⟨⟨g1, g2⟩, ⟨g3, g4⟩, g5, g6⟩
                all_goals
                  go_wp2_with fail
                  go_ret
                  exact ⟨ret_int (by have := HR.out; omega), rfl⟩
              · obtain ⟨a41d, b41d, m41d⟩ : ((d.toNat : Int) == 41) = false ∧ ((d.toNat : Int) != 41) = true ∧ ¬ (d.toNat : Int) = 41 := noB (n := 41) (fun h => hcl (Or.inl h)) (by decide)
                obtain ⟨a93d, b93d, m93d⟩ : ((d.toNat : Int) == 93) = false ∧ ((d.toNat : Int) != 93) = true ∧ ¬ (d.toNat : Int) = 93 := noB (n := 93) (fun h => hcl (Or.inr (Or.inl h))) (by decide)
                obtain ⟨a125d, b125d, m125d⟩ : ((d.toNat : Int) == 125) = false ∧ ((d.toNat : Int) != 125) = true ∧ ¬ (d.toNat : Int) = 125 := noB (n := 125) (fun h => hcl (Or.inr (Or.inr h))) (by decide)
                have HQ := Lib.hid (IH.out k d r hik hd)
                have hnx := S.nx_pos (c := d) (t := r)
                have hnl := S.nx_le (d :: r)
                have hdl := drop_len hd
                rw [List.length_cons] at hnl
                have HK2 : Hid (min (k + S.nx (d :: r) + S.scan S.closers 0 0 (s.drop (k + S.nx (d :: r))) + 1) s.length = R) := Lib.hid (by
                  have h := HK.out
                  rw [hd, S.scan_next (by intro h; apply hcl; simpa [S.closers] using h)] at h
                  rw [← List.drop_drop, hd]
                  omega)
                generalize S.nx (d :: r) = N at *
                clear hcl hd HK
                go_wp2_with fail
                refine HQ.out.mono ?_
                rintro e w' ⟨rfl, rfl⟩
                go_wp2_with fail
                go_round
                case rel => exact ⟨k + N, by go_num, by omega, by omega, HK2⟩
                case measure => simp [intOf]; omega
            · have hlI : ¬ (k : Int) < (s.length : Int) := by omega
              have HR : Hid (R = k) := Lib.hid (by
                have h := HK.out
                omega)
              clear HK
              go_wp2_with fail
              go_ret
              exact ⟨ret_int (by have := HR.out; omega), rfl⟩
      · obtain ⟨a40c, b40c, m40c⟩ : ((c.toNat : Int) == 40) = false ∧ ((c.toNat : Int) != 40) = true ∧ ¬ (c.toNat : Int) = 40 := noB (n := 40) (fun h => ho (Or.inl h)) (by decide)
        obtain ⟨a91c, b91c, m91c⟩ : ((c.toNat : Int) == 91) = false ∧ ((c.toNat : Int) != 91) = true ∧ ¬ (c.toNat : Int) = 91 := noB (n := 91) (fun h => ho (Or.inr (Or.inl h))) (by decide)
        obtain ⟨a123c, b123c, m123c⟩ : ((c.toNat : Int) == 123) = false ∧ ((c.toNat : Int) != 123) = true ∧ ¬ (c.toNat : Int) = 123 := noB (n := 123) (fun h => ho (Or.inr (Or.inr h))) (by decide)
        have HN : Hid (i + S.nx (c :: t) = i + 1) := Lib.hid (by rw [S.nx, if_neg hq, if_neg ho])
        generalize i + S.nx (c :: t) = R at *
        clear hd hq ho HM
        go_enter Tryz.func53, Tryz.ntmps53
        go_wp2_with fail
        go_ret
        exact ⟨ret_int (by have := HN.out; omega), rfl⟩

theorem clean_in2 (t : List UInt8) : S.clean 0 (47 :: 42 :: t) = 32 :: S.clean 0 (t.drop (S.cm t + 2)) := by rw [S.clean_open, S.clean_in]
theorem cm_stop (r : List UInt8) : S.cm (42 :: 47 :: r) = 0 := by rw [S.cm]
theorem cm_step {d : UInt8} {r : List UInt8} (h : ∀ x, ¬ (d = 42 ∧ r = 47 :: x)) : S.cm (d :: r) = S.cm r + 1 := by
  rw [S.cm]
  intro x h1 h2
  exact h x ⟨h1, h2⟩
theorem take_drop_add (s : List UInt8) (k n : Nat) (acc : List UInt8) (h : k + n ≤ s.length) : (⟨acc.toArray⟩ : ByteArray) ++ (⟨s.toArray⟩ : ByteArray).extract k (k + n) = ⟨(acc ++ (s.drop k).take n).toArray⟩ := by
  rw [slice_str s k (k + n) (by omega) h, append_bytes, show k + n - k = n by omega]

/-- One piece of the reference's Plain: what is written for it and how long it is. -/
theorem clean_piece {q : UInt8} (hq : q = 34 ∨ q = 39) (t : List UInt8) : S.clean 0 (q :: t) = (q :: t).take (1 + S.strLen q t) ++ S.clean 0 ((q :: t).drop (1 + S.strLen q t)) := by
  rw [S.clean_start hq, S.clean_quote hq, show 1 + S.strLen q t = S.strLen q t + 1 by omega, List.take_succ_cons, List.drop_succ_cons]
  rfl

set_option maxHeartbeats 16000000 in
set_option maxRecDepth 100000 in
theorem plain (s0 s : List UInt8) (w : World) (hs : s.length ≤ 900000) (hR : Calls Tryz.prog 69 #[.string ⟨s0.toArray⟩] w fun e w' => e = .returned (.string ⟨s.toArray⟩) ∧ Below w.heap.size w w') :
    Calls Tryz.prog 35 #[.string ⟨s0.toArray⟩] w fun e w' => e = .returned (.string ⟨(S.clean 0 s).toArray⟩) ∧ Below w.heap.size w w' := by
  have HR := Lib.hid hR
  have zs := bytes_size s
  have HA0 : Hid (([] : List UInt8) ++ S.clean 0 (s.drop 0) = S.clean 0 s) := Lib.hid rfl
  generalize S.clean 0 s = C at *
  clear hR
  go_enter Tryz.func35, Tryz.ntmps35
  go_wp2_with fail
  refine HR.out.mono ?_
  rintro e w1 ⟨rfl, hb⟩
  have HB := Lib.hid hb
  clear hb HR
  go_wp2_with fail
  go_loop [3, 4] (fun v3 v4 => ∃ (k : Nat) (acc : List UInt8), v3 = .string ⟨acc.toArray⟩ ∧ v4 = .int .i64 k ∧ k ≤ s.length + 2 ∧ acc.length ≤ k ∧ Hid (acc ++ S.clean 0 (s.drop k) = C)) (fun _ v4 => s.length + 2 - (intOf v4).toNat)
  case atStart => exact ⟨0, [], rfl, rfl, by omega, by simp, HA0⟩
  case round =>
    obtain ⟨k, acc, rfl, rfl, hk, ha, HA⟩ := hrel
    have zacc := bytes_size acc
    clear HA0
    by_cases hlt : k < s.length
    · have hlI : (k : Int) < (s.length : Int) := by omega
      obtain ⟨c, t, hd⟩ := drop_cons hlt
      have hix := at_drop hd (by rw [bytes_size]; exact hlt)
      have hlenA := Nat.le_of_eq (drop_len hd)
      have hlenB := Nat.le_of_eq (drop_len hd).symm
      have hmore := drop_more hd
      by_cases hq : c = 34 ∨ c = 39
      · have HS := Lib.hid (str s t c k w1 (by omega) hd)
        have hsl : S.strLen c t ≤ t.length := by unfold S.strLen; omega
        have HA2 : Hid ((acc ++ (s.drop k).take (1 + S.strLen c t)) ++ S.clean 0 (s.drop (k + (1 + S.strLen c t))) = C) := Lib.hid (by
          rw [← HA.out, ← List.drop_drop, hd, clean_piece hq, List.append_assoc])
        have HX := Lib.hid (take_drop_add s k (1 + S.strLen c t) acc (by omega))
        have hal : (acc ++ (s.drop k).take (1 + S.strLen c t)).length ≤ k + (1 + S.strLen c t) := by rw [List.length_append, List.length_take]; omega
        generalize acc ++ (s.drop k).take (1 + S.strLen c t) = acc2 at *
        obtain ⟨a47c, b47c, m47c⟩ : ((c.toNat : Int) == 47) = false ∧ ((c.toNat : Int) != 47) = true ∧ ¬ (c.toNat : Int) = 47 := noB (n := 47) (by rcases hq with rfl | rfl <;> decide) (by decide)
        generalize S.strLen c t = sl at *
        have hwn : IntKind.i64.wrap (((k + 1 + sl : Nat) : Int) - (k : Int)) = ((1 + sl : Nat) : Int) := by rw [show ((k + 1 + sl : Nat) : Int) - (k : Int) = ((1 + sl : Nat) : Int) by omega]; exact IntWalk.i64_in _ (by omega)
        have hwk : IntKind.i64.wrap ((k : Int) + ((1 + sl : Nat) : Int)) = ((k + (1 + sl) : Nat) : Int) := by rw [show (k : Int) + ((1 + sl : Nat) : Int) = ((k + (1 + sl) : Nat) : Int) by omega]; exact IntWalk.i64_in _ (by omega)
        have hcase : (((c.toNat : Int) == 34) = true ∧ (c.toNat : Int) = 34) ∨ ((((c.toNat : Int) == 34) = false ∧ ¬ (c.toNat : Int) = 34) ∧ ((c.toNat : Int) == 39) = true ∧ (c.toNat : Int) = 39) := by
          rcases hq with h | h
          · have q := isB (n := 34) h (by decide); exact Or.inl ⟨q.1, q.2.2⟩
          · have p := noB (n := 34) (c := c) (by rw [h]; decide) (by decide); have q := isB (n := 39) h (by decide); exact Or.inr ⟨⟨p.1, p.2.2⟩, q.1, q.2.2⟩
        clear hq hd hmore HA
        rcases hcase with ⟨g1, g2⟩ | ⟨⟨g1, g2⟩, g3, g4⟩
        all_goals
          by_cases hk1 : (k : Int) + 1 < (s.length : Int)
          all_goals
            go_wp2_with fail
            refine HS.out.mono ?_
            rintro e w' ⟨rfl, rfl⟩
            go_wp2_with fail
            go_round
            case rel => exact ⟨k + (1 + sl), acc2, congrArg Value.string (by rw [← HX.out]; congr 2 <;> omega), congrArg (Value.int IntKind.i64) (by push_cast; omega), by omega, hal, HA2⟩
            case measure => simp [intOf]; omega
      · obtain ⟨a34c, b34c, m34c⟩ : ((c.toNat : Int) == 34) = false ∧ ((c.toNat : Int) != 34) = true ∧ ¬ (c.toNat : Int) = 34 := noB (n := 34) (fun h => hq (Or.inl h)) (by decide)
        obtain ⟨a39c, b39c, m39c⟩ : ((c.toNat : Int) == 39) = false ∧ ((c.toNat : Int) != 39) = true ∧ ¬ (c.toNat : Int) = 39 := noB (n := 39) (fun h => hq (Or.inr h)) (by decide)
        have hwk : IntKind.i64.wrap ((k : Int) + 1) = (k : Int) + 1 := IntWalk.i64_in _ (by omega)
        by_cases hcm : ∃ r, c = 47 ∧ t = 42 :: r
        · obtain ⟨r, h47, ht⟩ := hcm
          obtain ⟨a47c, b47c, m47c⟩ : ((c.toNat : Int) == 47) = true ∧ ((c.toNat : Int) != 47) = false ∧ (c.toNat : Int) = 47 := isB (n := 47) h47 (by decide)
          have hd1 : s.drop (k + 1) = 42 :: r := hmore.trans ht
          have hlt1 := lt_drop hd1
          have hlI1 : (k : Int) + 1 < (s.length : Int) := by omega
          obtain ⟨d, hdd⟩ : ∃ d : UInt8, d = 42 := ⟨_, rfl⟩
          rw [← hdd] at hd1
          have hix1 := at_drop hd1 (by rw [bytes_size]; exact hlt1)
          obtain ⟨a42d, b42d, m42d⟩ : ((d.toNat : Int) == 42) = true ∧ ((d.toNat : Int) != 42) = false ∧ (d.toNat : Int) = 42 := isB (n := 42) hdd (by decide)
          have hr2 : s.drop (k + 2) = r := drop_more hd1
          have hlenC := Nat.le_of_eq (drop_len hd1)
          have hlenD := Nat.le_of_eq (drop_len hd1).symm
          have hcl := S.cm_le r
          have HA2 : Hid ((acc ++ [32]) ++ S.clean 0 (s.drop (k + 2 + S.cm r + 2)) = C) := Lib.hid (by
            rw [← HA.out, hd, h47, ht, clean_in2, show k + 2 + S.cm r + 2 = (k + 2) + (S.cm r + 2) by omega, ← List.drop_drop, hr2, List.append_assoc]
            rfl)
          have HE0 : Hid (k + 2 + S.cm (s.drop (k + 2)) = k + 2 + S.cm r) := Lib.hid (by rw [hr2])
          generalize hE : k + 2 + S.cm r = E at *
          have HX := Lib.hid (append_bytes acc [32])
          have hwk2 : IntKind.i64.wrap ((k : Int) + 2) = (k : Int) + 2 := IntWalk.i64_in _ (by omega)
          clear hq hd hmore HA h47 ht hd1 hdd hr2
          go_wp2_with fail
          go_loop [4] (fun v4 => ∃ j : Nat, v4 = .int .i64 j ∧ k + 2 ≤ j ∧ j ≤ s.length ∧ Hid (j + S.cm (s.drop j) = E)) (fun v4 => s.length - (intOf v4).toNat)
          case atStart => exact ⟨k + 2, by go_num, by omega, by omega, HE0⟩
          case round =>
            obtain ⟨j, rfl, hkj, hj, HJ⟩ := hrel
            clear HE0 hix hix1
            by_cases hjl : j < s.length
            · have hjI : (j : Int) < (s.length : Int) := by omega
              obtain ⟨x, y, hxy⟩ := drop_cons hjl
              have hjx := at_drop hxy (by rw [bytes_size]; exact hjl)
              have hjm := drop_more hxy
              have hwj : IntKind.i64.wrap ((j : Int) + 1) = (j : Int) + 1 := IntWalk.i64_in _ (by omega)
              by_cases hx : x = 42
              · obtain ⟨a42x, b42x, m42x⟩ : ((x.toNat : Int) == 42) = true ∧ ((x.toNat : Int) != 42) = false ∧ (x.toNat : Int) = 42 := isB (n := 42) hx (by decide)
                by_cases hj1 : j + 1 < s.length
                · have hjI1 : (j : Int) + 1 < (s.length : Int) := by omega
                  obtain ⟨z, u, hzu⟩ := drop_cons hj1
                  have hjz := at_drop hzu (by rw [bytes_size]; exact hj1)
                  by_cases hz : z = 47
                  · obtain ⟨a47z, b47z, m47z⟩ : ((z.toNat : Int) == 47) = true ∧ ((z.toNat : Int) != 47) = false ∧ (z.toNat : Int) = 47 := isB (n := 47) hz (by decide)
                    have HEj : Hid (E = j) := Lib.hid (by
                      have h := HJ.out
                      rw [hxy, ← hjm, hzu, hx, hz, cm_stop] at h
                      omega)
                    clear hxy hjm hzu hx hz HJ
                    go_wp2_with fail
                    go_round
                    case rel => exact ⟨E + 2, acc ++ [32], congrArg Value.string HX.out, (by have := HEj.out; subst this; go_num), by have := HEj.out; omega, by rw [List.length_append]; have := HEj.out; simp; omega, HA2⟩
                    case measure => have := HEj.out; simp [intOf]; omega
                  · obtain ⟨a47z, b47z, m47z⟩ : ((z.toNat : Int) == 47) = false ∧ ((z.toNat : Int) != 47) = true ∧ ¬ (z.toNat : Int) = 47 := noB (n := 47) hz (by decide)
                    have HJ2 : Hid (j + 1 + S.cm (s.drop (j + 1)) = E) := Lib.hid (by
                      have h := HJ.out
                      rw [hxy, cm_step (by rintro v ⟨_, h2⟩; rw [h2] at hjm; rw [hjm] at hzu; injection hzu with h3 _; exact hz h3.symm)] at h
                      rw [hjm]; omega)
                    clear hxy hjm hzu hx hz HJ
                    go_wp2_with fail
                    go_round
                    case rel => exact ⟨j + 1, by go_num, by omega, by omega, HJ2⟩
                    case measure => simp [intOf]; omega
                · have hjI1 : ¬ (j : Int) + 1 < (s.length : Int) := by omega
                  have HJ2 : Hid (j + 1 + S.cm (s.drop (j + 1)) = E) := Lib.hid (by
                    have h := HJ.out
                    rw [hxy, cm_step (by rintro v ⟨_, h2⟩; have := drop_len hxy; rw [h2] at this; simp at this; omega)] at h
                    rw [hjm]; omega)
                  clear hxy hjm hx HJ
                  go_wp2_with fail
                  go_round
                  case rel => exact ⟨j + 1, by go_num, by omega, by omega, HJ2⟩
                  case measure => simp [intOf]; omega
              · obtain ⟨a42x, b42x, m42x⟩ : ((x.toNat : Int) == 42) = false ∧ ((x.toNat : Int) != 42) = true ∧ ¬ (x.toNat : Int) = 42 := noB (n := 42) hx (by decide)
                have HJ2 : Hid (j + 1 + S.cm (s.drop (j + 1)) = E) := Lib.hid (by
                  have h := HJ.out
                  rw [hxy, cm_step (by rintro v ⟨h1, _⟩; exact hx h1)] at h
                  rw [hjm]; omega)
                clear hxy hjm hx HJ
                go_wp2_with fail
                go_round
                case rel => exact ⟨j + 1, by go_num, by omega, by omega, HJ2⟩
                case measure => simp [intOf]; omega
            · have hjI : ¬ (j : Int) < (s.length : Int) := by omega
              have HEj : Hid (E = j) := Lib.hid (by
                have h := HJ.out
                rw [List.drop_eq_nil_of_le (by omega)] at h
                exact h.symm)
              clear HJ
              go_wp2_with fail
              go_round
              case rel => exact ⟨E + 2, acc ++ [32], congrArg Value.string HX.out, (by have := HEj.out; subst this; go_num), by have := HEj.out; omega, by rw [List.length_append]; have := HEj.out; simp; omega, HA2⟩
              case measure => have := HEj.out; simp [intOf]; omega
        · have HA2 : Hid ((acc ++ (s.drop k).take 1) ++ S.clean 0 (s.drop (k + 1)) = C) := Lib.hid (by
            rw [← HA.out, hmore, hd, S.clean_else hq (fun r h => hcm ⟨r, h⟩), List.append_assoc]
            rfl)
          have HX := Lib.hid (take_drop_add s k 1 acc (by omega))
          have hal : (acc ++ (s.drop k).take 1).length ≤ k + 1 := by rw [List.length_append, List.length_take]; omega
          generalize acc ++ (s.drop k).take 1 = acc2 at *
          by_cases h47 : c = 47
          · obtain ⟨a47c, b47c, m47c⟩ : ((c.toNat : Int) == 47) = true ∧ ((c.toNat : Int) != 47) = false ∧ (c.toNat : Int) = 47 := isB (n := 47) h47 (by decide)
            by_cases hk1 : k + 1 < s.length
            · have hkI1 : (k : Int) + 1 < (s.length : Int) := by omega
              obtain ⟨d, r, hd1⟩ := drop_cons hk1
              have hix1 := at_drop hd1 (by rw [bytes_size]; exact hk1)
              obtain ⟨a42d, b42d, m42d⟩ : ((d.toNat : Int) == 42) = false ∧ ((d.toNat : Int) != 42) = true ∧ ¬ (d.toNat : Int) = 42 := noB (n := 42) (by intro h; exact hcm ⟨r, h47, by rw [← hmore, hd1, h]; rfl⟩) (by decide)
              clear hq hd hmore HA h47 hd1 hcm
              go_wp2_with fail
              go_round
              case rel => exact ⟨k + 1, acc2, congrArg Value.string HX.out, by go_num, by omega, hal, HA2⟩
              case measure => simp [intOf]; omega
            · have hkI1 : ¬ (k : Int) + 1 < (s.length : Int) := by omega
              clear hq hd hmore HA h47 hcm
              go_wp2_with fail
              go_round
              case rel => exact ⟨k + 1, acc2, congrArg Value.string HX.out, by go_num, by omega, hal, HA2⟩
              case measure => simp [intOf]; omega
          · obtain ⟨a47c, b47c, m47c⟩ : ((c.toNat : Int) == 47) = false ∧ ((c.toNat : Int) != 47) = true ∧ ¬ (c.toNat : Int) = 47 := noB (n := 47) h47 (by decide)
            clear hq hd hmore HA h47 hcm
            by_cases hk1 : (k : Int) + 1 < (s.length : Int)
            all_goals
              go_wp2_with fail
              go_round
              case rel => exact ⟨k + 1, acc2, congrArg Value.string HX.out, by go_num, by omega, hal, HA2⟩
              case measure => simp [intOf]; omega
    · have HC : Hid (acc = C) := Lib.hid (by rw [← HA.out, List.drop_eq_nil_of_le (by omega), S.clean_nil, List.append_nil])
      have hlI : ¬ (k : Int) < (s.length : Int) := by omega
      clear HA
      go_wp2_with fail
      go_ret
      exact ⟨ret_strY (by rw [HC.out]), HB.out⟩

end V
end Go.Proofs.YtafkeolpadfjfaaGreatDoor

namespace Go.Proofs.YtafkeolpadfjfaaGreatDoor
open Go.RowKit
namespace V
open H Y

/-- A declaration's cells, as the reference has them. -/
def rdcell (d : S.Decl) : List Value := [.string ⟨d.name.toArray⟩, .int .i64 (d.val.kind : Nat), .int .i64 d.val.num, .string ⟨d.val.word.toArray⟩, .bool true, .bool d.imp]
def rdCells (l : List S.Decl) : List Value := l.flatMap rdcell
def OwnR (base : Nat) (w : World) (v : Value) (l : List S.Decl) : Prop := w.ownsRow base 69 6 v l.length (rdCells l) ∧ (l.length = 0 → v = .slice none 0 0)
theorem OwnR.form {base : Nat} {w : World} {v : Value} {l : List S.Decl} (h : OwnR base w v l) : ∃ ao cap, v = .slice ao l.length cap := by
  rcases h.1.2 with ⟨h1, h2⟩ | ⟨g, cap, cur, rfl, _⟩
  · exact ⟨none, 0, by rw [h1, h2]⟩
  · exact ⟨_, cap, rfl⟩
theorem OwnR.keep {base : Nat} {w w' : World} {v : Value} {l : List S.Decl} (h : OwnR base w v l) (k : Below w.heap.size w w') : OwnR base w' v l := ⟨own_keepD h.1 k, h.2⟩
theorem OwnR.base {B B' : Nat} {w : World} {v : Value} {l : List S.Decl} (h : OwnR B w v l) (hB : B' ≤ B) : OwnR B' w v l := ⟨own_base h.1 hB, h.2⟩

theorem lcell_ok (b : Bool) (p : S.Lh) (h : p.2.2 = true) : lcell b p = rdcell ⟨p.1, p.2.1, b⟩ := by
  obtain ⟨n, v, ok⟩ := p
  dsimp only at h
  subst h
  rfl
theorem lCells_ok (b : Bool) : ∀ l : List S.Lh, (l.all fun p => p.2.2) = true → lCells b l = rdCells (l.map fun p => ⟨p.1, p.2.1, b⟩)
  | [], _ => rfl
  | p :: r, h => by
    rw [List.all_cons, Bool.and_eq_true] at h
    have ih := lCells_ok b r h.2
    unfold lCells rdCells at *
    rw [List.flatMap_cons, ih, lcell_ok b p h.1]
    rfl
theorem lCells_len (b : Bool) : ∀ l : List S.Lh, (lCells b l).length = l.length * 6
  | [] => rfl
  | p :: r => by
    have ih := lCells_len b r
    unfold lCells at *
    rw [List.flatMap_cons, List.length_append, ih, List.length_cons]
    show 6 + r.length * 6 = _
    omega
/-- The first k are marked. -/
def mixed (b : Bool) (l : List S.Lh) (k : Nat) : List Value := lCells b (l.take k) ++ lCells false (l.drop k)
theorem mixed_step (b : Bool) (l : List S.Lh) (k : Nat) (hk : k < l.length) : (mixed b l k).set (k * 6 + 5) (.bool b) = mixed b l (k + 1) := by
  unfold mixed
  have h1 : (lCells b (l.take k)).length = k * 6 := by rw [lCells_len, List.length_take]; omega
  have h2 : l.drop k = l[k] :: l.drop (k + 1) := List.drop_eq_getElem_cons hk
  have h3 : l.take (k + 1) = l.take k ++ [l[k]] := List.take_succ_eq_append_getElem hk
  rw [List.set_append_right _ _ (by omega), h1, h3, show k * 6 + 5 - k * 6 = 5 by omega]
  unfold lCells
  rw [List.flatMap_append, List.append_assoc]
  congr 1
  rw [h2, List.flatMap_cons]
  rfl
theorem mixed_at (b : Bool) (l : List S.Lh) (k : Nat) (hk : k < l.length) : (mixed b l (k + 1))[k * 6 + 4]? = some (.bool l[k].2.2) := by
  unfold mixed
  have h1 : (lCells b (l.take k)).length = k * 6 := by rw [lCells_len, List.length_take]; omega
  have h3 : l.take (k + 1) = l.take k ++ [l[k]] := List.take_succ_eq_append_getElem hk
  rw [h3]
  unfold lCells at *
  rw [List.flatMap_append, List.append_assoc, List.getElem?_append_right (by omega), h1, show k * 6 + 4 - k * 6 = 4 by omega]
  rfl
theorem mixed_zero (b : Bool) (l : List S.Lh) : mixed b l 0 = lCells false l := by unfold mixed; rw [List.take_zero, List.drop_zero]; rfl
theorem mixed_all (b : Bool) (l : List S.Lh) (k : Nat) (hk : l.length ≤ k) : mixed b l k = lCells b l := by
  unfold mixed
  rw [List.take_of_length_le hk, List.drop_eq_nil_of_le hk]
  show _ ++ [] = _
  rw [List.append_nil]

theorem longs_len (v : List UInt8) : ∀ ns vs : List (List UInt8), (S.longs v ns vs).length = ns.length
  | [], _ => rfl
  | n :: ns, vs => by rw [S.longs, List.length_cons, List.length_cons, longs_len v ns]
theorem longhands_len (nm v : List UInt8) : (S.longhands nm v).length ≤ 4 := by
  unfold S.longhands
  split
  · simp
  · rw [longs_len]; exact rsides_len nm
theorem allGl (l : List S.Lh) (lg : List (List UInt8 × Option S.Val)) (h : S.lhOk l = lg) : S.allG lg = S.allG (S.lhOk l) := by rw [h]
theorem tw_take (s : List UInt8) {E : Nat} (hE : twEnd (notQ 58) s 0 = E) : s.takeWhile (fun c => decide (c ≠ 58)) = s.take E := by
  have := twEnd_take (notQ 58) s 0
  rw [hE, Nat.sub_zero, List.drop_zero] at this
  exact this.symm
theorem tw_drop (s : List UInt8) {E : Nat} (hE : twEnd (notQ 58) s 0 = E) : s.dropWhile (fun c => decide (c ≠ 58)) = s.drop E := by
  have := twEnd_drop (notQ 58) s 0
  rw [hE, List.drop_zero] at this
  exact this.symm
theorem colon_at {s r : List UInt8} {E : Nat} (hE : twEnd (notQ 58) s 0 = E) (hd : s.drop E = 58 :: r) : S.colonP s = (s.take E, s.drop (E + 1)) := by
  rw [S.colonP_tw s (by have : (58 : UInt8) ∈ s.drop E := by rw [hd]; exact List.mem_cons_self ..
                        exact List.mem_of_mem_drop this), tw_take s hE, tw_drop s hE, List.tail_drop]
theorem colon_no {s : List UInt8} (hE : twEnd (notQ 58) s 0 = s.length) : (58 : UInt8) ∉ s := by
  intro h
  have h1 := S.tw_colon h
  rw [tw_take s hE, List.take_length] at h1
  omega

set_option maxHeartbeats 32000000 in
set_option maxRecDepth 100000 in
theorem decl (s : List UInt8) (w : World) (hs : s.length ≤ 80000) :
    Calls Tryz.prog 68 #[.string ⟨s.toArray⟩] w fun e w' => ∃ v, e = .returned v ∧ Below w.heap.size w w' ∧ OwnR w.heap.size w' v (S.declOf s) := by
  have zs := bytes_size s
  obtain ⟨E, hE⟩ : ∃ E, twEnd (notQ 58) s 0 = E := ⟨_, rfl⟩
  have HE := Lib.hid hE
  have HQ : Hid (S.declOf s = S.marked (S.allG (S.longhands (S.rname s) (S.important (S.rvalue s)).1)) (S.important (S.rvalue s)).2) := Lib.hid (S.declOf_ref s)
  have HN := Lib.hid (fun h => S.declOf_no (s := s) h)
  have HVT : Hid (S.trim (S.rvalue s) = S.rvalue s) := Lib.hid (S.trim_trim _)
  have HRN : Hid (∀ {r : List UInt8}, s.drop E = 58 :: r → S.rname s = S.lower (S.trim (s.take E)) ∧ S.rvalue s = S.trim (S.lower (s.drop (E + 1)))) := Lib.hid (fun h => by
    unfold S.rname S.rvalue; rw [colon_at hE h]; exact ⟨rfl, rfl⟩)
  generalize S.declOf s = q at *
  generalize S.rname s = rn at *
  generalize S.rvalue s = rv at *
  clear hE
  go_enter Tryz.func68, Tryz.ntmps68
  go_wp2_with fail
  go_loop [3] (fun v3 => ∃ k : Nat, v3 = .int .i64 k ∧ k ≤ s.length ∧ Hid (twEnd (notQ 58) s k = E)) (fun v3 => s.length - (intOf v3).toNat)
  case atStart => exact ⟨0, rfl, by omega, HE⟩
  case round =>
    obtain ⟨k, rfl, hk, HK⟩ := hrel
    by_cases hlt : k < s.length
    · have hlI : (k : Int) < (s.length : Int) := by omega
      obtain ⟨c, t, hd⟩ := drop_cons hlt
      have hkx := at_drop hd (by rw [bytes_size]; exact hlt)
      cases hc : notQ 58 c with
      | true =>
        obtain ⟨a58, b58, m58⟩ : ((c.toNat : Int) == 58) = false ∧ ((c.toNat : Int) != 58) = true ∧ ¬ (c.toNat : Int) = 58 := noB (n := 58) (of_decide_eq_true hc) (by decide)
        have HK2 := Lib.hid ((twEnd_step hd hc).trans HK.out)
        clear hd hc HK
        go_wp2_with fail
        go_round
        case rel => exact ⟨k + 1, by go_num, by omega, HK2⟩
        case measure => simp [intOf]; omega
      | false =>
        have h58 : c = 58 := by simpa [notQ] using hc
        obtain ⟨a58, b58, m58⟩ : ((c.toNat : Int) == 58) = true ∧ ((c.toNat : Int) != 58) = false ∧ (c.toNat : Int) = 58 := isB (n := 58) h58 (by decide)
        obtain rfl : k = E := (twEnd_stop hd hc).symm.trans HK.out
        obtain ⟨hrn, hrv⟩ := HRN.out (by rw [hd, h58])
        have hx1 := cut_front s k (by omega)
        have hx2 := cut_back s (k + 1) (by omega)
        have hln : (s.take k).length ≤ 80000 := by rw [List.length_take]; omega
        have hlv : (s.drop (k + 1)).length ≤ 80000 := by rw [List.length_drop]; omega
        have hl1 := S.trim_len (s.take k)
        have hl2 : rv.length ≤ 80000 := by rw [hrv]; have := S.trim_len (S.lower (s.drop (k + 1))); rw [lower_len] at this; omega
        have QT1 := Lib.hid (fun W => rtrim (s.take k) W (by omega))
        have QL1 := Lib.hid (fun W => rlower (S.trim (s.take k)) W (by omega))
        have QL2 := Lib.hid (fun W => rlower (s.drop (k + 1)) W (by omega))
        have QT2 := Lib.hid (fun W => rtrim (S.lower (s.drop (k + 1))) W (by rw [lower_len]; omega))
        rw [← hrn] at QL1
        rw [← hrv] at QT2
        have hrnl : rn.length ≤ 80000 := by rw [hrn, lower_len]; omega
        have wk : IntKind.i64.wrap ((k : Int) + 1) = (k : Int) + 1 := IntWalk.i64_in _ (by omega)
        clear hd hc h58 HK HE HRN HN hrn hrv hln hlv hl1
        generalize s.take k = s1 at *
        generalize S.trim s1 = s2 at *
        generalize s.drop (k + 1) = s3 at *
        generalize S.lower s3 = s4 at *
        go_wp2_with fail
        refine (QT1.out _).mono ?_
        rintro e w' ⟨rfl, rfl⟩
        go_wp2_with fail
        refine (QL1.out _).mono ?_
        rintro e w1 ⟨rfl, hb⟩
        have HB1 := Lib.hid hb
        clear hb QT1 QL1 hx1
        go_wp2_with fail
        refine (QL2.out _).mono ?_
        rintro e w2 ⟨rfl, hb⟩
        have HB2 := Lib.hid (HB1.out.trans (hb.mono HB1.out.size))
        clear hb QL2 HB1
        go_wp2_with fail
        refine (QT2.out _).mono ?_
        rintro e w' ⟨rfl, rfl⟩
        clear QT2 hx2 hkx wk
        have HVI : Hid (∀ i, S.Imp rv i → S.important rv = (S.trim (rv.take i), true)) := Lib.hid (fun i h => S.imp_yes HVT.out h)
        have HVN : Hid ((∀ i, ¬ S.Imp rv i) → S.important rv = (rv, false)) := Lib.hid (fun h => S.imp_no h)
        have HTL : Hid (∀ x : List UInt8, (S.trim x).length ≤ x.length) := Lib.hid S.trim_len
        have hil : (S.important rv).1.length ≤ rv.length := imp_len rv
        generalize hIM : S.important rv = im at *
        obtain ⟨iv, ib⟩ := im
        dsimp only at HQ hil
        have QH := Lib.hid (fun W => longhands rn iv W (by omega) (by omega))
        have hlgl := longhands_len rn iv
        generalize S.longhands rn iv = lg at *
        have zr := bytes_size rv
        clear hIM HVT
        go_upto_block 2 with fail
        go_cut [5, 6] (fun v5 v6 wx => v5 = .string ⟨iv.toArray⟩ ∧ v6 = .bool ib ∧ wx = w2)
        case first =>
          go_wp2_with fail
          go_loopw [5, 6, 7] (fun v5 v6 v7 wr => v5 = .string ⟨rv.toArray⟩ ∧ v6 = .bool false ∧ ∃ z : Int, v7 = .int .i64 z ∧ -1 ≤ z ∧ z < (rv.length : Int) ∧ Hid (∀ j : Nat, z < (j : Int) → ¬ S.Imp rv j) ∧ Hid (w2 = wr)) (fun _ _ v7 _ => (intOf v7 + 1).toNat)
          case atStart => exact ⟨rfl, rfl, (rv.length : Int) - 1, rfl, by omega, by omega, Lib.hid (fun j hj h => by have := h.1; omega), Lib.hid (by first | rfl | trivial)⟩
          case round =>
            obtain ⟨rfl, rfl, z, rfl, hz1, hz2, HZ, HW⟩ := hrel
            obtain rfl := HW.out
            clear HW
            by_cases hz : 0 ≤ z
            · obtain ⟨m, rfl⟩ : ∃ m : Nat, z = m := ⟨z.toNat, by omega⟩
              have hm : m < rv.length := by omega
              obtain ⟨c, r, hd⟩ := drop_cons hm
              have hmx := at_drop hd (by rw [bytes_size]; exact hm)
              have hmore := drop_more hd
              have hgd : rv.getD m 0 = c := getD_drop hd
              have hx3 := cut_back rv (m + 1) (by omega)
              have hx4 := cut_front rv m (by omega)
              have hwm : IntKind.i64.wrap ((m : Int) + 1) = (m : Int) + 1 := IntWalk.i64_in _ (by omega)
              have hrl : r.length ≤ 80000 := by have := drop_len hd; omega
              rw [hmore] at hx3
              by_cases hc : c = 33
              · obtain ⟨a33, b33, m33⟩ : ((c.toNat : Int) == 33) = true ∧ ((c.toNat : Int) != 33) = false ∧ (c.toNat : Int) = 33 := isB (n := 33) hc (by decide)
                have QT := Lib.hid (fun W => rtrim r W (by omega))
                by_cases hi : S.trim r = [105, 109, 112, 111, 114, 116, 97, 110, 116]
                · have HI := Lib.hid (HVI.out m ⟨hm, hgd.trans hc, by rw [hmore]; exact hi⟩)
                  have e1 : (S.trim r == [105, 109, 112, 111, 114, 116, 97, 110, 116]) = true := by simpa using hi
                  have hfl : (rv.take m).length ≤ 80000 := by rw [List.length_take]; omega
                  have QT2 := Lib.hid (fun W => rtrim (rv.take m) W (by omega))
                  rw [show S.trim (rv.take m) = iv by have := HI.out; injection this with h1 _; exact h1.symm] at QT2
                  have hib : true = ib := by have := HI.out; injection this with _ h1; exact h1.symm
                  subst hib
                  generalize S.trim r = tr at *
                  generalize rv.take m = tk at *
                  clear hd hmore hgd hc hi HI HVI HVN HTL
                  go_wp2_with fail
                  refine (QT.out _).mono ?_
                  rintro e w' ⟨rfl, rfl⟩
                  go_wp2_with fail
                  refine (QT2.out _).mono ?_
                  rintro e w' ⟨rfl, rfl⟩
                  go_wp2_with fail
                  go_meet
                  exact ⟨rfl, rfl, rfl⟩
                · have e1 : (S.trim r == [105, 109, 112, 111, 114, 116, 97, 110, 116]) = false := by simpa using hi
                  have HZ2 : Hid (∀ j : Nat, (m : Int) - 1 < (j : Int) → ¬ S.Imp rv j) := Lib.hid (fun j hj h => by
                    rcases (by omega : j = m ∨ (m : Int) < (j : Int)) with rfl | h2
                    · have := h.2.2; rw [hmore] at this; exact hi this
                    · exact HZ.out j h2 h)
                  generalize S.trim r = tr at *
                  clear hd hmore hgd hc hi HZ hx4
                  go_wp2_with fail
                  refine (QT.out _).mono ?_
                  rintro e w' ⟨rfl, rfl⟩
                  go_wp2_with fail
                  go_roundw
                  case rel => exact ⟨rfl, rfl, (m : Int) - 1, rfl, by omega, by omega, HZ2, Lib.hid (by first | rfl | trivial)⟩
                  case measure => simp [intOf]
              · obtain ⟨a33, b33, m33⟩ : ((c.toNat : Int) == 33) = false ∧ ((c.toNat : Int) != 33) = true ∧ ¬ (c.toNat : Int) = 33 := noB (n := 33) hc (by decide)
                have HZ2 : Hid (∀ j : Nat, (m : Int) - 1 < (j : Int) → ¬ S.Imp rv j) := Lib.hid (fun j hj h => by
                  rcases (by omega : j = m ∨ (m : Int) < (j : Int)) with rfl | h2
                  · exact hc (hgd.symm.trans h.2.1)
                  · exact HZ.out j h2 h)
                clear hd hmore hgd hc HZ hx3 hx4
                go_wp2_with fail
                go_roundw
                case rel => exact ⟨rfl, rfl, (m : Int) - 1, rfl, by omega, by omega, HZ2, Lib.hid (by first | rfl | trivial)⟩
                case measure => simp [intOf]
            · have HI := Lib.hid (HVN.out (fun i h => HZ.out i (by omega) h))
              have hib : false = ib := by have := HI.out; injection this with _ h1; exact h1.symm
              have hiv : rv = iv := by have := HI.out; injection this with h1 _; exact h1.symm
              subst hib
              subst hiv
              clear HI HVI HVN HTL HZ
              go_wp2_with fail
              go_meet
              exact ⟨rfl, rfl, rfl⟩
        case rest =>
        obtain ⟨rfl, rfl, hwx⟩ := hcut
        obtain rfl := hwx
        rename_i KK1 hKK1
        refine hKK1 _ _ ?_
        go_wp2_with fail
        refine (QH.out _).mono ?_
        rintro e w3 ⟨v8, l, rfl, hb, hown, hlh⟩
        have HB3 := Lib.hid (HB2.out.trans (hb.mono HB2.out.size))
        have HO3 : Hid (OwnL false w.heap.size w3 v8 l) := Lib.hid (hown.base HB2.out.size)
        have HLH := Lib.hid (allGl l lg hlh.out)
        have hN4 : l.length ≤ 4 := by have := congrArg List.length hlh.out; unfold S.lhOk at this; rw [List.length_map] at this; omega
        obtain ⟨ao, cap, hv8⟩ := hown.form
        generalize hNN : l.length = N at hv8 hN4
        have HN2 := Lib.hid hNN
        subst hv8
        have HM0 : Hid (w3.ownsRow w.heap.size 69 6 (.slice ao N cap) N (mixed ib l 0)) := Lib.hid (by rw [mixed_zero, ← HN2.out]; have := HO3.out.1; rw [HN2.out] at this ⊢; exact this)
        have HNil : Hid (N = 0 → (.slice ao N cap : Value) = .slice none 0 0) := Lib.hid (fun h => HO3.out.2 (by rw [HN2.out]; exact h))
        clear hb hown hlh QH hNN HO3 HB2
        go_wp2_with fail
        go_loopw [9] (fun v9 wr => ∃ k : Nat, v9 = .int .i64 k ∧ k ≤ N ∧ Hid (wr.ownsRow w.heap.size 69 6 (.slice ao N cap) N (mixed ib l k)) ∧ Hid ((l.take k).all (fun p => p.2.2) = true) ∧ Hid (Below w.heap.size w wr)) (fun v9 _ => N - (intOf v9).toNat)
        case atStart => exact ⟨0, rfl, by omega, HM0, Lib.hid rfl, HB3⟩
        case round =>
          obtain ⟨k9, rfl, hk9, HMx, HAl, HU⟩ := hrel
          clear HM0
          by_cases hlt9 : k9 < N
          · have hkI9 : (k9 : Int) < (N : Int) := by omega
            have hkl : k9 < l.length := by rw [HN2.out]; exact hlt9
            obtain ⟨g, hg⟩ : ∃ g, ao = some ⟨g, 0, none⟩ := by
              rcases HMx.out.2 with ⟨hv, h0⟩ | ⟨g, _, _, hv, _⟩
              · omega
              · injection hv with h1 _ _; exact ⟨g, h1⟩
            subst hg
            have hgl := HMx.out.lt g rfl
            have f5 := HMx.out.frozenAt (k9 * 6 + 5)
            obtain ⟨y5, hy5⟩ : ∃ y, wr.cell? ⟨g, k9 * 6 + 5, none⟩ = some y := by
              have h1 := HMx.out.cellAt (k9 * 6 + 5) (by omega)
              have h2 : k9 * 6 + 5 < (mixed ib l k9).length := by rw [HMx.out.1]; omega
              exact ⟨_, h1.trans (List.getElem?_eq_getElem h2)⟩
            obtain ⟨hst, hgr⟩ := HMx.out.stored (k9 * 6 + 5) (.bool ib)
            rw [mixed_step ib l k9 hkl] at hst
            have HM2 := Lib.hid hst
            have HU2 : Hid (Below w.heap.size w (wr.setCell ⟨g, k9 * 6 + 5, none⟩ (.bool ib))) := Lib.hid (HU.out.setCell (p := ⟨g, k9 * 6 + 5, none⟩) hgl.1 _)
            have y4 : (wr.setCell ⟨g, k9 * 6 + 5, none⟩ (.bool ib)).cell? ⟨g, k9 * 6 + 4, none⟩ = some (.bool l[k9].2.2) := (HM2.out.cellAt (k9 * 6 + 4) (by omega)).trans (mixed_at ib l k9 hkl)
            have HAl2 : Hid (l[k9].2.2 = true → (l.take (k9 + 1)).all (fun p => p.2.2) = true) := Lib.hid (fun h => by
              rw [List.take_succ_eq_append_getElem hkl, List.all_append, HAl.out]; simp [h])
            have HBad : Hid (l[k9].2.2 = false → (l.all fun p => p.2.2) = false) := Lib.hid (fun h => by
              rw [Bool.eq_false_iff]
              intro h2
              have := List.all_eq_true.1 h2 _ (List.getElem_mem hkl)
              rw [h] at this; cases this)
            generalize l[k9].2.2 = ok at *
            clear hst hgr HMx HAl HU hkl
            cases ok with
            | true =>
              have HAl3 := Lib.hid (HAl2.out rfl)
              clear HAl2 HBad
              go_upto_region 20 with fail
              generalize (wr.setCell ⟨g, k9 * 6 + 5, none⟩ (.bool ib)) = wr2 at *
              go_wp2_with fail
              go_roundw
              case rel => exact ⟨k9 + 1, by go_num, by omega, HM2, HAl3, HU2⟩
              case measure => simp [intOf]; omega
            | false =>
              have HQ3 : Hid (q = []) := Lib.hid (by
                rw [HQ.out, HLH.out, S.allG_lh, HBad.out rfl]
                rfl)
              clear HAl2 HBad
              go_upto_region 20 with fail
              generalize (wr.setCell ⟨g, k9 * 6 + 5, none⟩ (.bool ib)) = wr2 at *
              go_wp2_with fail
              go_ret
              exact ⟨_, rfl, HU2.out, by rw [HQ3.out]; exact ⟨World.ownsRow_nil _ _ _ _, fun _ => rfl⟩⟩
          · obtain rfl : N = k9 := by omega
            have e9 : ¬ (N : Int) < (N : Int) := by omega
            have hall : (l.all fun p => p.2.2) = true := by
              have := HAl.out
              rwa [List.take_of_length_le (by rw [HN2.out]; exact Nat.le_refl _)] at this
            have HQ3 : Hid (q = l.map fun p => (⟨p.1, p.2.1, ib⟩ : S.Decl)) := Lib.hid (by
              rw [HQ.out, HLH.out, S.allG_lh, hall]
              show List.map _ (List.map _ l) = _
              rw [List.map_map]; rfl)
            have HOf : Hid (OwnR w.heap.size wr (.slice ao N cap) q) := Lib.hid (by
              rw [HQ3.out]
              refine ⟨?_, fun h => HNil.out (by rw [List.length_map, HN2.out] at h; exact h)⟩
              rw [List.length_map, HN2.out, ← lCells_ok ib l hall, ← mixed_all ib l N (by rw [HN2.out]; exact Nat.le_refl _)]
              exact HMx.out)
            clear HMx HAl hall HQ3
            go_wp2_with fail
            go_ret
            exact ⟨_, rfl, HU.out, HOf.out⟩
    · have hlI : ¬ (k : Int) < (s.length : Int) := by omega
      have HQ2 : Hid (q = []) := Lib.hid (HN.out (colon_no (by have h2 := HK.out; rw [twEnd_past (by omega)] at h2; rw [HE.out, ← h2]; omega)))
      clear HK HE HRN HN
      go_wp2_with fail
      go_ret
      exact ⟨_, rfl, Below.refl _ _, by rw [HQ2.out]; exact ⟨World.ownsRow_nil _ _ _ _, fun _ => rfl⟩⟩

end V
end Go.Proofs.YtafkeolpadfjfaaGreatDoor

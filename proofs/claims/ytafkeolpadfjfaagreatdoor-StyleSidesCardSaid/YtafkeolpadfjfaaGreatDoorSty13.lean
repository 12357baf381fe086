/- What FormatValue comes to. -/
import Derived.Test.YtafkeolpadfjfaaGreatDoorSty12
import Derived.Lib.ItoaMem
import Derived.Lib.ItoaLen
import Derived.Lib.TrimByte
set_option linter.unusedVariables false
set_option linter.unusedSimpArgs false
namespace Go.Proofs.YtafkeolpadfjfaaGreatDoor
open Go.RowKit Go.Sort
namespace S
/-- A number of thousandths, written. -/
def fracOf (m : Nat) : List UInt8 := if m % 1000 = 0 then [] else 46 :: Lib.trimRightB ((Lib.decDigits (1000 + m % 1000)).drop 1) 48
def fmtNum (m : Nat) : List UInt8 := Lib.decDigits (m / 1000) ++ fracOf m
def unitOf (k : Nat) : List UInt8 := if k = 3 then [112, 120] else if k = 4 then [101, 109] else if k = 5 then [37] else []
def fmt (v : Val) : List UInt8 := if v.kind = 1 ∨ v.kind = 6 then v.word else ((if v.num < 0 then [45] else []) ++ fmtNum v.num.natAbs) ++ unitOf v.kind
end S
namespace Y
open H

theorem ret_strY {a b : ByteArray} (h : a = b) : Ending.returned (.string a) = .returned (.string b) := by rw [h]
theorem below_growY (w : World) (q : Nat) (os : Array Obj) : Below w.heap.size w (grow (w.drewN q) os) := by
  refine ⟨rfl, rfl, rfl, by simp [grow], fun i hi => ?_⟩
  show ((w.drewN q).heap ++ os)[i]? = _
  rw [Array.getElem?_append_left (by show i < w.heap.size; omega)]
  rfl
def Pow (w : World) : Prop := Lib.TabIs Tryz.prog w "internal/strconv.uint64pow10" .u64 Lib.pow10Tab
theorem itoaY (n : Nat) (h : n ≤ 100000000000) (w : World) (hE : Pow w) :
    Calls Tryz.prog 47 #[.int .i64 n] w fun e w' => e = .returned (.string ⟨(Lib.decDigits n).toArray⟩) ∧ Below w.heap.size w w' := by
  refine (Tryz.strconv_Itoa n (by omega) (by omega) w hE).mono ?_
  rintro e w' ⟨rfl, k, os, rfl⟩
  refine ⟨?_, below_growY _ _ _⟩
  have : Lib.itoa (n : Int) = Lib.decDigits n := by
    unfold Lib.itoa
    rw [if_neg (by omega)]
    rfl
  rw [this]
theorem pow_below {w w' : World} {B : Nat} (h : Pow w) (b : Below B w w') (hB : 7 < B) : Pow w' := by
  have hgn : Tryz.prog.globalNamed "internal/strconv.uint64pow10" = some 7 := by kernel_rfl
  unfold Pow Lib.TabIs World.var? at *
  rw [hgn] at h ⊢
  simp only [Option.bind_some] at h ⊢
  rw [b.block _ hB]
  exact h

theorem dec_pos (n : Nat) : 1 ≤ (Lib.decDigits n).length := by
  rw [Lib.decDigits_length]
  unfold Lib.nDigits
  split <;> omega
theorem dec_20 (n : Nat) (h : n ≤ 100000000000) : (Lib.decDigits n).length ≤ 20 := by
  rw [Lib.decDigits_length]
  exact Lib.nDigits_le20 n (by omega)
theorem trimB_len (l : List UInt8) (c : UInt8) : (Lib.trimRightB l c).length ≤ l.length := by
  unfold Lib.trimRightB
  rw [List.length_reverse]
  have h : ∀ l : List UInt8, (l.dropWhile (· == c)).length ≤ l.length := fun l => by
    rw [← S.drop_tw, List.length_drop]; omega
  exact Nat.le_trans (h _) (by rw [List.length_reverse]; exact Nat.le_refl _)

set_option maxHeartbeats 16000000 in
set_option maxRecDepth 100000 in
theorem formatValue (v : S.Val) (w : World) (hn : v.num.natAbs ≤ 10000000000) (hp : Pow w) (hbig : 7 < w.heap.size) :
    Calls Tryz.prog 22 #[vval v] w fun e w' => e = .returned (.string ⟨(S.fmt v).toArray⟩) ∧ Below w.heap.size w w' := by
  obtain ⟨k, z, wd⟩ := v
  have HP := Lib.hid hp
  have HB0 : Hid (Blk w.heap.size #[.int .i64 (k : Nat), .int .i64 z, .string ⟨wd.toArray⟩] 32 (w.alloc (.cells #[.int .i64 (k : Nat), .int .i64 z, .string ⟨wd.toArray⟩] 32))) := Lib.hid (Blk.new w _ _)
  have HU0 : Hid (Below w.heap.size w (w.alloc (.cells #[.int .i64 (k : Nat), .int .i64 z, .string ⟨wd.toArray⟩] 32))) := Lib.hid ((Below.refl _ w).alloc (Nat.le_refl _) _)
  unfold vval vcells
  dsimp only at hn ⊢
  clear hp
  by_cases hk : k = 1 ∨ k = 6
  · have HF : Hid (S.fmt ⟨k, z, wd⟩ = wd) := Lib.hid (by unfold S.fmt; rw [if_pos hk])
    rcases hk with rfl | rfl
    all_goals
      go_enter Tryz.func22, Tryz.ntmps22
      go_wp2_with fail
      go_ret
      exact ⟨ret_strY (by rw [HF.out]), HU0.out⟩
  · have k1 : ((k : Int) == 1) = false := by rw [beq_eq_false_iff_ne]; omega
    have k6 : ((k : Int) == 6) = false := by rw [beq_eq_false_iff_ne]; omega
    have nk1 : ¬ (k : Int) = 1 := by omega
    have nk6 : ¬ (k : Int) = 6 := by omega
    obtain ⟨sg, hsg⟩ : ∃ sg : List UInt8, sg = if z < 0 then [45] else [] := ⟨_, rfl⟩
    obtain ⟨m, hm⟩ : ∃ m, m = z.natAbs := ⟨_, rfl⟩
    have HF : Hid (S.fmt ⟨k, z, wd⟩ = (sg ++ S.fmtNum m) ++ S.unitOf k) := Lib.hid (by unfold S.fmt; rw [if_neg hk, hsg, hm])
    have HZ : Hid ((z < 0 ∧ sg = [45] ∧ (m : Int) = -z) ∨ (0 ≤ z ∧ sg = [] ∧ (m : Int) = z)) := Lib.hid (by
      by_cases h : z < 0
      · exact Or.inl ⟨h, by rw [hsg, if_pos h], by omega⟩
      · exact Or.inr ⟨by omega, by rw [hsg, if_neg h], by omega⟩)
    have hm10 : m ≤ 10000000000 := by omega
    have hsl : sg.length ≤ 1 := by rw [hsg]; split <;> simp
    clear hk hsg hm
    go_enter Tryz.func22, Tryz.ntmps22
    go_upto_region 1 with fail
    generalize (w.alloc (.cells #[.int .i64 (k : Nat), .int .i64 z, .string ⟨wd.toArray⟩] 32)) = W0 at *
    obtain ⟨hcx, hfx⟩ := cells_of HB0.out
    have x0 : W0.cell? ⟨w.heap.size, 0, none⟩ = some (.int .i64 (k : Nat)) := hcx 0
    have x1 : W0.cell? ⟨w.heap.size, 1, none⟩ = some (.int .i64 z) := hcx 1
    clear hcx hfx
    go_wp2_with fail
    go_quiet (fail)
    go_upto_if 18 with fail
    go_cut [3, 4] (fun v3 v4 wx => v3 = .string ⟨sg.toArray⟩ ∧ v4 = .int .i64 (m : Nat) ∧ ∃ n, wx = W0.drewN n)
    case first =>
      rcases HZ.out with ⟨hz, rfl, hmz⟩ | ⟨hz, rfl, hmz⟩
      · have e0 : decide (z < 0) = true := decide_eq_true hz
        go_wp2_with fail
        go_meet
        exact ⟨rfl, by first | (rw [hmz]) | (congr 1; omega) | go_num, _, rfl⟩
      · have e0 : decide (z < 0) = false := decide_eq_false (by omega)
        have n0 : ¬ z < 0 := by omega
        go_wp2_with fail
        go_meet
        exact ⟨rfl, by first | (rw [hmz]) | (congr 1; omega) | go_num, _, rfl⟩
    case rest =>
      obtain ⟨rfl, rfl, n1, rfl⟩ := hcut
      have HB1 : Hid (Blk w.heap.size _ _ (W0.drewN n1)) := Lib.hid (HB0.out.drewN n1)
      have HU1 : Hid (Below w.heap.size w (W0.drewN n1)) := Lib.hid (belowN HU0.out n1)
      clear HZ HB0 HU0 x0 x1
      generalize W0.drewN n1 = W1 at *
      have QI1 : Hid (Calls Tryz.prog 47 #[.int .i64 ((m : Int) / 1000)] W1 fun e w' => e = .returned (.string ⟨(Lib.decDigits (m / 1000)).toArray⟩) ∧ Below W1.heap.size W1 w') := Lib.hid (by
        have h := itoaY (m / 1000) (by omega) W1 (pow_below HP.out HU1.out hbig)
        rw [show ((m / 1000 : Nat) : Int) = (m : Int) / 1000 by omega] at h
        exact h)
      have l1 := dec_20 (m / 1000) (by omega)
      have HFN : Hid (S.fmtNum m = Lib.decDigits (m / 1000) ++ S.fracOf m) := Lib.hid rfl
      generalize Lib.decDigits (m / 1000) = D at *
      have zD := bytes_size D
      have zs := bytes_size sg
      have hap := append_bytes sg D
      go_wp2_with fail
      refine QI1.out.mono ?_
      rintro e w2 ⟨rfl, hb⟩
      have HB2 := Lib.hid (HB1.out.below hb)
      have HU2 := Lib.hid (HU1.out.trans (hb.mono HU1.out.size))
      clear hb QI1 HB1 HU1
      go_upto_if 28 with fail
      go_cut [3] (fun v3 wx => v3 = .string ⟨(sg ++ S.fmtNum m).toArray⟩ ∧ Hid (Blk w.heap.size #[.int .i64 (k : Nat), .int .i64 z, .string ⟨wd.toArray⟩] 32 wx) ∧ Hid (Below w.heap.size w wx))
      case first =>
        by_cases hm0 : m % 1000 = 0
        · have e1 : ((m : Int) % 1000 != 0) = false := by rw [show (m : Int) % 1000 = 0 by omega]; rfl
          have e2 : (m : Int) % 1000 = 0 := by omega
          have HFr : Hid (S.fracOf m = []) := Lib.hid (by unfold S.fracOf; rw [if_pos hm0])
          clear hm0
          go_wp2_with fail
          go_meet
          exact ⟨congrArg Value.string (by rw [HFN.out, HFr.out, List.append_nil]), HB2, HU2⟩
        · have e1 : ((m : Int) % 1000 != 0) = true := by
            rw [bne_iff_ne]; omega
          have e2 : ¬ (m : Int) % 1000 = 0 := by omega
          have HFr : Hid (S.fracOf m = 46 :: Lib.trimRightB ((Lib.decDigits (1000 + m % 1000)).drop 1) 48) := Lib.hid (by unfold S.fracOf; rw [if_neg hm0])
          have QI2 : Hid (Calls Tryz.prog 47 #[.int .i64 (1000 + (m : Int) % 1000)] w2 fun e w' => e = .returned (.string ⟨(Lib.decDigits (1000 + m % 1000)).toArray⟩) ∧ Below w2.heap.size w2 w') := Lib.hid (by
            have h := itoaY (1000 + m % 1000) (by omega) w2 (pow_below HP.out HU2.out hbig)
            rw [show ((1000 + m % 1000 : Nat) : Int) = 1000 + (m : Int) % 1000 by omega] at h
            exact h)
          have l2 := dec_20 (1000 + m % 1000) (by omega)
          have l3 := dec_pos (1000 + m % 1000)
          have hmod1 : (0 : Int) ≤ (m : Int) % 1000 := by omega
          have hmod2 : (m : Int) % 1000 ≤ 999 := by omega
          generalize Lib.decDigits (1000 + m % 1000) = E2 at *
          have hx := cut_back E2 1 l3
          have zE := bytes_size E2
          have QT := Lib.hid (fun W => Tryz.strings_TrimRight_one ⟨(E2.drop 1).toArray⟩ 48 (by decide) W (by rw [bytes_size, List.length_drop]; omega))
          rw [bytes_toList] at QT
          have l4 := trimB_len (E2.drop 1) 48
          rw [List.length_drop] at l4
          rw [List.drop_one] at QT hx l4 HFr
          generalize Lib.trimRightB E2.tail 48 = G at *
          have zG := bytes_size G
          have hap2 : (⟨#[46]⟩ : ByteArray) ++ ⟨G.toArray⟩ = ⟨(46 :: G).toArray⟩ := append_bytes [46] G
          have hE1 : (1 : Int) ≤ (E2.length : Int) := by omega
          clear hm0
          go_wp2_with fail
          refine QI2.out.mono ?_
          rintro e w3 ⟨rfl, hb⟩
          have HB3 := Lib.hid (HB2.out.below hb)
          have HU3 := Lib.hid (HU2.out.trans (hb.mono HU2.out.size))
          clear hb QI2
          go_wp2_with fail
          refine (QT.out _).mono ?_
          rintro e w4 ⟨rfl, rfl⟩
          clear QT
          have hap3 := append_bytes (sg ++ D) (46 :: G)
          have zsd := bytes_size (sg ++ D)
          rw [List.length_append] at zsd
          go_wp2_with fail
          go_meet
          exact ⟨congrArg Value.string (by first | rfl | (rw [HFN.out, HFr.out, ← List.append_assoc]) | (rw [HFN.out, HFr.out, ← List.append_assoc]; exact hap3)), HB3, HU3⟩
      case rest =>
        obtain ⟨rfl, HB5, HU5⟩ := hcut
        have HFs : Hid (S.fmt ⟨k, z, wd⟩ = (sg ++ S.fmtNum m) ++ S.unitOf k) := HF
        have lF : (sg ++ S.fmtNum m).length ≤ 100 := by
          have h1 : (S.fracOf m).length ≤ 30 := by
            unfold S.fracOf
            split
            · simp
            · have h2 := dec_20 (1000 + m % 1000) (by omega)
              have h3 := trimB_len ((Lib.decDigits (1000 + m % 1000)).drop 1) 48
              rw [List.length_drop] at h3
              rw [List.length_cons]; omega
          rw [HFN.out]
          simp only [List.length_append]
          omega
        generalize sg ++ S.fmtNum m = A at *
        have zA := bytes_size A
        obtain ⟨hcx, hfx⟩ := cells_of HB5.out
        have x0 : wc.cell? ⟨w.heap.size, 0, none⟩ = some (.int .i64 (k : Nat)) := hcx 0
        clear hcx hfx HF HFN HB2 HU2
        by_cases h3 : k = 3
        · have e3 : ((k : Int) == 3) = true := by rw [beq_iff_eq]; omega
          have m3 : (k : Int) = 3 := by omega
          have HQ : Hid (S.unitOf k = [112, 120]) := Lib.hid (by rw [h3]; rfl)
          clear h3
          go_wp2_with fail
          go_ret
          exact ⟨ret_strY (by rw [HFs.out, HQ.out]; exact append_bytes A [112, 120]), HU5.out⟩
        · have e3 : ((k : Int) == 3) = false := by rw [beq_eq_false_iff_ne]; omega
          have m3 : ¬ (k : Int) = 3 := by omega
          by_cases h4 : k = 4
          · have e4 : ((k : Int) == 4) = true := by rw [beq_iff_eq]; omega
            have m4 : (k : Int) = 4 := by omega
            have HQ : Hid (S.unitOf k = [101, 109]) := Lib.hid (by rw [h4]; rfl)
            clear h3 h4
            go_wp2_with fail
            go_ret
            exact ⟨ret_strY (by rw [HFs.out, HQ.out]; exact append_bytes A [101, 109]), HU5.out⟩
          · have e4 : ((k : Int) == 4) = false := by rw [beq_eq_false_iff_ne]; omega
            have m4 : ¬ (k : Int) = 4 := by omega
            by_cases h5 : k = 5
            · have e5 : ((k : Int) == 5) = true := by rw [beq_iff_eq]; omega
              have m5 : (k : Int) = 5 := by omega
              have HQ : Hid (S.unitOf k = [37]) := Lib.hid (by rw [h5]; rfl)
              clear h3 h4 h5
              go_wp2_with fail
              go_ret
              exact ⟨ret_strY (by rw [HFs.out, HQ.out]; exact append_bytes A [37]), HU5.out⟩
            · have e5 : ((k : Int) == 5) = false := by rw [beq_eq_false_iff_ne]; omega
              have m5 : ¬ (k : Int) = 5 := by omega
              have HQ : Hid (S.unitOf k = []) := Lib.hid (by unfold S.unitOf; rw [if_neg h3, if_neg h4, if_neg h5])
              clear h3 h4 h5
              go_wp2_with fail
              go_ret
              exact ⟨ret_strY (by rw [HFs.out, HQ.out, List.append_nil]), HU5.out⟩

end Y
end Go.Proofs.YtafkeolpadfjfaaGreatDoor

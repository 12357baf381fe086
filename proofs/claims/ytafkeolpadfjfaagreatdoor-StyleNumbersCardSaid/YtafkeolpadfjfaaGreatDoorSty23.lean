/- The law StyleNumbers. -/
import Derived.Test.YtafkeolpadfjfaaGreatDoorSty22
set_option linter.unusedVariables false
set_option linter.unusedSimpArgs false
namespace Go.Proofs.YtafkeolpadfjfaaGreatDoor
open Go.RowKit Go.Sort
namespace Y
open H

theorem tmod_abs (n : Int) : (n.tmod 1048576000).natAbs ≤ 1048575999 := by
  have h1 := Int.natAbs_tmod n 1048576000
  have h2 : n.natAbs % 1048576000 < 1048576000 := Nat.mod_lt _ (by decide)
  have h3 : (1048576000 : Int).natAbs = 1048576000 := rfl
  rw [h3] at h1
  omega

theorem fmt_len (k : Nat) (hk : 2 ≤ k ∧ k ≤ 5) (z : Int) (hz : z.natAbs ≤ 1048576000) : (S.fmt ⟨k, z, []⟩).length ≤ 90000 := by
  unfold S.fmt
  dsimp only
  rw [if_neg (by omega)]
  obtain ⟨_, _, d3, _⟩ := S.dec_ok 6 (z.natAbs / 1000) (by omega)
  have h1 : (S.fracOf z.natAbs).length ≤ 4 := by
    unfold S.fracOf
    split
    · simp
    · rw [S.dec_four (by omega)]
      rw [List.length_cons]
      have : (Lib.trimRightB [UInt8.ofNat (48 + z.natAbs % 1000 / 100), UInt8.ofNat (48 + z.natAbs % 1000 / 10 % 10), UInt8.ofNat (48 + z.natAbs % 1000 % 10)] 48).length ≤ 3 := by
        have := (show ∀ r : Fin 1000, (S.thou r.1).length ≤ 3 by decide +kernel) ⟨z.natAbs % 1000, by omega⟩
        exact this
      exact Nat.succ_le_succ this
  have h2 : (S.unitOf k).length ≤ 2 := by
    obtain rfl | rfl | rfl | rfl : k = 2 ∨ k = 3 ∨ k = 4 ∨ k = 5 := by omega
    all_goals decide
  have h3 : (if z < 0 then ([45] : List UInt8) else []).length ≤ 1 := by split <;> simp
  unfold S.fmtNum
  rw [List.length_append, List.length_append, List.length_append]
  omega

set_option maxHeartbeats 16000000 in
set_option maxRecDepth 100000 in
theorem StyleNumbers (n : Int) (kd : Nat) (w : World) (hk : kd < 256) (hn : -9223372036854775808 ≤ n ∧ n ≤ 9223372036854775807) (hR : Repairs redText redText) (hM : HasMax w) (hE : YEnv w) (hP : Pow w) (hPb : 7 < w.heap.size) :
    Calls Tryz.prog 6 #[.int .i64 n, .int .u8 (kd : Nat)] w (TruePost w) := by
  have QA := Lib.hid (awake w hR hM hE)
  have HE := Lib.hid hE
  have hg1 := hE.big
  have hg2 := hE.big2
  clear hR hM hE
  obtain ⟨z, hz⟩ : ∃ z, z = n.tmod 1048576000 := ⟨_, rfl⟩
  have hza := tmod_abs n
  rw [← hz] at hza
  obtain ⟨r, hr⟩ : ∃ r, r = kd % 4 := ⟨_, rfl⟩
  have hr4 : r = 0 ∨ r = 1 ∨ r = 2 ∨ r = 3 := by omega
  have hzz : n.tmod 1048576000 = z := hz.symm
  have wz : IntKind.i64.wrap z = z := IntWalk.i64_in _ (by omega)
  clear hz
  rcases hr4 with h | h | h | h
  · have hm1 : ((kd : Nat) : Int).tmod 4 = 0 := by rw [Int.tmod_eq_emod_of_nonneg (by omega)]; omega
    have hm2 : ((kd : Nat) : Int) % 4 = 0 := by omega
    have hkk : ((kd : Nat) : Int) < 256 := by omega
    clear hr h
    have hq1 : (z.tdiv 1000 * 1000).natAbs ≤ 1048576000 ∧ (z.tdiv 1000 * 1000) % 1000 = 0 := by
      have hd : (z.tdiv 1000).natAbs = z.natAbs / 1000 := Int.natAbs_tdiv z 1000
      have : z.natAbs / 1000 * 1000 ≤ z.natAbs := Nat.div_mul_le_self _ _
      refine ⟨?_, by omega⟩
      rw [Int.natAbs_mul, hd, show (1000 : Int).natAbs = 1000 from rfl]; omega
    obtain ⟨y, hy⟩ : ∃ y, y = z.tdiv 1000 := ⟨_, rfl⟩
    have hyy : z.tdiv 1000 = y := hy.symm
    rw [← hy] at hq1
    have wq0 : IntKind.i64.wrap y = y := IntWalk.i64_in _ (by omega)
    have wq1 : IntKind.i64.wrap (y * 1000) = y * 1000 := IntWalk.i64_in _ (by omega)
    obtain ⟨x, hx⟩ : ∃ x, y * 1000 = x := ⟨_, rfl⟩
    rw [hx] at hq1 wq1
    have HF := Lib.hid (S.value_fmt 2 (by decide) x hq1.1 (fun _ => hq1.2))
    have QF := Lib.hid (fun W hW hB => formatValue ⟨2, x, []⟩ W (by show x.natAbs ≤ _; omega) hW hB)
    clear hy
    unfold vval vcells at QF
    dsimp only at QF
    go_enter Tryz.func6, Tryz.ntmps6
    go_wp2_with (go_at_call 11; refine QA.out.mono ?_)
    rintro e w1 ⟨rfl, hb⟩
    have HB := Lib.hid hb
    clear hb QA
    go_upto_region 8 with fail
    have HBa : Hid (Below w.heap.size w ((w1.alloc (.cells #[.int .i64 2, .int .i64 x, .string ⟨#[]⟩] 32)).alloc (.cells #[.string ⟨#[122, 45, 105, 110, 100, 101, 120]⟩, .string ⟨#[108, 101, 102, 116]⟩, .string ⟨#[108, 101, 102, 116]⟩, .string ⟨#[108, 101, 102, 116]⟩] 9))) := Lib.hid ((HB.out.alloc HB.out.size _).alloc (by have := HB.out.size; simp; omega) _)
    have HV := Lib.hid ((Blk.new w1 #[.int .i64 2, .int .i64 x, .string ⟨#[]⟩] 32).alloc (.cells #[.string ⟨#[122, 45, 105, 110, 100, 101, 120]⟩, .string ⟨#[108, 101, 102, 116]⟩, .string ⟨#[108, 101, 102, 116]⟩, .string ⟨#[108, 101, 102, 116]⟩] 9))
    clear HB
    generalize ((w1.alloc (.cells #[.int .i64 2, .int .i64 x, .string ⟨#[]⟩] 32)).alloc (.cells #[.string ⟨#[122, 45, 105, 110, 100, 101, 120]⟩, .string ⟨#[108, 101, 102, 116]⟩, .string ⟨#[108, 101, 102, 116]⟩, .string ⟨#[108, 101, 102, 116]⟩] 9)) = W2 at *
    generalize w1.heap.size = V at *
    obtain ⟨hc, hf⟩ := cells_of HV.out
    have v0 : W2.cell? ⟨V, 0, none⟩ = some (.int .i64 2) := hc 0
    have v1 : W2.cell? ⟨V, 1, none⟩ = some (.int .i64 x) := hc 1
    have v2 : W2.cell? ⟨V, 2, none⟩ = some (.string ⟨#[]⟩) := hc 2
    clear hc hf
    have QF2 := Lib.hid (QF.out W2 (pow_below hP HBa.out hPb) (Nat.lt_of_lt_of_le hPb HBa.out.size))
    have hfl := fmt_len 2 (by decide) x (by omega)
    have HF2 : Hid (S.value [122, 45, 105, 110, 100, 101, 120] (S.fmt ⟨2, x, []⟩) = some (some ⟨2, x, []⟩)) := Lib.hid HF.out
    clear QF HF
    generalize S.fmt ⟨2, x, []⟩ = ft at *
    go_wp2_with (go_at_call 22; refine QF2.out.mono ?_)
    rintro e w3 ⟨rfl, hb⟩
    have HB3 := Lib.hid (HBa.out.trans (hb.mono HBa.out.size))
    have HV3 := Lib.hid (Blk.below HV.out hb)
    clear hb QF2 HV HBa v0 v1 v2
    have QV := Lib.hid (parseValue [122, 45, 105, 110, 100, 101, 120] ft w3 hfl (HE.out.below HB3.out hg1 hg2))
    rw [HF2.out] at QV
    go_wp2_with (go_at_call 17; refine QV.out.mono ?_)
    rintro e w4 ⟨v, er, rfl, hb, ho⟩
    have hcase : v = ⟨2, x, []⟩ ∧ er = 0 := by
      rcases ho.out with ⟨h, h2⟩ | ⟨h, _⟩ | ⟨h, _⟩
      · cases h; exact ⟨rfl, h2⟩
      · cases h
      · cases h
    obtain ⟨rfl, rfl⟩ := hcase
    unfold vval vcells
    dsimp only
    have HB4 := Lib.hid (HB3.out.trans (hb.mono HB3.out.size))
    have HV4 := Lib.hid ((Blk.below HV3.out hb).alloc (.cells #[.int .i64 ((2 : Nat) : Int), .int .i64 x, .string ⟨#[]⟩] 32))
    have HY4 := Lib.hid (Blk.new w4 #[.int .i64 ((2 : Nat) : Int), .int .i64 x, .string ⟨#[]⟩] 32)
    have HB5 := Lib.hid (HB4.out.alloc HB4.out.size (.cells #[.int .i64 ((2 : Nat) : Int), .int .i64 x, .string ⟨#[]⟩] 32))
    clear hb ho QV HF2 HB3 HB4 HV3
    go_upto_region 9 with fail
    generalize (w4.alloc (.cells #[.int .i64 ((2 : Nat) : Int), .int .i64 x, .string ⟨#[]⟩] 32)) = W5 at *
    generalize w4.heap.size = Y4 at *
    obtain ⟨hc, hf⟩ := cells_of HV4.out
    have v0 : W5.cell? ⟨V, 0, none⟩ = some (.int .i64 2) := hc 0
    have v1 : W5.cell? ⟨V, 1, none⟩ = some (.int .i64 x) := hc 1
    have v2 : W5.cell? ⟨V, 2, none⟩ = some (.string ⟨#[]⟩) := hc 2
    clear hc hf
    obtain ⟨hc, hf⟩ := cells_of HY4.out
    have y0 : W5.cell? ⟨Y4, 0, none⟩ = some (.int .i64 2) := hc 0
    have y1 : W5.cell? ⟨Y4, 1, none⟩ = some (.int .i64 x) := hc 1
    have y2 : W5.cell? ⟨Y4, 2, none⟩ = some (.string ⟨#[]⟩) := hc 2
    clear hc hf HV4 HY4
    go_wp2_with fail
    go_ret
    exact ⟨rfl, HB5.out⟩
  · have hm1 : ((kd : Nat) : Int).tmod 4 = 1 := by rw [Int.tmod_eq_emod_of_nonneg (by omega)]; omega
    have hm2 : ((kd : Nat) : Int) % 4 = 1 := by omega
    have hkk : ((kd : Nat) : Int) < 256 := by omega
    clear hr h
    have HF := Lib.hid (S.value_fmt 3 (by decide) z (by omega) (fun h => by cases h))
    have QF := Lib.hid (fun W hW hB => formatValue ⟨3, z, []⟩ W (by show z.natAbs ≤ _; omega) hW hB)
    unfold vval vcells at QF
    dsimp only at QF
    go_enter Tryz.func6, Tryz.ntmps6
    go_wp2_with (go_at_call 11; refine QA.out.mono ?_)
    rintro e w1 ⟨rfl, hb⟩
    have HB := Lib.hid hb
    clear hb QA
    go_upto_region 8 with fail
    have HBa : Hid (Below w.heap.size w ((w1.alloc (.cells #[.int .i64 3, .int .i64 z, .string ⟨#[]⟩] 32)).alloc (.cells #[.string ⟨#[122, 45, 105, 110, 100, 101, 120]⟩, .string ⟨#[108, 101, 102, 116]⟩, .string ⟨#[108, 101, 102, 116]⟩, .string ⟨#[108, 101, 102, 116]⟩] 9))) := Lib.hid ((HB.out.alloc HB.out.size _).alloc (by have := HB.out.size; simp; omega) _)
    have HV := Lib.hid ((Blk.new w1 #[.int .i64 3, .int .i64 z, .string ⟨#[]⟩] 32).alloc (.cells #[.string ⟨#[122, 45, 105, 110, 100, 101, 120]⟩, .string ⟨#[108, 101, 102, 116]⟩, .string ⟨#[108, 101, 102, 116]⟩, .string ⟨#[108, 101, 102, 116]⟩] 9))
    clear HB
    generalize ((w1.alloc (.cells #[.int .i64 3, .int .i64 z, .string ⟨#[]⟩] 32)).alloc (.cells #[.string ⟨#[122, 45, 105, 110, 100, 101, 120]⟩, .string ⟨#[108, 101, 102, 116]⟩, .string ⟨#[108, 101, 102, 116]⟩, .string ⟨#[108, 101, 102, 116]⟩] 9)) = W2 at *
    generalize w1.heap.size = V at *
    obtain ⟨hc, hf⟩ := cells_of HV.out
    have v0 : W2.cell? ⟨V, 0, none⟩ = some (.int .i64 3) := hc 0
    have v1 : W2.cell? ⟨V, 1, none⟩ = some (.int .i64 z) := hc 1
    have v2 : W2.cell? ⟨V, 2, none⟩ = some (.string ⟨#[]⟩) := hc 2
    clear hc hf
    have QF2 := Lib.hid (QF.out W2 (pow_below hP HBa.out hPb) (Nat.lt_of_lt_of_le hPb HBa.out.size))
    have hfl := fmt_len 3 (by decide) z (by omega)
    have HF2 : Hid (S.value [108, 101, 102, 116] (S.fmt ⟨3, z, []⟩) = some (some ⟨3, z, []⟩)) := Lib.hid HF.out
    clear QF HF
    generalize S.fmt ⟨3, z, []⟩ = ft at *
    go_wp2_with (go_at_call 22; refine QF2.out.mono ?_)
    rintro e w3 ⟨rfl, hb⟩
    have HB3 := Lib.hid (HBa.out.trans (hb.mono HBa.out.size))
    have HV3 := Lib.hid (Blk.below HV.out hb)
    clear hb QF2 HV HBa v0 v1 v2
    have QV := Lib.hid (parseValue [108, 101, 102, 116] ft w3 hfl (HE.out.below HB3.out hg1 hg2))
    rw [HF2.out] at QV
    go_wp2_with (go_at_call 17; refine QV.out.mono ?_)
    rintro e w4 ⟨v, er, rfl, hb, ho⟩
    have hcase : v = ⟨3, z, []⟩ ∧ er = 0 := by
      rcases ho.out with ⟨h, h2⟩ | ⟨h, _⟩ | ⟨h, _⟩
      · cases h; exact ⟨rfl, h2⟩
      · cases h
      · cases h
    obtain ⟨rfl, rfl⟩ := hcase
    unfold vval vcells
    dsimp only
    have HB4 := Lib.hid (HB3.out.trans (hb.mono HB3.out.size))
    have HV4 := Lib.hid ((Blk.below HV3.out hb).alloc (.cells #[.int .i64 ((3 : Nat) : Int), .int .i64 z, .string ⟨#[]⟩] 32))
    have HY4 := Lib.hid (Blk.new w4 #[.int .i64 ((3 : Nat) : Int), .int .i64 z, .string ⟨#[]⟩] 32)
    have HB5 := Lib.hid (HB4.out.alloc HB4.out.size (.cells #[.int .i64 ((3 : Nat) : Int), .int .i64 z, .string ⟨#[]⟩] 32))
    clear hb ho QV HF2 HB3 HB4 HV3
    go_upto_region 9 with fail
    generalize (w4.alloc (.cells #[.int .i64 ((3 : Nat) : Int), .int .i64 z, .string ⟨#[]⟩] 32)) = W5 at *
    generalize w4.heap.size = Y4 at *
    obtain ⟨hc, hf⟩ := cells_of HV4.out
    have v0 : W5.cell? ⟨V, 0, none⟩ = some (.int .i64 3) := hc 0
    have v1 : W5.cell? ⟨V, 1, none⟩ = some (.int .i64 z) := hc 1
    have v2 : W5.cell? ⟨V, 2, none⟩ = some (.string ⟨#[]⟩) := hc 2
    clear hc hf
    obtain ⟨hc, hf⟩ := cells_of HY4.out
    have y0 : W5.cell? ⟨Y4, 0, none⟩ = some (.int .i64 3) := hc 0
    have y1 : W5.cell? ⟨Y4, 1, none⟩ = some (.int .i64 z) := hc 1
    have y2 : W5.cell? ⟨Y4, 2, none⟩ = some (.string ⟨#[]⟩) := hc 2
    clear hc hf HV4 HY4
    go_wp2_with fail
    go_ret
    exact ⟨rfl, HB5.out⟩
  · have hm1 : ((kd : Nat) : Int).tmod 4 = 2 := by rw [Int.tmod_eq_emod_of_nonneg (by omega)]; omega
    have hm2 : ((kd : Nat) : Int) % 4 = 2 := by omega
    have hkk : ((kd : Nat) : Int) < 256 := by omega
    clear hr h
    have HF := Lib.hid (S.value_fmt 4 (by decide) z (by omega) (fun h => by cases h))
    have QF := Lib.hid (fun W hW hB => formatValue ⟨4, z, []⟩ W (by show z.natAbs ≤ _; omega) hW hB)
    unfold vval vcells at QF
    dsimp only at QF
    go_enter Tryz.func6, Tryz.ntmps6
    go_wp2_with (go_at_call 11; refine QA.out.mono ?_)
    rintro e w1 ⟨rfl, hb⟩
    have HB := Lib.hid hb
    clear hb QA
    go_upto_region 8 with fail
    have HBa : Hid (Below w.heap.size w ((w1.alloc (.cells #[.int .i64 4, .int .i64 z, .string ⟨#[]⟩] 32)).alloc (.cells #[.string ⟨#[122, 45, 105, 110, 100, 101, 120]⟩, .string ⟨#[108, 101, 102, 116]⟩, .string ⟨#[108, 101, 102, 116]⟩, .string ⟨#[108, 101, 102, 116]⟩] 9))) := Lib.hid ((HB.out.alloc HB.out.size _).alloc (by have := HB.out.size; simp; omega) _)
    have HV := Lib.hid ((Blk.new w1 #[.int .i64 4, .int .i64 z, .string ⟨#[]⟩] 32).alloc (.cells #[.string ⟨#[122, 45, 105, 110, 100, 101, 120]⟩, .string ⟨#[108, 101, 102, 116]⟩, .string ⟨#[108, 101, 102, 116]⟩, .string ⟨#[108, 101, 102, 116]⟩] 9))
    clear HB
    generalize ((w1.alloc (.cells #[.int .i64 4, .int .i64 z, .string ⟨#[]⟩] 32)).alloc (.cells #[.string ⟨#[122, 45, 105, 110, 100, 101, 120]⟩, .string ⟨#[108, 101, 102, 116]⟩, .string ⟨#[108, 101, 102, 116]⟩, .string ⟨#[108, 101, 102, 116]⟩] 9)) = W2 at *
    generalize w1.heap.size = V at *
    obtain ⟨hc, hf⟩ := cells_of HV.out
    have v0 : W2.cell? ⟨V, 0, none⟩ = some (.int .i64 4) := hc 0
    have v1 : W2.cell? ⟨V, 1, none⟩ = some (.int .i64 z) := hc 1
    have v2 : W2.cell? ⟨V, 2, none⟩ = some (.string ⟨#[]⟩) := hc 2
    clear hc hf
    have QF2 := Lib.hid (QF.out W2 (pow_below hP HBa.out hPb) (Nat.lt_of_lt_of_le hPb HBa.out.size))
    have hfl := fmt_len 4 (by decide) z (by omega)
    have HF2 : Hid (S.value [108, 101, 102, 116] (S.fmt ⟨4, z, []⟩) = some (some ⟨4, z, []⟩)) := Lib.hid HF.out
    clear QF HF
    generalize S.fmt ⟨4, z, []⟩ = ft at *
    go_wp2_with (go_at_call 22; refine QF2.out.mono ?_)
    rintro e w3 ⟨rfl, hb⟩
    have HB3 := Lib.hid (HBa.out.trans (hb.mono HBa.out.size))
    have HV3 := Lib.hid (Blk.below HV.out hb)
    clear hb QF2 HV HBa v0 v1 v2
    have QV := Lib.hid (parseValue [108, 101, 102, 116] ft w3 hfl (HE.out.below HB3.out hg1 hg2))
    rw [HF2.out] at QV
    go_wp2_with (go_at_call 17; refine QV.out.mono ?_)
    rintro e w4 ⟨v, er, rfl, hb, ho⟩
    have hcase : v = ⟨4, z, []⟩ ∧ er = 0 := by
      rcases ho.out with ⟨h, h2⟩ | ⟨h, _⟩ | ⟨h, _⟩
      · cases h; exact ⟨rfl, h2⟩
      · cases h
      · cases h
    obtain ⟨rfl, rfl⟩ := hcase
    unfold vval vcells
    dsimp only
    have HB4 := Lib.hid (HB3.out.trans (hb.mono HB3.out.size))
    have HV4 := Lib.hid ((Blk.below HV3.out hb).alloc (.cells #[.int .i64 ((4 : Nat) : Int), .int .i64 z, .string ⟨#[]⟩] 32))
    have HY4 := Lib.hid (Blk.new w4 #[.int .i64 ((4 : Nat) : Int), .int .i64 z, .string ⟨#[]⟩] 32)
    have HB5 := Lib.hid (HB4.out.alloc HB4.out.size (.cells #[.int .i64 ((4 : Nat) : Int), .int .i64 z, .string ⟨#[]⟩] 32))
    clear hb ho QV HF2 HB3 HB4 HV3
    go_upto_region 9 with fail
    generalize (w4.alloc (.cells #[.int .i64 ((4 : Nat) : Int), .int .i64 z, .string ⟨#[]⟩] 32)) = W5 at *
    generalize w4.heap.size = Y4 at *
    obtain ⟨hc, hf⟩ := cells_of HV4.out
    have v0 : W5.cell? ⟨V, 0, none⟩ = some (.int .i64 4) := hc 0
    have v1 : W5.cell? ⟨V, 1, none⟩ = some (.int .i64 z) := hc 1
    have v2 : W5.cell? ⟨V, 2, none⟩ = some (.string ⟨#[]⟩) := hc 2
    clear hc hf
    obtain ⟨hc, hf⟩ := cells_of HY4.out
    have y0 : W5.cell? ⟨Y4, 0, none⟩ = some (.int .i64 4) := hc 0
    have y1 : W5.cell? ⟨Y4, 1, none⟩ = some (.int .i64 z) := hc 1
    have y2 : W5.cell? ⟨Y4, 2, none⟩ = some (.string ⟨#[]⟩) := hc 2
    clear hc hf HV4 HY4
    go_wp2_with fail
    go_ret
    exact ⟨rfl, HB5.out⟩
  · have hm1 : ((kd : Nat) : Int).tmod 4 = 3 := by rw [Int.tmod_eq_emod_of_nonneg (by omega)]; omega
    have hm2 : ((kd : Nat) : Int) % 4 = 3 := by omega
    have hkk : ((kd : Nat) : Int) < 256 := by omega
    clear hr h
    have HF := Lib.hid (S.value_fmt 5 (by decide) z (by omega) (fun h => by cases h))
    have QF := Lib.hid (fun W hW hB => formatValue ⟨5, z, []⟩ W (by show z.natAbs ≤ _; omega) hW hB)
    unfold vval vcells at QF
    dsimp only at QF
    go_enter Tryz.func6, Tryz.ntmps6
    go_wp2_with (go_at_call 11; refine QA.out.mono ?_)
    rintro e w1 ⟨rfl, hb⟩
    have HB := Lib.hid hb
    clear hb QA
    go_upto_region 8 with fail
    have HBa : Hid (Below w.heap.size w ((w1.alloc (.cells #[.int .i64 5, .int .i64 z, .string ⟨#[]⟩] 32)).alloc (.cells #[.string ⟨#[122, 45, 105, 110, 100, 101, 120]⟩, .string ⟨#[108, 101, 102, 116]⟩, .string ⟨#[108, 101, 102, 116]⟩, .string ⟨#[108, 101, 102, 116]⟩] 9))) := Lib.hid ((HB.out.alloc HB.out.size _).alloc (by have := HB.out.size; simp; omega) _)
    have HV := Lib.hid ((Blk.new w1 #[.int .i64 5, .int .i64 z, .string ⟨#[]⟩] 32).alloc (.cells #[.string ⟨#[122, 45, 105, 110, 100, 101, 120]⟩, .string ⟨#[108, 101, 102, 116]⟩, .string ⟨#[108, 101, 102, 116]⟩, .string ⟨#[108, 101, 102, 116]⟩] 9))
    clear HB
    generalize ((w1.alloc (.cells #[.int .i64 5, .int .i64 z, .string ⟨#[]⟩] 32)).alloc (.cells #[.string ⟨#[122, 45, 105, 110, 100, 101, 120]⟩, .string ⟨#[108, 101, 102, 116]⟩, .string ⟨#[108, 101, 102, 116]⟩, .string ⟨#[108, 101, 102, 116]⟩] 9)) = W2 at *
    generalize w1.heap.size = V at *
    obtain ⟨hc, hf⟩ := cells_of HV.out
    have v0 : W2.cell? ⟨V, 0, none⟩ = some (.int .i64 5) := hc 0
    have v1 : W2.cell? ⟨V, 1, none⟩ = some (.int .i64 z) := hc 1
    have v2 : W2.cell? ⟨V, 2, none⟩ = some (.string ⟨#[]⟩) := hc 2
    clear hc hf
    have QF2 := Lib.hid (QF.out W2 (pow_below hP HBa.out hPb) (Nat.lt_of_lt_of_le hPb HBa.out.size))
    have hfl := fmt_len 5 (by decide) z (by omega)
    have HF2 : Hid (S.value [108, 101, 102, 116] (S.fmt ⟨5, z, []⟩) = some (some ⟨5, z, []⟩)) := Lib.hid HF.out
    clear QF HF
    generalize S.fmt ⟨5, z, []⟩ = ft at *
    go_wp2_with (go_at_call 22; refine QF2.out.mono ?_)
    rintro e w3 ⟨rfl, hb⟩
    have HB3 := Lib.hid (HBa.out.trans (hb.mono HBa.out.size))
    have HV3 := Lib.hid (Blk.below HV.out hb)
    clear hb QF2 HV HBa v0 v1 v2
    have QV := Lib.hid (parseValue [108, 101, 102, 116] ft w3 hfl (HE.out.below HB3.out hg1 hg2))
    rw [HF2.out] at QV
    go_wp2_with (go_at_call 17; refine QV.out.mono ?_)
    rintro e w4 ⟨v, er, rfl, hb, ho⟩
    have hcase : v = ⟨5, z, []⟩ ∧ er = 0 := by
      rcases ho.out with ⟨h, h2⟩ | ⟨h, _⟩ | ⟨h, _⟩
      · cases h; exact ⟨rfl, h2⟩
      · cases h
      · cases h
    obtain ⟨rfl, rfl⟩ := hcase
    unfold vval vcells
    dsimp only
    have HB4 := Lib.hid (HB3.out.trans (hb.mono HB3.out.size))
    have HV4 := Lib.hid ((Blk.below HV3.out hb).alloc (.cells #[.int .i64 ((5 : Nat) : Int), .int .i64 z, .string ⟨#[]⟩] 32))
    have HY4 := Lib.hid (Blk.new w4 #[.int .i64 ((5 : Nat) : Int), .int .i64 z, .string ⟨#[]⟩] 32)
    have HB5 := Lib.hid (HB4.out.alloc HB4.out.size (.cells #[.int .i64 ((5 : Nat) : Int), .int .i64 z, .string ⟨#[]⟩] 32))
    clear hb ho QV HF2 HB3 HB4 HV3
    go_upto_region 9 with fail
    generalize (w4.alloc (.cells #[.int .i64 ((5 : Nat) : Int), .int .i64 z, .string ⟨#[]⟩] 32)) = W5 at *
    generalize w4.heap.size = Y4 at *
    obtain ⟨hc, hf⟩ := cells_of HV4.out
    have v0 : W5.cell? ⟨V, 0, none⟩ = some (.int .i64 5) := hc 0
    have v1 : W5.cell? ⟨V, 1, none⟩ = some (.int .i64 z) := hc 1
    have v2 : W5.cell? ⟨V, 2, none⟩ = some (.string ⟨#[]⟩) := hc 2
    clear hc hf
    obtain ⟨hc, hf⟩ := cells_of HY4.out
    have y0 : W5.cell? ⟨Y4, 0, none⟩ = some (.int .i64 5) := hc 0
    have y1 : W5.cell? ⟨Y4, 1, none⟩ = some (.int .i64 z) := hc 1
    have y2 : W5.cell? ⟨Y4, 2, none⟩ = some (.string ⟨#[]⟩) := hc 2
    clear hc hf HV4 HY4
    go_wp2_with fail
    go_ret
    exact ⟨rfl, HB5.out⟩

end Y
end Go.Proofs.YtafkeolpadfjfaaGreatDoor

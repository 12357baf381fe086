/- What count and Specificity of the reference come to. What Specificity of the reference comes to. -/
import Derived.Test.YtnmcgmbhkmfiaaaGreatDoorWgh2
import Derived.StillTailTactics
set_option linter.unusedVariables false
set_option linter.unusedSimpArgs false
namespace Go.Proofs.YtnmcgmbhkmfiaaaGreatDoor
open Go.RowKit Go.Sort
namespace F
open H K

def CntPost (s : L.W3) (w : World) (e : Ending) (w' : World) : Prop := e = .returned (.agg (c3 s)) ∧ Below w.heap.size w w'


set_option maxHeartbeats 4000000 in
set_option maxRecDepth 100000 in
theorem count_of (s : L.W3) (ty : List UInt8) (v : Value) (l : List L.Test) (w : World) (S : Nat → Prop) (hT : TestsAt S w v l) (hl : l.length ≤ 1000000)
    (hN : ∀ t ∈ l, t.t.kind = 14 → ∀ (nv : Value) (u : L.W3) (W : World), ITest S W nv t → Calls Tryz.prog 25 #[.agg (c3 u), .string ⟨t.t.name.toArray⟩, nv] W (CntPost ((u.ty t.t.name).nots t.nots) W)) :
    Calls Tryz.prog 25 #[.agg (c3 s), .string ⟨ty.toArray⟩, v] w (CntPost (s.part ty l) w) := by
  have HT := Lib.hid hT
  have HN := Lib.hid hN
  obtain ⟨ao, cap, hv⟩ := hT.form
  have zt := bytes_size ty
  generalize hNN : l.length = N at hv hl
  have HL := Lib.hid hNN
  subst hv
  have hgo : (∃ s1, Hid (s.part ty l = s1.tests (l.drop 0)) ∧ ((ty = [] ∧ s1 = s) ∨ ((ty == []) = false ∧ s1 = ⟨s.a, s.b, L.inc s.c⟩))) := by
    by_cases h : ty = []
    · exact ⟨s, Lib.hid (by rw [h]; rfl), Or.inl ⟨h, rfl⟩⟩
    · exact ⟨⟨s.a, s.b, L.inc s.c⟩, Lib.hid (by unfold L.W3.part L.W3.ty; rw [if_neg h]; rfl), Or.inr ⟨by simpa using h, rfl⟩⟩
  obtain ⟨s1, H0, hcs⟩ := hgo
  generalize s.part ty l = q at *
  obtain ⟨sa, sb, sc⟩ := s
  unfold c3
  dsimp only
  clear hT hN hNN
  go_enter Tryz.func25, Tryz.ntmps25
  go_upto_if 9 with fail
  have HX : Hid (Blk w.heap.size (c3 ⟨sa, sb, sc⟩) 35 ((w.alloc (.cells (c3 ⟨sa, sb, sc⟩) 35)).alloc (.cells z3 35))) := Lib.hid ((Blk.new w _ _).alloc _)
  have HY : Hid (Blk (w.heap.size + 1) z3 35 ((w.alloc (.cells (c3 ⟨sa, sb, sc⟩) 35)).alloc (.cells z3 35))) := Lib.hid (by have := Blk.new (w.alloc (.cells (c3 ⟨sa, sb, sc⟩) 35)) z3 35; simpa using this)
  have HB0 : Hid (Below w.heap.size w ((w.alloc (.cells (c3 ⟨sa, sb, sc⟩) 35)).alloc (.cells z3 35))) := Lib.hid (((Below.refl _ w).alloc (Nat.le_refl _) _).alloc (by simp) _)
  unfold c3 z3 at HX HY HB0
  dsimp only at HX HY HB0
  generalize ((w.alloc (.cells #[.int .i64 sa, .int .i64 sb, .int .i64 sc] 35)).alloc (.cells #[.int .i64 0, .int .i64 0, .int .i64 0] 35)) = W0 at *
  go_cut [] (fun wx => Hid (Blk w.heap.size (c3 s1) 35 wx) ∧ Hid (Blk (w.heap.size + 1) z3 35 wx) ∧ Hid (Below w.heap.size w wx))
  case first =>
    obtain ⟨hcx, hfx⟩ := cells_of HX.out
    have x2 : W0.cell? ⟨w.heap.size, 2, none⟩ = some (.int .i64 sc) := hcx 2
    have f2 : W0.frozen? ⟨w.heap.size, 2, none⟩ = false := hfx 2 (by show 2 < 3; omega)
    clear hcx hfx
    rcases hcs with ⟨rfl, rfl⟩ | ⟨hc, rfl⟩
    · go_wp2_with fail
      go_meet
      exact ⟨HX, HY, HB0⟩
    · have hc2 : ty.isEmpty = false := by cases ty with | nil => simp at hc | cons a r => rfl
      simp only [hc2, Bool.not_false]
      go_wp2_with fail
      go_meet
      exact ⟨Lib.hid (HX.out.set 2 _), Lib.hid (HY.out.far (by omega) _ _), Lib.hid (HB0.out.setCell (Nat.le_refl _) _)⟩
  case rest =>
    obtain ⟨HX1, HY1, HU1⟩ := hcut
    clear HX HY HB0 hcs
    go_wp2_with fail
    go_loopw [7] (fun v7 wr => ∃ k : Nat, v7 = .int .i64 k ∧ k ≤ N ∧ (∃ u : L.W3, Hid (q = u.tests (l.drop k)) ∧ Hid (Blk w.heap.size (c3 u) 35 wr)) ∧ Hid (Blk (w.heap.size + 1) z3 35 wr) ∧ Hid (Below w.heap.size w wr)) (fun v7 _ => N - (intOf v7).toNat)
    case atStart => exact ⟨0, rfl, Nat.zero_le _, ⟨s1, H0, HX1⟩, HY1, HU1⟩
    case round =>
      obtain ⟨k, rfl, hk, ⟨u, HQ, HBr⟩, HYr, HU⟩ := hrel
      clear HX1 HY1 HU1 H0
      by_cases hkN : k < N
      · have hkl : k < l.length := by rw [HL.out]; exact hkN
        have hkI : (k : Int) < (N : Int) := by omega
        have hsl := keeps_tests HT.out (Kept.below HU.out)
        obtain ⟨g2, hg2, hS2⟩ := lslice hsl (by omega)
        subst hg2
        obtain ⟨hlt, hnl, hsS, vk, hc, hp⟩ := ListAt.at_ cTest_len hsl hkl
        have HQ2 := Lib.hid (HQ.out.trans (tests_step u l hkl))
        have hmem := List.getElem_mem hkl
        clear hsl hnl hsS HQ
        generalize l[k] = tk at *
        have hp2 : NotsAt S wr vk tk.nots := hp
        obtain ⟨ak, ck, hvk⟩ := hp2.form
        generalize tk.nots.length = nk at hvk
        clear hp2
        have Q := Lib.hid (HN.out tk hmem)
        have HIp := Lib.hid hp
        obtain ⟨⟨kk, nm, vl, ka, kb⟩, nts⟩ := tk
        obtain ⟨ua, ub, uc⟩ := u
        obtain ⟨hcx, hfx⟩ := cells_of HBr.out
        have c0 : wr.cell? ⟨g2, k * 6 + 0, none⟩ = some (.int .i64 kk) := hc 0 (by omega)
        have c1 : wr.cell? ⟨g2, k * 6 + 1, none⟩ = some (.string ⟨nm.toArray⟩) := hc 1 (by omega)
        have c5 : wr.cell? ⟨g2, k * 6 + 5, none⟩ = some vk := hc 5 (by omega)
        have x0 : wr.cell? ⟨w.heap.size, 0, none⟩ = some (.int .i64 ua) := hcx 0
        have x1 : wr.cell? ⟨w.heap.size, 1, none⟩ = some (.int .i64 ub) := hcx 1
        have x2 : wr.cell? ⟨w.heap.size, 2, none⟩ = some (.int .i64 uc) := hcx 2
        have f0 : wr.frozen? ⟨w.heap.size, 0, none⟩ = false := hfx 0 (by show 0 < 3; omega)
        have f1 : wr.frozen? ⟨w.heap.size, 1, none⟩ = false := hfx 1 (by show 1 < 3; omega)
        have f2 : wr.frozen? ⟨w.heap.size, 2, none⟩ = false := hfx 2 (by show 2 < 3; omega)
        simp only [Nat.add_zero] at c0
        subst hvk
        clear hc hp hmem hkl hS2 hlt hcx hfx
        by_cases h1 : kk = 1
        · subst h1
          go_wp2_with fail
          go_roundw
          case rel => exact ⟨k + 1, by go_num, by omega, ⟨⟨L.inc ua, ub, uc⟩, HQ2, Lib.hid (HBr.out.set 0 _)⟩, Lib.hid (HYr.out.far (by omega) _ _), Lib.hid (HU.out.setCell (Nat.le_refl _) _)⟩
          case measure => simp [intOf]; omega
        · by_cases h14 : kk = 14
          · subst h14
            have Q3 := Q.out rfl (.slice ak nk ck) ⟨ua, ub, uc⟩ wr.drew (keeps_test HIp.out (Kept.below (belowN (Below.refl wr.heap.size wr) 1)))
            generalize hr : ((⟨ua, ub, uc⟩ : L.W3).ty nm).nots nts = r at Q3
            have HQ3 : Hid (q = r.tests (l.drop (k + 1))) := Lib.hid (HQ2.out.trans (by rw [← hr]; rfl))
            obtain ⟨ra, rb, rc⟩ := r
            unfold CntPost c3 at Q3
            dsimp only at Q3
            have Q2 := Lib.hid Q3
            have HB2 : Hid (Blk _ _ _ wr.drew) := Lib.hid (HBr.out.drewN 1)
            have HY2 : Hid (Blk _ _ _ wr.drew) := Lib.hid (HYr.out.drewN 1)
            have HU2 : Hid (Below _ _ wr.drew) := Lib.hid (belowN HU.out 1)
            clear Q h1 Q3 hr HQ2 HBr HYr HU HIp f0 f1 f2
            go_upto_region 11 with fail
            go_still_tail 11, (by kernel_rfl)
            change wpList _ _ _ _ _ wr.drew
            clear c0 c1 c5 x0 x1 x2
            generalize wr.drew = w2 at *
            go_wp2_with fail
            refine Q2.out.mono ?_
            rintro e w3 ⟨rfl, hb⟩
            have HB3 := Lib.hid (HB2.out.below hb)
            have HY3 := Lib.hid (HY2.out.below hb)
            have HU3 := Lib.hid (HU2.out.trans (hb.mono HU2.out.size))
            clear hb Q2 HB2 HY2 HU2
            obtain ⟨hcx, hfx⟩ := cells_of HB3.out
            have x0 : w3.cell? ⟨w.heap.size, 0, none⟩ = some (.int .i64 ua) := hcx 0
            have x1 : w3.cell? ⟨w.heap.size, 1, none⟩ = some (.int .i64 ub) := hcx 1
            have x2 : w3.cell? ⟨w.heap.size, 2, none⟩ = some (.int .i64 uc) := hcx 2
            have f0 : w3.frozen? ⟨w.heap.size, 0, none⟩ = false := hfx 0 (by show 0 < 3; omega)
            have f1 : w3.frozen? ⟨w.heap.size, 1, none⟩ = false := hfx 1 (by show 1 < 3; omega)
            have f2 : w3.frozen? ⟨w.heap.size, 2, none⟩ = false := hfx 2 (by show 2 < 3; omega)
            clear hcx hfx
            go_wp2_with fail
            go_roundw
            case rel => exact ⟨k + 1, by go_num, by omega, ⟨⟨ra, rb, rc⟩, HQ3, Lib.hid (blk_three HB3.out _ _ _)⟩, Lib.hid (((HY3.out.far (by omega) _ _).far (by omega) _ _).far (by omega) _ _), Lib.hid (((HU3.out.setCell (Nat.le_refl _) _).setCell (Nat.le_refl _) _).setCell (Nat.le_refl _) _)⟩
            case measure => simp [intOf]; omega
          · have e1 : ((kk : Int) == 1) = false := by rw [beq_eq_false_iff_ne]; omega
            have e14 : ((kk : Int) == 14) = false := by rw [beq_eq_false_iff_ne]; omega
            have n1 : ¬ (kk : Int) = 1 := by omega
            have n14 : ¬ (kk : Int) = 14 := by omega
            go_wp2_with fail
            go_roundw
            case rel => exact ⟨k + 1, by go_num, by omega, ⟨⟨ua, L.inc ub, uc⟩, Lib.hid (HQ2.out.trans (by unfold L.W3.one L.W3.test; dsimp only; rw [if_neg h1, if_neg h14])), Lib.hid (HBr.out.set 1 _)⟩, Lib.hid (HYr.out.far (by omega) _ _), Lib.hid (HU.out.setCell (Nat.le_refl _) _)⟩
            case measure => simp [intOf]; omega
      · obtain rfl : k = N := by omega
        have HQ2 : Hid (q = u) := Lib.hid (by
          have h := HQ.out
          rw [← HL.out, tests_end] at h
          exact h)
        clear HQ
        obtain ⟨ua, ub, uc⟩ := u
        obtain ⟨hcx, hfx⟩ := cells_of HBr.out
        obtain ⟨hcy, hfy⟩ := cells_of HYr.out
        have x0 : wr.cell? ⟨w.heap.size, 0, none⟩ = some (.int .i64 ua) := hcx 0
        have x1 : wr.cell? ⟨w.heap.size, 1, none⟩ = some (.int .i64 ub) := hcx 1
        have x2 : wr.cell? ⟨w.heap.size, 2, none⟩ = some (.int .i64 uc) := hcx 2
        have y0 : wr.cell? ⟨w.heap.size + 1, 0, none⟩ = some (.int .i64 0) := hcy 0
        have y1 : wr.cell? ⟨w.heap.size + 1, 1, none⟩ = some (.int .i64 0) := hcy 1
        have y2 : wr.cell? ⟨w.heap.size + 1, 2, none⟩ = some (.int .i64 0) := hcy 2
        have f0 : wr.frozen? ⟨w.heap.size + 1, 0, none⟩ = false := hfy 0 (by show 0 < 3; omega)
        have f1 : wr.frozen? ⟨w.heap.size + 1, 1, none⟩ = false := hfy 1 (by show 1 < 3; omega)
        have f2 : wr.frozen? ⟨w.heap.size + 1, 2, none⟩ = false := hfy 2 (by show 2 < 3; omega)
        clear hcx hfx hcy hfy
        go_wp2_with fail
        have HWR := Lib.hid (blk_three HYr.out (.int .i64 ua) (.int .i64 ub) (.int .i64 uc))
        have HUR := Lib.hid (((HU.out.setCell (p := ⟨w.heap.size + 1, 0, none⟩) (by show w.heap.size ≤ w.heap.size + 1; omega) (.int .i64 ua)).setCell (p := ⟨w.heap.size + 1, 1, none⟩) (by show w.heap.size ≤ w.heap.size + 1; omega) (.int .i64 ub)).setCell (p := ⟨w.heap.size + 1, 2, none⟩) (by show w.heap.size ≤ w.heap.size + 1; omega) (.int .i64 uc))
        generalize (((wr.setCell ⟨w.heap.size + 1, 0, none⟩ (.int .i64 ua)).setCell ⟨w.heap.size + 1, 1, none⟩ (.int .i64 ub)).setCell ⟨w.heap.size + 1, 2, none⟩ (.int .i64 uc)) = WR at *
        obtain ⟨hcz, hfz⟩ := cells_of HWR.out
        have r0 : WR.cell? ⟨w.heap.size + 1, 0, none⟩ = some (.int .i64 ua) := hcz 0
        have r1 : WR.cell? ⟨w.heap.size + 1, 1, none⟩ = some (.int .i64 ub) := hcz 1
        have r2 : WR.cell? ⟨w.heap.size + 1, 2, none⟩ = some (.int .i64 uc) := hcz 2
        clear hcz hfz
        (try simp only [Exit.inBlock, Exit.then])
        refine bodyPost_ret (v := .agg #[.int .i64 ua, .int .i64 ub, .int .i64 uc]) (by simp [results, Tryz.results25, go_sem, r0, r1, r2]) rfl ⟨by rw [HQ2.out]; rfl, HUR.out⟩

end F
end Go.Proofs.YtnmcgmbhkmfiaaaGreatDoor

namespace Go.Proofs.YtnmcgmbhkmfiaaaGreatDoor
open Go.RowKit Go.Sort
namespace F
open H K

theorem count_nots (s : L.W3) (ty : List UInt8) (v : Value) (l : List L.Tst) (w : World) (S : Nat → Prop) (hN : NotsAt S w v l) (hl : l.length ≤ 1000000) (hk : ∀ u ∈ l, u.kind ≠ 14) :
    Calls Tryz.prog 25 #[.agg (c3 s), .string ⟨ty.toArray⟩, v] w (CntPost ((s.ty ty).nots l) w) := by
  have h := count_of s ty v (l.map (fun t => ⟨t, []⟩)) w S hN.tests (by simpa using hl) (fun t ht h14 => by
    obtain ⟨u, hu, rfl⟩ := List.mem_map.1 ht
    exact absurd h14 (hk u hu))
  rw [L.W3.nots_tests]
  exact h

theorem count (s : L.W3) (ty : List UInt8) (v : Value) (l : List L.Test) (w : World) (S : Nat → Prop) (hT : TestsAt S w v l) (hl : l.length ≤ 1000000) (hk : L.NK l) :
    Calls Tryz.prog 25 #[.agg (c3 s), .string ⟨ty.toArray⟩, v] w (CntPost (s.part ty l) w) :=
  count_of s ty v l w S hT hl (fun t ht h14 nv u W hI => count_nots u t.t.name nv t.nots W S hI (hk t ht).2 (hk t ht).1)

set_option maxHeartbeats 4000000 in
set_option maxRecDepth 100000 in
theorem spec (v : Value) (ps : List L.Part) (w : World) (S : Nat → Prop) (hP : PartsAt S w v ps) (hl : ps.length ≤ 1000000) (hk : L.PK ps) :
    Calls Tryz.prog 10 #[.agg #[v]] w (SpecPost (L.weight ps) w) := by
  have HP := Lib.hid hP
  have HK := Lib.hid hk
  obtain ⟨ao, cap, hv⟩ := hP.form
  generalize hNN : ps.length = N at hv hl
  have HL := Lib.hid hNN
  subst hv
  have H0 : Hid (L.weight ps = L.W3.parts ⟨0, 0, 0⟩ (ps.drop 0)) := Lib.hid rfl
  generalize L.weight ps = q at *
  clear hP hNN hk
  go_enter Tryz.func10, Tryz.ntmps10
  go_upto_region 2 with fail
  generalize hW0 : ((w.alloc (.cells #[.slice ao N cap] 32)).alloc (.cells #[.int .i64 0, .int .i64 0, .int .i64 0] 35)).alloc (.cells #[.int .i64 0, .int .i64 0, .int .i64 0] 35) = W0
  have hX0 : Blk w.heap.size #[.slice ao N cap] 32 W0 := by
    rw [← hW0]
    exact ((Blk.new w _ _).alloc _).alloc _
  have hX1 : Blk (w.heap.size + 1) z3 35 W0 := by
    rw [← hW0]
    exact (blk_new_at (cs := z3) (by simp)).alloc _
  have hX2 : Blk (w.heap.size + 2) (c3 ⟨0, 0, 0⟩) 35 W0 := by
    rw [← hW0]
    exact blk_new_at (cs := c3 ⟨0, 0, 0⟩) (by simp)
  have hU0 : Below w.heap.size w W0 := by
    rw [← hW0]
    exact (((Below.refl _ w).alloc (Nat.le_refl _) _).alloc (by simp) _).alloc (by simp; omega) _
  have HX0 := Lib.hid hX0
  have HX1 := Lib.hid hX1
  have HX2 := Lib.hid hX2
  have HU0 := Lib.hid hU0
  clear hX0 hX1 hX2 hU0 hW0
  go_wp2_with fail
  go_loopw [4] (fun v4 wr => ∃ k : Nat, v4 = .int .i64 k ∧ k ≤ N ∧ (∃ u : L.W3, Hid (q = u.parts (ps.drop k)) ∧ Hid (Blk (w.heap.size + 2) (c3 u) 35 wr)) ∧ Hid (Blk (w.heap.size + 1) z3 35 wr) ∧ Hid (Blk w.heap.size #[.slice ao N cap] 32 wr) ∧ Hid (Below w.heap.size w wr)) (fun v4 _ => N - (intOf v4).toNat)
  case atStart => exact ⟨0, rfl, Nat.zero_le _, ⟨⟨0, 0, 0⟩, H0, HX2⟩, HX1, HX0, HU0⟩
  case round =>
    obtain ⟨k, rfl, hkN', ⟨u, HQ, HB⟩, HY, HX, HU⟩ := hrel
    clear HX0 HX1 HX2 HU0 H0
    obtain ⟨ua, ub, uc⟩ := u
    obtain ⟨hcx, hfx⟩ := cells_of HB.out
    obtain ⟨hcs, hfs⟩ := cells_of HX.out
    have z0 : wr.cell? ⟨w.heap.size, 0, none⟩ = some (.slice ao N cap) := hcs 0
    have x0 : wr.cell? ⟨w.heap.size + 2, 0, none⟩ = some (.int .i64 ua) := hcx 0
    have x1 : wr.cell? ⟨w.heap.size + 2, 1, none⟩ = some (.int .i64 ub) := hcx 1
    have x2 : wr.cell? ⟨w.heap.size + 2, 2, none⟩ = some (.int .i64 uc) := hcx 2
    clear hcx hfx hcs hfs
    by_cases hkN : k < N
    · have hkl : k < ps.length := by rw [HL.out]; exact hkN
      have hkI : (k : Int) < (N : Int) := by omega
      have hsl := keeps_parts HP.out (Kept.below HU.out)
      obtain ⟨g2, hg2, hS2⟩ := lslice hsl (by omega)
      subst hg2
      obtain ⟨hlt, hnl, hsS, vk, hc, hp⟩ := ListAt.at_ cPart_len hsl hkl
      have HQ2 := Lib.hid (HQ.out.trans (L.W3.parts_step ⟨ua, ub, uc⟩ ps hkl))
      have hpk := HK.out ps[k] (List.getElem_mem hkl)
      clear hsl hnl hsS HQ hS2
      generalize ps[k] = pk at *
      obtain ⟨jn, ty, ts⟩ := pk
      have hp2 : TestsAt S wr vk ts := hp
      obtain ⟨ak, ck, hvk⟩ := hp2.form
      have c1 : wr.cell? ⟨g2, k * 3 + 1, none⟩ = some (.string ⟨ty.toArray⟩) := hc 1 (by omega)
      have c2 : wr.cell? ⟨g2, k * 3 + 2, none⟩ = some vk := hc 2 (by omega)
      have Q := count ⟨ua, ub, uc⟩ ty vk ts wr.drew S (keeps_tests hp2 (Kept.below (belowN (Below.refl wr.heap.size wr) 1))) hpk.2 hpk.1
      generalize hR : (L.W3.mk ua ub uc).part ty ts = r at Q
      have HQ3 : Hid (q = r.parts (ps.drop (k + 1))) := Lib.hid (by rw [← hR]; exact HQ2.out)
      generalize ts.length = nk at hvk
      subst hvk
      obtain ⟨ra, rb, rc⟩ := r
      unfold CntPost c3 at Q
      dsimp only at Q
      have Q2 := Lib.hid Q
      have HB2 : Hid (Blk _ _ _ wr.drew) := Lib.hid (HB.out.drewN 1)
      have HY2 : Hid (Blk _ _ _ wr.drew) := Lib.hid (HY.out.drewN 1)
      have HX2 : Hid (Blk _ _ _ wr.drew) := Lib.hid (HX.out.drewN 1)
      have HU2 : Hid (Below _ _ wr.drew) := Lib.hid (belowN HU.out 1)
      clear hc hp hp2 hpk HU HB HY HX HQ2 hR Q hkl
      go_upto_region 5 with fail
      go_still_tail 13, (by kernel_rfl)
      change wpList _ _ _ _ _ wr.drew
      clear c1 c2 x0 x1 x2 z0
      generalize wr.drew = w2 at *
      go_wp2_with fail
      refine Q2.out.mono ?_
      rintro e w3 ⟨rfl, hb⟩
      have HB3 := Lib.hid (HB2.out.below hb)
      have HY3 := Lib.hid (HY2.out.below hb)
      have HX3 := Lib.hid (HX2.out.below hb)
      have HU3 := Lib.hid (HU2.out.trans (hb.mono HU2.out.size))
      clear hb Q2 HB2 HY2 HX2 HU2
      obtain ⟨hcx, hfx⟩ := cells_of HB3.out
      have x0 : w3.cell? ⟨w.heap.size + 2, 0, none⟩ = some (.int .i64 ua) := hcx 0
      have x1 : w3.cell? ⟨w.heap.size + 2, 1, none⟩ = some (.int .i64 ub) := hcx 1
      have x2 : w3.cell? ⟨w.heap.size + 2, 2, none⟩ = some (.int .i64 uc) := hcx 2
      have f0 : w3.frozen? ⟨w.heap.size + 2, 0, none⟩ = false := hfx 0 (by show 0 < 3; omega)
      have f1 : w3.frozen? ⟨w.heap.size + 2, 1, none⟩ = false := hfx 1 (by show 1 < 3; omega)
      have f2 : w3.frozen? ⟨w.heap.size + 2, 2, none⟩ = false := hfx 2 (by show 2 < 3; omega)
      clear hcx hfx
      go_wp2_with fail
      go_roundw
      case rel => exact ⟨k + 1, by go_num, by omega, ⟨⟨ra, rb, rc⟩, HQ3, Lib.hid (blk_three HB3.out _ _ _)⟩, Lib.hid (((HY3.out.far (by omega) _ _).far (by omega) _ _).far (by omega) _ _), Lib.hid (((HX3.out.far (by omega) _ _).far (by omega) _ _).far (by omega) _ _), Lib.hid (((HU3.out.setCell (by show w.heap.size ≤ w.heap.size + 2; omega) _).setCell (by show w.heap.size ≤ w.heap.size + 2; omega) _).setCell (by show w.heap.size ≤ w.heap.size + 2; omega) _)⟩
      case measure => simp [intOf]; omega
    · obtain rfl : k = N := by omega
      have HQ2 : Hid (q = ⟨ua, ub, uc⟩) := Lib.hid (by
        have h := HQ.out
        rw [← HL.out, L.W3.parts_end] at h
        exact h)
      clear HQ
      obtain ⟨hcy, hfy⟩ := cells_of HY.out
      have y0 : wr.cell? ⟨w.heap.size + 1, 0, none⟩ = some (.int .i64 0) := hcy 0
      have y1 : wr.cell? ⟨w.heap.size + 1, 1, none⟩ = some (.int .i64 0) := hcy 1
      have y2 : wr.cell? ⟨w.heap.size + 1, 2, none⟩ = some (.int .i64 0) := hcy 2
      have f0 : wr.frozen? ⟨w.heap.size + 1, 0, none⟩ = false := hfy 0 (by show 0 < 3; omega)
      have f1 : wr.frozen? ⟨w.heap.size + 1, 1, none⟩ = false := hfy 1 (by show 1 < 3; omega)
      have f2 : wr.frozen? ⟨w.heap.size + 1, 2, none⟩ = false := hfy 2 (by show 2 < 3; omega)
      clear hcy hfy
      go_wp2_with fail
      have HWR := Lib.hid (blk_three HY.out (.int .i64 ua) (.int .i64 ub) (.int .i64 uc))
      have HUR := Lib.hid (((HU.out.setCell (p := ⟨w.heap.size + 1, 0, none⟩) (by show w.heap.size ≤ w.heap.size + 1; omega) (.int .i64 ua)).setCell (p := ⟨w.heap.size + 1, 1, none⟩) (by show w.heap.size ≤ w.heap.size + 1; omega) (.int .i64 ub)).setCell (p := ⟨w.heap.size + 1, 2, none⟩) (by show w.heap.size ≤ w.heap.size + 1; omega) (.int .i64 uc))
      generalize (((wr.setCell ⟨w.heap.size + 1, 0, none⟩ (.int .i64 ua)).setCell ⟨w.heap.size + 1, 1, none⟩ (.int .i64 ub)).setCell ⟨w.heap.size + 1, 2, none⟩ (.int .i64 uc)) = WR at *
      obtain ⟨hcz, hfz⟩ := cells_of HWR.out
      have r0 : WR.cell? ⟨w.heap.size + 1, 0, none⟩ = some (.int .i64 ua) := hcz 0
      have r1 : WR.cell? ⟨w.heap.size + 1, 1, none⟩ = some (.int .i64 ub) := hcz 1
      have r2 : WR.cell? ⟨w.heap.size + 1, 2, none⟩ = some (.int .i64 uc) := hcz 2
      clear hcz hfz
      (try simp only [Exit.inBlock, Exit.then])
      refine bodyPost_ret (v := .agg #[.int .i64 ua, .int .i64 ub, .int .i64 uc]) (by simp [results, Tryz.results10, go_sem, r0, r1, r2]) rfl ⟨by rw [HQ2.out]; rfl, HUR.out⟩

end F
end Go.Proofs.YtnmcgmbhkmfiaaaGreatDoor

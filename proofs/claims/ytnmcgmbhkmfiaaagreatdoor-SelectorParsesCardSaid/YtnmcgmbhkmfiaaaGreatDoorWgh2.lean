/- Specificities, as machine integers. No program in sight. What weigh and Specificity of the program come to. What Specificity of the program comes to. -/
import Derived.Test.YtnmcgmbhkmfiaaaGreatDoorVcut
import Derived.ProofKit
import Derived.Test.YtnmcgmbhkmfiaaaGreatDoorFmt4
import Derived.Deep.DeepCutAuto
import Derived.StillTailTactics
set_option linter.unusedVariables false
set_option linter.unusedSimpArgs false
namespace Go.Proofs.YtnmcgmbhkmfiaaaGreatDoor
open Go.RowKit
namespace L

/-- Three machine integers. -/
structure W3 where
  a : Int
  b : Int
  c : Int
def inc (x : Int) : Int := wrap64 (x + 1)
def W3.ty (s : W3) (ty : List UInt8) : W3 := if ty = [] then s else ⟨s.a, s.b, inc s.c⟩
/-- One test, given what adds the tests within. -/
def W3.test (s : W3) (k : Nat) (f : W3 → W3) : W3 := if k = 1 then ⟨inc s.a, s.b, s.c⟩ else if k = 14 then f s else ⟨s.a, inc s.b, s.c⟩
/-- Tests that have no tests of their own. -/
def W3.nots (s : W3) (l : List Tst) : W3 := l.foldl (fun s t => s.test t.kind (fun u => u.ty t.name)) s
def W3.one (s : W3) (t : Test) : W3 := s.test t.t.kind (fun u => (u.ty t.t.name).nots t.nots)
def W3.tests (s : W3) (l : List Test) : W3 := l.foldl W3.one s
def W3.part (s : W3) (ty : List UInt8) (l : List Test) : W3 := (s.ty ty).tests l
def weight (ps : List Part) : W3 := ps.foldl (fun s p => s.part p.type p.tests) ⟨0, 0, 0⟩

theorem W3.nots_tests (s : W3) : ∀ l : List Tst, s.nots l = s.tests (l.map (fun t => ⟨t, []⟩)) := fun l => by
  unfold W3.nots W3.tests
  rw [List.foldl_map]
  rfl

/-- The parts in order. -/
def W3.parts (s : W3) (l : List Part) : W3 := l.foldl (fun s p => s.part p.type p.tests) s
theorem weight_parts (l : List Part) : weight l = W3.parts ⟨0, 0, 0⟩ l := rfl
theorem W3.parts_step (s : W3) (l : List Part) {k : Nat} (h : k < l.length) : s.parts (l.drop k) = (s.part l[k].type l[k].tests).parts (l.drop (k + 1)) := by
  rw [List.drop_eq_getElem_cons h]; rfl
theorem W3.parts_end (s : W3) (l : List Part) : s.parts (l.drop l.length) = s := by rw [List.drop_length]; rfl

/-- Tests within a test have none of their own, and are few. -/
def NK (l : List Test) : Prop := ∀ t ∈ l, (∀ u ∈ t.nots, u.kind ≠ 14) ∧ t.nots.length ≤ 1000000
def PK (l : List Part) : Prop := ∀ p ∈ l, NK p.tests ∧ p.tests.length ≤ 1000000

end L
end Go.Proofs.YtnmcgmbhkmfiaaaGreatDoor

namespace Go.Proofs.YtnmcgmbhkmfiaaaGreatDoor
open Go.RowKit Go.Sort
namespace K
open H

def c3 (s : L.W3) : Array Value := #[.int .i64 s.a, .int .i64 s.b, .int .i64 s.c]
def WghPost (g : Nat) (s : L.W3) (T : TypeId) (w : World) (e : Ending) (w' : World) : Prop := e = .returned (.tuple #[]) ∧ Blk g (c3 s) T w' ∧ But g w w'

theorem blk_drew {g : Nat} {cs : Array Value} {T : TypeId} {w : World} (h : Blk g cs T w) : Blk g cs T w.drew := h
theorem but_drew {b : Nat} {w w' : World} (h : But b w w') : But b w w'.drew := ⟨h.os, h.tape, h.output, h.size, h.block⟩
theorem blk_set3 {g : Nat} {T : TypeId} {w : World} {a b c : Value} (h : Blk g #[a, b, c] T w) (v : Value) :
    Blk g #[v, b, c] T (w.setCell ⟨g, 0, none⟩ v) ∧ Blk g #[a, v, c] T (w.setCell ⟨g, 1, none⟩ v) ∧ Blk g #[a, b, v] T (w.setCell ⟨g, 2, none⟩ v) := ⟨H.Blk.set h 0 v, H.Blk.set h 1 v, H.Blk.set h 2 v⟩
theorem kept_but {S : Nat → Prop} {g : Nat} {w w' : World} (hg : ¬ S g) (h : But g w w') : Kept S S w w' :=
  ⟨h.size, fun k hk hlt => ⟨hk, h.block k hlt (fun he => hg (he ▸ hk))⟩⟩

theorem lslice {α : Type} {c : α → Value → List Value} {I : (Nat → Prop) → World → Value → α → Prop} {S : Nat → Prop} {w : World} {a : Option Addr} {n cap : Nat} {l : List α} (h : ListAt c I S w (.slice a n cap) l) (hn : 0 < l.length) : ∃ g, a = some ⟨g, 0, none⟩ ∧ S g := by
  obtain ⟨ps, h1, h2, h3⟩ := h
  rcases h2 with ⟨hv, hn'⟩ | ⟨g, cap', hv, _, hS, _⟩
  · omega
  · simp only [Value.slice.injEq] at hv
    exact ⟨g, hv.1, hS⟩

theorem tests_step (s : L.W3) (l : List L.Test) {k : Nat} (h : k < l.length) : s.tests (l.drop k) = (s.one l[k]).tests (l.drop (k + 1)) := by
  rw [List.drop_eq_getElem_cons h]; rfl
theorem tests_end (s : L.W3) (l : List L.Test) : s.tests (l.drop l.length) = s := by rw [List.drop_length]; rfl

set_option maxHeartbeats 4000000 in
set_option maxRecDepth 100000 in
theorem weigh_of (g : Nat) (s : L.W3) (T : TypeId) (ty : List UInt8) (v : Value) (l : List L.Test) (w : World) (S : Nat → Prop) (hT : TestsAt S w v l) (hg : ¬ S g) (hB : Blk g (c3 s) T w) (hl : l.length ≤ 1000000)
    (hN : ∀ t ∈ l, t.t.kind = 14 → ∀ (nv : Value) (u : L.W3) (W : World), ITest S W nv t → Blk g (c3 u) T W → Calls Tryz.prog 24 #[.pointer (some ⟨g, 0, none⟩), .string ⟨t.t.name.toArray⟩, nv] W (WghPost g ((u.ty t.t.name).nots t.nots) T W)) :
    Calls Tryz.prog 24 #[.pointer (some ⟨g, 0, none⟩), .string ⟨ty.toArray⟩, v] w (WghPost g (s.part ty l) T w) := by
  have HT := Lib.hid hT
  have HN := Lib.hid hN
  have HG := Lib.hid hg
  have HB := Lib.hid hB
  obtain ⟨ao, cap, hv⟩ := hT.form
  have zt := bytes_size ty
  generalize hNN : l.length = N at hv hl
  have HL := Lib.hid hNN
  subst hv
  obtain ⟨hcx, hfx⟩ := cells_of hB
  have hlx := hB.lt
  have hgo : (∃ s1, Hid (s.part ty l = s1.tests (l.drop 0)) ∧ ((ty = [] ∧ s1 = s) ∨ ((ty == []) = false ∧ s1 = ⟨s.a, s.b, L.inc s.c⟩))) := by
    by_cases h : ty = []
    · exact ⟨s, Lib.hid (by rw [h]; rfl), Or.inl ⟨h, rfl⟩⟩
    · exact ⟨⟨s.a, s.b, L.inc s.c⟩, Lib.hid (by unfold L.W3.part L.W3.ty; rw [if_neg h]; rfl), Or.inr ⟨by simpa using h, rfl⟩⟩
  obtain ⟨s1, H0, hcs⟩ := hgo
  generalize s.part ty l = q at *
  obtain ⟨sa, sb, sc⟩ := s
  unfold c3 at HB hcx
  dsimp only at HB hcx
  have x2 : w.cell? ⟨g, 2, none⟩ = some (.int .i64 sc) := hcx 2
  have f2 : w.frozen? ⟨g, 2, none⟩ = false := hfx 2 (by show 2 < 3; omega)
  clear hT hN hNN hg hB hcx hfx
  go_enter Tryz.func24, Tryz.ntmps24
  go_upto_if 9 with fail
  go_cut [] (fun wx => Hid (Blk g (c3 s1) T wx) ∧ Hid (But g w wx))
  case first =>
    rcases hcs with ⟨rfl, rfl⟩ | ⟨hc, rfl⟩
    · go_wp2_with fail
      go_meet
      exact ⟨HB, Lib.hid (But.refl _ _)⟩
    · have hc2 : ty.isEmpty = false := by cases ty with | nil => simp at hc | cons a r => rfl
      simp only [hc2, Bool.not_false]
      go_wp2_with fail
      go_still_tail 7, (by kernel_rfl)
      change wpList _ _ _ _ _ w.drew
      go_wp2_with fail
      go_meet
      exact ⟨Lib.hid (blk_drew (blk_set3 HB.out _).2.2), Lib.hid (but_drew (But.set _ _ _))⟩
  case rest =>
    obtain ⟨HB1, HU1⟩ := hcut
    clear x2 f2 HB hcs hlx
    go_wp2_with fail
    go_loopw [19] (fun v19 wr => ∃ k : Nat, v19 = .int .i64 k ∧ k ≤ N ∧ (∃ u : L.W3, Hid (q = u.tests (l.drop k)) ∧ Hid (Blk g (c3 u) T wr)) ∧ Hid (But g w wr)) (fun v19 _ => N - (intOf v19).toNat)
    case atStart => exact ⟨0, rfl, Nat.zero_le _, ⟨s1, H0, HB1⟩, HU1⟩
    case round =>
      obtain ⟨k, rfl, hk, ⟨u, HQ, HBr⟩, HU⟩ := hrel
      clear HB1 HU1 H0
      by_cases hkN : k < N
      · have hkl : k < l.length := by rw [HL.out]; exact hkN
        have hkI : (k : Int) < (N : Int) := by omega
        have hsl := keeps_tests HT.out (kept_but HG.out HU.out)
        obtain ⟨g2, hg2, hS2⟩ := lslice hsl (by omega)
        subst hg2
        obtain ⟨hlt, hnl, hsS, vk, hc, hp⟩ := ListAt.at_ cTest_len hsl hkl
        have HQ2 := Lib.hid (HQ.out.trans (tests_step u l hkl))
        have hmem := List.getElem_mem hkl
        have hne : g2 ≠ g := fun he => HG.out (he ▸ hS2)
        have hne2 : g ≠ g2 := fun he => hne he.symm
        clear hsl hnl hsS HQ
        generalize l[k] = tk at *
        have hp2 : NotsAt S wr vk tk.nots := hp
        obtain ⟨ak, ck, hvk⟩ := hp2.form
        generalize tk.nots.length = nk at hvk
        clear hp2
        have Q := Lib.hid (HN.out tk hmem)
        have HIp := Lib.hid hp
        obtain ⟨⟨kk, nm, vl, ka, kb⟩, nts⟩ := tk
        have c0 : wr.cell? ⟨g2, k * 6 + 0, none⟩ = some (.int .i64 kk) := hc 0 (by omega)
        have c1 : wr.cell? ⟨g2, k * 6 + 1, none⟩ = some (.string ⟨nm.toArray⟩) := hc 1 (by omega)
        have c2 : wr.cell? ⟨g2, k * 6 + 2, none⟩ = some (.string ⟨vl.toArray⟩) := hc 2 (by omega)
        have c3' : wr.cell? ⟨g2, k * 6 + 3, none⟩ = some (.int .i64 ka) := hc 3 (by omega)
        have c4 : wr.cell? ⟨g2, k * 6 + 4, none⟩ = some (.int .i64 kb) := hc 4 (by omega)
        have c5 : wr.cell? ⟨g2, k * 6 + 5, none⟩ = some vk := hc 5 (by omega)
        simp only [Nat.add_zero] at c0
        subst hvk
        have hl1 := HBr.out.lt
        clear hc hp hmem hkl hS2 hlt
        obtain ⟨ua, ub, uc⟩ := u
        have HW : Hid (Blk g (c3 ⟨ua, ub, uc⟩) T (wr.alloc (.cells #[.int .i64 kk, .string ⟨nm.toArray⟩, .string ⟨vl.toArray⟩, .int .i64 ka, .int .i64 kb, .slice ak nk ck] 77))) := Lib.hid (HBr.out.alloc _)
        have HUW : Hid (But g w (wr.alloc (.cells #[.int .i64 kk, .string ⟨nm.toArray⟩, .string ⟨vl.toArray⟩, .int .i64 ka, .int .i64 kb, .slice ak nk ck] 77))) := Lib.hid (HU.out.alloc _)
        have HKW : Hid (Kept S S wr (wr.alloc (.cells #[.int .i64 kk, .string ⟨nm.toArray⟩, .string ⟨vl.toArray⟩, .int .i64 ka, .int .i64 kb, .slice ak nk ck] 77))) := Lib.hid (Kept.below ((Below.refl wr.heap.size wr).alloc (Nat.le_refl _) _))
        by_cases h1 : kk = 1
        · subst h1
          go_upto_region 8 with fail
          generalize (wr.alloc (.cells #[.int .i64 ((1 : Nat) : Int), .string ⟨nm.toArray⟩, .string ⟨vl.toArray⟩, .int .i64 ka, .int .i64 kb, .slice ak nk ck] 77)) = W1 at *
          obtain ⟨hcx, hfx⟩ := cells_of HW.out
          have x0 : W1.cell? ⟨g, 0, none⟩ = some (.int .i64 ua) := hcx 0
          have f0 : W1.frozen? ⟨g, 0, none⟩ = false := hfx 0 (by show 0 < 3; omega)
          clear hcx hfx c0 c1 c2 c3' c4 c5 Q HIp HBr HU hl1 hne hne2
          go_region
          go_wp2_with fail
          go_roundw
          case rel => exact ⟨k + 1, by go_num, by omega, ⟨⟨L.inc ua, ub, uc⟩, HQ2, Lib.hid (blk_drew (blk_set3 HW.out _).1)⟩, Lib.hid (but_drew (HUW.out.trans (But.set _ _ _)))⟩
          case measure => simp [intOf]; omega
        · by_cases h14 : kk = 14
          · subst h14
            have Q2 := Lib.hid (Q.out rfl _ _ _ (keeps_test HIp.out HKW.out) HW.out)
            generalize hr : ((⟨ua, ub, uc⟩ : L.W3).ty nm).nots nts = r at Q2
            have HQ3 : Hid (q = r.tests (l.drop (k + 1))) := Lib.hid (HQ2.out.trans (by rw [← hr]; rfl))
            clear Q hr HQ2 h1 HBr HU
            go_wp2_with fail
            refine Q2.out.mono ?_
            rintro e w2 ⟨rfl, hb, hbut⟩
            have HB2 := Lib.hid hb
            have HU2 := Lib.hid (HUW.out.trans hbut)
            clear hb hbut Q2 HW HUW HKW c0 c1 c2 c3' c4 c5
            go_wp2_with fail
            go_roundw
            case rel => exact ⟨k + 1, by go_num, by omega, ⟨r, HQ3, HB2⟩, HU2⟩
            case measure => simp [intOf]; omega
          · have e1 : ((kk : Int) == 1) = false := by rw [beq_eq_false_iff_ne]; omega
            have e14 : ((kk : Int) == 14) = false := by rw [beq_eq_false_iff_ne]; omega
            have n1 : ¬ (kk : Int) = 1 := by omega
            have n14 : ¬ (kk : Int) = 14 := by omega
            go_upto_region 6 with fail
            generalize (wr.alloc (.cells #[.int .i64 kk, .string ⟨nm.toArray⟩, .string ⟨vl.toArray⟩, .int .i64 ka, .int .i64 kb, .slice ak nk ck] 77)) = W1 at *
            obtain ⟨hcx, hfx⟩ := cells_of HW.out
            have x1 : W1.cell? ⟨g, 1, none⟩ = some (.int .i64 ub) := hcx 1
            have f1 : W1.frozen? ⟨g, 1, none⟩ = false := hfx 1 (by show 1 < 3; omega)
            clear hcx hfx c0 c1 c2 c3' c4 c5 Q HIp HBr HU hl1 hne hne2
            go_region
            go_wp2_with fail
            go_roundw
            case rel => exact ⟨k + 1, by go_num, by omega, ⟨⟨ua, L.inc ub, uc⟩, Lib.hid (HQ2.out.trans (by unfold L.W3.one L.W3.test; dsimp only; rw [if_neg h1, if_neg h14])), Lib.hid (blk_drew (blk_set3 HW.out _).2.1)⟩, Lib.hid (but_drew (HUW.out.trans (But.set _ _ _)))⟩
            case measure => simp [intOf]; omega
      · obtain rfl : k = N := by omega
        have HQ2 : Hid (q = u) := Lib.hid (by
          have h := HQ.out
          rw [← HL.out, tests_end] at h
          exact h)
        clear HQ
        go_wp2_with fail
        go_end0
        exact ⟨rfl, by rw [HQ2.out]; exact HBr.out, HU.out⟩

end K
end Go.Proofs.YtnmcgmbhkmfiaaaGreatDoor

namespace Go.Proofs.YtnmcgmbhkmfiaaaGreatDoor
open Go.RowKit Go.Sort
namespace K
open H

theorem weigh_nots (g : Nat) (s : L.W3) (T : TypeId) (ty : List UInt8) (v : Value) (l : List L.Tst) (w : World) (S : Nat → Prop) (hN : NotsAt S w v l) (hg : ¬ S g) (hB : Blk g (c3 s) T w) (hl : l.length ≤ 1000000) (hk : ∀ u ∈ l, u.kind ≠ 14) :
    Calls Tryz.prog 24 #[.pointer (some ⟨g, 0, none⟩), .string ⟨ty.toArray⟩, v] w (WghPost g ((s.ty ty).nots l) T w) := by
  have h := weigh_of g s T ty v (l.map (fun t => ⟨t, []⟩)) w S hN.tests hg hB (by simpa using hl) (fun t ht h14 => by
    obtain ⟨u, hu, rfl⟩ := List.mem_map.1 ht
    exact absurd h14 (hk u hu))
  rw [L.W3.nots_tests]
  exact h

theorem weigh (g : Nat) (s : L.W3) (T : TypeId) (ty : List UInt8) (v : Value) (l : List L.Test) (w : World) (S : Nat → Prop) (hT : TestsAt S w v l) (hg : ¬ S g) (hB : Blk g (c3 s) T w) (hl : l.length ≤ 1000000) (hk : L.NK l) :
    Calls Tryz.prog 24 #[.pointer (some ⟨g, 0, none⟩), .string ⟨ty.toArray⟩, v] w (WghPost g (s.part ty l) T w) :=
  weigh_of g s T ty v l w S hT hg hB hl (fun t ht h14 nv u W hI hBW => weigh_nots g u T t.t.name nv t.nots W S hI hg hBW (hk t ht).2 (hk t ht).1)

theorem blk_new_at {g : Nat} {cs : Array Value} {T : TypeId} {w : World} (h : g = w.heap.size) : Blk g cs T (w.alloc (.cells cs T)) := by subst h; exact Blk.new w cs T

theorem blk_three {g : Nat} {T : TypeId} {w : World} {a b c : Value} (h : Blk g #[a, b, c] T w) (v0 v1 v2 : Value) :
    Blk g #[v0, v1, v2] T (((w.setCell ⟨g, 0, none⟩ v0).setCell ⟨g, 1, none⟩ v1).setCell ⟨g, 2, none⟩ v2) := ((H.Blk.set h 0 v0).set 1 v1).set 2 v2

def SpecPost (s : L.W3) (w : World) (e : Ending) (w' : World) : Prop := e = .returned (.agg (c3 s)) ∧ Below w.heap.size w w'
def z3 : Array Value := #[.int .i64 0, .int .i64 0, .int .i64 0]
theorem kept_narrow (S : Nat → Prop) (w : World) : Kept S (fun k => S k ∧ k < w.heap.size) w w := ⟨Nat.le_refl _, fun g hg hlt => ⟨⟨hg, hlt⟩, rfl⟩⟩

set_option maxHeartbeats 4000000 in
set_option maxRecDepth 100000 in
theorem spec (v : Value) (ps : List L.Part) (w : World) (S0 : Nat → Prop) (hP0 : PartsAt S0 w v ps) (hl : ps.length ≤ 1000000) (hk : L.PK ps) :
    Calls Tryz.prog 9 #[.agg #[v]] w (SpecPost (L.weight ps) w) := by
  have hP := keeps_parts hP0 (kept_narrow S0 w)
  have hSg : ∀ g, w.heap.size ≤ g → ¬ (S0 g ∧ g < w.heap.size) := fun g hg h => by omega
  generalize hS : (fun k => S0 k ∧ k < w.heap.size) = S at hP
  have HSg : Hid (∀ g, w.heap.size ≤ g → ¬ S g) := Lib.hid (by rw [← hS]; exact hSg)
  have HP := Lib.hid hP
  have HK := Lib.hid hk
  obtain ⟨ao, cap, hv⟩ := hP.form
  generalize hNN : ps.length = N at hv hl
  have HL := Lib.hid hNN
  subst hv
  have H0 : Hid (L.weight ps = L.W3.parts ⟨0, 0, 0⟩ (ps.drop 0)) := Lib.hid rfl
  generalize L.weight ps = q at *
  clear hP0 hP hNN hS hSg hk
  go_enter Tryz.func9, Tryz.ntmps9
  go_upto_region 3 with fail
  generalize hW0 : ((w.alloc (.cells #[.slice ao N cap] 39)).alloc (.cells #[.int .i64 0, .int .i64 0, .int .i64 0] 35)).alloc (.cells #[.int .i64 0, .int .i64 0, .int .i64 0] 35) = W0
  have hX1 : Blk (w.heap.size + 1) z3 35 W0 := by
    rw [← hW0]
    exact (blk_new_at (cs := z3) (by simp)).alloc _
  have hX2 : Blk (w.heap.size + 2) (c3 ⟨0, 0, 0⟩) 35 W0 := by
    rw [← hW0]
    exact blk_new_at (cs := c3 ⟨0, 0, 0⟩) (by simp)
  have hU0 : Below w.heap.size w W0 := by
    rw [← hW0]
    exact (((Below.refl _ w).alloc (Nat.le_refl _) _).alloc (by simp) _).alloc (by simp; omega) _
  have HX1 := Lib.hid hX1
  have HX2 := Lib.hid hX2
  have HU0 := Lib.hid hU0
  clear hX1 hX2 hU0 hW0
  go_loopw [9] (fun v9 wr => ∃ k : Nat, v9 = .int .i64 k ∧ k ≤ N ∧ (∃ u : L.W3, Hid (q = u.parts (ps.drop k)) ∧ Hid (Blk (w.heap.size + 2) (c3 u) 35 wr)) ∧ Hid (Blk (w.heap.size + 1) z3 35 wr) ∧ Hid (Below w.heap.size w wr)) (fun v9 _ => N - (intOf v9).toNat)
  case atStart => exact ⟨0, rfl, Nat.zero_le _, ⟨⟨0, 0, 0⟩, H0, HX2⟩, HX1, HU0⟩
  case round =>
    obtain ⟨k, rfl, hkN', ⟨u, HQ, HB⟩, HY, HU⟩ := hrel
    clear HX1 HX2 HU0 H0
    by_cases hkN : k < N
    · have hkl : k < ps.length := by rw [HL.out]; exact hkN
      have hkI : (k : Int) < (N : Int) := by omega
      have hsl := keeps_parts HP.out (Kept.below HU.out)
      obtain ⟨g2, hg2, hS2⟩ := lslice hsl (by omega)
      subst hg2
      obtain ⟨hlt, hnl, hsS, vk, hc, hp⟩ := ListAt.at_ cPart_len hsl hkl
      have HQ2 := Lib.hid (HQ.out.trans (L.W3.parts_step u ps hkl))
      have hpk := HK.out ps[k] (List.getElem_mem hkl)
      clear hsl hnl hsS HQ hS2
      generalize ps[k] = pk at *
      obtain ⟨jn, ty, ts⟩ := pk
      have hp2 : TestsAt S wr vk ts := hp
      obtain ⟨ak, ck, hvk⟩ := hp2.form
      have c0 : wr.cell? ⟨g2, k * 3 + 0, none⟩ = some (.int .i64 jn) := hc 0 (by omega)
      have c1 : wr.cell? ⟨g2, k * 3 + 1, none⟩ = some (.string ⟨ty.toArray⟩) := hc 1 (by omega)
      have c2 : wr.cell? ⟨g2, k * 3 + 2, none⟩ = some vk := hc 2 (by omega)
      simp only [Nat.add_zero] at c0
      have HBW : Hid (Below wr.heap.size wr (wr.alloc (.cells #[.int .i64 jn, .string ⟨ty.toArray⟩, vk] 57))) := Lib.hid ((Below.refl _ wr).alloc (Nat.le_refl _) _)
      have Q := Lib.hid (weigh (w.heap.size + 2) u 35 ty vk ts (wr.alloc (.cells #[.int .i64 jn, .string ⟨ty.toArray⟩, vk] 57)) S (keeps_tests hp2 (Kept.below HBW.out)) (HSg.out _ (by omega)) (HB.out.alloc _) hpk.2 hpk.1)
      have HY2 := Lib.hid (HY.out.alloc (.cells #[.int .i64 jn, .string ⟨ty.toArray⟩, vk] 57))
      have hlb := HB.out.lt
      generalize ts.length = nk at hvk
      subst hvk
      have HU2 := Lib.hid (HU.out.alloc (by omega) (.cells #[.int .i64 jn, .string ⟨ty.toArray⟩, .slice ak nk ck] 57))
      clear hc hp hp2 hpk HU HBW hkl
      go_wp2_with fail
      refine Q.out.mono ?_
      rintro e w2 ⟨rfl, hb, hbut⟩
      have hsz : (wr.alloc (.cells #[.int .i64 jn, .string ⟨ty.toArray⟩, .slice ak nk ck] 57)).heap.size = wr.heap.size + 1 := by simp
      have HB3 := Lib.hid hb
      have HY3 := Lib.hid (HY2.out.but hbut (by omega))
      have HU3 := Lib.hid (HU2.out.trans ((hbut.below (by omega)).mono (by omega)))
      clear hb hbut Q HY2 HU2 c0 c1 c2 HB HY
      go_wp2_with fail
      go_roundw
      case rel => exact ⟨k + 1, by go_num, by omega, ⟨_, HQ2, HB3⟩, HY3, HU3⟩
      case measure => simp [intOf]; omega
    · obtain rfl : k = N := by omega
      have HQ2 : Hid (q = u) := Lib.hid (by
        have h := HQ.out
        rw [← HL.out, L.W3.parts_end] at h
        exact h)
      clear HQ
      obtain ⟨ua, ub, uc⟩ := u
      obtain ⟨hcx, hfx⟩ := cells_of HB.out
      obtain ⟨hcy, hfy⟩ := cells_of HY.out
      have x0 : wr.cell? ⟨w.heap.size + 2, 0, none⟩ = some (.int .i64 ua) := hcx 0
      have x1 : wr.cell? ⟨w.heap.size + 2, 1, none⟩ = some (.int .i64 ub) := hcx 1
      have x2 : wr.cell? ⟨w.heap.size + 2, 2, none⟩ = some (.int .i64 uc) := hcx 2
      have y0 : wr.cell? ⟨w.heap.size + 1, 0, none⟩ = some (.int .i64 0) := hcy 0
      have y1 : wr.cell? ⟨w.heap.size + 1, 1, none⟩ = some (.int .i64 0) := hcy 1
      have y2 : wr.cell? ⟨w.heap.size + 1, 2, none⟩ = some (.int .i64 0) := hcy 2
      have f0 : wr.frozen? ⟨w.heap.size + 1, 0, none⟩ = false := hfy 0 (by show 0 < 3; omega)
      have f1 : wr.frozen? ⟨w.heap.size + 1, 1, none⟩ = false := hfy 1 (by show 1 < 3; omega)
      have f2 : wr.frozen? ⟨w.heap.size + 1, 2, none⟩ = false := hfy 2 (by show 2 < 3; omega)
      clear hcx hfx hcy hfy
      go_wp2_with fail
      have HWR := Lib.hid (blk_three HY.out (.int .i64 ua) (.int .i64 ub) (.int .i64 uc))
      have HUR := Lib.hid (((HU.out.setCell (p := ⟨w.heap.size + 1, 0, none⟩) (by show w.heap.size ≤ w.heap.size + 1; omega) (.int .i64 ua)).setCell (p := ⟨w.heap.size + 1, 1, none⟩) (by show w.heap.size ≤ w.heap.size + 1; omega) (.int .i64 ub)).setCell (p := ⟨w.heap.size + 1, 2, none⟩) (by show w.heap.size ≤ w.heap.size + 1; omega) (.int .i64 uc))
      generalize (((wr.setCell ⟨w.heap.size + 1, 0, none⟩ (.int .i64 ua)).setCell ⟨w.heap.size + 1, 1, none⟩ (.int .i64 ub)).setCell ⟨w.heap.size + 1, 2, none⟩ (.int .i64 uc)) = WR at *
      obtain ⟨hcz, hfz⟩ := cells_of HWR.out
      have r0 : WR.cell? ⟨w.heap.size + 1, 0, none⟩ = some (.int .i64 ua) := hcz 0
      have r1 : WR.cell? ⟨w.heap.size + 1, 1, none⟩ = some (.int .i64 ub) := hcz 1
      have r2 : WR.cell? ⟨w.heap.size + 1, 2, none⟩ = some (.int .i64 uc) := hcz 2
      clear hcz hfz
      (try simp only [Exit.inBlock, Exit.then])
      refine bodyPost_ret (v := .agg #[.int .i64 ua, .int .i64 ub, .int .i64 uc]) (by simp [results, Tryz.results9, go_sem, r0, r1, r2]) rfl ⟨by rw [HQ2.out]; rfl, HUR.out⟩

end K
end Go.Proofs.YtnmcgmbhkmfiaaaGreatDoor

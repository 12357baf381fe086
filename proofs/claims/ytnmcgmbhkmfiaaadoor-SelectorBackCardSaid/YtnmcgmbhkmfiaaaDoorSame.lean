/- Same, at lists that are alike. -/
import Derived.Test.YtnmcgmbhkmfiaaaDoorFmt5
set_option linter.unusedVariables false
set_option linter.unusedSimpArgs false
namespace Go.Proofs.YtnmcgmbhkmfiaaaDoor
open Go.RowKit
namespace K
open H

def TruePost (w : World) (e : Ending) (w' : World) : Prop := e = .returned (.bool true) ∧ Below w.heap.size w w'

theorem slice_at {α : Type} {c : α → Value → List Value} {I : (Nat → Prop) → World → Value → α → Prop} {S : Nat → Prop} {w : World} {a : Option Addr} {n cap : Nat} {l : List α} (h : ListAt c I S w (.slice a n cap) l) (hn : 0 < l.length) : ∃ g, a = some ⟨g, 0, none⟩ := by
  obtain ⟨ps, h1, h2, h3⟩ := h
  rcases h2 with ⟨hv, hn'⟩ | ⟨g, cap', hv, _⟩
  · omega
  · simp only [Value.slice.injEq] at hv
    exact ⟨g, hv.1⟩

set_option maxHeartbeats 2000000 in
set_option maxRecDepth 100000 in
theorem eqTests (v1 v2 : Value) (l : List L.Test) (w : World) (S1 S2 : Nat → Prop) (h1 : TestsAt S1 w v1 l) (h2 : TestsAt S2 w v2 l) (hl : l.length ≤ 1000000)
    (hcl : ∀ t ∈ l, ∀ (n1 n2 : Value) (W : World), ITest S1 W n1 t → ITest S2 W n2 t → Calls Tryd.prog 31 #[tval t.t n1, tval t.t n2] W (TruePost W)) :
    Calls Tryd.prog 30 #[v1, v2, .func (.func 31) #[] #[]] w (TruePost w) := by
  have H1 := Lib.hid h1
  have H2 := Lib.hid h2
  have HCl := Lib.hid hcl
  obtain ⟨a1, cap1, rfl⟩ := h1.form
  obtain ⟨a2, cap2, rfl⟩ := h2.form
  generalize hNN : l.length = N at hl ⊢
  have HN := Lib.hid hNN
  rw [hNN] at H1 H2
  clear h1 h2 hcl hNN
  have HB0 := Lib.hid (Below.refl w.heap.size w)
  go_enter Tryd.func30, Tryd.ntmps30
  go_wp2_with fail
  go_loopw [17] (fun ix wr => ∃ k : Nat, ix = .int .i64 k ∧ k ≤ N ∧ Hid (Below w.heap.size w wr)) (fun ix _ => N - (intOf ix).toNat)
  case atStart => exact ⟨0, rfl, Nat.zero_le _, HB0⟩
  case round =>
    obtain ⟨k, rfl, hk, HB⟩ := hrel
    clear HB0
    by_cases hkN : k < N
    · have hkl : k < l.length := by rw [HN.out]; exact hkN
      have hkI : (k : Int) < (N : Int) := by omega
      have s1 := keeps_tests H1.out (Kept.below HB.out)
      have s2 := keeps_tests H2.out (Kept.below HB.out)
      obtain ⟨g1, rfl⟩ := slice_at s1 (by omega)
      obtain ⟨g2, rfl⟩ := slice_at s2 (by omega)
      obtain ⟨hlt1, hnl1, hs1, n1, hc1, hp1⟩ := ListAt.at_ cTest_len s1 hkl
      obtain ⟨hlt2, hnl2, hs2, n2, hc2, hp2⟩ := ListAt.at_ cTest_len s2 hkl
      have hmem := List.getElem_mem hkl
      clear hnl1 hs1 hnl2 hs2 s1 s2
      generalize l[k] = tk at *
      have q1 : NotsAt S1 wr n1 tk.nots := hp1
      have q2 : NotsAt S2 wr n2 tk.nots := hp2
      obtain ⟨aq, cq, hv1⟩ := q1.form
      obtain ⟨ar, cr, hv2⟩ := q2.form
      obtain ⟨nq, hnq⟩ : ∃ q, q = tk.nots.length := ⟨_, rfl⟩
      obtain ⟨nr, hnr⟩ : ∃ q, q = tk.nots.length := ⟨_, rfl⟩
      rw [← hnq] at hv1
      rw [← hnr] at hv2
      clear q1 q2 hnq hnr
      have Q := Lib.hid (fun W => HCl.out tk hmem n1 n2 W)
      have HP1 := Lib.hid hp1
      have HP2 := Lib.hid hp2
      obtain ⟨⟨kk, nm, vl, ka, kb⟩, nts⟩ := tk
      have c10 : wr.cell? ⟨g1, k * 6 + 0, none⟩ = some (.int .i64 kk) := hc1 0 (by omega)
      have c11 : wr.cell? ⟨g1, k * 6 + 1, none⟩ = some (.string ⟨nm.toArray⟩) := hc1 1 (by omega)
      have c12 : wr.cell? ⟨g1, k * 6 + 2, none⟩ = some (.string ⟨vl.toArray⟩) := hc1 2 (by omega)
      have c13 : wr.cell? ⟨g1, k * 6 + 3, none⟩ = some (.int .i64 ka) := hc1 3 (by omega)
      have c14 : wr.cell? ⟨g1, k * 6 + 4, none⟩ = some (.int .i64 kb) := hc1 4 (by omega)
      have c15 : wr.cell? ⟨g1, k * 6 + 5, none⟩ = some (n1) := hc1 5 (by omega)
      have c20 : wr.cell? ⟨g2, k * 6 + 0, none⟩ = some (.int .i64 kk) := hc2 0 (by omega)
      have c21 : wr.cell? ⟨g2, k * 6 + 1, none⟩ = some (.string ⟨nm.toArray⟩) := hc2 1 (by omega)
      have c22 : wr.cell? ⟨g2, k * 6 + 2, none⟩ = some (.string ⟨vl.toArray⟩) := hc2 2 (by omega)
      have c23 : wr.cell? ⟨g2, k * 6 + 3, none⟩ = some (.int .i64 ka) := hc2 3 (by omega)
      have c24 : wr.cell? ⟨g2, k * 6 + 4, none⟩ = some (.int .i64 kb) := hc2 4 (by omega)
      have c25 : wr.cell? ⟨g2, k * 6 + 5, none⟩ = some (n2) := hc2 5 (by omega)
      simp only [Nat.add_zero] at c10 c20
      subst hv1
      subst hv2
      have HB2 := Lib.hid (((HB.out.alloc HB.out.size (.cells #[.int .i64 kk, .string ⟨nm.toArray⟩, .string ⟨vl.toArray⟩, .int .i64 ka, .int .i64 kb, .slice aq nq cq] 55)).alloc (by have := HB.out.size; simp; omega) (.cells #[.int .i64 kk, .string ⟨nm.toArray⟩, .string ⟨vl.toArray⟩, .int .i64 ka, .int .i64 kb, .slice ar nr cr] 55)))
      have hB3 : Below wr.heap.size wr ((wr.alloc (.cells #[.int .i64 kk, .string ⟨nm.toArray⟩, .string ⟨vl.toArray⟩, .int .i64 ka, .int .i64 kb, .slice aq nq cq] 55)).alloc (.cells #[.int .i64 kk, .string ⟨nm.toArray⟩, .string ⟨vl.toArray⟩, .int .i64 ka, .int .i64 kb, .slice ar nr cr] 55)) := ((Below.refl _ wr).alloc (Nat.le_refl _) _).alloc (by simp) _
      have Q2 := Lib.hid (Q.out _ (keeps_test HP1.out (Kept.below hB3)) (keeps_test HP2.out (Kept.below hB3)))
      unfold tval tcells at Q2
      clear hc1 hc2 hp1 hp2 hmem Q hB3 HP1 HP2 hkl
      go_wp2_with fail
      refine Q2.out.mono ?_
      rintro e w2 ⟨rfl, hb2⟩
      have HB4 := Lib.hid (HB2.out.trans (hb2.mono HB2.out.size))
      clear hb2 Q2 HB2
      go_wp2_with fail
      go_roundw
      case rel => exact ⟨k + 1, by go_num, by omega, HB4⟩
      case measure => simp [intOf]; omega
    · obtain rfl : k = N := by omega
      go_wp2_with fail
      go_ret
      exact ⟨rfl, HB.out⟩

set_option maxHeartbeats 2000000 in
set_option maxRecDepth 100000 in
theorem eqParts (v1 v2 : Value) (l : List L.Part) (w : World) (S1 S2 : Nat → Prop) (h1 : PartsAt S1 w v1 l) (h2 : PartsAt S2 w v2 l) (hl : l.length ≤ 1000000)
    (hcl : ∀ t ∈ l, ∀ (n1 n2 : Value) (W : World), IPart S1 W n1 t → IPart S2 W n2 t → Calls Tryd.prog 17 #[.agg #[.int .i64 t.join, .string ⟨t.type.toArray⟩, n1], .agg #[.int .i64 t.join, .string ⟨t.type.toArray⟩, n2]] W (TruePost W)) :
    Calls Tryd.prog 16 #[v1, v2, .func (.func 17) #[] #[]] w (TruePost w) := by
  have H1 := Lib.hid h1
  have H2 := Lib.hid h2
  have HCl := Lib.hid hcl
  obtain ⟨a1, cap1, rfl⟩ := h1.form
  obtain ⟨a2, cap2, rfl⟩ := h2.form
  generalize hNN : l.length = N at hl ⊢
  have HN := Lib.hid hNN
  rw [hNN] at H1 H2
  clear h1 h2 hcl hNN
  have HB0 := Lib.hid (Below.refl w.heap.size w)
  go_enter Tryd.func16, Tryd.ntmps16
  go_wp2_with fail
  go_loopw [17] (fun ix wr => ∃ k : Nat, ix = .int .i64 k ∧ k ≤ N ∧ Hid (Below w.heap.size w wr)) (fun ix _ => N - (intOf ix).toNat)
  case atStart => exact ⟨0, rfl, Nat.zero_le _, HB0⟩
  case round =>
    obtain ⟨k, rfl, hk, HB⟩ := hrel
    clear HB0
    by_cases hkN : k < N
    · have hkl : k < l.length := by rw [HN.out]; exact hkN
      have hkI : (k : Int) < (N : Int) := by omega
      have s1 := keeps_parts H1.out (Kept.below HB.out)
      have s2 := keeps_parts H2.out (Kept.below HB.out)
      obtain ⟨g1, rfl⟩ := slice_at s1 (by omega)
      obtain ⟨g2, rfl⟩ := slice_at s2 (by omega)
      obtain ⟨hlt1, hnl1, hs1, n1, hc1, hp1⟩ := ListAt.at_ cPart_len s1 hkl
      obtain ⟨hlt2, hnl2, hs2, n2, hc2, hp2⟩ := ListAt.at_ cPart_len s2 hkl
      have hmem := List.getElem_mem hkl
      clear hnl1 hs1 hnl2 hs2 s1 s2
      generalize l[k] = tk at *
      have q1 : TestsAt S1 wr n1 tk.tests := hp1
      have q2 : TestsAt S2 wr n2 tk.tests := hp2
      obtain ⟨aq, cq, hv1⟩ := q1.form
      obtain ⟨ar, cr, hv2⟩ := q2.form
      obtain ⟨nq, hnq⟩ : ∃ q, q = tk.tests.length := ⟨_, rfl⟩
      obtain ⟨nr, hnr⟩ : ∃ q, q = tk.tests.length := ⟨_, rfl⟩
      rw [← hnq] at hv1
      rw [← hnr] at hv2
      clear q1 q2 hnq hnr
      have Q := Lib.hid (fun W => HCl.out tk hmem n1 n2 W)
      have HP1 := Lib.hid hp1
      have HP2 := Lib.hid hp2
      obtain ⟨jn, ty, ts⟩ := tk
      have c10 : wr.cell? ⟨g1, k * 3 + 0, none⟩ = some (.int .i64 jn) := hc1 0 (by omega)
      have c11 : wr.cell? ⟨g1, k * 3 + 1, none⟩ = some (.string ⟨ty.toArray⟩) := hc1 1 (by omega)
      have c12 : wr.cell? ⟨g1, k * 3 + 2, none⟩ = some (n1) := hc1 2 (by omega)
      have c20 : wr.cell? ⟨g2, k * 3 + 0, none⟩ = some (.int .i64 jn) := hc2 0 (by omega)
      have c21 : wr.cell? ⟨g2, k * 3 + 1, none⟩ = some (.string ⟨ty.toArray⟩) := hc2 1 (by omega)
      have c22 : wr.cell? ⟨g2, k * 3 + 2, none⟩ = some (n2) := hc2 2 (by omega)
      simp only [Nat.add_zero] at c10 c20
      subst hv1
      subst hv2
      have HB2 := Lib.hid (((HB.out.alloc HB.out.size (.cells #[.int .i64 jn, .string ⟨ty.toArray⟩, .slice aq nq cq] 42)).alloc (by have := HB.out.size; simp; omega) (.cells #[.int .i64 jn, .string ⟨ty.toArray⟩, .slice ar nr cr] 42)))
      have hB3 : Below wr.heap.size wr ((wr.alloc (.cells #[.int .i64 jn, .string ⟨ty.toArray⟩, .slice aq nq cq] 42)).alloc (.cells #[.int .i64 jn, .string ⟨ty.toArray⟩, .slice ar nr cr] 42)) := ((Below.refl _ wr).alloc (Nat.le_refl _) _).alloc (by simp) _
      have Q2 := Lib.hid (Q.out _ (keeps_part HP1.out (Kept.below hB3)) (keeps_part HP2.out (Kept.below hB3)))
      skip
      clear hc1 hc2 hp1 hp2 hmem Q hB3 HP1 HP2 hkl
      go_wp2_with fail
      refine Q2.out.mono ?_
      rintro e w2 ⟨rfl, hb2⟩
      have HB4 := Lib.hid (HB2.out.trans (hb2.mono HB2.out.size))
      clear hb2 Q2 HB2
      go_wp2_with fail
      go_roundw
      case rel => exact ⟨k + 1, by go_num, by omega, HB4⟩
      case measure => simp [intOf]; omega
    · obtain rfl : k = N := by omega
      go_wp2_with fail
      go_ret
      exact ⟨rfl, HB.out⟩

set_option maxHeartbeats 2000000 in
theorem sameTests_of (v1 v2 : Value) (w : World)
    (h : Calls Tryd.prog 30 #[v1, v2, .func (.func 31) #[] #[]] w (TruePost w)) :
    Calls Tryd.prog 18 #[v1, v2] w (TruePost w) := by
  have Q := Lib.hid h
  clear h
  go_enter Tryd.func18, Tryd.ntmps18
  go_wp2_with fail
  refine Q.out.mono ?_
  rintro e w2 ⟨rfl, hb⟩
  go_wp2_with fail
  go_ret
  exact ⟨rfl, hb⟩

set_option maxHeartbeats 2000000 in
set_option maxRecDepth 100000 in
theorem sameTest_of (t : L.Tst) (a1 a2 : Option Addr) (n1 c1 n2 c2 : Nat) (w : World)
    (h : ∀ W, Below w.heap.size w W → Calls Tryd.prog 18 #[.slice a1 n1 c1, .slice a2 n2 c2] W (TruePost W)) :
    Calls Tryd.prog 31 #[tval t (.slice a1 n1 c1), tval t (.slice a2 n2 c2)] w (TruePost w) := by
  obtain ⟨k, name, value, a, b⟩ := t
  have hB : Below w.heap.size w ((w.alloc (.cells #[.int .i64 k, .string ⟨name.toArray⟩, .string ⟨value.toArray⟩, .int .i64 a, .int .i64 b, .slice a1 n1 c1] 55)).alloc (.cells #[.int .i64 k, .string ⟨name.toArray⟩, .string ⟨value.toArray⟩, .int .i64 a, .int .i64 b, .slice a2 n2 c2] 55)) := ((Below.refl _ w).alloc (Nat.le_refl _) _).alloc (by simp) _
  have Q := Lib.hid (h _ hB)
  have HB := Lib.hid hB
  clear h hB
  unfold tval tcells
  go_enter Tryd.func31, Tryd.ntmps31
  go_wp2_with fail
  refine Q.out.mono ?_
  rintro e w2 ⟨rfl, hb⟩
  have HB2 := Lib.hid (HB.out.trans (hb.mono HB.out.size))
  clear hb Q
  go_wp2_with fail
  go_ret
  exact ⟨rfl, HB2.out⟩

set_option maxHeartbeats 2000000 in
set_option maxRecDepth 100000 in
theorem samePart_of (p : L.Part) (a1 a2 : Option Addr) (n1 c1 n2 c2 : Nat) (w : World)
    (h : ∀ W, Below w.heap.size w W → Calls Tryd.prog 18 #[.slice a1 n1 c1, .slice a2 n2 c2] W (TruePost W)) :
    Calls Tryd.prog 17 #[.agg #[.int .i64 p.join, .string ⟨p.type.toArray⟩, .slice a1 n1 c1], .agg #[.int .i64 p.join, .string ⟨p.type.toArray⟩, .slice a2 n2 c2]] w (TruePost w) := by
  obtain ⟨jn, ty, ts⟩ := p
  have hB : Below w.heap.size w ((w.alloc (.cells #[.int .i64 jn, .string ⟨ty.toArray⟩, .slice a1 n1 c1] 42)).alloc (.cells #[.int .i64 jn, .string ⟨ty.toArray⟩, .slice a2 n2 c2] 42)) := ((Below.refl _ w).alloc (Nat.le_refl _) _).alloc (by simp) _
  have Q := Lib.hid (h _ hB)
  have HB := Lib.hid hB
  clear h hB
  dsimp only
  go_enter Tryd.func17, Tryd.ntmps17
  go_wp2_with fail
  refine Q.out.mono ?_
  rintro e w2 ⟨rfl, hb⟩
  have HB2 := Lib.hid (HB.out.trans (hb.mono HB.out.size))
  clear hb Q
  go_wp2_with fail
  go_ret
  exact ⟨rfl, HB2.out⟩

theorem same0 (v1 v2 : Value) (w : World) (S1 S2 : Nat → Prop) (h1 : TestsAt S1 w v1 []) (h2 : TestsAt S2 w v2 []) : Calls Tryd.prog 18 #[v1, v2] w (TruePost w) :=
  sameTests_of v1 v2 w (eqTests v1 v2 [] w S1 S2 h1 h2 (Nat.zero_le _) (fun t ht => (by cases ht)))

theorem same1 (v1 v2 : Value) (l : List L.Tst) (w : World) (S1 S2 : Nat → Prop) (h1 : NotsAt S1 w v1 l) (h2 : NotsAt S2 w v2 l) (hl : l.length ≤ 1000000) : Calls Tryd.prog 18 #[v1, v2] w (TruePost w) := by
  refine sameTests_of v1 v2 w (eqTests v1 v2 (l.map (fun t => ⟨t, []⟩)) w S1 S2 h1.tests h2.tests (by simpa using hl) ?_)
  intro t ht n1 n2 W i1 i2
  obtain ⟨u, hu, rfl⟩ := List.mem_map.1 ht
  have j1 : NotsAt S1 W n1 [] := i1
  have j2 : NotsAt S2 W n2 [] := i2
  obtain ⟨a1, c1, e1⟩ := j1.form
  obtain ⟨a2, c2, e2⟩ := j2.form
  subst e1
  subst e2
  exact sameTest_of u a1 a2 _ _ _ _ W (fun W2 hB => same0 _ _ W2 S1 S2 (keeps_tests j1.tests (Kept.below hB)) (keeps_tests j2.tests (Kept.below hB)))

theorem same2 (v1 v2 : Value) (l : List L.Test) (w : World) (S1 S2 : Nat → Prop) (h1 : TestsAt S1 w v1 l) (h2 : TestsAt S2 w v2 l) (hl : l.length ≤ 1000000) (hok : ∀ t ∈ l, TestOk t) : Calls Tryd.prog 18 #[v1, v2] w (TruePost w) := by
  refine sameTests_of v1 v2 w (eqTests v1 v2 l w S1 S2 h1 h2 hl ?_)
  intro t ht n1 n2 W i1 i2
  have j1 : NotsAt S1 W n1 t.nots := i1
  have j2 : NotsAt S2 W n2 t.nots := i2
  obtain ⟨a1, c1, e1⟩ := j1.form
  obtain ⟨a2, c2, e2⟩ := j2.form
  subst e1
  subst e2
  exact sameTest_of t.t a1 a2 _ _ _ _ W (fun W2 hB => same1 _ _ t.nots W2 S1 S2 (keeps_nots j1 (Kept.below hB)) (keeps_nots j2 (Kept.below hB)) (hok t ht).2.2)

theorem same3 (v1 v2 : Value) (ps : List L.Part) (w : World) (S1 S2 : Nat → Prop) (h1 : PartsAt S1 w v1 ps) (h2 : PartsAt S2 w v2 ps) (hok : SelOk ps) :
    Calls Tryd.prog 16 #[v1, v2, .func (.func 17) #[] #[]] w (TruePost w) := by
  refine eqParts v1 v2 ps w S1 S2 h1 h2 hok.2 ?_
  intro p hp n1 n2 W i1 i2
  have j1 : TestsAt S1 W n1 p.tests := i1
  have j2 : TestsAt S2 W n2 p.tests := i2
  obtain ⟨a1, c1, e1⟩ := j1.form
  obtain ⟨a2, c2, e2⟩ := j2.form
  subst e1
  subst e2
  exact samePart_of p a1 a2 _ _ _ _ W (fun W2 hB => same2 _ _ p.tests W2 S1 S2 (keeps_tests j1 (Kept.below hB)) (keeps_tests j2 (Kept.below hB)) (hok.1 p hp).2.1 (hok.1 p hp).1)

set_option maxHeartbeats 2000000 in
theorem same (v1 v2 : Value) (ps : List L.Part) (w : World) (S1 S2 : Nat → Prop) (h1 : PartsAt S1 w v1 ps) (h2 : PartsAt S2 w v2 ps) (hok : SelOk ps) :
    Calls Tryd.prog 7 #[.agg #[v1], .agg #[v2]] w (TruePost w) := by
  obtain ⟨a1, c1, e1⟩ := h1.form
  obtain ⟨a2, c2, e2⟩ := h2.form
  generalize ps.length = m1 at e1
  generalize ps.length = m2 at e2
  subst e1
  subst e2
  have hB : Below w.heap.size w ((w.alloc (.cells #[.slice a1 m1 c1] 31)).alloc (.cells #[.slice a2 m2 c2] 31)) := ((Below.refl _ w).alloc (Nat.le_refl _) _).alloc (by simp) _
  have Q := Lib.hid (same3 _ _ ps _ S1 S2 (keeps_parts h1 (Kept.below hB)) (keeps_parts h2 (Kept.below hB)) hok)
  have HB := Lib.hid hB
  clear h1 h2 hB
  go_enter Tryd.func7, Tryd.ntmps7
  go_wp2_with fail
  refine Q.out.mono ?_
  rintro e w2 ⟨rfl, hb⟩
  have HB2 := Lib.hid (HB.out.trans (hb.mono HB.out.size))
  clear hb Q
  go_wp2_with fail
  go_ret
  exact ⟨rfl, HB2.out⟩

end K
end Go.Proofs.YtnmcgmbhkmfiaaaDoor

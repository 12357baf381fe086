/- The statement TextPoints: it returns true at every string. -/
import Derived.Test.YtlklkbhopdneaaaIter
import Derived.Deep.RegionWith
import Derived.RangeFuncBox
set_option linter.unusedVariables false
set_option linter.unusedSimpArgs false
namespace Go.Proofs.Ytlklkbhopdneaaa
open Go.RowKit Go.Shelf
attribute [local go_sem] Oper.semAt_some
namespace T

theorem chunks_le4 : ∀ (n : Nat) (l c : List UInt8), c ∈ U.chunks n l → 1 ≤ c.length ∧ c.length ≤ 4
  | 0, _, _, h => by simp [U.chunks] at h
  | n + 1, l, c, h => by
    unfold U.chunks at h
    split at h
    · simp at h
    · rename_i hl
      rcases List.mem_cons.1 h with rfl | h
      · exact U.chunk_length l hl
      · exact chunks_le4 n _ c h

theorem refCode' (c : List UInt8) (hl : 1 ≤ c.length ∧ c.length ≤ 4) (w : World) :
    Calls Try.prog 9 #[.string ⟨c.toArray⟩] w fun e w' => e = .returned (.int .i64 (U.code c : Nat)) ∧ Below w.heap.size w w' := by
  match c, hl with
  | [], hl => simp at hl
  | [a], _ => exact code1 a w
  | [a, b], _ => exact code2 a b w
  | [a, b, c], _ => exact code3 a b c w
  | [a, b, c, d], _ => exact code4 a b c d w
  | a :: b :: c :: d :: e :: t, hl => simp at hl

theorem code_lt (c : List UInt8) : U.code c < 2097152 := by
  unfold U.code
  split
  · rename_i a; have := a.toNat_lt; omega
  · omega
  · omega
  · omega
  · omega

theorem mem_getD (L : List (List UInt8)) (k : Nat) (h : k < L.length) : L.getD k [] ∈ L := by
  rw [List.getD, List.getElem?_eq_getElem h]
  exact List.getElem_mem h

/-- A row of strings that the call owns: its value, and its cells. -/
theorem row_form {W : World} {base : Nat} {v : Value} {L : List (List UInt8)} (h : W.ownsRow base 9 1 v L.length (strs L)) :
    ∃ ao cap, v = .slice ao L.length cap ∧ (0 < L.length → ∃ g, ao = some ⟨g, 0, none⟩ ∧ g < W.heap.size ∧ ∀ j, j < L.length → W.cell? ⟨g, j, none⟩ = some (.string ⟨(L.getD j []).toArray⟩)) := by
  have h' := h
  rcases h.2 with ⟨rfl, h0⟩ | ⟨g, cap, cur, rfl, hb, hg, _, _, hcs, htk⟩
  · exact ⟨none, 0, by rw [h0], fun h => by omega⟩
  · refine ⟨some ⟨g, 0, none⟩, cap, rfl, fun _ => ⟨g, rfl, (Array.getElem?_eq_some_iff.1 hg).1, fun j hj => ?_⟩⟩
    rw [h'.cellAt j (by simpa using hj)]
    simp [strs, List.getD, hj]

theorem then_false {K : Act → World → Prop} {Q : Exit → Act → World → Prop} : ∀ e a w, Exit.then K (fun _ _ _ => False) e a w → Exit.then K Q e a w
  | .normal, _, _, h => h
  | .ret, _, _, h => h.elim
  | .exit _, _, _, h => h.elim
  | .goto _, _, _, h => h.elim
  | .panic _, _, _, h => h.elim
  | .outgrown, _, _, h => h.elim

theorem keepsOthers_below {W W' : World} (b : Below W.heap.size W W') : KeepsOthers W W' :=
  ⟨b.size, fun k o hk _ => (b.block k (Array.getElem?_eq_some_iff.1 hk).1).trans hk⟩
theorem keepsWalks_below {W W' : World} (b : Below W.heap.size W W') : KeepsWalks W W' :=
  ⟨b.size, fun k o hk _ => (b.block k (Array.getElem?_eq_some_iff.1 hk).1).trans hk⟩

set_option maxRecDepth 100000 in
set_option maxHeartbeats 2000000 in
theorem TextPoints_small (s : ByteArray) (w : World) (hs : s.size ≤ 2000) :
    Calls Try.prog 3 #[.string s] w fun e w' => e = .returned (.bool true) ∧ Below w.heap.size w w' := by
  have hrl := U.rep_le s.data.toList
  rw [U.list_size] at hrl
  refine (callsIn_wide (n := 5)).1 ?_
  refine callsIn_of_wp_marks Try.func3 rfl trivial ?_ rfl
  simp only [Try.ntmps3, List.size_toArray, List.length_cons, List.length_nil, Nat.reduceAdd, Nat.reduceSub, Array.replicate_succ, Array.replicate_zero, List.push_toArray, List.append_toArray, List.nil_append, List.cons_append]
  gi_wp2_with (refine ⟨trivial, ?_⟩; gi_at_call 5; refine (callsIn_wide.2 (awake _)).mono ?_)
  rintro e w1 ⟨rfl, b1⟩
  have z1 := b1.size
  simp only [World.size_alloc] at z1
  gi_wp2_with (refine ⟨trivial, ?_⟩; gi_at_call 7; refine (callsIn_wide.2 (refRepair _ _ (by omega))).mono ?_)
  rintro e w2 ⟨rfl, b2⟩
  have z2 := b2.size
  have hp2 := fun W => refPoints ⟨(U.rep s.data.toList).toArray⟩ W (by show (U.rep s.data.toList).toArray.size ≤ 1000000; rw [List.size_toArray]; omega)
  simp only [List.toList_toArray, U.raw_of_rep] at hp2
  have HP := Lib.hid hp2
  clear hp2
  gi_wp2_with (refine ⟨trivial, ?_⟩; gi_at_call 6; refine (callsIn_wide.2 (HP.out _)).mono ?_)
  rintro e w3 ⟨v, rfl, hown, b3⟩
  have z3 := b3.size
  obtain ⟨ao, cap, rfl, hrow⟩ := row_form hown
  have HR := Lib.hid hrow
  clear hrow hown HP
  have hpl := U.pts_length s.data.toList
  rw [U.list_size] at hpl
  generalize hN : (U.pts s.data.toList).length = N at *
  have HN := Lib.hid hN
  clear hN
  have hdec : decide ((2000 : Int) < (s.size : Int)) = false := by simp; omega
  gi_wp2_with (refine ⟨trivial, ?_⟩; gi_at_call 8; refine (Points_in _ _ _).mono ?_; rintro e w' ⟨rfl, rfl⟩)
  clear hdec
  obtain ⟨W4, hW4⟩ : ∃ W4, ((w3.alloc (.cells #[.slice ao N cap] 23)).alloc (.cells #[.int .i64 0] 3)).alloc (.cells #[.string s] 9) = W4 := ⟨_, rfl⟩
  have hz4 : W4.heap.size = w3.heap.size + 3 := by rw [← hW4]; simp
  have hcl : W4.cell? ⟨w3.heap.size, 0, none⟩ = some (.slice ao N cap) := by rw [← hW4]; simp [go_sem]
  have hcn : W4.cell? ⟨w3.heap.size + 1, 0, none⟩ = some (.int .i64 0) := by rw [← hW4]; simp [go_sem]
  have hfn : W4.frozen? ⟨w3.heap.size + 1, 0, none⟩ = false := by rw [← hW4]; simp [go_sem]
  have hcs : W4.cell? ⟨w3.heap.size + 2, 0, none⟩ = some (.string s) := by rw [← hW4]; simp [go_sem]
  have hb4 : Below w3.heap.size w3 W4 := by rw [← hW4]; exact (((Below.refl _ w3).alloc (Nat.le_refl _) _).alloc (by simp) _).alloc (by simp; omega) _
  rw [hW4]
  refine wpIn_rangeFunc_ownG (α := Nat) rfl (by omega) (gf := 17) (lb := #[.pointer (some ⟨w3.heap.size + 1 + 1, 0, none⟩)]) rfl trivial (enters_of Try.func17 (by kernel_rfl) rfl)
    (points_stops _ (by omega) (w3.heap.size + 1 + 1) s (by omega) W4 (by omega) hcs) walksK_t walksK_b (Below.refl _ _) (fun _ => rfl)
    (fun pre W => (W.cell? ⟨w3.heap.size + 1, 0, none⟩ = some (.int .i64 (pre.length : Nat)) ∧ W.frozen? ⟨w3.heap.size + 1, 0, none⟩ = false) ∧ Below (w3.heap.size + 1) W4 W)
    (fun c pre W => c = .ret ∧ ∃ ini x, pre = ini ++ [x] ∧ x ≠ ini.length)
    (OwnFrom.and (Own.from (fun s A B row hs hg hr => ⟨cell_kept hs.1 hg hr, (frozen_kept hs.1 hg hr).trans hs.2⟩) _) (ownFrom_below (by omega) (by omega)))
    (fun c => ownFrom_pure _ _)
    ⟨⟨hcn, hfn⟩, Below.refl _ _⟩ (a₁ := ?a1) ?assign ?body ?done ?stop
  case assign =>
    intro l x W K hK
    unfold enc2
    gi_wp2
    exact hK
  case body =>
    rintro l pre x W ⟨⟨hc, hf⟩, hB⟩ hlt
    rw [HN.out] at hlt
    have hcl' := (hB.cell (p := ⟨w3.heap.size, 0, none⟩) (by simp)).trans hcl
    have hzW := hB.size
    by_cases hx : x = pre.length
    · subst hx
      obtain ⟨g, rfl, hg, hcell⟩ := HR.out (by omega)
      have hcg := ((hB.cell (p := ⟨g, pre.length, none⟩) (by show g < _; omega)).trans (hb4.cell (p := ⟨g, pre.length, none⟩) hg)).trans (hcell pre.length (by omega))
      have hmem := chunks_le4 _ _ _ (mem_getD (U.pts s.data.toList) pre.length (by rw [HN.out]; exact hlt))
      have hC := code_lt ((U.pts s.data.toList).getD pre.length [])
      have hcode := fun W => refCode' _ hmem W
      unfold cp
      generalize (U.pts s.data.toList).getD pre.length [] = q at *
      generalize U.code q = C at *
      have HC := Lib.hid hcode
      clear hcode hcell hmem
      gi_wp2_with (refine ⟨trivial, ?_⟩; gi_at_call 9; refine (CallsIn.inRound l (callsIn_wide.2 (HC.out _))).mono ?_)
      rintro e W2 ⟨rfl, bW⟩
      have hc2 := (bW.cell (p := ⟨w3.heap.size + 1, 0, none⟩) (by show w3.heap.size + 1 < _; omega)).trans hc
      have hf2 := (bW.frozen (p := ⟨w3.heap.size + 1, 0, none⟩) (by show w3.heap.size + 1 < _; omega)).trans hf
      gi_wp2
      refine ⟨((keepsOthers_below bW).trans (KeepsOthers.setCell _ _ _)).from _, (keepsWalks_below bW).trans (KeepsWalks.setCell _ _ _), ⟨?_, ?_⟩, ?_⟩
      · rw [World.cell?_setCell_same' _ _ _ (by rw [hc2]; rfl)]
        simp
      · rw [World.frozen?_setCell]; exact hf2
      · exact (hB.trans (bW.mono (by omega))).setCell (p := ⟨w3.heap.size + 1, 0, none⟩) (Nat.le_refl _) _
    · have hne : ((x : Int) != (pre.length : Int)) = true := by rw [bne_iff_ne]; omega
      have hcr : ∃ u, W.cell? ⟨w.heap.size, 0, none⟩ = some u := by
        have h1 := (hB.cell (p := ⟨w.heap.size, 0, none⟩) (by show w.heap.size < _; omega)).trans ((hb4.cell (p := ⟨w.heap.size, 0, none⟩) (by show w.heap.size < _; omega)).trans ((b3.cell (p := ⟨w.heap.size, 0, none⟩) (by show w.heap.size < _; omega)).trans ((b2.cell (p := ⟨w.heap.size, 0, none⟩) (by show w.heap.size < _; omega)).trans (b1.cell (p := ⟨w.heap.size, 0, none⟩) (by simp)))))
        rw [h1]
        exact ⟨.bool false, by simp⟩
      have hfr : W.frozen? ⟨w.heap.size, 0, none⟩ = false := by
        have h1 := (hB.frozen (p := ⟨w.heap.size, 0, none⟩) (by show w.heap.size < _; omega)).trans ((hb4.frozen (p := ⟨w.heap.size, 0, none⟩) (by show w.heap.size < _; omega)).trans ((b3.frozen (p := ⟨w.heap.size, 0, none⟩) (by show w.heap.size < _; omega)).trans ((b2.frozen (p := ⟨w.heap.size, 0, none⟩) (by show w.heap.size < _; omega)).trans (b1.frozen (p := ⟨w.heap.size, 0, none⟩) (by simp)))))
        rw [h1]; simp
      obtain ⟨u, hcr⟩ := hcr
      clear hcl'
      gi_wp2
      refine ⟨trivial, ?_⟩
      gi_wp2
      exact ⟨(KeepsOthers.setCell _ _ _).from _, rfl, pre, x, rfl, hx⟩
  case done =>
    rintro D ys W hD rfl ⟨⟨hc, hf⟩, hB⟩ hK
    rw [List.length_range, HN.out] at hc
    have hcl' := (hB.cell (p := ⟨w3.heap.size, 0, none⟩) (by simp)).trans hcl
    have hzW := hB.size
    have hcr : W.cell? ⟨w.heap.size, 0, none⟩ = some (.bool false) := by
      have h1 := (hB.cell (p := ⟨w.heap.size, 0, none⟩) (by show w.heap.size < _; omega)).trans ((hb4.cell (p := ⟨w.heap.size, 0, none⟩) (by show w.heap.size < _; omega)).trans ((b3.cell (p := ⟨w.heap.size, 0, none⟩) (by show w.heap.size < _; omega)).trans ((b2.cell (p := ⟨w.heap.size, 0, none⟩) (by show w.heap.size < _; omega)).trans (b1.cell (p := ⟨w.heap.size, 0, none⟩) (by simp)))))
      rw [h1]; simp
    have hfr : W.frozen? ⟨w.heap.size, 0, none⟩ = false := by
      have h1 := (hB.frozen (p := ⟨w.heap.size, 0, none⟩) (by show w.heap.size < _; omega)).trans ((hb4.frozen (p := ⟨w.heap.size, 0, none⟩) (by show w.heap.size < _; omega)).trans ((b3.frozen (p := ⟨w.heap.size, 0, none⟩) (by show w.heap.size < _; omega)).trans ((b2.frozen (p := ⟨w.heap.size, 0, none⟩) (by show w.heap.size < _; omega)).trans (b1.frozen (p := ⟨w.heap.size, 0, none⟩) (by simp)))))
      rw [h1]; simp
    have hlen := fun W => Len s W (by omega)
    rw [HN.out] at hlen
    have HL := Lib.hid hlen
    clear hlen
    have hmx : Try.prog.follows .mixedOrders = true := by kernel_rfl
    gi_wp2
    refine wpIn_mono ?_ then_false
    refine wpIn_wide.2 ?_
    go_region_with (go_at_call 10; refine (HL.out _).mono ?_; rintro e w' ⟨rfl, bL⟩; have k1 := (bL.cell (p := ⟨w3.heap.size, 0, none⟩) (by show w3.heap.size < W.heap.size; omega)).trans hcl'; have k2 := (bL.cell (p := ⟨w3.heap.size + 1, 0, none⟩) (by show w3.heap.size + 1 < W.heap.size; omega)).trans hc; have k3 := (bL.cell (p := ⟨w.heap.size, 0, none⟩) (by show w.heap.size < W.heap.size; omega)).trans hcr; have k4 := (bL.frozen (p := ⟨w.heap.size, 0, none⟩) (by show w.heap.size < W.heap.size; omega)).trans hfr)
    all_goals
      have q0 := (keepsOthers_below bL).same D _ hK rfl
      have q1 := (KeepsOthers.setCell w' ⟨w.heap.size, 0, none⟩ (.bool true)).same D _ q0 rfl
      have q2 := cell_kept (World.cell?_setCell_same' w' ⟨w.heap.size, 0, none⟩ (.bool true) (by rw [k3]; rfl)) (grownBy_putObj' _ D (.deferred none)) (fun r e => by cases e; exact ⟨_, q1, rfl⟩)
      have q3 : Below w.heap.size w w' := (((((((Below.refl _ w).alloc (Nat.le_refl _) _).trans (b1.mono (by simp))).trans (b2.mono (by omega))).trans (b3.mono (by omega))).trans (hb4.mono (by omega))).trans (hB.mono (by omega))).drew.trans (bL.mono (by show w.heap.size ≤ W.heap.size; omega))
      gi_wp2
      refine ⟨by simp, .inl ⟨_, _, rfl, run_takeDeferred q1, ?_⟩⟩
      refine ⟨.bool true, ?_, rfl, (q3.setCell (p := ⟨w.heap.size, 0, none⟩) (Nat.le_refl _) _).trans (belowK_b (w := w) (Nat.le_refl _) _ D _ _ (by omega) q1 rfl rfl)⟩
      simp [results, Try.f3, go_sem, q2]
  case stop =>
    rintro D c pre W hD ⟨k, hk, rfl⟩ ⟨rfl, ini, x, e1, e2⟩ hK
    exfalso
    have hl := congrArg List.length e1
    simp at hl
    have h2 : (List.range k)[ini.length]? = some x := by rw [e1]; simp
    rw [List.getElem?_range (by omega)] at h2
    exact e2 (Option.some.inj h2).symm

set_option maxRecDepth 100000 in
set_option maxHeartbeats 1000000 in
theorem TextPoints (s : ByteArray) (w : World) (hs0 : s.size ≤ maxLen) :
    Calls Try.prog 3 #[.string s] w fun e w' => e = .returned (.bool true) ∧ Below w.heap.size w w' := by
  unfold maxLen at hs0
  by_cases h2 : s.size ≤ 2000
  · exact TextPoints_small s w h2
  · have h2' : 2000 < s.size := by omega
    clear h2
    go_enter Try.func3, Try.ntmps3
    go_wp2_with (go_at_call 5; refine (awake _).mono ?_)
    rintro e w1 ⟨rfl, b1⟩
    go_wp2_with (go_at_call 5; refine (awake _).mono ?_)
    rintro e w2 ⟨rfl, b2⟩
    have z1 := b1.size
    simp only [World.size_alloc] at z1
    have c2 : w2.cell? ⟨w.heap.size, 0, none⟩ = some (.bool false) := by
      rw [b2.cell (p := ⟨w.heap.size, 0, none⟩) (by show w.heap.size < _; omega), b1.cell (p := ⟨w.heap.size, 0, none⟩) (by simp)]; simp
    have f2 : w2.frozen? ⟨w.heap.size, 0, none⟩ = false := by
      rw [b2.frozen (p := ⟨w.heap.size, 0, none⟩) (by show w.heap.size < _; omega), b1.frozen (p := ⟨w.heap.size, 0, none⟩) (by simp)]; simp
    have c3 := World.cell?_setCell_same' w2 ⟨w.heap.size, 0, none⟩ (.bool true) (by rw [c2]; rfl)
    go_wp2_with fail
    refine bodyPost_ret (v := .bool true) (by simp [results, Try.f3, go_sem, c3]) rfl ⟨rfl, ?_⟩
    exact (((Below.refl _ w).alloc (Nat.le_refl _) _).trans ((b1.mono (by simp)).trans (b2.mono (by omega)))).setCell (p := ⟨w.heap.size, 0, none⟩) (Nat.le_refl _) _

end T
end Go.Proofs.Ytlklkbhopdneaaa

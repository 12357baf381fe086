/- What the check of UTF-8 and the search for a long selector come to; lists of selectors, plain. -/
import Derived.Test.YtnmcgmbhkmfiaaaGreatDoorSel17
import Derived.Test.YtnmcgmbhkmfiaaaGreatDoorValid
set_option linter.unusedVariables false
set_option linter.unusedSimpArgs false
namespace Go.Proofs.YtnmcgmbhkmfiaaaGreatDoor
namespace L

theorem list_fall {n : Nat} {s : List UInt8} (h : selector (space s) = none) : list (n + 1) s = none := by unfold list; rw [h]
theorem list_end {n : Nat} {s u : List UInt8} {x : List Part} (h : selector (space s) = some (x, u)) (hu : space u = []) : list (n + 1) s = some [x] := by
  unfold list; rw [h]; dsimp only; rw [hu]
theorem list_more {n : Nat} {s u r : List UInt8} {x : List Part} (h : selector (space s) = some (x, u)) (hu : space u = 44 :: r) : list (n + 1) s = (list n r).map (fun l => x :: l) := by
  conv => lhs; unfold list
  rw [h]; dsimp only; rw [hu]; dsimp only
  rw [if_pos (by decide)]
  cases list n r <;> rfl
theorem list_other {n : Nat} {s u r : List UInt8} {x : List Part} {c : UInt8} (h : selector (space s) = some (x, u)) (hu : space u = c :: r) (hc : c ≠ 44) : list (n + 1) s = none := by
  unfold list; rw [h]; dsimp only; rw [hu]; dsimp only
  rw [if_neg (by simpa using hc)]

/-- What has been read of the list, and what is to come. -/
def LInv (s : List UInt8) (j : Nat) (more bad : Bool) (done : List (List Part)) (full : Option (List (List Part))) : Prop :=
  (bad = true ∧ full = none) ∨
  (more = true ∧ bad = false ∧ ∃ n, s.length - j < n ∧ full = (list n (s.drop j)).map (fun l => done ++ l)) ∨
  (more = false ∧ bad = false ∧ ((j = s.length ∧ full = some done) ∨ (j < s.length ∧ full = none)))

/-- What the text comes to, as it is valid or not. -/
def read (s : List UInt8) : Option (List (List Part)) := if U.rep s = s then parse s else none

theorem LInv.start {s : List UInt8} : LInv s 0 true (!decide (U.rep s = s)) [] (read s) := by
  unfold read
  by_cases h : U.rep s = s
  · rw [if_pos h, decide_eq_true h]
    refine Or.inr (Or.inl ⟨rfl, rfl, s.length + 1, by omega, ?_⟩)
    show parse s = _
    unfold parse
    rw [List.drop_zero]
    cases list (s.length + 1) s <;> simp
  · rw [if_neg h, decide_eq_false h]
    exact Or.inl ⟨rfl, rfl⟩

theorem LInv.round {s : List UInt8} {j j1 j2 j3 j4 : Nat} {bad2 more' : Bool} {done : List (List Part)} {x : List Part} {full : Option (List (List Part))}
    (h : LInv s j true false done full) (h1 : s.drop j1 = space (s.drop j)) (hs : K.Got bad2 (selector (s.drop j1)) (x, s.drop j2)) (h3 : s.drop j3 = space (s.drop j2)) (hj : j ≤ j3) (hl3 : j3 ≤ s.length)
    (ht : (more' = true ∧ j4 = j3 + 1 ∧ bad2 = false ∧ ([44] : List UInt8).isPrefixOf (s.drop j3) = true) ∨ (more' = false ∧ j4 = j3 ∧ (bad2 = true ∨ ([44] : List UInt8).isPrefixOf (s.drop j3) = false))) :
    LInv s j4 more' bad2 (done ++ [x]) full := by
  rcases h with ⟨h, _⟩ | ⟨_, _, n, hn, hf⟩ | ⟨h, _⟩
  · cases h
  · obtain ⟨m, rfl⟩ : ∃ m, n = m + 1 := ⟨n - 1, by omega⟩
    rcases hs with ⟨rfl, hs⟩ | ⟨rfl, hs⟩
    · left
      refine ⟨rfl, ?_⟩
      rw [hf, list_fall (by rw [← h1]; exact hs)]; rfl
    · right
      rw [h1] at hs
      rcases ht with ⟨rfl, rfl, _, hp⟩ | ⟨rfl, rfl, hp⟩
      · obtain ⟨r, hr⟩ := K.prefix_one hp
        left
        refine ⟨rfl, rfl, m, ?_, ?_⟩
        · have := H.lt_drop hr; omega
        · rw [hf, list_more hs (by rw [← h3]; exact hr), H.drop_more hr]
          cases list m r <;> simp
      · right
        refine ⟨rfl, rfl, ?_⟩
        have hp : ([44] : List UInt8).isPrefixOf (s.drop j4) = false := hp.elim (fun h => (by cases h)) id
        cases hd : s.drop j4 with
        | nil =>
          left
          refine ⟨H.drop_past hd hl3, ?_⟩
          rw [hf, list_end hs (by rw [← h3]; exact hd)]; rfl
        | cons c r =>
          right
          refine ⟨H.lt_drop hd, ?_⟩
          have hc : c ≠ 44 := by
            rintro rfl
            rw [hd] at hp
            simp [List.isPrefixOf] at hp
          rw [hf, list_other hs (by rw [← h3]; exact hd) hc]; rfl
  · cases h
end L
open Go.RowKit
namespace K
open H

/-- What Parse asks of the world. -/
structure PEnv (w : World) : Prop where
  env : Env w
  utf : Lib.Utf8Tabs 0 1 w
  big : top ≤ w.heap.size

theorem PEnv.below {w w' : World} (h : PEnv w) (b : Below w.heap.size w w') : PEnv w' := by
  have hz := h.big
  have hz' := hz
  unfold top at hz'
  refine ⟨h.env.but (b := w.heap.size) ⟨b.os, b.tape, b.output, b.size, fun k hk _ => b.block k hk⟩ hz, ⟨fun c hc => ?_, fun i hi => ⟨?_, ?_⟩⟩, Nat.le_trans hz b.size⟩
  · rw [b.cell (p := ⟨0, c, none⟩) (by show (0 : Nat) < _; omega)]; exact h.utf.1 c hc
  · rw [b.cell (p := ⟨1, 2 * i, none⟩) (by show (1 : Nat) < _; omega)]; exact (h.utf.2 i hi).1
  · rw [b.cell (p := ⟨1, 2 * i + 1, none⟩) (by show (1 : Nat) < _; omega)]; exact (h.utf.2 i hi).2

theorem validString (s : List UInt8) (w : World) (hs : s.length ≤ 1000000) (hT : PEnv w) :
    Calls Tryz.prog 26 #[.string ⟨s.toArray⟩] w fun e w' => e = .returned (.bool (decide (U.rep s = s))) ∧ Below w.heap.size w w' := by
  have := Any.utf8_ValidString Tryz.lays196 ⟨s.toArray⟩ w (by rw [bytes_size]; omega) hT.utf
  rw [U.valid_eq, bytes_toList] at this
  exact this

set_option maxHeartbeats 400000 in
theorem valid (s : List UInt8) (w : World) (hs : s.length ≤ 1000000) (hT : PEnv w) :
    Calls Tryz.prog 11 #[.string ⟨s.toArray⟩] w fun e w' => e = .returned (.bool (decide (U.rep s = s))) ∧ Below w.heap.size w w' := by
  have hv := Lib.hid (validString s w hs hT)
  clear hT
  go_enter Tryz.func11, Tryz.ntmps11
  go_wp2_with (go_at_call 26; refine hv.out.mono ?_)
  rintro e w' ⟨rfl, hb⟩
  go_wp2
  go_ret
  exact ⟨rfl, hb⟩

set_option maxHeartbeats 400000 in
theorem long (v : Value) (ps : List L.Part) (w : World) (S : Nat → Prop) (hv : PartsAt S w v ps) :
    Calls Tryz.prog 16 #[.agg #[v]] w fun e w' => e = .returned (.bool (decide (128 < ps.length))) ∧ Below w.heap.size w w' := by
  obtain ⟨ao, cap, rfl⟩ := hv.form
  clear hv
  go_enter Tryz.func16, Tryz.ntmps16
  go_wp2_with fail
  go_ret
  refine ⟨ret_bool ?_, (Below.refl _ _).alloc (Nat.le_refl _) _⟩
  rw [Bool.eq_iff_iff]
  simp
  omega

/-- The value of the function that is handed on. -/
def longV : Value := .func (.func 16) #[] #[]

set_option maxHeartbeats 2000000 in
set_option maxRecDepth 100000 in
theorem indexLong (v : Value) (l : List (List L.Part)) (w : World) (S : Nat → Prop) (hv : SelsAt S w v l) (hl : l.length ≤ 1000000) :
    Calls Tryz.prog 32 #[v, longV] w fun e w' => ∃ z : Int, e = .returned (.int .i64 z) ∧ (0 ≤ z ↔ l.any (fun x => decide (128 < x.length)) = true) ∧ Below w.heap.size w w' := by
  have HV := Lib.hid hv
  obtain ⟨ao, cap, rfl⟩ := hv.form
  clear hv
  unfold longV
  generalize hN : l.length = N at hl ⊢
  have HN := Lib.hid hN
  clear hN
  go_enter Tryz.func32, Tryz.ntmps32
  go_wp2_with fail
  have H0 : Hid ((l.take 0).any (fun x => decide (128 < x.length)) = false) := Lib.hid rfl
  go_loopw [8] (fun ix wr => ∃ k : Nat, ix = .int .i64 k ∧ k ≤ N ∧ Hid (Below w.heap.size w wr) ∧ Hid ((l.take k).any (fun x => decide (128 < x.length)) = false)) (fun ix _ => N - (intOf ix).toNat)
  case atStart => exact ⟨0, rfl, by omega, Lib.hid (Below.refl _ _), H0⟩
  case round =>
    obtain ⟨k, rfl, hk, HB, HA⟩ := hrel
    clear H0
    by_cases hkN : k < N
    · have hkl : k < l.length := by rw [HN.out]; exact hkN
      have hkI : (k : Int) < (N : Int) := by omega
      have hsl := keeps_sels HV.out (Kept.below HB.out)
      cases ao with
      | none => exact absurd (ListAt.none_ hsl) (by intro h; rw [h] at hkl; simp at hkl)
      | some a =>
        obtain ⟨g, hg⟩ : ∃ g, a = ⟨g, 0, none⟩ := by
          obtain ⟨ps, h1, h2, h3⟩ := hsl
          rcases h2 with ⟨hv, hn⟩ | ⟨g, cap', hv, _⟩
          · cases hv
          · simp only [Value.slice.injEq, Option.some.injEq] at hv
            exact ⟨g, hv.1⟩
        subst hg
        obtain ⟨hlt, _, _, vk, hc, hp⟩ := ListAt.at_ cSel_len hsl hkl
        have c0 := hc 0 (by omega)
        simp only [Nat.mul_one, Nat.add_zero] at c0
        have c1 : wr.cell? ⟨g, k, none⟩ = some vk := c0
        obtain ⟨ak, ck, hvk⟩ := hp.form
        have hstep : (l.take (k + 1)).any (fun x => decide (128 < x.length)) = decide (128 < l[k].length) := by
          rw [List.take_succ_eq_append_getElem hkl, List.any_append, HA.out]; simp
        have hany : decide (128 < l[k].length) = true → l.any (fun x => decide (128 < x.length)) = true := fun h => List.any_eq_true.2 ⟨l[k], List.getElem_mem _, h⟩
        clear hc c0
        generalize l[k] = lk at hp hstep hany hvk
        have Q := Lib.hid (fun W (h : PartsAt S W vk lk) => long vk lk W S h)
        have HP := Lib.hid hp
        have HStep := Lib.hid hstep
        have HAny := Lib.hid hany
        generalize lk.length = M at *
        clear hp hsl hstep hany hkl
        subst hvk
        go_wp2_with fail
        refine (Q.out _ HP.out).mono ?_
        rintro e w2 ⟨rfl, hb2⟩
        have HB2 : Hid (Below w.heap.size w w2) := Lib.hid (HB.out.trans (hb2.mono HB.out.size))
        clear hb2
        cases hM : decide (128 < M) with
        | true =>
          have HA2 := Lib.hid (HAny.out hM)
          clear HStep HAny
          go_wp2_with fail
          go_ret
          exact ⟨_, rfl, ⟨fun _ => HA2.out, fun _ => by omega⟩, HB2.out⟩
        | false =>
          have HA2 : Hid ((l.take (k + 1)).any (fun x => decide (128 < x.length)) = false) := Lib.hid (by rw [HStep.out, hM])
          clear HStep HAny
          go_wp2_with fail
          go_roundw
          case rel => exact ⟨k + 1, by go_num, by omega, HB2, HA2⟩
          case measure => simp [intOf]; omega
    · obtain rfl : k = N := by omega
      have HA2 : Hid (¬ l.any (fun x => decide (128 < x.length)) = true) := Lib.hid (by
        have h := HA.out
        rw [← HN.out, List.take_length] at h
        rw [h]; simp)
      clear HA
      go_wp2_with fail
      go_ret
      exact ⟨_, rfl, ⟨fun h => (by omega), fun h => absurd h HA2.out⟩, HB.out⟩

set_option maxHeartbeats 2000000 in
theorem anyLong (v : Value) (l : List (List L.Part)) (w : World) (S : Nat → Prop) (hv : SelsAt S w v l) (hl : l.length ≤ 1000000) :
    Calls Tryz.prog 15 #[v, longV] w fun e w' => e = .returned (.bool (l.any (fun x => decide (128 < x.length)))) ∧ Below w.heap.size w w' := by
  have Q := Lib.hid (indexLong v l w S hv hl)
  clear hv
  unfold longV at *
  go_enter Tryz.func15, Tryz.ntmps15
  go_wp2_with fail
  refine Q.out.mono ?_
  rintro e w2 ⟨z, rfl, hz, hb⟩
  have HZ := Lib.hid hz
  clear hz
  go_wp2_with fail
  go_ret
  refine ⟨ret_bool ?_, hb⟩
  rw [Bool.eq_iff_iff]
  simp only [decide_eq_true_eq]
  exact HZ.out

end K
end Go.Proofs.YtnmcgmbhkmfiaaaGreatDoor

/- What the check of UTF-8 and the search for a long selector come to; lists of selectors, plain. Rules in memory: selectors, declarations, a number. Where style.Parse stands in its loop. Parse. -/
import Derived.Test.YtafkeolpadfjfaaGreatDoorSel17
import Derived.Test.YtafkeolpadfjfaaGreatDoorJoin
import Derived.Test.YtafkeolpadfjfaaGreatDoorSel14
import Derived.Test.YtafkeolpadfjfaaGreatDoorSty10
import Derived.Test.YtafkeolpadfjfaaGreatDoorSh1
import Derived.Test.YtafkeolpadfjfaaGreatDoorOwn
import Derived.Test.YtafkeolpadfjfaaGreatDoorSty21
set_option linter.unusedVariables false
set_option linter.unusedSimpArgs false
namespace Go.Proofs.YtafkeolpadfjfaaGreatDoor
namespace L
theorem list_fall {n : Nat} {s : List UInt8} (h : selector (space s) = none) : list (n + 1) s = none := by unfold list; rw [h]
theorem list_end {n : Nat} {s u : List UInt8} {x : List Part} (h : selector (space s) = some (x, u)) (hu : space u = []) : list (n + 1) s = some [x] := by
 unfold list; rw [h]; dsimp only; rw [hu]
theorem list_more {n : Nat} {s u r : List UInt8} {x : List Part} (h : selector (space s) = some (x, u)) (hu : space u = 44 :: r) : list (n + 1) s = (list n r).map (fun l => x :: l) := by
 conv => lhs; unfold list
 rw [h]; dsimp only; rw [hu]; dsimp only
 rw [if_pos (by decide)]
 cases list n r <;> rfl
theorem list_other {n : Nat} {s u r : List UInt8} {x : List Part} {c : UInt8} (h : selector (space s) = some (x, u)) (hu : space u = c :: r) (hc : c ≠ 44) : list (n + 1) s = none := by
 unfold list; rw [h]; dsimp only; rw [hu]; dsimp only
 rw [if_neg (by simpa using hc)]
/-- What has been read of the list, and what is to come. -/
def LInv (s : List UInt8) (j : Nat) (more bad : Bool) (done : List (List Part)) (full : Option (List (List Part))) : Prop :=
 (bad = true ∧ full = none) ∨
 (more = true ∧ bad = false ∧ ∃ n, s.length - j < n ∧ full = (list n (s.drop j)).map (fun l => done ++ l)) ∨
 (more = false ∧ bad = false ∧ ((j = s.length ∧ full = some done) ∨ (j < s.length ∧ full = none)))
/-- What the text comes to, as it is valid or not. -/
def read (s : List UInt8) : Option (List (List Part)) := if U.rep s = s then parse s else none
theorem LInv.start {s : List UInt8} : LInv s 0 true (!decide (U.rep s = s)) [] (read s) := by
 unfold read
 by_cases h : U.rep s = s
 ·rw [if_pos h, decide_eq_true h]
  refine Or.inr (Or.inl ⟨rfl, rfl, s.length + 1, by omega, ?_⟩)
  show parse s = _
  unfold parse
  rw [List.drop_zero]
  cases list (s.length + 1) s <;> simp
 ·rw [if_neg h, decide_eq_false h]
  exact Or.inl ⟨rfl, rfl⟩
theorem LInv.round {s : List UInt8} {j j1 j2 j3 j4 : Nat} {bad2 more' : Bool} {done : List (List Part)} {x : List Part} {full : Option (List (List Part))}
  (h : LInv s j true false done full) (h1 : s.drop j1 = space (s.drop j)) (hs : K.Got bad2 (selector (s.drop j1)) (x, s.drop j2)) (h3 : s.drop j3 = space (s.drop j2)) (hj : j ≤ j3) (hl3 : j3 ≤ s.length)
  (ht : (more' = true ∧ j4 = j3 + 1 ∧ bad2 = false ∧ ([44] : List UInt8).isPrefixOf (s.drop j3) = true) ∨ (more' = false ∧ j4 = j3 ∧ (bad2 = true ∨ ([44] : List UInt8).isPrefixOf (s.drop j3) = false))) :
  LInv s j4 more' bad2 (done ++ [x]) full := by
 rcases h with ⟨h, _⟩ | ⟨_, _, n, hn, hf⟩ | ⟨h, _⟩
 ·cases h
 ·obtain ⟨m, rfl⟩ : ∃ m, n = m + 1 := ⟨n - 1, by omega⟩
  rcases hs with ⟨rfl, hs⟩ | ⟨rfl, hs⟩
  ·left
   refine ⟨rfl, ?_⟩
   rw [hf, list_fall (by rw [← h1]; exact hs)]; rfl
  ·right
   rw [h1] at hs
   rcases ht with ⟨rfl, rfl, _, hp⟩ | ⟨rfl, rfl, hp⟩
   ·obtain ⟨r, hr⟩ := K.prefix_one hp
    left
    refine ⟨rfl, rfl, m, ?_, ?_⟩
    ·have := H.lt_drop hr; omega
    ·rw [hf, list_more hs (by rw [← h3]; exact hr), H.drop_more hr]
     cases list m r <;> simp
   ·right
    refine ⟨rfl, rfl, ?_⟩
    have hp : ([44] : List UInt8).isPrefixOf (s.drop j4) = false := hp.elim (fun h => (by cases h)) id
    cases hd : s.drop j4 with
    | nil =>
     left
     refine ⟨H.drop_past hd hl3, ?_⟩
     rw [hf, list_end hs (by rw [← h3]; exact hd)]; rfl
    | cons c r =>
     right
     refine ⟨H.lt_drop hd, ?_⟩
     have hc : c ≠ 44 := by
      rintro rfl
      rw [hd] at hp
      simp [List.isPrefixOf] at hp
     rw [hf, list_other hs (by rw [← h3]; exact hd) hc]; rfl
 ·cases h
end L
open Go.RowKit
namespace K
open H
set_option maxHeartbeats 400000 in
theorem long (v : Value) (ps : List L.Part) (w : World) (S : Nat → Prop) (hv : PartsAt S w v ps) :
  Calls Tryz.prog 91 #[.agg #[v]] w fun e w' => e = .returned (.bool (decide (128 < ps.length))) ∧ Below w.heap.size w w' := by
 obtain ⟨ao, cap, rfl⟩ := hv.form
 clear hv
 go_enter Tryz.func91, Tryz.ntmps91
 go_wp2_with fail
 go_ret
 refine ⟨ret_bool ?_, (Below.refl _ _).alloc (Nat.le_refl _) _⟩
 rw [Bool.eq_iff_iff]
 simp
 omega
/-- The value of the function that is handed on. -/
def longV : Value := .func (.func 91) #[] #[]
set_option maxHeartbeats 2000000 in
set_option maxRecDepth 100000 in
theorem indexLong (v : Value) (l : List (List L.Part)) (w : World) (S : Nat → Prop) (hv : SelsAt S w v l) (hl : l.length ≤ 1000000) :
  Calls Tryz.prog 130 #[v, longV] w fun e w' => ∃ z : Int, e = .returned (.int .i64 z) ∧ (0 ≤ z ↔ l.any (fun x => decide (128 < x.length)) = true) ∧ Below w.heap.size w w' := by
 have HV := Lib.hid hv
 obtain ⟨ao, cap, rfl⟩ := hv.form
 clear hv
 unfold longV
 generalize hN : l.length = N at hl ⊢
 have HN := Lib.hid hN
 clear hN
 go_enter Tryz.func130, Tryz.ntmps130
 go_wp2_with fail
 have H0 : Hid ((l.take 0).any (fun x => decide (128 < x.length)) = false) := Lib.hid rfl
 go_loopw [8] (fun ix wr => ∃ k : Nat, ix = .int .i64 k ∧ k ≤ N ∧ Hid (Below w.heap.size w wr) ∧ Hid ((l.take k).any (fun x => decide (128 < x.length)) = false)) (fun ix _ => N - (intOf ix).toNat)
 case atStart => exact ⟨0, rfl, by omega, Lib.hid (Below.refl _ _), H0⟩
 case round =>
  obtain ⟨k, rfl, hk, HB, HA⟩ := hrel
  clear H0
  by_cases hkN : k < N
  ·have hkl : k < l.length := by rw [HN.out]; exact hkN
   have hkI : (k : Int) < (N : Int) := by omega
   have hsl := keeps_sels HV.out (Kept.below HB.out)
   cases ao with
   | none => exact absurd (ListAt.none_ hsl) (by intro h; rw [h] at hkl; simp at hkl)
   | some a =>
    obtain ⟨g, hg⟩ : ∃ g, a = ⟨g, 0, none⟩ := by
     obtain ⟨ps, h1, h2, h3⟩ := hsl
     rcases h2 with ⟨hv, hn⟩ | ⟨g, cap', hv, _⟩
     ·cases hv
     ·simp only [Value.slice.injEq, Option.some.injEq] at hv
      exact ⟨g, hv.1⟩
    subst hg
    obtain ⟨hlt, _, _, vk, hc, hp⟩ := ListAt.at_ cSel_len hsl hkl
    have c0 := hc 0 (by omega)
    simp only [Nat.mul_one, Nat.add_zero] at c0
    have c1 : wr.cell? ⟨g, k, none⟩ = some vk := c0
    obtain ⟨ak, ck, hvk⟩ := hp.form
    have hstep : (l.take (k + 1)).any (fun x => decide (128 < x.length)) = decide (128 < l[k].length) := by
     rw [List.take_succ_eq_append_getElem hkl, List.any_append, HA.out]; simp
    have hany : decide (128 < l[k].length) = true → l.any (fun x => decide (128 < x.length)) = true := fun h => List.any_eq_true.2 ⟨l[k], List.getElem_mem _, h⟩
    clear hc c0
    generalize l[k] = lk at hp hstep hany hvk
    have Q := Lib.hid (fun W (h : PartsAt S W vk lk) => long vk lk W S h)
    have HP := Lib.hid hp
    have HStep := Lib.hid hstep
    have HAny := Lib.hid hany
    generalize lk.length = M at *
    clear hp hsl hstep hany hkl
    subst hvk
    go_wp2_with fail
    refine (Q.out _ HP.out).mono ?_
    rintro e w2 ⟨rfl, hb2⟩
    have HB2 : Hid (Below w.heap.size w w2) := Lib.hid (HB.out.trans (hb2.mono HB.out.size))
    clear hb2
    cases hM : decide (128 < M) with
    | true =>
     have HA2 := Lib.hid (HAny.out hM)
     clear HStep HAny
     go_wp2_with fail
     go_ret
     exact ⟨_, rfl, ⟨fun _ => HA2.out, fun _ => by omega⟩, HB2.out⟩
    | false =>
     have HA2 : Hid ((l.take (k + 1)).any (fun x => decide (128 < x.length)) = false) := Lib.hid (by rw [HStep.out, hM])
     clear HStep HAny
     go_wp2_with fail
     go_roundw
     case rel => exact ⟨k + 1, by go_num, by omega, HB2, HA2⟩
     case measure => simp [intOf]; omega
  ·obtain rfl : k = N := by omega
   have HA2 : Hid (¬ l.any (fun x => decide (128 < x.length)) = true) := Lib.hid (by
    have h := HA.out
    rw [← HN.out, List.take_length] at h
    rw [h]; simp)
   clear HA
   go_wp2_with fail
   go_ret
   exact ⟨_, rfl, ⟨fun h => (by omega), fun h => absurd h HA2.out⟩, HB.out⟩
set_option maxHeartbeats 2000000 in
theorem anyLong (v : Value) (l : List (List L.Part)) (w : World) (S : Nat → Prop) (hv : SelsAt S w v l) (hl : l.length ≤ 1000000) :
  Calls Tryz.prog 90 #[v, longV] w fun e w' => e = .returned (.bool (l.any (fun x => decide (128 < x.length)))) ∧ Below w.heap.size w w' := by
 have Q := Lib.hid (indexLong v l w S hv hl)
 clear hv
 unfold longV at *
 go_enter Tryz.func90, Tryz.ntmps90
 go_wp2_with fail
 refine Q.out.mono ?_
 rintro e w2 ⟨z, rfl, hz, hb⟩
 have HZ := Lib.hid hz
 clear hz
 go_wp2_with fail
 go_ret
 refine ⟨ret_bool ?_, hb⟩
 rw [Bool.eq_iff_iff]
 simp only [decide_eq_true_eq]
 exact HZ.out
end K
end Go.Proofs.YtafkeolpadfjfaaGreatDoor
namespace Go.Proofs.YtafkeolpadfjfaaGreatDoor
open Go.RowKit Go.Sort
namespace S
structure Rule where
 sels : List (List L.Part)
 decls : List Decl
/-- A list with a selector of more than 128 parts. -/
def long (l : List (List L.Part)) : Bool := l.any (fun x => decide (128 < x.length))
def ruleOf (p : List UInt8 × List UInt8) : Option Rule := match L.read p.1 with
 | none => none
 | some l => if long l then none else some ⟨l, decls p.2⟩
def rules (s : List UInt8) : List Rule := (raw s).filterMap ruleOf
/-- With their numbers. -/
def numbered (l : List Rule) : List (Rule × Nat) := l.zipIdx
theorem numbered_snoc (l : List Rule) (x : Rule) : numbered (l ++ [x]) = numbered l ++ [(x, l.length)] := by
 unfold numbered
 rw [List.zipIdx_append]
 simp
end S
namespace Y
open H K
def fstV (v : Value) : Value := match v with | .tuple a => a.getD 0 (.bool false) | _ => .bool false
def sndV (v : Value) : Value := match v with | .tuple a => a.getD 1 (.bool false) | _ => .bool false
def cRule (x : S.Rule × Nat) (v : Value) : List Value := [fstV v, sndV v, .int .i64 (x.2 : Nat)]
/-- A row that a call owned is kept where its block is kept. -/
theorem own_keepK {B B' : Nat → Prop} {w w' : World} {base : Nat} {e : TypeId} {size : Nat} {v : Value} {n : Nat} {xs : List Value} (h : w.ownsRow base e size v n xs) (hS : ∀ g, v.ownBlock = some g → B g) (k : Kept B B' w w') : w'.ownsRow base e size v n xs ∧ ∀ g, v.ownBlock = some g → B' g := by
 rcases h.2 with hn | ⟨g, cap, cur, rfl, hb, hgg, rest⟩
 ·exact ⟨⟨h.1, Or.inl hn⟩, fun g hg => by rw [hn.1] at hg; cases hg⟩
 ·have := k.2 g (hS g rfl) (lt_of_block hgg)
  exact ⟨⟨h.1, Or.inr ⟨g, cap, cur, rfl, hb, this.2.trans hgg, rest⟩⟩, fun g' hg' => by
   have he : g = g' := by simpa [Value.ownBlock] using hg'
   rw [← he]; exact this.1⟩
def DOwn (B : Nat → Prop) (w : World) (v : Value) (l : List S.Decl) : Prop := ∃ b, OwnD b w v l ∧ ∀ g, v.ownBlock = some g → B g
theorem keeps_down : Keeps DOwn := by
 rintro B B' w w' v l ⟨b, h, hS⟩ k
 obtain ⟨h1, h2⟩ := own_keepK h.1 hS k
 exact ⟨b, ⟨h1, h.2⟩, h2⟩
theorem DOwn.of {b : Nat} {w : World} {v : Value} {l : List S.Decl} (h : OwnD b w v l) : DOwn (b ≤ ·) w v l := ⟨b, h, fun g hg => (h.1.lt g hg).1⟩
def IRule (B : Nat → Prop) (w : World) (v : Value) (x : S.Rule × Nat) : Prop := SelsAt B w (fstV v) x.1.sels ∧ DOwn B w (sndV v) x.1.decls
theorem keeps_rule : Keeps IRule := fun h k => ⟨keeps_sels h.1 k, keeps_down h.2 k⟩
theorem cRule_len (x : S.Rule × Nat) (v : Value) : (cRule x v).length = 3 := rfl
def RulesAt (S_ : Nat → Prop) (w : World) (v : Value) (l : List S.Rule) : Prop := ListAt cRule IRule S_ w v (S.numbered l)
theorem keeps_rules : Keeps RulesAt := fun h k => ListAt.keep keeps_rule h k
theorem scan_meets (stops : List UInt8) : ∀ (t : List UInt8) (d : Nat) (q : UInt8) {c : UInt8} {r : List UInt8}, t.drop (S.scan stops d q t) = c :: r → c ∈ stops
 | [], d, q, c, r, h => by rw [List.drop_nil] at h; cases h
 | x :: t, d, q, c, r, h => by
  have ih := fun d q (h : t.drop (S.scan stops d q t) = c :: r) => scan_meets stops t d q h
  rw [S.scan] at h
  split at h
  ·rw [Nat.add_comm, List.drop_succ_cons] at h; exact ih _ _ h
  ·split at h
   ·rename_i hc
    rw [List.drop_zero] at h
    have hx : x = c := (List.cons.inj h).1
    rw [← hx]; exact hc.2
   ·split at h
    ·rw [Nat.add_comm, List.drop_succ_cons] at h; exact ih _ _ h
    ·split at h
     ·rw [Nat.add_comm, List.drop_succ_cons] at h; exact ih _ _ h
     ·split at h <;> (rw [Nat.add_comm, List.drop_succ_cons] at h; exact ih _ _ h)
/-- Nothing is met between two places. -/
theorem same_raw {s : List UInt8} {j j2 : Nat} {q acc : List S.Rule} (h : S.raw (s.drop j) = S.raw (s.drop j2)) (HQ : q = acc ++ S.rules (s.drop j)) (HM : ∀ p ∈ S.raw (s.drop j), p ∈ S.raw s) (hl : acc.length + (S.raw (s.drop j)).length ≤ 3900) :
  q = acc ++ S.rules (s.drop j2) ∧ (∀ p ∈ S.raw (s.drop j2), p ∈ S.raw s) ∧ acc.length + (S.raw (s.drop j2)).length ≤ 3900 := by
 have hr : S.rules (s.drop j) = S.rules (s.drop j2) := by unfold S.rules; rw [h]
 rw [← hr, ← h]
 exact ⟨HQ, HM, hl⟩
theorem infoRule : (Tryz.prog.info? 57).map (fun i => (i.zero, i.size, i.bytes)) = some (some (.agg #[.slice none 0 0, .slice none 0 0, .int .i64 0]), 3, 56) := by kernel_rfl
end Y
end Go.Proofs.YtafkeolpadfjfaaGreatDoor
namespace Go.Proofs.YtafkeolpadfjfaaGreatDoor
open Go.RowKit Go.Sort
namespace Y
open H K
structure PSt (r b c j : Nat) (s : List UInt8) (o : Int) (v : Value) (l : List S.Rule) (w W : World) : Prop where
 res : Blk r #[.int .i64 0, .slice none 0 0] 51 W
 out : Blk b #[.int .i64 o, v] 51 W
 sc : IsSc c s j W
 rb : r < b ∧ b < c
 below : Below r w W
 row : OwnIn cRule IRule (c + 1 ≤ ·) (c + 1) 57 3 W v (S.numbered l)
section
variable {r b c j : Nat} {s : List UInt8} {o : Int} {v : Value} {l : List S.Rule} {w W W' : World}
theorem PSt.lt (h : PSt r b c j s o v l w W) : c < W.heap.size := Blk.lt h.sc
theorem PSt.step (h : PSt r b c j s o v l w W) (k : Below W.heap.size W W') : PSt r b c j s o v l w W' :=
 ⟨h.res.below k, h.out.below k, Blk.below h.sc k, h.rb, h.below.trans (k.mono (by have := h.lt; have := h.rb; omega)), h.row.keep keeps_rule (Kept.below k)⟩
theorem PSt.scan (h : PSt r b c j s o v l w W) {j' : Nat} (hr : IsSc c s j' W') (hB : But c W W') : PSt r b c j' s o v l w W' :=
 ⟨h.res.but hB (by have := h.rb; omega), h.out.but hB (by have := h.rb; omega), hr, h.rb, h.below.trans ((hB.below h.lt).mono (by have := h.rb; omega)), h.row.keep keeps_rule ⟨hB.size, fun g hg hlt => ⟨hg, hB.block g hlt (by omega)⟩⟩⟩
theorem PSt.pass (h : PSt r b c j s o v l w W) {z : Int} (hz : z = ((j + 1 : Nat) : Int)) : PSt r b c (j + 1) s o v l w (W.setCell ⟨c, 1, none⟩ (.int .i64 z)) :=
 h.scan (sc_set h.sc hz) (But.set _ _ _)
theorem PSt.fresh (h : PSt r b c j s o v l w W) {g : Nat} (hg : W.heap.size ≤ g) : c + 1 ≤ g ∧ v.ownBlock ≠ some g := by
 have h1 := h.lt
 refine ⟨by omega, fun he => ?_⟩
 have := (h.row.lt he).2.2
 omega
theorem PSt.app (h : PSt r b c j s o v l w W) {ob : Obj} {w5 : World} {g cap : Nat} {x : S.Rule} {nv : Value} {ps : List ((S.Rule × Nat) × Value)}
  (hps : ps.map (·.1) = S.numbered l) (hI : ∀ q ∈ ps, IRule (fun k => c + 1 ≤ k ∧ v.ownBlock ≠ some k) W q.2 q.1)
  (hown : w5.ownsRow (c + 1) 57 3 (.slice (some ⟨g, 0, none⟩) (l.length + 1) cap) (l.length + 1) ((ps.flatMap fun p => cRule p.1 p.2) ++ cRule (x, l.length) nv))
  (hgrow : (W.alloc ob).grownBy w5 v.ownBlock) (hat : v.ownBlock = some g ∨ g = W.heap.size + 1) (hx : IRule (fun k => c + 1 ≤ k ∧ v.ownBlock ≠ some k) W nv (x, l.length)) :
  PSt r b c j s o (.slice (some ⟨g, 0, none⟩) (l.length + 1) cap) (l ++ [x]) w (w5.setCell ⟨b, 1, none⟩ (.slice (some ⟨g, 0, none⟩) (l.length + 1) cap)) := by
 have ka : ∀ {S : Nat → Prop}, Kept S S W (W.alloc ob) := fun {S} => (Kept.refl W).alloc ob
 have hv : ∀ k, v.ownBlock = some k → c + 1 ≤ k := fun k hk => (h.row.lt hk).1
 have hlc := h.lt
 obtain ⟨hrb, hbc⟩ := h.rb
 have hsz : (W.alloc ob).heap.size = W.heap.size + 1 := by simp
 have hnl : (S.numbered l).length = l.length := by unfold S.numbered; rw [List.length_zipIdx]
 have e1 : ∀ k, k < c + 1 → w5.heap[k]? = W.heap[k]? := fun k h2 =>
  (hgrow.block k (by rw [hsz]; omega) (fun he => by have := hv k he.symm; omega)).trans (Below.heap_alloc W ob k (by omega))
 have e2 : ∀ k, k ≠ b → (w5.setCell ⟨b, 1, none⟩ (.slice (some ⟨g, 0, none⟩) (l.length + 1) cap)).heap[k]? = w5.heap[k]? := fun k hk => Below.heap_setCell w5 ⟨b, 1, none⟩ _ k hk
 have hrow : OwnIn cRule IRule (c + 1 ≤ ·) (c + 1) 57 3 w5 (.slice (some ⟨g, 0, none⟩) ((S.numbered l).length + 1) cap) (S.numbered l ++ [(x, l.length)]) := by
  refine OwnIn.append (I := IRule) (c := cRule) (x := (x, l.length)) (vx := nv) keeps_rule (w := W.alloc ob) (v := v) hps (by rw [hnl]; exact hown) (fun p hp => keeps_rule (x := p.1) (hI p hp) ka) hgrow ?_ (keeps_rule hx ka)
  rcases hat with h1 | h1
  ·exact Or.inl ⟨h1, hv g h1⟩
  ·exact Or.inr ⟨by omega, by omega⟩
 rw [hnl] at hrow
 refine ⟨(e2 r (by omega)).trans ((e1 r (by omega)).trans h.res), ?_, (e2 c (by omega)).trans ((e1 c (by omega)).trans h.sc), ⟨hrb, hbc⟩, ?_, ?_⟩
 ·have hb5 : Blk b #[.int .i64 o, v] 51 w5 := (e1 b (by omega)).trans h.out
  exact hb5.set 1 _
 ·have hB : Below r W w5 := (((Below.refl W.heap.size W).alloc (Nat.le_refl _) ob).mono (by omega : r ≤ W.heap.size)).grown hgrow (by rw [hsz]; omega) (fun k hk => by have := hv k hk; omega)
  exact h.below.trans (hB.setCell (p := ⟨b, 1, none⟩) (by show r ≤ b; omega) _)
 ·rw [S.numbered_snoc]
  exact hrow.keep keeps_rule ⟨by simp [World.setCell], fun k hk hlt => ⟨hk, e2 k (by omega)⟩⟩
theorem PSt.form (h : PSt r b c j s o v l w W) : ∃ ao cap, v = .slice ao l.length cap := by
 obtain ⟨ao, cap, hv⟩ := h.row.form
 refine ⟨ao, cap, ?_⟩
 rw [hv]
 unfold S.numbered
 rw [List.length_zipIdx]
theorem PSt.meas (h : PSt r b c j s o v l w W) : W.cell? ⟨c, 1, none⟩ = some (.int .i64 j) := (cells_of h.sc).1 1
end
end Y
end Go.Proofs.YtafkeolpadfjfaaGreatDoor
namespace Go.Proofs.YtafkeolpadfjfaaGreatDoor
open Go.RowKit
namespace K
open H
theorem infoSel : (Tryz.prog.info? 98).map (fun i => (i.zero, i.size, i.bytes)) = some (some (.agg #[.slice none 0 0]), 1, 24) := by kernel_rfl
def tooLong (l : List (List L.Part)) : Bool := l.any (fun x => decide (128 < x.length))
def ParsePost (s : List UInt8) (w : World) (e : Ending) (w' : World) : Prop :=
 Below w.heap.size w w' ∧
 ((L.read s = none ∧ e = .returned (.tuple #[.slice none 0 0, .int .i64 4])) ∨
  (∃ l, L.read s = some l ∧ tooLong l = true ∧ e = .returned (.tuple #[.slice none 0 0, .int .i64 5])) ∨
  (∃ l v, L.read s = some l ∧ tooLong l = false ∧ e = .returned (.tuple #[v, .int .i64 0]) ∧ SelsAt (w.heap.size ≤ ·) w' v l))
/-- The reader, and the selectors so far. -/
structure ParSt (b : Nat) (s : List UInt8) (j : Nat) (bad : Bool) (v : Value) (l : List (List L.Part)) (w1 w : World) : Prop where
 rdr : IsRdr b s j bad w
 but : But b w1 w
 row : OwnIn cSel PartsAt (b + 1 ≤ ·) (b + 1) 98 1 w v l
theorem ParSt.step {b : Nat} {s : List UInt8} {j j' : Nat} {bad bad' : Bool} {v : Value} {l : List (List L.Part)} {w1 w w' : World} (h : ParSt b s j bad v l w1 w) (hr : IsRdr b s j' bad' w') (hB : But b w w') : ParSt b s j' bad' v l w1 w' :=
 ⟨hr, h.but.trans hB, h.row.keep keeps_parts ⟨hB.size, fun g hg hlt => ⟨hg, hB.block g hlt (by omega)⟩⟩⟩
theorem ParSt.app {b : Nat} {s : List UInt8} {j : Nat} {bad : Bool} {v : Value} {l : List (List L.Part)} {w1 w w5 : World} (h : ParSt b s j bad v l w1 w) {o : Obj} {g cap : Nat} {x : List L.Part} {nv : Value} {qs : List (List L.Part × Value)}
  (hb : w1.heap.size = b) (hqs : qs.map (·.1) = l) (hI : ∀ q ∈ qs, PartsAt (fun k => b + 1 ≤ k ∧ v.ownBlock ≠ some k) w q.2 q.1)
  (hown : w5.ownsRow (b + 1) 98 1 (.slice (some ⟨g, 0, none⟩) (l.length + 1) cap) (l.length + 1) ((qs.flatMap fun p => cSel p.1 p.2) ++ cSel x nv))
  (hgrow : (w.alloc o).grownBy w5 v.ownBlock) (hat : v.ownBlock = some g ∨ g = w.heap.size + 1) (hx : PartsAt (fun k => b + 1 ≤ k ∧ v.ownBlock ≠ some k) w nv x) :
  ParSt b s j bad (.slice (some ⟨g, 0, none⟩) (l.length + 1) cap) (l ++ [x]) w1 w5 := by
 have ka : ∀ {S : Nat → Prop}, Kept S S w (w.alloc o) := fun {S} => (Kept.refl w).alloc o
 have hv : ∀ k, v.ownBlock = some k → b + 1 ≤ k := fun k hk => (h.row.lt hk).1
 have hlb := lt_of_block h.rdr
 have hsz : (w.alloc o).heap.size = w.heap.size + 1 := by simp
 have e1 : ∀ k, k < w.heap.size → k < b + 1 → w5.heap[k]? = w.heap[k]? := fun k h1 h2 =>
  (hgrow.block k (by rw [hsz]; omega) (fun he => by have := hv k he.symm; omega)).trans (Below.heap_alloc w o k h1)
 refine ⟨(e1 b hlb (by omega)).trans h.rdr, ⟨hgrow.os.trans h.but.os, hgrow.tape.trans h.but.tape, hgrow.output.trans h.but.output, by have := hgrow.size; have := h.but.size; omega, fun k hk hne =>
  (e1 k (by have := h.but.size; omega) (by omega)).trans (h.but.block k hk hne)⟩, ?_⟩
 refine OwnIn.append (I := PartsAt) (c := cSel) (x := x) (vx := nv) keeps_parts (w := w.alloc o) (v := v) hqs hown (fun p hp => keeps_parts (x := p.1) (hI p hp) ka) hgrow ?_ (keeps_parts hx ka)
 rcases hat with h1 | h1
 ·exact Or.inl ⟨h1, hv g h1⟩
 ·exact Or.inr ⟨by omega, by omega⟩
theorem ParSt.fresh {b : Nat} {s : List UInt8} {j : Nat} {bad : Bool} {v : Value} {l : List (List L.Part)} {w1 w : World} (h : ParSt b s j bad v l w1 w) {g : Nat} (hg : w.heap.size ≤ g) : b + 1 ≤ g ∧ v.ownBlock ≠ some g := by
 have h1 := lt_of_block h.rdr
 refine ⟨by omega, fun he => ?_⟩
 have := (h.row.lt he).2.2
 omega
theorem ParSt.below {b : Nat} {s : List UInt8} {j : Nat} {bad : Bool} {v : Value} {l : List (List L.Part)} {w0 w1 w : World} (h : ParSt b s j bad v l w1 w) (hb : w1.heap.size = b) (h1 : Below w0.heap.size w0 w1) : Below w0.heap.size w0 w :=
 h1.trans (Below.mono (B := w1.heap.size) ⟨h.but.os, h.but.tape, h.but.output, h.but.size, fun k hk => h.but.block k hk (by omega)⟩ h1.size)
theorem ParSt.sels {b : Nat} {s : List UInt8} {j : Nat} {bad : Bool} {v : Value} {l : List (List L.Part)} {w0 w1 w w' : World} (h : ParSt b s j bad v l w1 w) (hb : w0.heap.size ≤ b) (h1 : Below w.heap.size w w') : SelsAt (w0.heap.size ≤ ·) w' v l :=
 keeps_sels (OwnIn.list keeps_parts h.row) ((Kept.below h1).trans (Kept.wide (fun g hg => by show w0.heap.size ≤ g; omega)))
set_option maxHeartbeats 4000000 in
set_option maxRecDepth 100000 in
theorem parse_gen (E : World → Prop) (s : List UInt8) (w : World) (hs : s.length ≤ 1000000) (hV : Calls Tryz.prog 86 #[.string ⟨s.toArray⟩] w fun e w' => e = .returned (.bool (decide (U.rep s = s))) ∧ Below w.heap.size w w')
  (hE : ∀ w1, Below w.heap.size w w1 → E w1) (hSl : ∀ b, w.heap.size ≤ b → (∀ {w1 w2 : World}, E w1 → But b w1 w2 → E w2) ∧ ∀ i w, i ≤ s.length → IsRdr b s i false w → E w → Calls Tryz.prog 89 #[.pointer (some ⟨b, 0, none⟩)] w (SelPost b s i (L.selector (s.drop i)) w)) (hm : ∀ l, L.read s = some l → l.length ≤ 1000) :
  Calls Tryz.prog 52 #[.string ⟨s.toArray⟩] w (ParsePost s w) := by
 have HV := Lib.hid hV
 have HE := Lib.hid hE
 have HSl := Lib.hid hSl
 have HMx := Lib.hid hm
 have zs := bytes_size s
 have hlen : decide ((1048576 : Int) < (s.length : Int)) = false := decide_eq_false (by omega)
 clear hV hE hSl hm
 go_enter Tryz.func52, Tryz.ntmps52
 go_wp2_with fail
 refine HV.out.mono ?_
 rintro e w1 ⟨rfl, hb1⟩
 have HP1 := Lib.hid (HE.out _ hb1)
 have HB1 := Lib.hid hb1
 have HI0 := Lib.hid (L.LInv.start (s := s))
 have hww := hb1.size
 clear hb1 hlen
 generalize decide (U.rep s = s) = V at *
 go_wp2_with fail
 have HS0 : Hid (ParSt w1.heap.size s 0 (!V) (.slice none 0 0) [] w1 (w1.alloc (.cells #[.string ⟨s.toArray⟩, .int .i64 0, .bool (!V)] 137))) :=
  Lib.hid ⟨heap_alloc_new w1 _, (But.refl _ _).alloc _, OwnIn.nil⟩
 generalize hfull : L.read s = full at HI0 HMx
 have HFull := Lib.hid hfull
 clear hfull
 generalize hBB : w1.heap.size = b at *
 go_loopw [5, 6] (fun v5 v6 wr => ∃ (j : Nat) (bad more : Bool) (l : List (List L.Part)), v6 = .bool more ∧ Hid (ParSt b s j bad v5 l w1 wr) ∧ j ≤ s.length ∧ l.length ≤ j + 1 ∧ Hid (more = true → l.length ≤ j) ∧ Hid (L.LInv s j more bad l full)) (fun _ v6 wr => 2 * (s.length - (match wr.cell? ⟨b, 1, none⟩ with | some (.int _ q) => q.toNat | _ => 0)) + (match v6 with | .bool true => 1 | _ => 0))
 case atStart => exact ⟨0, !V, true, [], rfl, HS0, by omega, Nat.zero_le _, Lib.hid (fun _ => Nat.le_refl _), HI0⟩
 case round =>
  obtain ⟨j, bad, more, l, rfl, HS, hjl, hll, HLm, HI⟩ := hrel
  clear HS0 HI0
  obtain ⟨av, cv, hv⟩ := HS.out.row.form
  have hlb := lt_of_block HS.out.rdr
  obtain ⟨hcb, hfb⟩ := cells_of HS.out.rdr
  have c1 : wr.cell? ⟨b, 1, none⟩ = some (.int .i64 j) := hcb 1
  generalize hLL : l.length = LL at hv hll HLm
  have HLL := Lib.hid hLL
  clear hLL
  subst hv
  cases bad with
  | true =>
   have c2 : wr.cell? ⟨b, 2, none⟩ = some (.bool true) := hcb 2
   clear hcb hfb
   have HN : Hid (L.read s = none) := Lib.hid (by
    rw [HFull.out]
    rcases HI.out with ⟨_, h⟩ | ⟨_, h, _⟩ | ⟨_, h, _⟩
    ·exact h
    ·cases h
    ·cases h)
   cases more
   all_goals
    go_wp2_with fail
    refine bodyPost_ret (v := .tuple #[.slice none 0 0, .int .i64 4]) (by simp [results, Tryz.results52, go_sem]) rfl ⟨HS.out.below hBB HB1.out, Or.inl ⟨HN.out, rfl⟩⟩
  | false =>
   have c2 : wr.cell? ⟨b, 2, none⟩ = some (.bool false) := hcb 2
   clear hcb hfb
   cases more with
   | false =>
    by_cases hjs : j < s.length
    ·have hd : decide ((j : Int) < (s.length : Int)) = true := decide_eq_true (by omega)
     have HN : Hid (L.read s = none) := Lib.hid (by
      rw [HFull.out]
      rcases HI.out with ⟨h, _⟩ | ⟨h, _⟩ | ⟨_, _, h⟩
      ·cases h
      ·cases h
      ·rcases h with ⟨h, _⟩ | ⟨_, h⟩
       ·omega
       ·exact h)
     go_wp2_with fail
     refine bodyPost_ret (v := .tuple #[.slice none 0 0, .int .i64 4]) (by simp [results, Tryz.results52, go_sem]) rfl ⟨HS.out.below hBB HB1.out, Or.inl ⟨HN.out, rfl⟩⟩
    ·have hd : decide ((j : Int) < (s.length : Int)) = false := decide_eq_false (by omega)
     have HN : Hid (L.read s = some l) := Lib.hid (by
      rw [HFull.out]
      rcases HI.out with ⟨h, _⟩ | ⟨h, _⟩ | ⟨_, _, h⟩
      ·cases h
      ·cases h
      ·rcases h with ⟨_, h⟩ | ⟨h, _⟩
       ·exact h
       ·omega)
     have hLs : LL ≤ 1000 := by rw [← HLL.out]; exact HMx.out l (by rw [← HFull.out]; exact HN.out)
     have hd2 : decide ((1000 : Int) < (LL : Int)) = false := decide_eq_false (by omega)
     have Q := Lib.hid (anyLong (.slice av LL cv) l wr (w.heap.size ≤ ·) (HS.out.sels (by omega) (Below.refl _ _)) (by rw [HLL.out]; omega))
     unfold longV at Q
     go_wp2_with fail
     refine Q.out.mono ?_
     rintro e w2 ⟨rfl, hb2⟩
     have HB2 := Lib.hid hb2
     clear hb2 Q
     obtain ⟨TL, hTL⟩ : ∃ q, q = l.any (fun x => decide (128 < x.length)) := ⟨_, rfl⟩
     rw [← hTL]
     have HTL : Hid (tooLong l = TL) := Lib.hid hTL.symm
     clear hTL
     cases TL with
     | true =>
      go_wp2_with fail
      refine bodyPost_ret (v := .tuple #[.slice none 0 0, .int .i64 5]) (by simp [results, Tryz.results52, go_sem]) rfl ⟨(HS.out.below hBB HB1.out).trans (HB2.out.mono (HS.out.below hBB HB1.out).size), Or.inr (Or.inl ⟨l, HN.out, HTL.out, rfl⟩)⟩
     | false =>
      go_wp2_with fail
      refine bodyPost_ret (v := .tuple #[.slice av LL cv, .int .i64 0]) (by simp [results, Tryz.results52, go_sem]) rfl ⟨(HS.out.below hBB HB1.out).trans (HB2.out.mono (HS.out.below hBB HB1.out).size), Or.inr (Or.inr ⟨l, _, HN.out, HTL.out, rfl, HS.out.sels (by omega) HB2.out⟩)⟩
   | true =>
    have HC1 := Lib.hid c1
    have hLj := HLm.out rfl
    have ht : w.heap.size ≤ b := by have := hBB; omega
    clear c1 HLm hll
    go_wp2_with fail
    clear c2
    refine (space_any b s j false _ hs hjl HS.out.rdr).mono ?_
    rintro e w2 ⟨j1, rfl, hr2, hb2, hj1, hjl1, HJ1⟩
    have S2 := Lib.hid (HS.out.step hr2 hb2)
    clear hr2 hb2 HS
    go_wp2_with fail
    refine ((HSl.out b ht).2 j1 _ hjl1 S2.out.rdr ((HSl.out b ht).1 HP1.out S2.out.but)).mono ?_
    rintro e w3 ⟨x, ps, j2, bad2, rfl, HX, hr3, hb3, hj2, hjl2, hps, HG⟩
    obtain ⟨ax, cx, hx⟩ := HX.out.form
    have HX3 : Hid (PartsAt (fun k => b + 1 ≤ k ∧ (Value.slice av LL cv).ownBlock ≠ some k) w3 x ps) := Lib.hid (keeps_parts HX.out (Kept.wide (fun g hg => S2.out.fresh hg)))
    have S3 := Lib.hid (S2.out.step hr3 hb3)
    clear hr3 hb3 S2 HX hps
    generalize ps.length = np at hx
    subst hx
    have hlb3 := lt_of_block S3.out.rdr
    obtain ⟨qs, hqs, hown0, hI, hnil, _⟩ := S3.out.row
    rw [HLL.out] at hown0
    have HOwn := Lib.hid hown0
    have HQ := Lib.hid hqs
    have HIq := Lib.hid hI
    clear hqs hown0 hI hnil
    obtain ⟨i0, hi0, hz0, hz1, hz2⟩ := info_parts infoSel
    go_wp2_with (at_builtin; refine wpList_append_lies _ rfl _ _ 55 rfl (b + 1) 98 i0 _ 1 24 Tryz.underlying55 hi0 hz0 hz1 hz2 rfl (by decide) (.slice av LL cv) LL (qs.flatMap fun p => cSel p.1 p.2) rfl (HOwn.out.alloc _) ⟨w3.heap.size, 0, none⟩ 1 1 [.slice ax np cx] rfl rfl ?c1 ?c2 ?c3 ?c4 ?c5 ?c6 (w3.heap.size + 1) ?c7 ?_)
    case c1 => exact World.news_of_block (heap_alloc_new w3 (.cells #[.slice ax np cx] 98))
    case c2 => simp [Value.oneCell']
    case c3 => omega
    case c4 => unfold maxLen; omega
    case c5 => omega
    case c6 => simp; omega
    case c7 => simp
    intro gg cap2 w5 hown5 hgrow hat hlt5
    have hx := ParSt.app S3.out (x := ps) (nv := .slice ax np cx) hBB HQ.out HIq.out (by rw [HLL.out]; exact hown5) hgrow hat HX3.out
    rw [HLL.out] at hx
    have S5 := Lib.hid hx
    clear hx hown5 hgrow hat HOwn HQ HIq HX3 S3
    go_wp2_with fail
    refine (space_any b s j2 bad2 _ hs hjl2 S5.out.rdr).mono ?_
    rintro e w6 ⟨j3, rfl, hr6, hb6, hj3, hjl3, HJ3⟩
    have S6 := Lib.hid (S5.out.step hr6 hb6)
    clear hr6 hb6 S5
    go_wp2_with fail
    refine (take_any b s [44] j3 bad2 _ hs (by decide) hjl3 S6.out.rdr).mono ?_
    rintro e w7 (⟨rfl, hr7, hb7, HT⟩ | ⟨rfl, hr7, hb7, HT⟩)
    ·have S7 := Lib.hid (S6.out.step hr7 hb7)
     obtain ⟨r, hr0⟩ := prefix_one HT.out.2
     have hjl4 : j3 + 1 ≤ s.length := H.lt_drop hr0
     have HI7 : Hid (L.LInv s (j3 + 1) true bad2 (l ++ [ps]) full) := Lib.hid (HI.out.round HJ1.out HG.out HJ3.out (by omega) hjl3 (Or.inl ⟨rfl, rfl, HT.out.1, HT.out.2⟩))
     have HM : Hid (w7.cell? ⟨b, 1, none⟩ = some (.int .i64 ((j3 + 1 : Nat) : Int))) := Lib.hid ((cells_of hr7).1 1)
     clear hr7 hb7 hr0
     go_wp2_with fail
     go_roundw
     case rel => exact ⟨j3 + 1, bad2, true, l ++ [ps], rfl, S7, hjl4, by rw [List.length_append, HLL.out]; show LL + 1 ≤ _; omega, Lib.hid (fun _ => by rw [List.length_append, HLL.out]; show LL + 1 ≤ _; omega), HI7⟩
     case measure =>
      rw [HM.out, HC1.out]
      show 2 * (s.length - ((j3 + 1 : Nat) : Int).toNat) + 1 < 2 * (s.length - ((j : Nat) : Int).toNat) + 1
      omega
    ·have S7 := Lib.hid (S6.out.step hr7 hb7)
     have HI7 : Hid (L.LInv s j3 false bad2 (l ++ [ps]) full) := Lib.hid (HI.out.round HJ1.out HG.out HJ3.out (by omega) hjl3 (Or.inr ⟨rfl, rfl, HT.out⟩))
     have HM : Hid (w7.cell? ⟨b, 1, none⟩ = some (.int .i64 (j3 : Int))) := Lib.hid ((cells_of hr7).1 1)
     clear hr7 hb7
     go_wp2_with fail
     go_roundw
     case rel => exact ⟨j3, bad2, false, l ++ [ps], rfl, S7, hjl3, by rw [List.length_append, HLL.out]; show LL + 1 ≤ _; omega, Lib.hid (fun h => (by cases h)), HI7⟩
     case measure =>
      rw [HM.out, HC1.out]
      show 2 * (s.length - ((j3 : Nat) : Int).toNat) + 0 < 2 * (s.length - ((j : Nat) : Int).toNat) + 1
      omega
/-- The same of a text of ASCII without a colon: no variable is read. -/
theorem parse_plain (s : List UInt8) (w : World) (hs : s.length ≤ 1000000) (hV : Calls Tryz.prog 86 #[.string ⟨s.toArray⟩] w fun e w' => e = .returned (.bool (decide (U.rep s = s))) ∧ Below w.heap.size w w') (h58 : (58 : UInt8) ∉ s) (hm : ∀ l, L.read s = some l → l.length ≤ 1000) :
  Calls Tryz.prog 52 #[.string ⟨s.toArray⟩] w (ParsePost s w) :=
 parse_gen (fun _ => True) s w hs hV (fun _ _ => trivial) (fun b _ => ⟨fun _ _ => trivial, fun i w hi hR hE =>
  selector_gen (fun _ => True) b (fun _ _ => trivial) s i w hs hi hR hE (fun i w hi hR hE =>
   part_gen (fun _ => True) b (fun _ _ => trivial) s i false w hs hi hR hE (fun h => absurd h h58))⟩) hm
end K
end Go.Proofs.YtafkeolpadfjfaaGreatDoor

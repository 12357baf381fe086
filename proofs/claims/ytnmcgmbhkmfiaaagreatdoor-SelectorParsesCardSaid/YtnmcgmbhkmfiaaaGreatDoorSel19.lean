/- Parse. -/
import Derived.Test.YtnmcgmbhkmfiaaaGreatDoorSel18
set_option linter.unusedVariables false
set_option linter.unusedSimpArgs false
namespace Go.Proofs.YtnmcgmbhkmfiaaaGreatDoor
open Go.RowKit
namespace K
open H

theorem infoSel : (Tryz.prog.info? 39).map (fun i => (i.zero, i.size, i.bytes)) = some (some (.agg #[.slice none 0 0]), 1, 24) := by kernel_rfl

def tooLong (l : List (List L.Part)) : Bool := l.any (fun x => decide (128 < x.length))

def ParsePost (s : List UInt8) (w : World) (e : Ending) (w' : World) : Prop :=
  Below w.heap.size w w' ∧
  ((L.read s = none ∧ e = .returned (.tuple #[.slice none 0 0, .int .i64 4])) ∨
   (∃ l, L.read s = some l ∧ tooLong l = true ∧ e = .returned (.tuple #[.slice none 0 0, .int .i64 5])) ∨
   (∃ l v, L.read s = some l ∧ tooLong l = false ∧ e = .returned (.tuple #[v, .int .i64 0]) ∧ SelsAt (w.heap.size ≤ ·) w' v l))

/-- The reader, and the selectors so far. -/
structure ParSt (b : Nat) (s : List UInt8) (j : Nat) (bad : Bool) (v : Value) (l : List (List L.Part)) (w1 w : World) : Prop where
  rdr : IsRdr b s j bad w
  but : But b w1 w
  row : OwnIn cSel PartsAt (b + 1 ≤ ·) (b + 1) 39 1 w v l

theorem ParSt.step {b : Nat} {s : List UInt8} {j j' : Nat} {bad bad' : Bool} {v : Value} {l : List (List L.Part)} {w1 w w' : World} (h : ParSt b s j bad v l w1 w) (hr : IsRdr b s j' bad' w') (hB : But b w w') : ParSt b s j' bad' v l w1 w' :=
  ⟨hr, h.but.trans hB, h.row.keep keeps_parts ⟨hB.size, fun g hg hlt => ⟨hg, hB.block g hlt (by omega)⟩⟩⟩

theorem ParSt.app {b : Nat} {s : List UInt8} {j : Nat} {bad : Bool} {v : Value} {l : List (List L.Part)} {w1 w w5 : World} (h : ParSt b s j bad v l w1 w) {o : Obj} {g cap : Nat} {x : List L.Part} {nv : Value} {qs : List (List L.Part × Value)}
    (hb : w1.heap.size = b) (hqs : qs.map (·.1) = l) (hI : ∀ q ∈ qs, PartsAt (fun k => b + 1 ≤ k ∧ v.ownBlock ≠ some k) w q.2 q.1)
    (hown : w5.ownsRow (b + 1) 39 1 (.slice (some ⟨g, 0, none⟩) (l.length + 1) cap) (l.length + 1) ((qs.flatMap fun p => cSel p.1 p.2) ++ cSel x nv))
    (hgrow : (w.alloc o).grownBy w5 v.ownBlock) (hat : v.ownBlock = some g ∨ g = w.heap.size + 1) (hx : PartsAt (fun k => b + 1 ≤ k ∧ v.ownBlock ≠ some k) w nv x) :
    ParSt b s j bad (.slice (some ⟨g, 0, none⟩) (l.length + 1) cap) (l ++ [x]) w1 w5 := by
  have ka : ∀ {S : Nat → Prop}, Kept S S w (w.alloc o) := fun {S} => (Kept.refl w).alloc o
  have hv : ∀ k, v.ownBlock = some k → b + 1 ≤ k := fun k hk => (h.row.lt hk).1
  have hlb := lt_of_block h.rdr
  have hsz : (w.alloc o).heap.size = w.heap.size + 1 := by simp
  have e1 : ∀ k, k < w.heap.size → k < b + 1 → w5.heap[k]? = w.heap[k]? := fun k h1 h2 =>
    (hgrow.block k (by rw [hsz]; omega) (fun he => by have := hv k he.symm; omega)).trans (Below.heap_alloc w o k h1)
  refine ⟨(e1 b hlb (by omega)).trans h.rdr, ⟨hgrow.os.trans h.but.os, hgrow.tape.trans h.but.tape, hgrow.output.trans h.but.output, by have := hgrow.size; have := h.but.size; omega, fun k hk hne =>
    (e1 k (by have := h.but.size; omega) (by omega)).trans (h.but.block k hk hne)⟩, ?_⟩
  refine OwnIn.append (I := PartsAt) (c := cSel) (x := x) (vx := nv) keeps_parts (w := w.alloc o) (v := v) hqs hown (fun p hp => keeps_parts (x := p.1) (hI p hp) ka) hgrow ?_ (keeps_parts hx ka)
  rcases hat with h1 | h1
  · exact Or.inl ⟨h1, hv g h1⟩
  · exact Or.inr ⟨by omega, by omega⟩

theorem ParSt.fresh {b : Nat} {s : List UInt8} {j : Nat} {bad : Bool} {v : Value} {l : List (List L.Part)} {w1 w : World} (h : ParSt b s j bad v l w1 w) {g : Nat} (hg : w.heap.size ≤ g) : b + 1 ≤ g ∧ v.ownBlock ≠ some g := by
  have h1 := lt_of_block h.rdr
  refine ⟨by omega, fun he => ?_⟩
  have := (h.row.lt he).2.2
  omega

theorem ParSt.below {b : Nat} {s : List UInt8} {j : Nat} {bad : Bool} {v : Value} {l : List (List L.Part)} {w0 w1 w : World} (h : ParSt b s j bad v l w1 w) (hb : w1.heap.size = b) (h1 : Below w0.heap.size w0 w1) : Below w0.heap.size w0 w :=
  h1.trans (Below.mono (B := w1.heap.size) ⟨h.but.os, h.but.tape, h.but.output, h.but.size, fun k hk => h.but.block k hk (by omega)⟩ h1.size)
theorem ParSt.sels {b : Nat} {s : List UInt8} {j : Nat} {bad : Bool} {v : Value} {l : List (List L.Part)} {w0 w1 w w' : World} (h : ParSt b s j bad v l w1 w) (hb : w0.heap.size ≤ b) (h1 : Below w.heap.size w w') : SelsAt (w0.heap.size ≤ ·) w' v l :=
  keeps_sels (OwnIn.list keeps_parts h.row) ((Kept.below h1).trans (Kept.wide (fun g hg => by show w0.heap.size ≤ g; omega)))

set_option maxHeartbeats 4000000 in
set_option maxRecDepth 100000 in
theorem parse (s : List UInt8) (w : World) (hs : s.length ≤ 1000000) (hP : PEnv w) (hm : ∀ l, L.read s = some l → l.length ≤ 1000) :
    Calls Tryz.prog 5 #[.string ⟨s.toArray⟩] w (ParsePost s w) := by
  have HP := Lib.hid hP
  have HMx := Lib.hid hm
  have zs := bytes_size s
  have hlen : decide ((1048576 : Int) < (s.length : Int)) = false := decide_eq_false (by omega)
  clear hP hm
  go_enter Tryz.func5, Tryz.ntmps5
  go_wp2_with fail
  refine (valid s _ hs HP.out).mono ?_
  rintro e w1 ⟨rfl, hb1⟩
  have HP1 := Lib.hid (HP.out.below hb1)
  have HB1 := Lib.hid hb1
  have HI0 := Lib.hid (L.LInv.start (s := s))
  have hbig : top ≤ w1.heap.size := HP1.out.big
  have hww := hb1.size
  clear hb1 hlen
  generalize decide (U.rep s = s) = V at *
  go_wp2_with fail
  have HS0 : Hid (ParSt w1.heap.size s 0 (!V) (.slice none 0 0) [] w1 (w1.alloc (.cells #[.string ⟨s.toArray⟩, .int .i64 0, .bool (!V)] 44))) :=
    Lib.hid ⟨heap_alloc_new w1 _, (But.refl _ _).alloc _, OwnIn.nil⟩
  generalize hfull : L.read s = full at HI0 HMx
  have HFull := Lib.hid hfull
  clear hfull
  generalize hBB : w1.heap.size = b at *
  go_loopw [5, 6] (fun v5 v6 wr => ∃ (j : Nat) (bad more : Bool) (l : List (List L.Part)), v6 = .bool more ∧ Hid (ParSt b s j bad v5 l w1 wr) ∧ j ≤ s.length ∧ l.length ≤ j + 1 ∧ Hid (more = true → l.length ≤ j) ∧ Hid (L.LInv s j more bad l full)) (fun _ v6 wr => 2 * (s.length - (match wr.cell? ⟨b, 1, none⟩ with | some (.int _ q) => q.toNat | _ => 0)) + (match v6 with | .bool true => 1 | _ => 0))
  case atStart => exact ⟨0, !V, true, [], rfl, HS0, by omega, Nat.zero_le _, Lib.hid (fun _ => Nat.le_refl _), HI0⟩
  case round =>
    obtain ⟨j, bad, more, l, rfl, HS, hjl, hll, HLm, HI⟩ := hrel
    clear HS0 HI0
    obtain ⟨av, cv, hv⟩ := HS.out.row.form
    have hlb := lt_of_block HS.out.rdr
    obtain ⟨hcb, hfb⟩ := cells_of HS.out.rdr
    have c1 : wr.cell? ⟨b, 1, none⟩ = some (.int .i64 j) := hcb 1
    generalize hLL : l.length = LL at hv hll HLm
    have HLL := Lib.hid hLL
    clear hLL
    subst hv
    cases bad with
    | true =>
      have c2 : wr.cell? ⟨b, 2, none⟩ = some (.bool true) := hcb 2
      clear hcb hfb
      have HN : Hid (L.read s = none) := Lib.hid (by
        rw [HFull.out]
        rcases HI.out with ⟨_, h⟩ | ⟨_, h, _⟩ | ⟨_, h, _⟩
        · exact h
        · cases h
        · cases h)
      cases more
      all_goals
        go_wp2_with fail
        refine bodyPost_ret (v := .tuple #[.slice none 0 0, .int .i64 4]) (by simp [results, Tryz.results5, go_sem]) rfl ⟨HS.out.below hBB HB1.out, Or.inl ⟨HN.out, rfl⟩⟩
    | false =>
      have c2 : wr.cell? ⟨b, 2, none⟩ = some (.bool false) := hcb 2
      clear hcb hfb
      cases more with
      | false =>
        by_cases hjs : j < s.length
        · have hd : decide ((j : Int) < (s.length : Int)) = true := decide_eq_true (by omega)
          have HN : Hid (L.read s = none) := Lib.hid (by
            rw [HFull.out]
            rcases HI.out with ⟨h, _⟩ | ⟨h, _⟩ | ⟨_, _, h⟩
            · cases h
            · cases h
            · rcases h with ⟨h, _⟩ | ⟨_, h⟩
              · omega
              · exact h)
          go_wp2_with fail
          refine bodyPost_ret (v := .tuple #[.slice none 0 0, .int .i64 4]) (by simp [results, Tryz.results5, go_sem]) rfl ⟨HS.out.below hBB HB1.out, Or.inl ⟨HN.out, rfl⟩⟩
        · have hd : decide ((j : Int) < (s.length : Int)) = false := decide_eq_false (by omega)
          have HN : Hid (L.read s = some l) := Lib.hid (by
            rw [HFull.out]
            rcases HI.out with ⟨h, _⟩ | ⟨h, _⟩ | ⟨_, _, h⟩
            · cases h
            · cases h
            · rcases h with ⟨_, h⟩ | ⟨h, _⟩
              · exact h
              · omega)
          have hLs : LL ≤ 1000 := by rw [← HLL.out]; exact HMx.out l (by rw [← HFull.out]; exact HN.out)
          have hd2 : decide ((1000 : Int) < (LL : Int)) = false := decide_eq_false (by omega)
          have Q := Lib.hid (anyLong (.slice av LL cv) l wr (w.heap.size ≤ ·) (HS.out.sels (by omega) (Below.refl _ _)) (by rw [HLL.out]; omega))
          unfold longV at Q
          go_wp2_with fail
          refine Q.out.mono ?_
          rintro e w2 ⟨rfl, hb2⟩
          have HB2 := Lib.hid hb2
          clear hb2 Q
          obtain ⟨TL, hTL⟩ : ∃ q, q = l.any (fun x => decide (128 < x.length)) := ⟨_, rfl⟩
          rw [← hTL]
          have HTL : Hid (tooLong l = TL) := Lib.hid hTL.symm
          clear hTL
          cases TL with
          | true =>
            go_wp2_with fail
            refine bodyPost_ret (v := .tuple #[.slice none 0 0, .int .i64 5]) (by simp [results, Tryz.results5, go_sem]) rfl ⟨(HS.out.below hBB HB1.out).trans (HB2.out.mono (HS.out.below hBB HB1.out).size), Or.inr (Or.inl ⟨l, HN.out, HTL.out, rfl⟩)⟩
          | false =>
            go_wp2_with fail
            refine bodyPost_ret (v := .tuple #[.slice av LL cv, .int .i64 0]) (by simp [results, Tryz.results5, go_sem]) rfl ⟨(HS.out.below hBB HB1.out).trans (HB2.out.mono (HS.out.below hBB HB1.out).size), Or.inr (Or.inr ⟨l, _, HN.out, HTL.out, rfl, HS.out.sels (by omega) HB2.out⟩)⟩
      | true =>
        have HC1 := Lib.hid c1
        have hLj := HLm.out rfl
        have ht : top ≤ b := hbig
        clear c1 HLm hll
        go_wp2_with fail
        clear c2
        refine (space_any b s j false _ hs hjl HS.out.rdr).mono ?_
        rintro e w2 ⟨j1, rfl, hr2, hb2, hj1, hjl1, HJ1⟩
        have S2 := Lib.hid (HS.out.step hr2 hb2)
        clear hr2 hb2 HS
        go_wp2_with fail
        refine (selector b s j1 _ hs hjl1 S2.out.rdr (HP1.out.env.but S2.out.but ht) ht).mono ?_
        rintro e w3 ⟨x, ps, j2, bad2, rfl, HX, hr3, hb3, hj2, hjl2, hps, HG⟩
        obtain ⟨ax, cx, hx⟩ := HX.out.form
        have HX3 : Hid (PartsAt (fun k => b + 1 ≤ k ∧ (Value.slice av LL cv).ownBlock ≠ some k) w3 x ps) := Lib.hid (keeps_parts HX.out (Kept.wide (fun g hg => S2.out.fresh hg)))
        have S3 := Lib.hid (S2.out.step hr3 hb3)
        clear hr3 hb3 S2 HX hps
        generalize ps.length = np at hx
        subst hx
        have hlb3 := lt_of_block S3.out.rdr
        obtain ⟨qs, hqs, hown0, hI, hnil, _⟩ := S3.out.row
        rw [HLL.out] at hown0
        have HOwn := Lib.hid hown0
        have HQ := Lib.hid hqs
        have HIq := Lib.hid hI
        clear hqs hown0 hI hnil
        obtain ⟨i0, hi0, hz0, hz1, hz2⟩ := info_parts infoSel
        go_wp2_with (at_builtin; refine wpList_append_lies _ rfl _ _ 23 rfl (b + 1) 39 i0 _ 1 24 Tryz.underlying23 hi0 hz0 hz1 hz2 rfl (by decide) (.slice av LL cv) LL (qs.flatMap fun p => cSel p.1 p.2) rfl (HOwn.out.alloc _) ⟨w3.heap.size, 0, none⟩ 1 1 [.slice ax np cx] rfl rfl ?c1 ?c2 ?c3 ?c4 ?c5 ?c6 (w3.heap.size + 1) ?c7 ?_)
        case c1 => exact World.news_of_block (heap_alloc_new w3 (.cells #[.slice ax np cx] 39))
        case c2 => simp [Value.oneCell']
        case c3 => omega
        case c4 => unfold maxLen; omega
        case c5 => omega
        case c6 => simp; omega
        case c7 => simp
        intro gg cap2 w5 hown5 hgrow hat hlt5
        have hx := ParSt.app S3.out (x := ps) (nv := .slice ax np cx) hBB HQ.out HIq.out (by rw [HLL.out]; exact hown5) hgrow hat HX3.out
        rw [HLL.out] at hx
        have S5 := Lib.hid hx
        clear hx hown5 hgrow hat HOwn HQ HIq HX3 S3
        go_wp2_with fail
        refine (space_any b s j2 bad2 _ hs hjl2 S5.out.rdr).mono ?_
        rintro e w6 ⟨j3, rfl, hr6, hb6, hj3, hjl3, HJ3⟩
        have S6 := Lib.hid (S5.out.step hr6 hb6)
        clear hr6 hb6 S5
        go_wp2_with fail
        refine (take_any b s [44] j3 bad2 _ hs (by decide) hjl3 S6.out.rdr).mono ?_
        rintro e w7 (⟨rfl, hr7, hb7, HT⟩ | ⟨rfl, hr7, hb7, HT⟩)
        · have S7 := Lib.hid (S6.out.step hr7 hb7)
          obtain ⟨r, hr0⟩ := prefix_one HT.out.2
          have hjl4 : j3 + 1 ≤ s.length := H.lt_drop hr0
          have HI7 : Hid (L.LInv s (j3 + 1) true bad2 (l ++ [ps]) full) := Lib.hid (HI.out.round HJ1.out HG.out HJ3.out (by omega) hjl3 (Or.inl ⟨rfl, rfl, HT.out.1, HT.out.2⟩))
          have HM : Hid (w7.cell? ⟨b, 1, none⟩ = some (.int .i64 ((j3 + 1 : Nat) : Int))) := Lib.hid ((cells_of hr7).1 1)
          clear hr7 hb7 hr0
          go_wp2_with fail
          go_roundw
          case rel => exact ⟨j3 + 1, bad2, true, l ++ [ps], rfl, S7, hjl4, by rw [List.length_append, HLL.out]; show LL + 1 ≤ _; omega, Lib.hid (fun _ => by rw [List.length_append, HLL.out]; show LL + 1 ≤ _; omega), HI7⟩
          case measure =>
            rw [HM.out, HC1.out]
            show 2 * (s.length - ((j3 + 1 : Nat) : Int).toNat) + 1 < 2 * (s.length - ((j : Nat) : Int).toNat) + 1
            omega
        · have S7 := Lib.hid (S6.out.step hr7 hb7)
          have HI7 : Hid (L.LInv s j3 false bad2 (l ++ [ps]) full) := Lib.hid (HI.out.round HJ1.out HG.out HJ3.out (by omega) hjl3 (Or.inr ⟨rfl, rfl, HT.out⟩))
          have HM : Hid (w7.cell? ⟨b, 1, none⟩ = some (.int .i64 (j3 : Int))) := Lib.hid ((cells_of hr7).1 1)
          clear hr7 hb7
          go_wp2_with fail
          go_roundw
          case rel => exact ⟨j3, bad2, false, l ++ [ps], rfl, S7, hjl3, by rw [List.length_append, HLL.out]; show LL + 1 ≤ _; omega, Lib.hid (fun h => (by cases h)), HI7⟩
          case measure =>
            rw [HM.out, HC1.out]
            show 2 * (s.length - ((j3 : Nat) : Int).toNat) + 0 < 2 * (s.length - ((j : Nat) : Int).toNat) + 1
            omega

end K
end Go.Proofs.YtnmcgmbhkmfiaaaGreatDoor

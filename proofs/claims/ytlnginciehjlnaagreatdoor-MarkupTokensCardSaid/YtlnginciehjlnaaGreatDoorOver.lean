/- What over, the reader's skipping, comes to. -/
import Derived.Test.YtlnginciehjlnaaGreatDoorMark3
import Derived.Shelf.GgClosure.Gives
set_option linter.unusedVariables false
set_option linter.unusedSimpArgs false
namespace Go.Proofs.YtlnginciehjlnaaGreatDoor
open Go.RowKit
namespace K

/-- All blocks but one are as they were. -/
structure But (b : Nat) (w w' : World) : Prop where
  os : w'.os = w.os
  tape : w'.tape = w.tape
  output : w'.output = w.output
  size : w.heap.size ≤ w'.heap.size
  block : ∀ k, k < w.heap.size → k ≠ b → w'.heap[k]? = w.heap[k]?

theorem But.refl (b : Nat) (w : World) : But b w w := ⟨rfl, rfl, rfl, Nat.le_refl _, fun _ _ _ => rfl⟩
theorem But.trans {b : Nat} {u v w : World} (h : But b u v) (k : But b v w) : But b u w :=
  ⟨k.os.trans h.os, k.tape.trans h.tape, k.output.trans h.output, Nat.le_trans h.size k.size, fun i hi hn => (k.block i (Nat.lt_of_lt_of_le hi h.size) hn).trans (h.block i hi hn)⟩
theorem But.of {b : Nat} {w w' : World} (h : Below w.heap.size w w') : But b w w' := ⟨h.os, h.tape, h.output, h.size, fun k hk _ => h.block k hk⟩
theorem But.set {b : Nat} (w : World) (o : Nat) (v : Value) : But b w (w.setCell ⟨b, o, none⟩ v) :=
  ⟨rfl, rfl, rfl, by simp [World.setCell], fun k hk hn => Below.heap_setCell _ _ _ _ hn⟩
theorem But.drewN {b : Nat} {w w' : World} (h : But b w w') (n : Nat) : But b w (w'.drewN n) := ⟨h.os, h.tape, h.output, h.size, h.block⟩
/-- Below the block, too. -/
theorem But.below {b : Nat} {w w' : World} (h : But b w w') (hb : b < w.heap.size) : Below b w w' :=
  ⟨h.os, h.tape, h.output, h.size, fun k hk => h.block k (Nat.lt_trans hk hb) (Nat.ne_of_lt hk)⟩

/-- A block's cells behind a store. -/
theorem block_set {w : World} {b o : Nat} {cs : Array Value} {t : TypeId} {f : Nat × Nat} {v : Value} (h : w.heap[b]? = some (.cells cs t f)) : (w.setCell ⟨b, o, none⟩ v).heap[b]? = some (.cells (cs.setIfInBounds o v) t f) := by
  have hlt := lt_of_block h
  have h' : w.heap[b] = .cells cs t f := by simpa [Array.getElem?_eq_getElem hlt] using h
  show (w.heap.modify b _)[b]? = _
  rw [Array.getElem?_eq_getElem (by simpa using hlt), Array.getElem_modify_self, h']
  rfl

/-- The reader: its text, its place, its token's cells, and the place of the last slash. -/
def IsRd (b : Nat) (s : List UInt8) (i : Nat) (k n a c t : Value) (sl : Int) (w : World) : Prop :=
  w.heap[b]? = some (.cells #[.string ⟨s.toArray⟩, .int .i64 i, k, n, a, c, t, .int .i64 sl] 115 (0, 0))

/-- The place of the last slash behind some bytes. -/
def lastSl : Nat → List UInt8 → Int → Int
  | _, [], d => d
  | i, c :: r, d => lastSl (i + 1) r (if c == 47 then (i : Int) else d)

def posOf (b : Nat) (w : World) : Nat := match w.cell? ⟨b, 1, none⟩ with | some (.int _ q) => q.toNat | _ => 0

def OvRel (b : Nat) (s : List UInt8) (i : Nat) (k n a c t : Value) (sl : Int) (p : UInt8 → Bool) (w wr : World) : Prop :=
  ∃ (j : Nat) (x : Int), IsRd b s j k n a c t x wr ∧ But b w wr ∧ j ≤ s.length ∧ -1 ≤ x ∧ x ≤ s.length ∧ Hid (j + ((s.drop j).takeWhile p).length = i + ((s.drop i).takeWhile p).length ∧ lastSl j ((s.drop j).takeWhile p) x = lastSl i ((s.drop i).takeWhile p) sl)

def OverPost (b : Nat) (s : List UInt8) (i : Nat) (k n a c t : Value) (sl : Int) (p : UInt8 → Bool) (w : World) (e : Ending) (w' : World) : Prop :=
  e = .returned (.bool (decide (i + ((s.drop i).takeWhile p).length < s.length))) ∧ IsRd b s (i + ((s.drop i).takeWhile p).length) k n a c t (lastSl i ((s.drop i).takeWhile p) sl) w' ∧ But b w w'

theorem rd_one {b : Nat} {s : List UInt8} {j m : Nat} {k n a c t : Value} {sl : Int} {w : World} (h : IsRd b s j k n a c t sl w) : IsRd b s (j + 1) k n a c t sl ((w.drewN m).setCell ⟨b, 1, none⟩ (.int .i64 ((j : Int) + 1))) := by
  have h2 := block_set (w := w.drewN m) (o := 1) (v := .int .i64 ((j : Int) + 1)) h
  rw [show ((j : Int) + 1) = ((j + 1 : Nat) : Int) by omega] at h2
  exact h2
theorem rd_two {b : Nat} {s : List UInt8} {j m : Nat} {k n a c t : Value} {sl : Int} {w : World} (h : IsRd b s j k n a c t sl w) : IsRd b s (j + 1) k n a c t j (((w.drewN m).setCell ⟨b, 7, none⟩ (.int .i64 j)).setCell ⟨b, 1, none⟩ (.int .i64 ((j : Int) + 1))) := by
  have h1 := block_set (w := w.drewN m) (o := 7) (v := .int .i64 j) h
  have h2 := block_set (o := 1) (v := .int .i64 ((j : Int) + 1)) h1
  rw [show ((j : Int) + 1) = ((j + 1 : Nat) : Int) by omega] at h2
  exact h2

theorem posOf_of {b : Nat} {s : List UInt8} {i : Nat} {k n a c t : Value} {sl : Int} {w : World} (h : IsRd b s i k n a c t sl w) : posOf b w = i := by
  have h1 := (cells_of h).1
  simp [posOf, h1]

theorem round_end (b : Nat) (s : List UInt8) (i : Nat) (k n a c t : Value) (sl : Int) (p : UInt8 → Bool) (w W : World) {wr : World} (j : Nat) (y : Int) (hbut : But b w wr) (hj : j + 1 ≤ s.length) (h1 : -1 ≤ y) (h2 : y ≤ s.length)
    (HS : Hid (j + 1 + ((s.drop (j + 1)).takeWhile p).length = i + ((s.drop i).takeWhile p).length ∧ lastSl (j + 1) ((s.drop (j + 1)).takeWhile p) y = lastSl i ((s.drop i).takeWhile p) sl))
    (HP : Hid (posOf b wr = j)) (hr : IsRd b s (j + 1) k n a c t y W) (hb : But b wr W) : OvRel b s i k n a c t sl p w W ∧ s.length - posOf b W < s.length - posOf b wr := by
  refine ⟨⟨j + 1, y, hr, hbut.trans hb, hj, h1, h2, HS⟩, ?_⟩
  rw [posOf_of hr, HP.out]
  omega

set_option maxHeartbeats 2000000 in
theorem over (g b : Nat) (s : List UInt8) (i : Nat) (k n a c t : Value) (sl : Int) (p : UInt8 → Bool) (w : World) (hs : s.length ≤ 800000) (hi : i ≤ s.length) (hsl : -1 ≤ sl ∧ sl ≤ s.length)
    (eg : ∀ args w, (callFunc g args).run Tryz.prog w = .ok (.enter g args) w)
    (hp : ∀ (x : UInt8) (W : World), Calls Tryz.prog g #[.int .u8 x.toNat] W fun e w' => e = .returned (.bool (p x)) ∧ w' = W)
    (hR : IsRd b s i k n a c t sl w) :
    Calls Tryz.prog 97 #[.pointer (some ⟨b, 0, none⟩), .func (.func g) #[] #[]] w (OverPost b s i k n a c t sl p w) := by
  have hal := lt_of_block hR
  have HR := Lib.hid hR
  have HP := Lib.hid hp
  clear hR hp
  go_enter Tryz.func97, Tryz.ntmps97
  go_wp2_with fail
  go_loopw [] (fun wr => OvRel b s i k n a c t sl p w wr) (fun wr => s.length - posOf b wr)
  case atStart => exact ⟨i, sl, HR.out, But.refl _ _, hi, hsl.1, hsl.2, Lib.hid ⟨rfl, rfl⟩⟩
  case round =>
    obtain ⟨j, x, hr, hbut, hj, hx1, hx2, HF⟩ := hrel
    obtain ⟨hcl, hfr⟩ := cells_of hr
    have HRr := Lib.hid hr
    clear hr
    by_cases hlt : j < s.length
    · obtain ⟨d, r, hd⟩ := drop_cons hlt
      have hix := at_drop hd (by rw [T.bytes_size]; exact hlt)
      have hlt1 : decide ((j : Int) < (s.length : Int)) = true := decide_eq_true (by omega)
      have hq := HP.out d
      cases hpd : p d with
      | true =>
        rw [hpd] at hq
        have Q := Lib.hid hq
        clear hq
        have hd2 := drop_more hd
        have hpos : posOf b wr = j := by simp [posOf, hcl]
        have HS : Hid (j + 1 + ((s.drop (j + 1)).takeWhile p).length = i + ((s.drop i).takeWhile p).length ∧ lastSl (j + 1) ((s.drop (j + 1)).takeWhile p) (if d == 47 then (j : Int) else x) = lastSl i ((s.drop i).takeWhile p) sl) := by
          obtain ⟨h1, h2⟩ := HF.out
          rw [hd, List.takeWhile_cons_of_pos hpd] at h1 h2
          rw [hd2]
          rw [List.length_cons] at h1
          exact Lib.hid ⟨by omega, h2⟩
        have HPO := Lib.hid hpos
        clear hd hd2 hpd HF hpos
        by_cases h47 : d = 47
        · subst h47
          go_wp2_with fail
          go_quiet ((go_at_fn g; exact Calls.quiet_of_same (Q.out _)))
          go_wp2_with fail
          go_quiet (fail)
          go_wp2_with fail
          refine round_end b s i k n a c t sl p w _ j j hbut (by omega) (by omega) (by omega) (Lib.hid ⟨HS.out.1, by have h9 := HS.out.2; simpa using h9⟩) HPO ?_ ?_
          · exact rd_two HRr.out
          · exact ((But.refl b wr).drewN _).trans ((But.set _ 7 _).trans (But.set _ 1 _))
        · have h47' : ((d.toNat : Int) == 47) = false := byte_ne (n := 47) h47 (by omega)
          go_wp2_with fail
          go_quiet ((go_at_fn g; exact Calls.quiet_of_same (Q.out _)))
          go_wp2_with fail
          go_quiet (fail)
          go_wp2_with fail
          have h47b : (d == 47) = false := by simpa using h47
          refine round_end b s i k n a c t sl p w _ j x hbut (by omega) (by omega) (by omega) (Lib.hid ⟨HS.out.1, by have h9 := HS.out.2; rw [h47b] at h9; exact h9⟩) HPO ?_ ?_
          · exact rd_one HRr.out
          · exact ((But.refl b wr).drewN _).trans (But.set _ 1 _)
      | false =>
        rw [hpd] at hq
        have Q := Lib.hid hq
        clear hq
        have HE : Hid (j = i + ((s.drop i).takeWhile p).length ∧ x = lastSl i ((s.drop i).takeWhile p) sl) := by
          obtain ⟨h1, h2⟩ := HF.out
          rw [hd, List.takeWhile_cons_of_neg (by rw [hpd]; simp)] at h1 h2
          exact Lib.hid ⟨h1, h2⟩
        clear hd hpd HF
        go_wp2_with fail
        go_quiet ((go_at_fn g; exact Calls.quiet_of_same (Q.out _)))
        go_wp2_with fail
        go_quiet (fail)
        go_wp2_with fail
        go_ret
        obtain ⟨h1, h2⟩ := HE.out
        rw [OverPost, ← h1, ← h2]
        refine ⟨?_, HRr.out, (hbut.drewN _).drewN _⟩
        rw [decide_eq_true hlt]; rfl
    · obtain rfl : j = s.length := by omega
      have hge : decide ((s.length : Int) < (s.length : Int)) = false := decide_eq_false (by omega)
      have HE : Hid (s.length = i + ((s.drop i).takeWhile p).length ∧ x = lastSl i ((s.drop i).takeWhile p) sl) := by
        obtain ⟨h1, h2⟩ := HF.out
        rw [List.drop_length] at h1 h2
        exact Lib.hid ⟨h1, h2⟩
      clear HF
      go_wp2_with fail
      go_quiet (fail)
      go_wp2_with fail
      go_quiet (fail)
      go_wp2_with fail
      go_ret
      obtain ⟨h1, h2⟩ := HE.out
      rw [OverPost, ← h1, ← h2]
      refine ⟨?_, HRr.out, (hbut.drewN _).drewN _⟩
      rw [decide_eq_false (Nat.lt_irrefl _)]; rfl

end K
end Go.Proofs.YtlnginciehjlnaaGreatDoor

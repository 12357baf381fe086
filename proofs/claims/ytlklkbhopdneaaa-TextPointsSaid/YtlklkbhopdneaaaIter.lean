/- The iterator that text.Points makes: it hands each index with its code point to the loop's body, in order, for every string. -/
import Derived.Test.YtlklkbhopdneaaaCode
import Derived.RangeFuncNested
import Derived.RangeFuncBound
import Derived.RangeFuncCalls
import Derived.RangeFuncLeaves
import Derived.Shelf.Abstract
import Derived.Shelf.RegionOpen
import Derived.OwnWalkIn
import Derived.TacticsInMore
import Derived.LoopNIn
import Derived.LoopIn
import Derived.Lib.OthersKept
set_option linter.unusedVariables false
set_option linter.unusedSimpArgs false
namespace Go.Proofs.Ytlklkbhopdneaaa
open Go.RowKit Go.Shelf
attribute [local go_sem] Oper.semAt_some
namespace T

/-- The number of the code point at an index. -/
def cp (s : ByteArray) (k : Nat) : Nat := U.code ((U.pts s.data.toList).getD k [])
def enc2 (s : ByteArray) (k : Nat) : Array Value := #[.int .i64 (k : Int), .int .i32 (cp s k : Int)]

set_option maxHeartbeats 1000000 in
theorem Points_in (n : Nat) (s : ByteArray) (w : World) :
    CallsIn Fence.wide n Try.prog 8 #[.string s] w fun e w' => e = .returned (.func (.func 17) #[] #[.pointer (some ⟨w.heap.size, 0, none⟩)]) ∧ w' = w.alloc (.cells #[.string s] 9) := by
  refine callsIn_of_wp Try.func8 rfl trivial ?_ rfl
  simp only [Try.ntmps8, List.size_toArray, List.length_cons, List.length_nil, Nat.reduceAdd, Nat.reduceSub, Array.replicate_succ, Array.replicate_zero, List.push_toArray, List.append_toArray, List.nil_append, List.cons_append]
  gi_wp2
  go_ret
  exact ⟨rfl, rfl⟩

theorem pts_drop (l : List UInt8) (pos k : Nat) (h : k + (U.pts (l.drop pos)).length = (U.pts l).length) (hs : (U.pts l).drop k = U.pts (l.drop pos)) (hne : l.drop pos ≠ []) :
    (U.pts l).getD k [] = U.chunk (l.drop pos) ∧ (U.pts l).drop (k + 1) = U.pts (l.drop (pos + U.adv (l.drop pos))) := by
  rw [U.pts_cons _ hne] at hs
  have h1 : (U.pts l)[k]? = some (U.chunk (l.drop pos)) := by
    rw [← List.head?_drop, hs]; rfl
  refine ⟨by simp [List.getD, h1], ?_⟩
  rw [← List.drop_drop, hs, List.drop_drop]
  rfl

def PtRel (s : ByteArray) (W : World) (J : List Nat → World → Prop) (c : Value) (wr : World) : Prop :=
  ∃ k pos : Nat, c = .int .i64 k ∧ pos ≤ s.size ∧ wr.heap[W.heap.size]? = some (.stringIter s pos) ∧ J (List.range k) wr ∧ Hid (k + (U.pts (s.data.toList.drop pos)).length = (U.pts s.data.toList).length) ∧ Hid ((U.pts s.data.toList).drop k = U.pts (s.data.toList.drop pos))

theorem grownBy_iterAt (w : World) (k : Nat) (s : ByteArray) (pos : Nat) : w.grownBy (w.iterAt k s pos) (some k) := by
  refine ⟨rfl, rfl, rfl, ?_, fun j _ hj => ?_⟩
  · simp [World.iterAt]
  · have : k ≠ j := fun e => hj (by rw [e])
    simp [World.iterAt, this]

set_option maxRecDepth 100000 in
set_option maxHeartbeats 2000000 in
theorem points1_in (n : Nat) (hn : 1 ≤ n) (l Bs : Nat) (s : ByteArray) (hs : s.size ≤ 1000000) (J Jx : List Nat → World → Prop)
    (W : World) (hJ : AbidesFrom W.heap.size J) (hJx : AbidesFrom W.heap.size Jx)
    (hY : ∀ pre x W1, J pre W1 → pre.length < (U.pts s.data.toList).length → YieldAt Fence.wide (n - 1) Try.prog l (enc2 s x) W1 fun e W' =>
      (e = .returned (.bool true) ∧ J (pre ++ [x]) W' ∧ KeepsWalks W1 W') ∨ (e = .returned (.bool false) ∧ Jx (pre ++ [x]) W'))
    (hBs : W.cell? ⟨Bs, 0, none⟩ = some (.string s)) (h0 : J [] W) :
    CallsIn Fence.wide n Try.prog 17 #[.func (.yield l) #[] #[], .pointer (some ⟨Bs, 0, none⟩)] W fun e W' => (∃ v, e = .returned v) ∧
      ((∃ ys, ys = List.range (U.pts s.data.toList).length ∧ J ys W') ∨ (∃ pre, (∃ k, k ≤ (U.pts s.data.toList).length ∧ pre = List.range k) ∧ Jx pre W')) := by
  have hpl := U.pts_length s.data.toList
  rw [U.list_size] at hpl
  have HY := Lib.hid hY
  have HJ := Lib.hid hJ
  have HJx := Lib.hid hJx
  clear hY hJ hJx
  refine callsIn_of_wp Try.func17 rfl trivial ?_ rfl
  simp only [Try.ntmps17, List.size_toArray, List.length_cons, List.length_nil, Nat.reduceAdd, Nat.reduceSub, Array.replicate_succ, Array.replicate_zero, List.push_toArray, List.append_toArray, List.nil_append, List.cons_append]
  gi_wp2
  gi_loopw [3] (fun c wr => PtRel s W J c wr) (fun _ wr => s.size - wr.iterPos W.heap.size)
  case atStart =>
    refine ⟨0, 0, rfl, Nat.zero_le _, ?_, ?_, Lib.hid (by simp), Lib.hid (by simp)⟩
    · exact World.iter_heap W s 0
    · exact HJ.out [] W _ none h0 (World.grownBy_alloc W _ none) (fun r e => by cases e)
  case round =>
    obtain ⟨k, pos, rfl, hpos, hit, hJs, H1, H2⟩ := hrel
    have hsz : W.heap.size < wr.heap.size := (Array.getElem?_eq_some_iff.1 hit).1
    have hkN : k ≤ (U.pts s.data.toList).length := by have := H1.out; omega
    by_cases hp : pos < s.size
    · have hne : s.data.toList.drop pos ≠ [] := by rw [drop_cons s pos hp]; exact List.cons_ne_nil _ _
      have hd := pts_drop s.data.toList pos k H1.out H2.out hne
      have hnx : ∀ ty, (Instr.next (.pointer (some ⟨W.heap.size, 0, none⟩)) true ty).run Try.prog wr = .ok (.tuple #[.bool true, .int .i64 pos, .int .i32 (cp s k : Int)]) (wr.iterAt W.heap.size s (pos + U.adv (s.data.toList.drop pos))) := fun ty => by
        rw [Lib.run_next_any_at wr W.heap.size s pos ty hit hp, U.decode_eq s pos hp]
        unfold cp
        rw [hd.1]
      have ha := U.adv_pos (s.data.toList.drop pos)
      have hal := U.adv_le _ hne
      rw [List.length_drop, U.list_size] at hal
      have hlen := H1.out
      rw [U.pts_cons _ hne, List.length_cons, List.drop_drop] at hlen
      have hkl : k < (U.pts s.data.toList).length := by omega
      have H1' := Lib.hid (show k + 1 + (U.pts (s.data.toList.drop (pos + U.adv (s.data.toList.drop pos)))).length = (U.pts s.data.toList).length by omega)
      have H2' := Lib.hid hd.2
      clear hlen hd hne
      generalize hpp : pos + U.adv (s.data.toList.drop pos) = pos' at *
      have hpos' : pos' ≤ s.size := by omega
      have hpos2 : pos < pos' := by omega
      have hit2 := Lib.iterAt_heap wr W.heap.size s pos pos' hit
      have HPP := Lib.hid hpp
      clear hpp
      have hJ2 : J (List.range k) (wr.iterAt W.heap.size s pos') := by
        refine HJ.out (List.range k) wr _ (some W.heap.size) hJs ?_ (fun r e => by cases e; exact ⟨Nat.le_refl _, _, hit, rfl⟩)
        exact grownBy_iterAt wr W.heap.size s pos'
      obtain ⟨fn, tmps, assign, body, hy, hR⟩ := HY.out (List.range k) k _ hJ2 (by rw [List.length_range]; exact hkl)
      unfold enc2 at hy
      gi_wp2
      refine hR.mono ?_
      rintro e W3 (⟨rfl, hJ3, hk3⟩ | ⟨rfl, hJx3⟩)
      · have hit3 := hk3.same _ _ hit2 rfl
        gi_wp2
        go_roundw
        case rel => exact ⟨k + 1, pos', by go_num, hpos', hit3, by rw [List.range_succ]; exact hJ3, H1', H2'⟩
        case measure => simp only [World.iterPos, hit3, hit]; omega
      · gi_wp2
        refine bodyPost_ret (results_none rfl _ _ _) rfl ?_
        exact ⟨⟨_, rfl⟩, .inr ⟨_, ⟨k + 1, by omega, by rw [List.range_succ]⟩, hJx3⟩⟩
    · have hnx : ∀ ty, (Instr.next (.pointer (some ⟨W.heap.size, 0, none⟩)) true ty).run Try.prog wr = .ok (.tuple #[.bool false]) wr := fun ty => Lib.run_next_end_at wr W.heap.size s pos ty hit hp
      have hkk := H1.out
      rw [drop_end s pos hp] at hkk
      have hkk' : k = (U.pts s.data.toList).length := by simpa [U.pts_nil] using hkk
      have HK := Lib.hid hkk'
      clear hkk hkk'
      gi_wp2
      go_end0
      exact ⟨⟨_, rfl⟩, .inl ⟨_, by rw [HK.out], hJs⟩⟩

theorem points_stops (n : Nat) (hn : 1 ≤ n) (Bs : Nat) (s : ByteArray) (hs : s.size ≤ 1000000) (w : World) (hB : Bs < w.heap.size) (hc : w.cell? ⟨Bs, 0, none⟩ = some (.string s)) :
    SeqStopsK Fence.wide n Try.prog 17 #[.pointer (some ⟨Bs, 0, none⟩)] (enc2 s) KeepsWalks (fun ys => ys = List.range (U.pts s.data.toList).length)
      (fun pre => ∃ k, k ≤ (U.pts s.data.toList).length ∧ pre = List.range k) (U.pts s.data.toList).length w := fun l J Jx W hW hJ hJx hY h0 => by
  have hc' := (hW.cell (p := ⟨Bs, 0, none⟩) hB).trans hc
  exact points1_in n hn l Bs s hs J Jx W hJ hJx hY hc' h0

end T
end Go.Proofs.Ytlklkbhopdneaaa

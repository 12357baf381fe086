/- The statement TextSlices: it returns true at every string and every two numbers, where Go's two tables of package utf8 lie as their texts lay them. -/
import Derived.Test.YtlklkbhopdneaaaDoorJoin
set_option linter.unusedVariables false
set_option linter.unusedSimpArgs false
namespace Go.Proofs.YtlklkbhopdneaaaDoor
open Go.RowKit
namespace T

/-- A row of strings that the call owns: its value, and its cells. -/
theorem str_form {W : World} {base : Nat} {v : Value} {L : List (List UInt8)} (h : W.ownsRow base 9 1 v L.length (strs L)) :
    ∃ ao cap, v = .slice ao L.length cap ∧ StrRow W ao L := by
  have h' := h
  rcases h.2 with ⟨rfl, h0⟩ | ⟨g, cap, cur, rfl, hb, hg, _, _, hcs, htk⟩
  · exact ⟨none, 0, by rw [h0], fun h => by omega⟩
  · refine ⟨some ⟨g, 0, none⟩, cap, rfl, fun _ => ⟨g, rfl, (Array.getElem?_eq_some_iff.1 hg).1, fun j hj => ?_⟩⟩
    rw [h'.cellAt j (by simpa using hj)]
    simp [strs, List.getD, hj]

set_option maxHeartbeats 1000000 in
set_option maxRecDepth 100000 in
theorem TextSlices (s : ByteArray) (a b : Int) (w : World) (hs0 : s.size ≤ maxLen) (ha : (Lit.int .i64 a).wf = true) (hb : (Lit.int .i64 b).wf = true) (hT : Tabs w) :
    Calls Tryd.prog 4 #[.string s, .int .i64 a, .int .i64 b] w fun e w' => e = .returned (.bool true) ∧ Below w.heap.size w w' := by
  unfold maxLen at hs0
  clear ha hb
  by_cases h2 : s.size ≤ 2000
  · have hrl := U.rep_le s.data.toList
    have hpl := U.pts_length s.data.toList
    rw [U.list_size] at hrl hpl
    have hrs : (⟨(U.rep s.data.toList).toArray⟩ : ByteArray).size ≤ 6000 := by rw [bytes_size]; omega
    have HT := Lib.hid hT
    clear hT
    obtain ⟨f, hf⟩ : ∃ f : Nat, a.toNat = f := ⟨_, rfl⟩
    have hmx : max a 0 = (f : Int) := by omega
    have q0' := fun W hW => Slice s a b W (by omega) hW
    rw [hf] at q0'
    have q0 := Lib.hid q0'
    clear q0' hf
    have q1 := fun W => refPoints ⟨(U.rep s.data.toList).toArray⟩ W (by omega)
    simp only [List.toList_toArray, U.raw_of_rep] at q1
    have Q1 := Lib.hid q1
    clear q1
    have HF : U.rep s.data.toList = (U.pts s.data.toList).flatten := rfl
    go_enter Tryd.func4, Tryd.ntmps4
    clear HF
    go_wp2_with (go_at_call 9; refine (awake _).mono ?_)
    rintro e w1 ⟨rfl, b1⟩
    have T1 := Lib.hid (HT.out.below b1)
    go_wp2_with (go_at_call 10; refine (refRepair _ _ (by omega)).mono ?_)
    rintro e w2 ⟨rfl, b2⟩
    have T2 := Lib.hid (T1.out.below b2)
    go_wp2_with (go_at_call 13; refine (Q1.out _).mono ?_)
    rintro e w3 ⟨v, rfl, hown, b3⟩
    have T3 := Lib.hid (T2.out.below b3)
    obtain ⟨ao, cap, rfl, hrow⟩ := str_form hown
    have HR := Lib.hid hrow
    clear hrow hown Q1
    have hfl : (U.pts s.data.toList).flatten.length ≤ 6000 := by have : (U.pts s.data.toList).flatten = U.rep s.data.toList := rfl; rw [this]; omega
    go_wp2_with (go_at_call 14; refine (q0.out _ T3.out).mono ?_)
    rintro e w4 ⟨rfl, b4⟩
    have HR4 := Lib.hid (HR.out.below b4)
    generalize U.pts s.data.toList = L at *
    have hmn : (min b (L.length : Int)).toNat = min b.toNat L.length := by omega
    have hme : U.sl L f (min b (L.length : Int)).toNat = U.sl L f b.toNat := by
      rw [hmn]
      by_cases h : b.toNat ≤ L.length
      · rw [Nat.min_eq_left h]
      · rw [Nat.min_eq_right (by omega), ← sl_all L f b.toNat (by omega)]
    have hj := refJoin ao cap L (f : Int) (min b (L.length : Int)) f w4 (by omega) (by omega) HR4.out (by omega) (by omega)
    rw [hme] at hj
    have HJ := Lib.hid hj
    clear hj hme hmn
    go_wp2_with (go_at_call 15; refine HJ.out.mono ?_)
    rintro e w5 ⟨rfl, rfl⟩
    go_wp2_with fail
    go_ret
    have z1 := b1.size
    have z2 := b2.size
    have z3 := b3.size
    exact ⟨rfl, ((b1.trans (b2.mono z1)).trans (b3.mono (by omega))).trans (b4.mono (by omega))⟩
  · have h2' : 2000 < s.size := by omega
    clear h2
    go_enter Tryd.func4, Tryd.ntmps4
    go_wp2_with (go_at_call 9; refine (awake _).mono ?_)
    rintro e w1 ⟨rfl, b1⟩
    go_wp2_with (go_at_call 9; refine (awake _).mono ?_)
    rintro e w2 ⟨rfl, b2⟩
    go_wp2_with fail
    go_ret
    exact ⟨rfl, b1.trans (b2.mono b1.size)⟩

end T
end Go.Proofs.YtlklkbhopdneaaaDoor

/- The statement TextDecodes: it returns true at every slice of strings, where Go's two tables of package utf8 lie as their texts lay them. -/
import Derived.Test.YtlklkbhopdneaaaDoorDecoder
import Derived.SliceStrings
import Derived.OpenShut
set_option linter.unusedVariables false
set_option linter.unusedSimpArgs false
namespace Go.Proofs.YtlklkbhopdneaaaDoor
open Go.RowKit
namespace T

/-- What is known of a slice of strings that came in. -/
def StrArg (w : World) (ao : Option Addr) (len : Nat) (S : Nat → List UInt8) : Prop :=
  0 < len → ∃ b off, ao = some ⟨b, off, none⟩ ∧ b < w.heap.size ∧ ∀ j, j < len → w.cell? ⟨b, off + j, none⟩ = some (.string ⟨(S j).toArray⟩) ∧ (S j).length ≤ 140737488351232

/-- What the pieces give so far: all is their text, got what Feed returned, r what it withholds. -/
def Inv (all got r : List UInt8) : Prop := ∀ x, U.rep (all ++ x) = got ++ U.rep (r ++ x)

theorem Inv.start : Inv [] [] [] := fun x => rfl
theorem Inv.step {all got r : List UInt8} (h : Inv all got r) (s : List UInt8) : Inv (all ++ s) (got ++ U.rep ((r ++ s).take (U.fcut (r ++ s)))) ((r ++ s).drop (U.fcut (r ++ s))) := fun x => by
  rw [List.append_assoc, h (s ++ x), ← List.append_assoc r s x, U.fcut_rep (r ++ s) x, List.append_assoc]
theorem Inv.now {all got r : List UInt8} (h : Inv all got r) : got ++ U.rep r = U.rep all := by
  have := h []
  rw [List.append_nil, List.append_nil] at this
  exact this.symm
theorem Inv.le {all got r : List UInt8} (h : Inv all got r) : got.length ≤ 3 * all.length := by
  have h1 := congrArg List.length h.now
  rw [List.length_append] at h1
  have := U.rep_le all
  omega
theorem rest_le (t : List UInt8) : (t.drop (U.fcut t)).length ≤ 3 := by
  have := U.fcut_ge t
  have := U.fcut_le t
  rw [List.length_drop]; omega

def DecRel (len : Nat) (w1 : World) (v4 v5 v6 : Value) (wr : World) : Prop :=
  ∃ (k : Nat) (all got r : List UInt8), v4 = .string ⟨all.toArray⟩ ∧ v5 = .string ⟨got.toArray⟩ ∧ v6 = .int .i64 k ∧ k ≤ len ∧ all.length ≤ 2000 ∧ r.length ≤ 3 ∧ Hid (Inv all got r) ∧ IsDec w1.heap.size r wr ∧ Below w1.heap.size w1 wr

theorem fcut_ab : U.fcut [97, 98] = 2 := by decide
theorem rep_ab : U.rep ([97, 98].take 2) = [97, 98] := by decide

theorem refRepairL (l : List UInt8) (w : World) (h : l.length ≤ 3000) :
    Calls Tryd.prog 10 #[.string ⟨l.toArray⟩] w fun e w' => e = .returned (.string ⟨(U.rep l).toArray⟩) ∧ Below w.heap.size w w' := by
  have := refRepair ⟨l.toArray⟩ w (by rw [bytes_size]; omega)
  rw [bytes_toList] at this
  exact this

set_option maxHeartbeats 2000000 in
set_option maxRecDepth 100000 in
theorem TextDecodes (ao : Option Addr) (len cap : Nat) (S : Nat → List UInt8) (w : World) (hlen : len ≤ 9223372036854775807) (hS : StrArg w ao len S) (hT : Tabs w) :
    Calls Tryd.prog 6 #[.slice ao len cap] w fun e w' => e = .returned (.bool true) ∧ Below w.heap.size w w' := by
  have HT := Lib.hid hT
  have HS := Lib.hid hS
  clear hT hS
  by_cases h6 : len ≤ 60
  · go_enter Tryd.func6, Tryd.ntmps6
    go_wp2_with fail
    refine (awake _).mono ?_
    rintro e w1 ⟨rfl, b1⟩
    have T1 := Lib.hid (HT.out.below b1)
    have z1 := b1.size
    have z2 := HT.out.2
    go_wp2_with fail
    go_loopw [4, 5, 6] (fun v4 v5 v6 wr => DecRel len w1 v4 v5 v6 wr) (fun _ _ u _ => len - (intOf u).toNat)
    case atStart =>
      refine ⟨0, [], [], [], rfl, rfl, rfl, Nat.zero_le _, by simp, by simp, Lib.hid Inv.start, ?_, (Below.refl _ _).alloc (Nat.le_refl _) _⟩
      exact heap_alloc_new _ _
    case round =>
      obtain ⟨k, all, got, r, rfl, rfl, rfl, hk, hal, hrl, HI, hd, hb⟩ := hrel
      have HD := Lib.hid hd
      clear hd
      have T2 := Lib.hid (T1.out.belowA (by omega) hb)
      have hgl := HI.out.le
      by_cases hlt : k < len
      · obtain ⟨b, off, rfl, hbw, hc⟩ := HS.out (by omega)
        obtain ⟨hck, hsz⟩ := hc k hlt
        have hck1 : wr.cell? ⟨b, off + k, none⟩ = some (.string ⟨(S k).toArray⟩) := by
          rw [hb.cell (p := ⟨b, off + k, none⟩) (by show b < _; omega), b1.cell (p := ⟨b, off + k, none⟩) hbw]; exact hck
        generalize S k = s at *
        have zs := bytes_size s
        have za := bytes_size all
        have zg := bytes_size got
        by_cases hlong : 2000 < all.length + s.length
        · have hl1 : (2000 : Int) < (all.length : Int) + (s.length : Int) := by omega
          go_wp2_with fail
          go_ret
          exact ⟨rfl, b1.trans (hb.mono b1.size)⟩
        · have hl1 : (all.length : Int) + (s.length : Int) ≤ 2000 := by omega
          have hab := append_bytes all s
          go_wp2_with fail
          refine (Feed w1.heap.size r s _ (by omega) T2.out (by omega) HD.out).mono ?_
          rintro e w2 ⟨rfl, d2, b2⟩
          have hst := HI.out.step s
          have hr3 := rest_le (r ++ s)
          have hnow := hst.now
          generalize (r ++ s).drop (U.fcut (r ++ s)) = r' at *
          have zl := Inv.le hst
          have hab2 := append_bytes got (U.rep ((r ++ s).take (U.fcut (r ++ s))))
          have zp := bytes_size (U.rep ((r ++ s).take (U.fcut (r ++ s))))
          generalize U.rep ((r ++ s).take (U.fcut (r ++ s))) = piece at *
          rw [List.length_append, List.length_append] at zl
          have zz2 : (got.length : Int) + (piece.length : Int) ≤ 6000 := by omega
          have hcell := cell_of_one d2
          have hlt2 := lt_of_block d2
          have hD2 := Lib.hid d2
          have HST := Lib.hid hst
          have HNOW := Lib.hid hnow
          clear d2 hst hnow hab hck hck1
          go_wp2_with fail
          refine (refRepairL r' _ (by omega)).mono ?_
          rintro e w3 ⟨rfl, b3⟩
          have hab3 := append_bytes (got ++ piece) (U.rep r')
          have hrr := U.rep_le r'
          have zz3 : ((got ++ piece).length : Int) + ((U.rep r').length : Int) ≤ 9000 := by rw [List.length_append]; omega
          rw [HNOW.out] at hab3
          have hal' : (all ++ s).length ≤ 2000 := by rw [List.length_append]; omega
          generalize all ++ s = all' at *
          generalize got ++ piece = got' at *
          go_wp2_with fail
          refine (refRepairL all' _ (by omega)).mono ?_
          rintro e w4 ⟨rfl, b4⟩
          go_wp2_with fail
          go_roundw
          case rel =>
            have z3 := b3.size
            refine ⟨k + 1, all', got', r', rfl, rfl, by go_num, by omega, hal', hr3, HST, ?_, ?_⟩
            · exact (b4.block _ (by omega)).trans ((b3.block _ hlt2).trans hD2.out)
            · exact ((hb.trans b2).trans (b3.mono (by omega))).trans (b4.mono (by omega))
          case measure => simp [intOf]; omega
      · have hab := append_bytes got (U.rep r)
        rw [HI.out.now] at hab
        have hrr := U.rep_le r
        have zz2 : (got.length : Int) + ((U.rep r).length : Int) ≤ 9000 := by omega
        go_wp2_with fail
        refine (End w1.heap.size r _ (by omega) T2.out (by omega) HD.out).mono ?_
        rintro e w2 ⟨rfl, d2, b2⟩
        go_wp2_with fail
        refine (refRepairL all _ (by omega)).mono ?_
        rintro e w3 ⟨rfl, b3⟩
        have d3 : IsDec w1.heap.size [] w3 := (b3.block _ (lt_of_block d2)).trans d2
        have hcell := cell_of_one d3
        have hD3 := Lib.hid d3
        have T3 := Lib.hid ((T2.out.belowA (by omega) b2).below b3)
        have hlt3 := lt_of_block d3
        have hlt2 := lt_of_block d2
        clear d2 d3
        have q := Feed w1.heap.size [] [97, 98] w3 (by simp) T3.out (by omega) hD3.out
        rw [List.nil_append] at q
        have Q := Lib.hid q
        clear q
        go_wp2_with fail
        refine Q.out.mono ?_
        rintro e w4 ⟨he, d4, b4⟩
        rw [fcut_ab, rep_ab] at he
        subst he
        go_wp2_with fail
        go_ret
        exact ⟨rfl, b1.trans ((((hb.trans b2).trans (b3.mono (by omega))).trans b4).mono b1.size)⟩
  · have h6' : 60 < len := by omega
    go_enter Tryd.func6, Tryd.ntmps6
    go_wp2_with fail
    refine (awake _).mono ?_
    rintro e w1 ⟨rfl, b1⟩
    go_wp2_with fail
    refine (awake _).mono ?_
    rintro e w2 ⟨rfl, b2⟩
    go_wp2_with fail
    go_ret
    exact ⟨rfl, b1.trans (b2.mono b1.size)⟩


section
open Go.ChangeShapes Go.WideShapes Go.RowKit

theorem weights_all {H : Type} {P : Program} {e : TypeId} : ∀ {l : List (DataW H)} {d : DataW H}, d ∈ l → ∀ n ∈ d.weights P e, n ∈ DataW.weightsAll P e l
  | d0 :: r, d, h, n, hn => by
    simp only [DataW.weightsAll, List.mem_append]
    rcases List.mem_cons.1 h with rfl | h
    · exact Or.inl hn
    · exact Or.inr (weights_all h n hn)

/-- A slice of strings that came in, and how long each is. -/
theorem open_strs {H : Type} {enc : TypeId × Value → H} {W : World} {ao : Option Addr} {len cap : Nat} {d : DataW H} {p : List MemPlace}
    (h : ∃ fuel, DataW.trod enc Tryd.prog W 0 (fun _ => true) true fuel 25 (Value.slice ao len cap).cells.toList = some (d, p)) (hlt : ∀ x ∈ p, x.block < W.heap.size)
    (hs : (d.weights Tryd.prog 25).all (· ≤ reachBytes) = true) :
    ∃ S : Nat → List UInt8, len ≤ 9223372036854775807 ∧ StrArg W ao len S := by
  obtain ⟨fuel, hf⟩ := h
  rcases open_strings Tryd.underlying25 Tryd.underlying9 (by kernel_rfl) hf with ⟨hcs, hx⟩ | ⟨a, len', cap', ss, hcs, _, hl, hm, hz, hx, hcell, hws⟩
  · simp [Value.cells] at hcs
    obtain ⟨rfl, rfl, rfl⟩ := hcs
    exact ⟨fun _ => [], by omega, fun h => by omega⟩
  · simp [Value.cells] at hcs
    obtain ⟨rfl, rfl, rfl⟩ := hcs
    simp only [Prod.mk.injEq] at hx
    obtain ⟨rfl, rfl⟩ := hx
    simp only [if_true] at hz
    unfold maxLen at hm
    refine ⟨fun j => (ss.getD j ByteArray.empty).data.toList, by omega, fun hpos => ?_⟩
    obtain ⟨b, off, spot⟩ := a
    have hspot : spot = none := by simpa [Addr.add] using World.cell?_spot (hcell 0 (by omega))
    subst hspot
    have hbW : b < W.heap.size := hlt (.cell b off) (MemPlace.mem_row.2 ⟨0, by omega, by simp⟩)
    refine ⟨b, off, rfl, hbW, fun j hj => ⟨?_, ?_⟩⟩
    · have h1 := hcell j (by omega)
      rw [show (Addr.add ⟨b, off, none⟩ j) = ⟨b, off + j, none⟩ by simp [Addr.add]] at h1
      rw [h1]
    · have hmem : (.lit (.string (ss.getD j ByteArray.empty).data.toList) : DataW H) ∈ ChangeShapes.strs (H := H) (ss.take len) := by
        unfold ChangeShapes.strs
        rw [List.mem_map]
        refine ⟨ss.getD j ByteArray.empty, ?_, rfl⟩
        have hj' : j < (ss.take len).length := by rw [List.length_take]; omega
        have : (ss.take len)[j] = ss.getD j ByteArray.empty := by
          rw [List.getElem_take]; simp [List.getD, (by omega : j < ss.length)]
        rw [← this]
        exact List.getElem_mem hj'
      have hw : (ss.getD j ByteArray.empty).data.toList.length ∈ (DataW.slice (ChangeShapes.strs (H := H) (ss.take len)) (ChangeShapes.strs (ss.drop len))).weights Tryd.prog 25 := by
        simp only [DataW.weights, Tryd.underlying25, List.mem_cons, List.mem_append]
        exact Or.inr (Or.inl (weights_all hmem _ (by simp [DataW.weights])))
      have := List.all_eq_true.1 hs _ hw
      simpa [reachBytes] using this
end

end T
end Go.Proofs.YtlklkbhopdneaaaDoor

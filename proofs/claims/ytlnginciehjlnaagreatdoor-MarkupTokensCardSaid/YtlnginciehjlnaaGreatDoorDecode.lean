/- What entity.Next and entity.Decode come to at every string, where the tables lie as their texts lay them. -/
import Derived.Test.YtlnginciehjlnaaGreatDoorEnt5
import Derived.Test.YtlnginciehjlnaaGreatDoorWStr
import Derived.Shelf.Strings.MapGrows
import Derived.Lib.LaidTab
set_option linter.unusedVariables false
set_option linter.unusedSimpArgs false
namespace Go.Proofs.YtlnginciehjlnaaGreatDoor
open Go.RowKit
namespace K

/-- Below this block lie the variables that are read. -/
def top : Nat := max (0 + 1) (max (1 + 1) (max (4 + 1) (max (5 + 1) (2 + 1))))

/-- What is known of the library's and the program's variables. -/
structure Env (w : World) : Prop where
  tabs : T.Tabs w
  mx : T.HasMax w
  ent : EntTab w
  asc : Lib.TabIs Tryz.prog w "strings.asciiSpace" .u8 Lib.asciiSpaceTab
  size : top ≤ w.heap.size

theorem tab_below {w w' : World} {B : Nat} (h : Lib.TabIs Tryz.prog w "strings.asciiSpace" .u8 Lib.asciiSpaceTab) (b : Below B w w') (hB : 2 < B) : Lib.TabIs Tryz.prog w' "strings.asciiSpace" .u8 Lib.asciiSpaceTab := by
  have hgn : Tryz.prog.globalNamed "strings.asciiSpace" = some 2 := by kernel_rfl
  unfold Lib.TabIs World.var? at h ⊢
  rw [hgn] at h ⊢
  simp only [Option.bind_some] at h ⊢
  rw [b.block _ hB]
  exact h

theorem max_below {w w' : World} {B : Nat} (h : T.HasMax w) (b : Below B w w') (hB : 4 < B) : T.HasMax w' := by
  obtain ⟨⟨m, h1⟩, h2⟩ := h
  exact ⟨⟨m, by rw [b.cell (p := ⟨4, 0, none⟩) hB]; exact h1⟩, Nat.lt_of_lt_of_le h2 b.size⟩

theorem Env.below {w w' : World} {B : Nat} (h : Env w) (b : Below B w w') (hB : top ≤ B) : Env w' := by
  have e1 : 2 ≤ B := Nat.le_trans (by decide) hB
  have e2 : 4 < B := Nat.lt_of_lt_of_le (by decide) hB
  have e3 : 5 < B := Nat.lt_of_lt_of_le (by decide) hB
  have e4 : 2 < B := Nat.lt_of_lt_of_le (by decide) hB
  exact ⟨h.tabs.belowA e1 b, max_below h.mx b e2, h.ent.below b e3, tab_below h.asc b e4, Nat.le_trans h.size b.size⟩

theorem Env.same {w w' : World} (h : Env w) (b : Below w.heap.size w w') : Env w' := h.below b h.size

theorem Next (s : List UInt8) (w : World) (hs : s.length ≤ 800000) (hE : Env w) :
    Calls Tryz.prog 110 #[.string ⟨s.toArray⟩] w fun e w' => e = .returned (tup (E.next s)) ∧ Below w.heap.size w w' := by
  by_cases h : [38, 35].isPrefixOf s = true ∨ [38].isPrefixOf s = false
  · exact Next_num s w (by omega) hE.tabs h
  · have h1 : [38, 35].isPrefixOf s = false := by
      cases hh : [38, 35].isPrefixOf s with
      | false => rfl
      | true => exact absurd (Or.inl hh) h
    have h2 : [38].isPrefixOf s = true := by
      cases hh : [38].isPrefixOf s with
      | true => rfl
      | false => exact absurd (Or.inr hh) h
    obtain ⟨t, rfl⟩ := E.amp_cons s h2
    exact Next_named t w (by simp at hs; omega) hE.mx hE.ent h1

theorem semi_len {l : List UInt8} (h : E.semi l = true) : 1 ≤ l.length := by
  cases l with
  | nil => cases h
  | cons c r => simp

/-- What a reference takes and gives. -/
theorem next_len (s : List UInt8) : (E.next s).2 ≤ s.length ∧ (E.next s).1.length ≤ 4 ∧ ((E.next s).2 = 0 → (E.next s).1 = []) := by
  have hnum : ∀ a b, a ≤ s.length → (E.numeric s a b).2 ≤ s.length ∧ (E.numeric s a b).1.length ≤ 4 ∧ ((E.numeric s a b).2 = 0 → (E.numeric s a b).1 = []) := by
    intro a b ha
    unfold E.numeric
    dsimp only
    have hl := tw_le (E.isDig b) (s.drop a)
    rw [List.length_drop] at hl
    split
    · exact ⟨Nat.zero_le _, by simp, fun _ => rfl⟩
    · rename_i hne
      have hpos : 0 < ((s.drop a).takeWhile (E.isDig b)).length := List.length_pos_iff.2 hne
      refine ⟨?_, (number_len _).2, fun h => by omega⟩
      split
      · rename_i hse
        have := semi_len hse
        rw [List.length_drop] at this
        omega
      · omega
  have hsh : ∀ l : List (List UInt8 × List UInt8), (∀ p ∈ l, p.2.length ≤ 4) → (E.short s l).2 ≤ s.length ∧ (E.short s l).1.length ≤ 4 ∧ ((E.short s l).2 = 0 → (E.short s l).1 = []) := by
    intro l
    induction l with
    | nil => intro _; exact ⟨Nat.zero_le _, by simp [E.short], fun _ => rfl⟩
    | cons p r ih =>
      intro hp
      unfold E.short
      split
      · rename_i hc
        rw [Bool.and_eq_true] at hc
        have := pre_len hc.1
        rw [List.length_cons] at this
        exact ⟨this, hp p (by simp), fun h => by simp at h⟩
      · exact ih (fun q hq => hp q (by simp [hq]))
  unfold E.next
  split
  · rename_i h
    rw [Bool.or_eq_true] at h
    rcases h with h | h
    · exact hnum 3 16 (pre_len h)
    · exact hnum 3 16 (pre_len h)
  · split
    · rename_i h; exact hnum 2 10 (pre_len h)
    · split
      · rename_i h
        split
        · rename_i p hp
          have hm := List.mem_of_find?_eq_some hp
          have h2 := List.find?_some hp
          have hle := pre_len h2
          have h38 := pre_len h
          rw [List.length_append, List.length_drop] at hle
          have hch : ∀ q ∈ E.tab, q.2.length ≤ 4 := by decide +kernel
          simp only [List.length_cons, List.length_nil] at hle h38
          exact ⟨by show p.1.length + 2 ≤ s.length; omega, hch p hm, fun h => by simp at h⟩
        · exact hsh E.shorts (by decide)
      · exact ⟨Nat.zero_le _, by simp, fun _ => rfl⟩

theorem idx_one (c : UInt8) : ∀ (l : List UInt8), (∀ i, M.idx [c] l = some i → l = l.take i ++ c :: l.drop (i + 1) ∧ c ∉ l.take i ∧ i < l.length) ∧ (M.idx [c] l = none → c ∉ l)
  | [] => ⟨fun i h => by simp [M.idx, List.isPrefixOf] at h, fun _ => by simp⟩
  | d :: r => by
    obtain ⟨ih1, ih2⟩ := idx_one c r
    by_cases hd : c = d
    · subst hd
      refine ⟨fun i h => ?_, fun h => ?_⟩
      · simp [M.idx, List.isPrefixOf] at h
        subst h
        exact ⟨rfl, by simp, by simp⟩
      · simp [M.idx, List.isPrefixOf] at h
    · have e : (c == d) = false := by simpa using hd
      refine ⟨fun i h => ?_, fun h => ?_⟩
      · simp only [M.idx, List.isPrefixOf, e, Bool.false_and, Bool.false_eq_true, if_false] at h
        cases hi : M.idx [c] r with
        | none => rw [hi] at h; cases h
        | some j =>
          rw [hi] at h
          obtain rfl : j + 1 = i := by simpa using h
          obtain ⟨h1, h2, h3⟩ := ih1 j hi
          refine ⟨?_, ?_, by simp; omega⟩
          · rw [List.take_succ_cons, List.drop_succ_cons, List.cons_append, ← h1]
          · rw [List.take_succ_cons]
            simp [hd, h2]
      · simp only [M.idx, List.isPrefixOf, e, Bool.false_and, Bool.false_eq_true, if_false] at h
        cases hi : M.idx [c] r with
        | none => simp [hd, ih2 hi]
        | some j => rw [hi] at h; cases h

theorem idx_drop {c : UInt8} {l : List UInt8} {i : Nat} (h : M.idx [c] l = some i) : l.drop i = c :: l.drop (i + 1) := by
  obtain ⟨h1, _, h3⟩ := (idx_one c l).1 i h
  have h2 : l.drop i = (l.take i ++ c :: l.drop (i + 1)).drop i := by rw [← h1]
  rw [h2, List.drop_left' (by rw [List.length_take]; omega)]

theorem WriteL (b : Nat) (acc l : List UInt8) (w : World) (h : Lib.IsBuilderF 98 5 b b (Lib.byteCells acc) w) (hl : acc.length + l.length ≤ 100000000) (hb : b ≤ w.heap.size) :
    Calls Tryz.prog 105 #[.pointer (some ⟨b, 0, none⟩), .string ⟨l.toArray⟩] w fun e w' => e = .returned (.tuple #[.int .i64 l.length, .nilIface]) ∧ Lib.IsBuilderF 98 5 b b (Lib.byteCells (acc ++ l)) w' ∧ Below b w w' := by
  have := Any.Builder_WriteString_k Tryz.hand166 Tryz.Builder_Extra_h166 b b (Lib.byteCells acc) ⟨l.toArray⟩ w h (by rw [Lib.byteCells_length, T.bytes_size]; omega) hb
  refine this.mono fun e w' ⟨h1, h2, h3, h4⟩ => ⟨?_, ?_, h3⟩
  · rw [T.bytes_size] at h1; exact h1
  · rw [Lib.strCells_eq, T.bytes_toList, ← Lib.byteCells_append] at h2
    exact Or.inr h2

def DecRel (s : List UInt8) (w : World) (v : Value) (wr : World) : Prop :=
  ∃ cur acc : List UInt8, v = .string ⟨cur.toArray⟩ ∧ Lib.IsBuilderF 98 5 w.heap.size w.heap.size (Lib.byteCells acc) wr ∧ Below w.heap.size w wr ∧ Hid (acc ++ E.decode cur = E.decode s) ∧ cur.length ≤ s.length ∧ acc.length + 4 * cur.length ≤ 4 * s.length

theorem builder_lt {T e : TypeId} {B b : Nat} {bs : List Value} {w : World} (h : Lib.IsBuilderF T e B b bs w) : b < w.heap.size := by
  rcases h with h | h
  · exact h.lt
  · exact h.lt

set_option maxHeartbeats 2000000 in
set_option maxRecDepth 100000 in
theorem Decode (s : List UInt8) (w : World) (hs : s.length ≤ 800000) (hE : Env w) :
    Calls Tryz.prog 93 #[.string ⟨s.toArray⟩] w fun e w' => e = .returned (.string ⟨(E.decode s).toArray⟩) ∧ Below w.heap.size w w' := by
  have HE := Lib.hid hE
  clear hE
  go_enter Tryz.func93, Tryz.ntmps93
  go_wp2_with fail
  go_loopw [0] (fun v wr => DecRel s w v wr) (fun v _ => T.szOf v)
  case atStart =>
    exact ⟨s, [], rfl, Lib.IsBuilderF.of (Lib.fresh_isBuilder 98 5 w), (Below.refl _ _).alloc (Nat.le_refl _) _, Lib.hid rfl, Nat.le_refl _, by simp⟩
  case round =>
    obtain ⟨cur, acc, rfl, hI, hB, HA, hcl, hal⟩ := hrel
    have hbl := builder_lt hI
    have hq := fun W => Tryz.strings_IndexByte ⟨cur.toArray⟩ 38 W
    rw [T.bytes_toList, show ((38 : Int).toNat.toUInt8) = 38 from rfl, indexByte_idx] at hq
    cases hi : M.idx [38] cur with
    | none =>
      rw [hi] at hq
      dsimp only at hq
      have Q := Lib.hid hq
      have hno := (idx_one 38 cur).2 hi
      have HF : Hid (acc ++ cur = E.decode s) := Lib.hid (by
        rw [← HA.out]
        have := E.decode_pre cur [] hno
        rw [List.append_nil, E.decode_nil, List.append_nil] at this
        rw [this])
      clear hq hi hno HA
      go_wp2_with fail
      refine (Q.out _).mono ?_
      rintro e w1 ⟨rfl, rfl⟩
      go_wp2_with fail
      refine (WriteL w.heap.size acc cur _ hI (by omega) (by omega)).mono ?_
      rintro e w1 ⟨rfl, hI1, b1⟩
      have hbl1 := builder_lt hI1
      go_wp2_with fail
      refine (Tryz.Builder_String_any_k w.heap.size w.heap.size (acc ++ cur) _ hI1 (by omega)).mono ?_
      rintro e w2 ⟨rfl, _, b2, _⟩
      go_wp2_with fail
      go_ret
      rw [HF.out]
      exact ⟨rfl, (hB.trans b1).trans b2⟩
    | some i =>
      rw [hi] at hq
      dsimp only at hq
      have Q := Lib.hid hq
      obtain ⟨hsp, hno, hlt⟩ := (idx_one 38 cur).1 i hi
      have hx1 := T.slice_str cur 0 i (Nat.zero_le _) (by omega)
      rw [List.drop_zero, Nat.sub_zero] at hx1
      have hx2 := T.slice_str cur i cur.length (by omega) (Nat.le_refl _)
      rw [List.take_of_length_le (by rw [List.length_drop]; omega)] at hx2
      have hnl := next_len (cur.drop i)
      rw [List.length_drop] at hnl
      have htl : (cur.take i).length = i := by rw [List.length_take]; omega
      have hdec : E.decode cur = cur.take i ++ E.decode (cur.drop i) := by
        have h1 := E.decode_pre (cur.take i) (cur.drop i) hno
        rw [List.take_append_drop] at h1
        exact h1
      have hdi := idx_drop hi
      by_cases h0 : (E.next (cur.drop i)).2 = 0
      · have HR : Hid ((acc ++ cur.take i ++ [38]) ++ E.decode (cur.drop (i + 1)) = E.decode s) := Lib.hid (by
          rw [← HA.out, hdec, hdi, E.decode_skip 38 _ (by rw [← hdi]; exact h0)]; simp)
        have QN := fun W h => Next (cur.drop i) W (by rw [List.length_drop]; omega) h
        have hnx : E.next (cur.drop i) = ([], 0) := Prod.ext (hnl.2.2 h0) h0
        rw [hnx] at QN
        have QN' := Lib.hid QN
        have hx3 := T.slice_str cur (i + 1) cur.length (by omega) (Nat.le_refl _)
        rw [List.take_of_length_le (by rw [List.length_drop]; omega)] at hx3
        have hl3 : (cur.drop (i + 1)).length = cur.length - (i + 1) := List.length_drop
        clear hq hi hno HA hsp hdec hdi hnl h0 QN hnx
        generalize cur.take i = A at *
        generalize cur.drop i = C at *
        generalize cur.drop (i + 1) = D at *
        go_wp2_with fail
        refine (Q.out _).mono ?_
        rintro e w1 ⟨rfl, rfl⟩
        go_wp2_with fail
        refine (WriteL w.heap.size acc A _ hI (by omega) (by omega)).mono ?_
        rintro e w1 ⟨rfl, hI1, b1⟩
        have hbl1 := builder_lt hI1
        have HE1 := Lib.hid (HE.out.below (hB.trans b1) HE.out.size)
        go_wp2_with fail
        refine (QN'.out _ HE1.out).mono ?_
        unfold tup
        rintro e w2 ⟨rfl, b2⟩
        have hI2 := hI1.below b2
        have hbl2 := builder_lt hI2
        go_wp2_with fail
        refine (WriteL w.heap.size (acc ++ A) [38] _ hI2 (by rw [List.length_append, List.length_cons, List.length_nil]; omega) (by omega)).mono ?_
        rintro e w3 ⟨rfl, hI3, b3⟩
        have hlz : (i : Int) + 1 ≤ (cur.length : Int) := by omega
        go_wp2_with fail
        go_roundw
        case rel =>
          refine ⟨D, acc ++ A ++ [38], rfl, hI3, ((hB.trans b1).trans (b2.mono (by omega))).trans b3, HR, by omega, ?_⟩
          rw [List.length_append, List.length_append, List.length_cons, List.length_nil]; omega
        case measure => simp only [T.szOf, T.bytes_size]; omega
      · have HR : Hid ((acc ++ cur.take i ++ (E.next (cur.drop i)).1) ++ E.decode (cur.drop (i + (E.next (cur.drop i)).2)) = E.decode s) := Lib.hid (by
          rw [← HA.out, hdec, E.decode_ref (cur.drop i) h0 (by rw [hdi]; simp), List.drop_drop]; simp)
        have QN' := Lib.hid (fun W h => Next (cur.drop i) W (by rw [List.length_drop]; omega) h)
        have hx3 := T.slice_str cur (i + (E.next (cur.drop i)).2) cur.length (by omega) (Nat.le_refl _)
        rw [List.take_of_length_le (by rw [List.length_drop]; omega)] at hx3
        have hl3 : (cur.drop (i + (E.next (cur.drop i)).2)).length = cur.length - (i + (E.next (cur.drop i)).2) := List.length_drop
        generalize E.next (cur.drop i) = R at *
        obtain ⟨X, n⟩ := R
        dsimp only at *
        have hnz : ((n : Int) == 0) = false := beq_eq_false_iff_ne.2 (by omega)
        have hn1 := hnl.1
        have hn2 := hnl.2.1
        clear hq hi hno HA hsp hdec hdi hnl
        generalize cur.take i = A at *
        generalize cur.drop i = C at *
        generalize cur.drop (i + n) = D at *
        go_wp2_with fail
        refine (Q.out _).mono ?_
        rintro e w1 ⟨rfl, rfl⟩
        go_wp2_with fail
        refine (WriteL w.heap.size acc A _ hI (by omega) (by omega)).mono ?_
        rintro e w1 ⟨rfl, hI1, b1⟩
        have hbl1 := builder_lt hI1
        have HE1 := Lib.hid (HE.out.below (hB.trans b1) HE.out.size)
        go_wp2_with fail
        refine (QN'.out _ HE1.out).mono ?_
        unfold tup
        rintro e w2 ⟨rfl, b2⟩
        have hI2 := hI1.below b2
        have hbl2 := builder_lt hI2
        go_wp2_with fail
        refine (WriteL w.heap.size (acc ++ A) X _ hI2 (by rw [List.length_append]; omega) (by omega)).mono ?_
        rintro e w3 ⟨rfl, hI3, b3⟩
        have hlz : (i : Int) + (n : Int) ≤ (cur.length : Int) := by omega
        go_wp2_with fail
        go_roundw
        case rel =>
          refine ⟨D, acc ++ A ++ X, by rw [hx3], hI3, ((hB.trans b1).trans (b2.mono (by omega))).trans b3, HR, by omega, ?_⟩
          rw [List.length_append, List.length_append]; omega
        case measure => simp only [T.szOf]; rw [hx3, T.bytes_size, T.bytes_size]; omega

end K
end Go.Proofs.YtlnginciehjlnaaGreatDoor

/- What upto and endTag of package markup come to. -/
import Derived.Test.YtlnginciehjlnaaGreatDoorMark1
set_option linter.unusedVariables false
set_option linter.unusedSimpArgs false
namespace Go.Proofs.YtlnginciehjlnaaGreatDoor
open Go.RowKit
namespace K

/-- What a step makes, as a value; a: the slice of the attributes. -/
def resV (r : M.Res) (a : Value) : Value := .agg #[.int .i64 r.tok.kind, .string ⟨r.tok.name.toArray⟩, a, .bool r.tok.closed, .string ⟨r.tok.text.toArray⟩, .int .i64 r.n, .bool r.ok]

theorem bset {B b o : Nat} {a w : World} {v : Value} (h : Below B a w) (hb : B ≤ b) : Below B a (w.setCell ⟨b, o, none⟩ v) := h.setCell hb v

theorem cells_of {w : World} {b : Nat} {cs : Array Value} {t : TypeId} (h : w.heap[b]? = some (.cells cs t (0, 0))) : (∀ o, w.cell? ⟨b, o, none⟩ = cs[o]?) ∧ (∀ o, o < cs.size → w.frozen? ⟨b, o, none⟩ = false) := by
  refine ⟨fun o => by simp [World.cell?, h], fun o ho => by simp [World.frozen?, h]⟩

/-- The block that was made just ahead of a call lies there behind it. -/
theorem new_after {w w1 : World} {o : Obj} (b : Below (w.alloc o).heap.size (w.alloc o) w1) : w1.heap[w.heap.size]? = some o := by
  rw [b.block w.heap.size (by simp)]; exact heap_alloc_new _ _

theorem index_idx (p : List UInt8) : ∀ s : List UInt8, Lib.index s p = match M.idx p s with | none => -1 | some i => (i : Int)
  | [] => by
    unfold Lib.index M.idx
    cases p
    · rfl
    · rfl
  | c :: r => by
    unfold Lib.index M.idx
    have ih := index_idx p r
    split
    · rfl
    · rw [ih]
      cases M.idx p r with
      | none => rfl
      | some i =>
        have h2 : ((i : Int) == -1) = false := beq_eq_false_iff_ne.2 (by omega)
        simp [h2]

theorem idx_le (p : List UInt8) : ∀ (s : List UInt8) (i : Nat), M.idx p s = some i → i + p.length ≤ s.length
  | [], i, h => by
    unfold M.idx at h
    split at h
    · rename_i hp
      obtain rfl : 0 = i := by simpa using h
      have := List.IsPrefix.length_le (List.isPrefixOf_iff_prefix.1 hp)
      simpa using this
    · cases h
  | c :: r, i, h => by
    unfold M.idx at h
    split at h
    · rename_i hp
      obtain rfl : 0 = i := by simpa using h
      have := List.IsPrefix.length_le (List.isPrefixOf_iff_prefix.1 hp)
      omega
    · cases hx : M.idx p r with
      | none => rw [hx] at h; cases h
      | some j =>
        rw [hx] at h
        obtain rfl : j + 1 = i := by simpa using h
        have := idx_le p r j hx
        simp only [List.length_cons]
        omega

theorem cut_idx (s p : List UInt8) : Lib.cut s p = match M.idx p s with | none => (s, [], false) | some i => (s.take i, s.drop (i + p.length), true) := by
  unfold Lib.cut
  rw [index_idx p s]
  cases h : M.idx p s with
  | none => simp
  | some i =>
    have : ¬ ((i : Int) < 0) := by omega
    simp [this]

set_option maxHeartbeats 400000 in
theorem upto (s mark : List UInt8) (skip kind : Nat) (e : Bool) (w : World) (hs : s.length ≤ 1000000) (hk : skip ≤ s.length) (hm : mark.length ≤ 1000) (hM : T.HasMax w) :
    Calls Tryz.prog 78 #[.string ⟨s.toArray⟩, .int .i64 skip, .string ⟨mark.toArray⟩, .int .i64 kind, .bool e] w fun en w' => en = .returned (resV (M.upto s skip mark kind e) (.slice none 0 0)) ∧ Below w.heap.size w w' := by
  obtain ⟨⟨m, hm1⟩, hm2⟩ := hM
  have hx := T.slice_str s skip s.length hk (Nat.le_refl _)
  rw [List.take_of_length_le (by rw [List.length_drop]; omega)] at hx
  have hq := fun W h => Tryz.strings_Cut ⟨(s.drop skip).toArray⟩ ⟨mark.toArray⟩ m W (by rw [T.bytes_size, List.length_drop]; omega) h
  rw [T.bytes_toList, T.bytes_toList, cut_idx] at hq
  cases hi : M.idx mark (s.drop skip) with
  | none =>
    rw [hi] at hq
    dsimp only at hq
    have Q := Lib.hid hq
    have HV := Lib.hid (show M.upto s skip mark kind e = ⟨.txt kind (s.drop skip), s.length, e⟩ by unfold M.upto; rw [hi])
    clear hq hi
    go_enter Tryz.func78, Tryz.ntmps78
    go_wp2_with fail
    refine (Q.out _ (by rw [World.cell?_alloc_lt _ _ _ (by exact hm2)]; exact hm1)).mono ?_
    rintro e w' ⟨rfl, n, rfl⟩
    go_wp2_with fail
    rw [HV.out]
    refine bodyPost_ret (v := resV _ (.slice none 0 0)) (by simp [results, Tryz.results78, go_sem, resV, M.Tok.txt]) rfl ⟨rfl, ?_⟩
    iterate 7 refine bset ?_ (Nat.le_refl _)
    exact T.below_dr ((Below.refl _ _).alloc (Nat.le_refl _) _) _
  | some i =>
    rw [hi] at hq
    dsimp only at hq
    have Q := Lib.hid hq
    have hle := idx_le mark _ i hi
    rw [List.length_drop] at hle
    have HV := Lib.hid (show M.upto s skip mark kind e = ⟨.txt kind ((s.drop skip).take i), skip + i + mark.length, true⟩ by unfold M.upto; rw [hi])
    have hlen : ((s.drop skip).take i).length = i := by rw [List.length_take, List.length_drop]; omega
    generalize (s.drop skip).take i = t at *
    clear hq hi
    go_enter Tryz.func78, Tryz.ntmps78
    go_wp2_with fail
    refine (Q.out _ (by rw [World.cell?_alloc_lt _ _ _ (by exact hm2)]; exact hm1)).mono ?_
    rintro e w' ⟨rfl, n, rfl⟩
    go_wp2_with fail
    rw [HV.out]
    refine bodyPost_ret (v := resV _ (.slice none 0 0)) (by simp [results, Tryz.results78, go_sem, resV, M.Tok.txt]) rfl ⟨rfl, ?_⟩
    iterate 7 refine bset ?_ (Nat.le_refl _)
    exact T.below_dr ((Below.refl _ _).alloc (Nat.le_refl _) _) _

theorem indexByte_idx (s : List UInt8) (c : UInt8) : Lib.indexByte s c = match M.idx [c] s with | none => -1 | some i => (i : Int) := by
  rw [← Lib.index_one, index_idx]

theorem take_while_more (p : UInt8 → Bool) (l : List UInt8) : l.takeWhile p = l.take (l.takeWhile p).length := by
  induction l with
  | nil => rfl
  | cons c r ih =>
    by_cases h : p c = true
    · rw [List.takeWhile_cons_of_pos h, List.length_cons, List.take_succ_cons, ← ih]
    · rw [List.takeWhile_cons_of_neg h]; rfl

theorem tw_le (p : UInt8 → Bool) (l : List UInt8) : (l.takeWhile p).length ≤ l.length := by
  rw [take_while_more p l, List.length_take]; omega

def EtRel (s : List UInt8) (w1 : World) (v : Value) (wr : World) : Prop :=
  ∃ k : Nat, v = .int .i64 k ∧ 2 ≤ k ∧ k ≤ s.length ∧ Hid (k + ((s.drop k).takeWhile M.goesOn).length = 2 + ((s.drop 2).takeWhile M.goesOn).length) ∧ wr = w1

set_option maxHeartbeats 400000 in
theorem endTag (s : List UInt8) (e : Bool) (w : World) (hs : s.length ≤ 1000000) (h2 : 2 ≤ s.length) :
    Calls Tryz.prog 76 #[.string ⟨s.toArray⟩, .bool e] w fun en w' => en = .returned (resV (M.endTag s e) (.slice none 0 0)) ∧ Below w.heap.size w w' := by
  go_enter Tryz.func76, Tryz.ntmps76
  go_wp2_with fail
  go_loopw [5] (fun v wr => EtRel s (w.alloc (.cells #[.int .i64 0, .string ⟨#[]⟩, .slice none 0 0, .bool false, .string ⟨#[]⟩, .int .i64 0, .bool false] 84)) v wr) (fun v _ => s.length - (intOf v).toNat)
  case atStart => exact ⟨2, rfl, by omega, h2, Lib.hid rfl, rfl⟩
  case round =>
    obtain ⟨k, rfl, hk2, hk, HF, rfl⟩ := hrel
    by_cases hgo : k < s.length ∧ (∀ c r, s.drop k = c :: r → M.stops c = false)
    · obtain ⟨hlt, hgo⟩ := hgo
      obtain ⟨c, r, hd⟩ := drop_cons hlt
      have hx := at_drop hd (by rw [T.bytes_size]; exact hlt)
      have hd2 := drop_more hd
      have hlt1 : (k : Int) < (s.length : Int) := by omega
      have hc := hgo c r hd
      have q := stops c
      rw [hc] at q
      have Q := Lib.hid q
      have HR := Lib.hid (show k + 1 + ((s.drop (k + 1)).takeWhile M.goesOn).length = 2 + ((s.drop 2).takeWhile M.goesOn).length by
        rw [← HF.out, hd, List.takeWhile_cons_of_pos (by simp [M.goesOn, hc]), hd2, List.length_cons]; omega)
      clear q hc hd hd2 hgo
      go_wp2_with fail
      refine (Q.out _).mono ?_
      rintro e w' ⟨rfl, rfl⟩
      go_wp2_with fail
      go_roundw
      case rel => exact ⟨k + 1, by go_num, by omega, by omega, HR, rfl⟩
      case measure => simp [intOf]; omega
    · have hex : (s.length ≤ k ∧ k = 2 + ((s.drop 2).takeWhile M.goesOn).length) ∨ (∃ c r, k < s.length ∧ s.drop k = c :: r ∧ M.stops c = true ∧ k = 2 + ((s.drop 2).takeWhile M.goesOn).length) := by
        rcases Nat.lt_or_ge k s.length with hlt | hge
        · obtain ⟨c, r, hd⟩ := drop_cons hlt
          have hc : M.stops c = true := by
            cases hc : M.stops c with
            | true => rfl
            | false =>
              refine absurd ⟨hlt, fun c' r' h' => ?_⟩ hgo
              rw [hd] at h'
              simp at h'
              rw [← h'.1]; exact hc
          exact Or.inr ⟨c, r, hlt, hd, hc, by rw [← HF.out, hd, List.takeWhile_cons_of_neg (by simp [M.goesOn, hc])]; rfl⟩
        · exact Or.inl ⟨hge, by rw [← HF.out, List.drop_eq_nil_of_le (by omega)]; rfl⟩
      have hsl := T.slice_str s 2 k hk2 hk
      have hq := fun W => Tryz.strings_IndexByte ⟨s.toArray⟩ 62 W
      rw [T.bytes_toList, show ((62 : Int).toNat.toUInt8) = 62 from rfl, indexByte_idx] at hq
      clear hgo
      rcases hex with ⟨hge, hkk⟩ | ⟨c, r, hlt, hd, hc, hkk⟩
      case' inl =>
        have HR := Lib.hid hkk
        clear hkk
        have hge1 : (s.length : Int) ≤ (k : Int) := by omega
      case' inr =>
        have HR := Lib.hid hkk
        have hx := at_drop hd (by rw [T.bytes_size]; exact hlt)
        have hlt1 : (k : Int) < (s.length : Int) := by omega
        have q := stops c
        rw [hc] at q
        have QS := Lib.hid q
        clear q hc hkk hd
      all_goals
        cases hi : M.idx [62] s with
        | none =>
          rw [hi] at hq
          dsimp only at hq
          have Q := Lib.hid hq
          have HV := Lib.hid (show M.endTag s e = ⟨.none, s.length, e⟩ by unfold M.endTag; rw [hi])
          clear hq hi
          go_wp2_with (first | (go_at_call 74; refine (QS.out _).mono ?_; rintro e w' ⟨rfl, rfl⟩) | (go_at_call 94; refine (Q.out _).mono ?_; rintro e w' ⟨rfl, rfl⟩))
          rw [HV.out]
          refine bodyPost_ret (v := resV _ (.slice none 0 0)) (by simp [results, Tryz.results76, go_sem, resV, M.Tok.none]) rfl ⟨rfl, ?_⟩
          exact (Below.refl _ _).alloc (Nat.le_refl _) _
        | some i =>
          rw [hi] at hq
          dsimp only at hq
          have Q := Lib.hid hq
          have hle := idx_le [62] _ i hi
          have HV := Lib.hid (show M.endTag s e = ⟨⟨2, M.lower ((s.drop 2).take (k - 2)), [], false, []⟩, i + 1, true⟩ by
            unfold M.endTag; rw [hi, HR.out, Nat.add_sub_cancel_left, ← take_while_more])
          have hl2 : ((s.drop 2).take (k - 2)).length ≤ 1000000 := by rw [List.length_take, List.length_drop]; omega
          generalize (s.drop 2).take (k - 2) = t at *
          clear hq hi
          go_wp2_with (first | (go_at_call 74; refine (QS.out _).mono ?_; rintro e w' ⟨rfl, rfl⟩) | (go_at_call 94; refine (Q.out _).mono ?_; rintro e w' ⟨rfl, rfl⟩))
          refine (LowerL t _ hl2).mono ?_
          rintro en w1 ⟨rfl, b1⟩
          have hblk := new_after b1
          obtain ⟨hcl, hfr⟩ := cells_of hblk
          clear hblk
          go_wp2_with fail
          rw [HV.out]
          refine bodyPost_ret (v := resV _ (.slice none 0 0)) (by simp [results, Tryz.results76, go_sem, resV, hcl]) rfl ⟨rfl, ?_⟩
          iterate 7 refine bset ?_ (Nat.le_refl _)
          exact ((Below.refl _ _).alloc (Nat.le_refl _) _).trans (b1.mono (by simp))

end K
end Go.Proofs.YtlnginciehjlnaaGreatDoor

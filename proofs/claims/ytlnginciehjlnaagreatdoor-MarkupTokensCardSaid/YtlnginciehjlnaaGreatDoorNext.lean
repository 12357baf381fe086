/- What put, Feed and next of the tokenizer come to; how much a step takes. -/
import Derived.Test.YtlnginciehjlnaaGreatDoorRaw
import Derived.Outline
import Derived.Deep.RegionWith
import Derived.Deep.DeepCutAuto
set_option linter.unusedVariables false
set_option linter.unusedSimpArgs false
namespace Go.Proofs.YtlnginciehjlnaaGreatDoor
open Go.RowKit

namespace U
/-- The state behind a text: was its last byte a carriage return? -/
def last13 (p : Bool) : List UInt8 → Bool
  | [] => p
  | c :: r => last13 (c == 13) r

theorem nlr_append : ∀ (a b : List UInt8) (p : Bool), nlr p (a ++ b) = nlr p a ++ nlr (last13 p a) b
  | [], b, p => rfl
  | c :: a, b, p => by
    by_cases h : c = 10 ∧ p = true
    · obtain ⟨rfl, rfl⟩ := h
      have e : ((10 : UInt8) == 13) = false := by decide
      simp only [List.cons_append, nlr, last13, e, and_self, if_true]
      exact nlr_append a b false
    · simp only [List.cons_append, nlr, last13, if_neg h]
      rw [nlr_append a b (c == 13)]

theorem last13_append : ∀ (a b : List UInt8) (p : Bool), last13 p (a ++ b) = last13 (last13 p a) b
  | [], _, _ => rfl
  | c :: a, b, p => last13_append a b (c == 13)

theorem last13_getD : ∀ (s : List UInt8) (p : Bool), 1 ≤ s.length → last13 p s = (s.getD (s.length - 1) 0 == 13)
  | [], _, h => by simp at h
  | [c], p, _ => rfl
  | c :: d :: r, p, _ => by
    have ih := last13_getD (d :: r) (c == 13) (by simp)
    show last13 (c == 13) (d :: r) = _
    rw [ih]
    simp

theorem nlr_trim (s : List UInt8) : nlr false (Lib.trimPrefix s [10]) = nlr true s := by
  rw [nlr_true]
  cases s with
  | nil => rfl
  | cons c r =>
    by_cases h : c = 10
    · subst h; rfl
    · have e : Lib.trimPrefix (c :: r) [10] = c :: r := by
        have e2 : (10 == c) = false := by simpa using fun e => h e.symm
        simp [Lib.trimPrefix, Lib.hasPrefix, List.isPrefixOf, e2]
      rw [e]
      split
      · rename_i t heq; simp at heq; exact absurd heq.1 h
      · rfl

end U

namespace K

def PutPost (tb : Nat) (d rest raw s : List UInt8) (ret : Bool) (w : World) (e : Ending) (w' : World) : Prop :=
  e = .returned (.tuple #[]) ∧ IsTz tb d (rest ++ U.nlr ret s) raw (U.last13 ret s) w' ∧ But tb w w'

theorem NewlinesL (l : List UInt8) (w : World) (h : l.length ≤ 100000) (hM : T.HasMax w) :
    Calls Tryz.prog 60 #[.string ⟨l.toArray⟩] w fun e w' => e = .returned (.string ⟨(U.nlr false l).toArray⟩) ∧ Below w.heap.size w w' := by
  have := T.Newlines ⟨l.toArray⟩ w (by rw [T.bytes_size]; omega) hM
  rw [T.bytes_toList] at this
  exact this

theorem code_gen {P : Program} {c : Code} {Q : Exit → Act → World → Prop} {a : Act} {W : World} (h : ∀ F, F = W → Code.wp P c Q a F) : Code.wp P c Q a W := h W rfl

theorem IsTz.free {tb : Nat} {d rest raw : List UInt8} {ret : Bool} {w : World} (h : IsTz tb d rest raw ret w) (o : Nat) (ho : o < 4) : w.frozen? ⟨tb, o, none⟩ = false := (cells_of h).2 o ho

theorem trim_le (s : List UInt8) : (Lib.trimPrefix s [10]).length ≤ s.length := by
  unfold Lib.trimPrefix; split
  · rw [List.length_drop]; omega
  · omega

set_option maxHeartbeats 2000000 in
theorem put (tb : Nat) (d rest raw s : List UInt8) (ret : Bool) (w : World) (hs : s.length ≤ 100000) (hr : rest.length ≤ 800000) (hE : Env w) (ht : top ≤ tb) (hT : IsTz tb d rest raw ret w) :
    Calls Tryz.prog 42 #[.pointer (some ⟨tb, 0, none⟩), .string ⟨s.toArray⟩] w (PutPost tb d rest raw s ret w) := by
  have hal := lt_of_block hT
  obtain ⟨hcl, hfr⟩ := cells_of hT
  have HT := Lib.hid hT
  have HE := Lib.hid hE
  clear hT hE
  rcases Nat.eq_zero_or_pos s.length with h0 | hpos
  · obtain rfl : s = [] := List.eq_nil_of_length_eq_zero h0
    go_enter Tryz.func42, Tryz.ntmps42
    go_wp2_with fail
    go_end0
    exact ⟨rfl, by rw [show U.nlr ret [] = [] from by cases ret <;> rfl, List.append_nil]; exact HT.out, But.refl _ _⟩
  · have hlast := K.at_getD s (s.length - 1) (by omega) (by rw [T.bytes_size]; omega)
    have hl13 := U.last13_getD s ret hpos
    generalize hL : s.getD (s.length - 1) 0 = c at *
    have HL13 := Lib.hid hl13
    clear hl13 hL
    have hB13 : Hid (((c.toNat : Int) == 13) = (c == 13)) := Lib.hid (T.byte_eq c 13 (by omega))
    have hnE : s.isEmpty = false := by cases s with | nil => simp at hpos | cons _ _ => rfl
    have hnE2 : s ≠ [] := by rintro rfl; simp at hpos
    have HQ : Hid (∀ (t : List UInt8) (W : World), t.length ≤ 100000 → T.HasMax W → Calls Tryz.prog 60 #[.string ⟨t.toArray⟩] W fun e w' => e = .returned (.string ⟨(U.nlr false t).toArray⟩) ∧ Below W.heap.size W w') := Lib.hid NewlinesL
    cases ret with
    | false =>
      go_enter Tryz.func42, Tryz.ntmps42
      go_wp2_with fail
      refine code_gen ?_
      intro F hF
      have hFt : IsTz tb d rest raw ((c.toNat : Int) == 13) F := by rw [hF]; exact HT.out.ret _
      have hFb : But tb w F := by rw [hF]; exact But.set _ _ _
      have HEF := Lib.hid (HE.out.but hFb ht hal)
      clear hF hcl hfr
      have HMD := Lib.hid (show T.HasMax F.drew from HEF.out.mx)
      have hc1 : F.cell? ⟨tb, 1, none⟩ = some (.string ⟨rest.toArray⟩) := (cells_of hFt).1 1
      have hzF := hFb.size
      have HFt := Lib.hid hFt
      clear hFt
      have hN : (U.nlr false s).length ≤ 100000 := Nat.le_trans (U.nlr_length s false) hs
      have hab := T.append_bytes rest (U.nlr false s)
      have hsum : rest.length + (U.nlr false s).length ≤ 900000 := by omega
      go_region_with ((go_at_call 60; refine (HQ.out s _ hs HMD.out).mono ?_; rintro e w1 ⟨rfl, b0⟩; have b1 : Below F.heap.size F w1 := ((Below.refl F.heap.size F).drew).trans b0; have ht1 := HFt.out.below b1; have hc2 : w1.cell? ⟨tb, 1, none⟩ = some (.string ⟨rest.toArray⟩) := (cells_of ht1).1 1; have hf2 : w1.frozen? ⟨tb, 1, none⟩ = false := ht1.free 1 (by decide); have hz1 := b1.size))
      all_goals
        go_wp2_with fail
        go_end0
        refine ⟨rfl, ?_, ?_⟩
        · rw [HL13.out, ← hB13.out]; exact ht1.rest _
        · exact hFb.trans ((But.of b1).trans (But.set _ _ _))
    | true =>
      have q := fun W => Tryz.strings_TrimPrefix ⟨s.toArray⟩ ⟨#[10]⟩ W
      have hs2 := Nat.le_trans (trim_le s) hs
      rw [T.bytes_toList, show (⟨#[10]⟩ : ByteArray).data.toList = [10] from rfl] at q
      obtain ⟨S2, hS2⟩ : ∃ S2, Lib.trimPrefix s [10] = S2 := ⟨_, rfl⟩
      rw [hS2] at q hs2
      have QT := Lib.hid q
      have HS2 := Lib.hid hS2
      clear q hS2
      go_enter Tryz.func42, Tryz.ntmps42
      go_wp2_with fail
      refine (QT.out _).mono ?_
      rintro e w0 ⟨rfl, hw0⟩
      have hw1 := hw0.symm
      clear hw0
      subst hw1
      go_wp2_with fail
      refine code_gen ?_
      intro F hF
      have hFt : IsTz tb d rest raw ((c.toNat : Int) == 13) F := by rw [hF]; exact HT.out.ret _
      have hFb : But tb w F := by rw [hF]; exact But.set _ _ _
      have HEF := Lib.hid (HE.out.but hFb ht hal)
      clear hF hcl hfr
      have HMD := Lib.hid (show T.HasMax F.drew from HEF.out.mx)
      have hc1 : F.cell? ⟨tb, 1, none⟩ = some (.string ⟨rest.toArray⟩) := (cells_of hFt).1 1
      have hzF := hFb.size
      have HFt := Lib.hid hFt
      clear hFt
      have hN : (U.nlr false S2).length ≤ 100000 := Nat.le_trans (U.nlr_length S2 false) hs2
      have hab := T.append_bytes rest (U.nlr false S2)
      have hsum : rest.length + (U.nlr false S2).length ≤ 900000 := by omega
      go_region_with ((go_at_call 60; refine (HQ.out S2 _ hs2 HMD.out).mono ?_; rintro e w1 ⟨rfl, b0⟩; have b1 : Below F.heap.size F w1 := ((Below.refl F.heap.size F).drew).trans b0; have ht1 := HFt.out.below b1; have hc2 : w1.cell? ⟨tb, 1, none⟩ = some (.string ⟨rest.toArray⟩) := (cells_of ht1).1 1; have hf2 : w1.frozen? ⟨tb, 1, none⟩ = false := ht1.free 1 (by decide); have hz1 := b1.size))
      all_goals
        go_wp2_with fail
        go_end0
        refine ⟨rfl, ?_, ?_⟩
        · rw [HL13.out, ← hB13.out, ← U.nlr_trim, HS2.out]; exact ht1.rest _
        · exact hFb.trans ((But.of b1).trans (But.set _ _ _))


def TFeedPost (tb : Nat) (d s rest raw : List UInt8) (ret : Bool) (w : World) (e : Ending) (w' : World) : Prop :=
  e = .returned (.tuple #[]) ∧ IsTz tb ((d ++ s).drop (U.fcut (d ++ s))) (rest ++ U.nlr ret (U.rep ((d ++ s).take (U.fcut (d ++ s))))) raw (U.last13 ret (U.rep ((d ++ s).take (U.fcut (d ++ s))))) w' ∧ But tb w w'

set_option maxHeartbeats 1000000 in
theorem Feed (tb : Nat) (d s rest raw : List UInt8) (ret : Bool) (w : World) (hz : d.length + s.length ≤ 33000) (hr : rest.length ≤ 800000) (hE : Env w) (ht : top ≤ tb) (hT : IsTz tb d rest raw ret w) :
    Calls Tryz.prog 21 #[.pointer (some ⟨tb, 0, none⟩), .string ⟨s.toArray⟩] w (TFeedPost tb d s rest raw ret w) := by
  have hal := lt_of_block hT
  have Q := Lib.hid (DFeed tb d s rest raw ret w (by omega) hE ht hT)
  have hl : (U.rep ((d ++ s).take (U.fcut (d ++ s)))).length ≤ 100000 := by
    have h1 := U.rep_le ((d ++ s).take (U.fcut (d ++ s)))
    rw [List.length_take, List.length_append] at h1
    omega
  have HE := Lib.hid hE
  clear hE hT
  go_enter Tryz.func21, Tryz.ntmps21
  go_wp2_with fail
  refine Q.out.mono ?_
  rintro e w1 ⟨rfl, ht1, b1⟩
  have HE1 := Lib.hid (HE.out.but b1 ht hal)
  go_wp2_with fail
  refine (put tb _ rest raw _ ret w1 hl hr HE1.out ht ht1).mono ?_
  rintro e w2 ⟨rfl, ht2, b2⟩
  go_wp2_with fail
  go_end0
  exact ⟨rfl, ht2, b1.trans b2⟩

end K
end Go.Proofs.YtlnginciehjlnaaGreatDoor

namespace Go.Proofs.YtlnginciehjlnaaGreatDoor
namespace M

theorem dw_le (p : UInt8 → Bool) (l : List UInt8) : (l.dropWhile p).length ≤ l.length := by
  rw [← K.drop_tw, List.length_drop]; omega

theorem value_rest {r v u : List UInt8} (h : value r = some (v, u)) : u.length ≤ r.length := by
  have h0 := dw_le T.sp r
  unfold value at h
  split at h
  · cases h
  · rename_i c t heq
    rw [heq, List.length_cons] at h0
    split at h
    · split at h
      · cases h
      · rename_i i hi
        have h1 : u = t.drop (i + 1) := by have := Option.some.inj h; exact (Prod.mk.inj this).2.symm
        rw [h1, List.length_drop]; omega
    · split at h
      · cases h
      · have h1 : u = (c :: t).dropWhile inValue := by have := Option.some.inj h; exact (Prod.mk.inj this).2.symm
        have h2 := dw_le inValue (c :: t)
        rw [h1]
        rw [List.length_cons] at h2
        omega

theorem attr_rest {c : UInt8} {r u : List UInt8} {a : List UInt8 × List UInt8} (h : attr c r = some (a, u)) : u.length ≤ r.length := by
  have h0 := dw_le inName r
  unfold attr at h
  split at h
  · cases h
  · have h1 := dw_le T.sp (r.dropWhile inName)
    split at h
    · cases h
    · rename_i d t heq
      rw [heq, List.length_cons] at h1
      split at h
      · split at h
        · cases h
        · rename_i v u' hv
          have h2 := value_rest hv
          have h3 : u' = u := by have := Option.some.inj h; exact (Prod.mk.inj this).2
          rw [← h3]; omega
      · have h3 : d :: t = u := by have := Option.some.inj h; exact (Prod.mk.inj this).2
        rw [← h3, List.length_cons]; omega

theorem tagLoop_rest : ∀ (n : Nat) (l : List (List UInt8 × List UInt8)) (r : List UInt8) {l' : List (List UInt8 × List UInt8)} {c : Bool} {u : List UInt8}, tagLoop n l r = some (l', c, u) → u.length < r.length
  | 0, l, r, _, _, _, h => by cases h
  | n + 1, l, r, l', c, u, h => by
    have h0 := dw_le skips r
    unfold tagLoop at h
    split at h
    · cases h
    · rename_i d t heq
      rw [heq, List.length_cons] at h0
      split at h
      · have h3 : t = u := by have := Option.some.inj h; exact (Prod.mk.inj (Prod.mk.inj this).2).2
        rw [← h3]; omega
      · split at h
        · cases h
        · rename_i a u' hv
          have h2 := attr_rest hv
          have h3 := tagLoop_rest n _ _ h
          omega

theorem start_rest {r u : List UInt8} {t : Tok} (h : start r = some (t, u)) : u.length < r.length := by
  have h0 := dw_le goesOn r
  unfold start at h
  split at h
  · cases h
  · rename_i l c u' hv
    have h2 := tagLoop_rest _ _ _ hv
    have h3 : u' = u := by have := Option.some.inj h; exact (Prod.mk.inj this).2
    rw [← h3]; omega

theorem nextAt_lt : ∀ (s : List UInt8) (i : Nat), nextAt s = some i → i < s.length
  | [], i, h => by cases h
  | c :: r, i, h => by
    unfold nextAt at h
    split at h
    · have : 0 = i := by simpa using h
      subst this; simp
    · cases hx : nextAt r with
      | none => rw [hx] at h; cases h
      | some j =>
        rw [hx] at h
        obtain rfl : j + 1 = i := by simpa using h
        have := nextAt_lt r j hx
        simp only [List.length_cons]; omega

theorem shutAt_lt (mark : List UInt8) : ∀ (s : List UInt8) (i : Nat), shutAt mark s = some i → i < s.length
  | [], i, h => by cases h
  | c :: r, i, h => by
    unfold shutAt at h
    split at h
    · have : 0 = i := by simpa using h
      subst this; simp
    · cases hx : shutAt mark r with
      | none => rw [hx] at h; cases h
      | some j =>
        rw [hx] at h
        obtain rfl : j + 1 = i := by simpa using h
        have := shutAt_lt mark r j hx
        simp only [List.length_cons]; omega

/-- A step takes at least one byte, and no more than there are. -/
def Fits (s : List UInt8) (r : Res) : Prop := r.ok = true → 1 ≤ r.n ∧ r.n ≤ s.length

theorem upto_fits (s mark : List UInt8) (skip kind : Nat) (e : Bool) (h1 : 1 ≤ skip) (hs : 1 ≤ s.length) (hk : skip ≤ s.length) : Fits s (upto s skip mark kind e) := by
  intro _
  unfold upto
  split
  · exact ⟨hs, Nat.le_refl _⟩
  · rename_i i hi
    have := K.idx_le mark _ i hi
    rw [List.length_drop] at this
    exact ⟨by show 1 ≤ skip + i + mark.length; omega, by show skip + i + mark.length ≤ s.length; omega⟩

theorem endTag_fits (s : List UInt8) (e : Bool) (hs : 1 ≤ s.length) : Fits s (endTag s e) := by
  intro _
  unfold endTag
  split
  · exact ⟨hs, Nat.le_refl _⟩
  · rename_i i hi
    have := K.idx_le [62] _ i hi
    simp at this
    exact ⟨by show 1 ≤ i + 1; omega, by show i + 1 ≤ s.length; omega⟩

theorem startTag_fits (s : List UInt8) (e : Bool) (hs : 1 ≤ s.length) : Fits s (startTag s e) := by
  intro _
  unfold startTag
  split
  · exact ⟨hs, Nat.le_refl _⟩
  · rename_i t u hu
    have := start_rest hu
    rw [List.length_drop] at this
    exact ⟨by show 1 ≤ s.length - u.length; omega, by show s.length - u.length ≤ s.length; omega⟩

theorem plain_fits (s : List UInt8) (e : Bool) (hs : 1 ≤ s.length) : Fits s (plain s e) := by
  intro _
  unfold plain
  split
  · exact ⟨hs, Nat.le_refl _⟩
  · rename_i i hi
    have := nextAt_lt _ i hi
    rw [List.length_drop] at this
    exact ⟨by show 1 ≤ i + 1; omega, by show i + 1 ≤ s.length; omega⟩

theorem has_len {s p : List UInt8} (h : has s p = true) : p.length ≤ s.length := by
  simp only [has, Bool.and_eq_true, decide_eq_true_eq] at h
  exact h.1

theorem normal_fits (s : List UInt8) (e : Bool) (hs : 1 ≤ s.length) : Fits s (normal s e) := by
  unfold normal
  split
  · intro h; cases h
  · split
    · rename_i h
      have h4 := List.IsPrefix.length_le (List.isPrefixOf_iff_prefix.1 h)
      exact upto_fits s closing 4 4 e (by omega) hs h4
    · split
      · rename_i h
        exact upto_fits s [62] 9 5 e (by omega) hs (has_len h)
      · split
        · exact plain_fits s e hs
        · rename_i hb
          have h2 := (K.begins_two (s := s) (by simpa using hb)).1
          split
          · exact startTag_fits s e hs
          · split
            · rename_i h
              have h4 := List.IsPrefix.length_le (List.isPrefixOf_iff_prefix.1 h)
              intro _
              exact ⟨by show 1 ≤ 3; omega, h4⟩
            · split
              · exact endTag_fits s e hs
              · exact upto_fits s [62] 2 4 e (by omega) hs h2

theorem rawStep_fits (raw s : List UInt8) (e : Bool) (hs : 1 ≤ s.length) : Fits s (rawStep raw s e).1 := by
  unfold rawStep
  split
  · intro _; exact ⟨hs, Nat.le_refl _⟩
  · exact endTag_fits s e hs
  · rename_i i hi
    have := shutAt_lt _ _ _ hi
    intro _
    show 1 ≤ (s.take (i + 1)).length ∧ (s.take (i + 1)).length ≤ s.length
    rw [List.length_take]
    omega

theorem step_fits (raw s : List UInt8) (e : Bool) (hs : 1 ≤ s.length) : Fits s (step raw s e).1 := by
  unfold step
  split
  · exact normal_fits s e hs
  · exact rawStep_fits raw s e hs

theorem isRaw_len {n : List UInt8} (h : isRaw n = true ∨ isPlain n = true) : n.length ≤ 8 := by
  simp only [isRaw, isPlain, Bool.or_eq_true, beq_iff_eq] at h
  rcases h with (rfl | rfl) | (rfl | rfl) <;> decide

theorem step_mode (raw s : List UInt8) (e : Bool) (hr : raw.length ≤ 8) : (step raw s e).2.length ≤ 8 := by
  unfold step
  split
  · dsimp only
    split
    · rename_i h
      simp only [Bool.and_eq_true, Bool.or_eq_true] at h
      exact isRaw_len h.2
    · simp
  · unfold rawStep
    split
    · exact hr
    · dsimp only
      split
      · simp
      · exact hr
    · exact hr

end M
end Go.Proofs.YtlnginciehjlnaaGreatDoor

namespace Go.Proofs.YtlnginciehjlnaaGreatDoor
open Go.RowKit
namespace K

/-- A token as a value; a: the slice of its attributes. -/
def tokV (t : M.Tok) (a : Value) : Value := .agg #[.int .i64 t.kind, .string ⟨t.name.toArray⟩, a, .bool t.closed, .string ⟨t.text.toArray⟩]
def resCells (r : M.Res) (a : Value) : Array Value := #[.int .i64 r.tok.kind, .string ⟨r.tok.name.toArray⟩, a, .bool r.tok.closed, .string ⟨r.tok.text.toArray⟩, .int .i64 r.n, .bool r.ok]
def zero5 : Array Value := #[.int .i64 0, .string ⟨#[]⟩, .slice none 0 0, .bool false, .string ⟨#[]⟩]

def NextPost (tb : Nat) (d : List UInt8) (ret : Bool) (x : Option M.Tok × List UInt8 × List UInt8) (w : World) (en : Ending) (w' : World) : Prop :=
  ∃ a, en = .returned (.tuple #[tokV (x.1.getD .none) a, .bool x.1.isSome]) ∧ HasAttrs w.heap.size a (x.1.getD .none).attrs w' ∧ IsTz tb d x.2.2 x.2.1 ret w' ∧ But tb w w'

def restLen (tb : Nat) (w : World) : Nat := match w.cell? ⟨tb, 1, none⟩ with | some (.string b) => b.size | _ => 0

theorem restLen_of {tb : Nat} {d rest raw : List UInt8} {ret : Bool} {w : World} (h : IsTz tb d rest raw ret w) : restLen tb w = rest.length := by
  have h1 : w.cell? ⟨tb, 1, none⟩ = some (.string ⟨rest.toArray⟩) := (cells_of h).1 1
  simp [restLen, h1, T.bytes_size]

def TnRel (tb : Nat) (d : List UInt8) (ret e : Bool) (x : Option M.Tok × List UInt8 × List UInt8) (w wr : World) : Prop :=
  ∃ (rest raw : List UInt8) (f : Nat), IsTz tb d rest raw ret wr ∧ rest.length < f ∧ rest.length ≤ 800000 ∧ raw.length ≤ 8 ∧ wr.heap[w.heap.size]? = some (.cells zero5 30 (0, 0)) ∧ But tb w wr ∧ Hid (M.steps f e raw rest = x)

/-- Behind the step: the result lies in block R. -/
def TnCut (tb : Nat) (d rest raw2 : List UInt8) (ret : Bool) (r : M.Res) (wr : World) (s6 : Value) (wx : World) : Prop :=
  ∃ a, s6 = .pointer (some ⟨wr.heap.size, 0, none⟩) ∧ wx.heap[wr.heap.size]? = some (.cells (resCells r a) 84 (0, 0)) ∧ HasAttrs (wr.heap.size + 1) a r.tok.attrs wx ∧ IsTz tb d rest raw2 ret wx ∧ But tb wr wx

theorem five {w : World} {b : Nat} {z0 z1 z2 z3 z4 v0 v1 v2 v3 v4 : Value} {t : TypeId} {f : Nat × Nat} (h : w.heap[b]? = some (.cells #[z0, z1, z2, z3, z4] t f)) :
    (((((w.setCell ⟨b, 0, none⟩ v0).setCell ⟨b, 1, none⟩ v1).setCell ⟨b, 2, none⟩ v2).setCell ⟨b, 3, none⟩ v3).setCell ⟨b, 4, none⟩ v4).heap[b]? = some (.cells #[v0, v1, v2, v3, v4] t f) := by
  have h0 : (w.setCell ⟨b, 0, none⟩ v0).heap[b]? = some (.cells #[v0, z1, z2, z3, z4] t f) := block_set h
  have h1 : ((w.setCell ⟨b, 0, none⟩ v0).setCell ⟨b, 1, none⟩ v1).heap[b]? = some (.cells #[v0, v1, z2, z3, z4] t f) := block_set h0
  have h2 : (((w.setCell ⟨b, 0, none⟩ v0).setCell ⟨b, 1, none⟩ v1).setCell ⟨b, 2, none⟩ v2).heap[b]? = some (.cells #[v0, v1, v2, z3, z4] t f) := block_set h1
  have h3 : ((((w.setCell ⟨b, 0, none⟩ v0).setCell ⟨b, 1, none⟩ v1).setCell ⟨b, 2, none⟩ v2).setCell ⟨b, 3, none⟩ v3).heap[b]? = some (.cells #[v0, v1, v2, v3, z4] t f) := block_set h2
  have h4 : (((((w.setCell ⟨b, 0, none⟩ v0).setCell ⟨b, 1, none⟩ v1).setCell ⟨b, 2, none⟩ v2).setCell ⟨b, 3, none⟩ v3).setCell ⟨b, 4, none⟩ v4).heap[b]? = some (.cells #[v0, v1, v2, v3, v4] t f) := block_set h3
  exact h4

theorem five_size (w : World) (b : Nat) (v0 v1 v2 v3 v4 : Value) :
    (((((w.setCell ⟨b, 0, none⟩ v0).setCell ⟨b, 1, none⟩ v1).setCell ⟨b, 2, none⟩ v2).setCell ⟨b, 3, none⟩ v3).setCell ⟨b, 4, none⟩ v4).heap.size = w.heap.size := by
  simp [World.setCell]

theorem five_below {w : World} {b B : Nat} {v0 v1 v2 v3 v4 : Value} (hB : B ≤ b) :
    Below B w (((((w.setCell ⟨b, 0, none⟩ v0).setCell ⟨b, 1, none⟩ v1).setCell ⟨b, 2, none⟩ v2).setCell ⟨b, 3, none⟩ v3).setCell ⟨b, 4, none⟩ v4) := by
  iterate 5 refine bset ?_ hB
  exact Below.refl _ _

theorem five_other {w : World} {b : Nat} {v0 v1 v2 v3 v4 : Value} {k : Nat} (hk : k ≠ b) :
    (((((w.setCell ⟨b, 0, none⟩ v0).setCell ⟨b, 1, none⟩ v1).setCell ⟨b, 2, none⟩ v2).setCell ⟨b, 3, none⟩ v3).setCell ⟨b, 4, none⟩ v4).heap[k]? = w.heap[k]? := by
  have h := fun (W : World) o v => Below.heap_setCell W ⟨b, o, none⟩ v k hk
  rw [h, h, h, h, h]

theorem But.trans' {b : Nat} {u v w : World} (h : But b u v) (k : Below u.heap.size v w) : But b u w :=
  ⟨k.os.trans h.os, k.tape.trans h.tape, k.output.trans h.output, Nat.le_trans h.size k.size, fun i hi hn => (k.block i hi).trans (h.block i hi hn)⟩

theorem steps_nil (f : Nat) (e : Bool) (raw : List UInt8) (h : 0 < f) : M.steps f e raw [] = (none, raw, []) := by
  obtain ⟨f', rfl⟩ : ∃ f', f = f' + 1 := ⟨f - 1, by omega⟩
  rfl

theorem steps_ne (f : Nat) (e : Bool) (raw rest : List UInt8) (h : rest ≠ []) : M.steps (f + 1) e raw rest =
    if (M.step raw rest e).1.ok then (if (M.step raw rest e).1.tok.kind = 0 then M.steps f e (M.step raw rest e).2 (rest.drop (M.step raw rest e).1.n) else (some (M.step raw rest e).1.tok, (M.step raw rest e).2, rest.drop (M.step raw rest e).1.n))
    else (none, (M.step raw rest e).2, rest) := by
  conv => lhs; unfold M.steps
  rw [if_neg h]

theorem rawStep_kind (raw s : List UInt8) (e : Bool) : (M.rawStep raw s e).1.tok.kind ≠ 1 := by
  unfold M.rawStep
  split
  · show (3 : Nat) ≠ 1; decide
  · show (M.endTag s e).tok.kind ≠ 1
    unfold M.endTag
    split
    · show (0 : Nat) ≠ 1; decide
    · show (2 : Nat) ≠ 1; decide
  · show (3 : Nat) ≠ 1; decide

/-- The mode behind a step: the name of a raw element that begins, else what the step itself leaves. -/
theorem mode_eq (raw rest : List UInt8) (e : Bool) : (M.step raw rest e).2 = if ((M.step raw rest e).1.ok && (M.step raw rest e).1.tok.kind == 1 && (M.isRaw (M.step raw rest e).1.tok.name || M.isPlain (M.step raw rest e).1.tok.name)) = true then (M.step raw rest e).1.tok.name else (if raw = [] then [] else (M.rawStep raw rest e).2) := by
  by_cases h : raw = []
  · subst h
    have e1 : (M.step [] rest e).1 = M.normal rest e := rfl
    rw [e1, if_pos rfl]
    rfl
  · have e1 : (M.step raw rest e) = M.rawStep raw rest e := by unfold M.step; rw [if_neg h]
    have hk := rawStep_kind raw rest e
    have hk2 : ((M.rawStep raw rest e).1.tok.kind == 1) = false := by simpa using hk
    rw [e1, hk2, Bool.and_false, Bool.false_and, if_neg h]
    simp

set_option maxHeartbeats 4000000 in
set_option maxRecDepth 100000 in
theorem next (tb : Nat) (d s rw_ : List UInt8) (ret e : Bool) (w : World) (hs : s.length ≤ 800000) (hrl : rw_.length ≤ 8) (hE : Env w) (ht : top ≤ tb) (hT : IsTz tb d s rw_ ret w) :
    Calls Tryz.prog 44 #[.pointer (some ⟨tb, 0, none⟩), .bool e] w (NextPost tb d ret (M.steps (s.length + 1) e rw_ s) w) := by
  have htl := lt_of_block hT
  have HE := Lib.hid hE
  have HT := Lib.hid hT
  clear hE hT
  obtain ⟨X, hX⟩ : ∃ X, M.steps (s.length + 1) e rw_ s = X := ⟨_, rfl⟩
  rw [hX]
  have HX := Lib.hid hX
  clear hX
  go_enter Tryz.func44, Tryz.ntmps44
  go_wp2_with fail
  go_loopw [] (fun wr => TnRel tb d ret e X w wr) (fun wr => restLen tb wr)
  case atStart => exact ⟨s, rw_, s.length + 1, HT.out.below ((Below.refl _ _).alloc (Nat.le_refl _) _), by omega, hs, hrl, heap_alloc_new _ _, But.of ((Below.refl _ _).alloc (Nat.le_refl _) _), HX⟩
  case round =>
    obtain ⟨rest, raw, f, htz, hf, hrest, hraw, hz5, hbut, HS⟩ := hrel
    obtain ⟨hct, hft⟩ := cells_of htz
    have HTZ := Lib.hid htz
    have htl2 := lt_of_block htz
    have HZ5 := Lib.hid hz5
    have hwz := lt_of_block hz5
    clear htz hz5
    rcases Nat.eq_zero_or_pos rest.length with h0 | hpos
    · obtain rfl : rest = [] := List.eq_nil_of_length_eq_zero h0
      obtain ⟨hc5, hf5⟩ := cells_of HZ5.out
      unfold zero5 at hc5 hf5
      go_wp2_with fail
      refine bodyPost_gen ?_
      intro F hF
      have hZ := HZ5.out
      unfold zero5 at hZ
      have hFb : F.heap[w.heap.size]? = some (.cells #[.int .i64 0, .string ⟨#[]⟩, .slice none 0 0, .bool false, .string ⟨#[]⟩] 30 (0, 0)) := by rw [hF]; exact five hZ
      have hFt : IsTz tb d [] raw ret F := by rw [hF]; exact (five_other (by omega)).trans HTZ.out
      have hFB : But tb w F := by rw [hF]; exact hbut.trans' (five_below (Nat.le_refl _))
      clear hF hc5 hf5 hct hft
      obtain ⟨hcF, hfF⟩ := cells_of hFb
      have hx := HS.out
      rw [steps_nil _ _ _ (by omega)] at hx
      refine bodyPost_ret (v := .tuple #[tokV .none (.slice none 0 0), .bool false]) (by simp [results, Tryz.results44, go_sem, tokV, M.Tok.none, hcF]) rfl ?_
      rw [← hx]
      exact ⟨_, rfl, no_attrs _ _, hFt, hFB⟩
    · have hne : rest.isEmpty = false := by cases rest with | nil => simp at hpos | cons _ _ => rfl
      have hne2 : rest ≠ [] := by rintro rfl; simp at hpos
      go_upto_if 16 with fail
      have HBW : Hid (Below wr.heap.size wr (wr.alloc (.cells zeroCells 84))) := Lib.hid ((Below.refl _ _).alloc (Nat.le_refl _) _)
      have HEr := Lib.hid ((HE.out.but hbut ht htl).same HBW.out)
      have HTr := Lib.hid (HTZ.out.below HBW.out)
      obtain ⟨raw2, hraw2⟩ : ∃ raw2, raw2 = if raw = [] then [] else (M.rawStep raw rest e).2 := ⟨_, rfl⟩
      have HR2 := Lib.hid hraw2
      clear hraw2
      unfold zeroCells at HEr HTr HBW
      go_cut [6] (fun s6 wx => TnCut tb d rest raw2 ret (M.step raw rest e).1 wr s6 wx)
      case first =>
        rcases Nat.eq_zero_or_pos raw.length with hr0 | hrp
        · obtain rfl : raw = [] := List.eq_nil_of_length_eq_zero hr0
          have HST : Hid ((M.step [] rest e).1 = M.normal rest e) := Lib.hid rfl
          clear hft
          go_wp2_with fail
          refine (normal rest e _ hrest hpos HEr.out).mono ?_
          rintro en w1 ⟨a, rfl, ha, b1⟩
          obtain ⟨ao, L, cap, rfl⟩ := own_slice3 ha
          have hr1 := new_after b1
          have ht1 := HTr.out.below b1
          have hlt1 := lt_of_block hr1
          obtain ⟨hcr, hfr⟩ := cells_of hr1
          have HR1 := Lib.hid hr1
          have HT1 := Lib.hid ht1
          have HA1 := Lib.hid ha
          have HB1 := Lib.hid b1
          clear hr1 ht1 ha b1 hct
          unfold resV
          go_wp2_with fail
          go_meet
          refine ⟨.slice ao L cap, rfl, ?_, ?_, ?_, ?_⟩
          · rw [HST.out]; exact seven HR1.out
          · rw [HST.out]
            have h9 := HA1.out
            rw [World.size_alloc] at h9
            exact own_same h9 (fun g h1 h2 => seven_other (by omega))
          · have h9 : raw2 = [] := by have h8 := HR2.out; simpa using h8
            rw [h9]
            exact (seven_other (by omega)).trans HT1.out
          · exact But.of ((HBW.out.trans (HB1.out.mono (by simp))).trans (seven_below (Nat.le_refl _)))
        · have hre : raw.isEmpty = false := by cases raw with | nil => simp at hrp | cons _ _ => rfl
          have hre2 : raw ≠ [] := by rintro rfl; simp at hrp
          have HST : Hid ((M.step raw rest e).1 = (M.rawStep raw rest e).1) := Lib.hid (by unfold M.step; rw [if_neg hre2])
          have HRE := Lib.hid hre2
          clear hft
          rw [hre]
          go_wp2_with fail
          refine (K.raw tb d rest raw ret e _ hrest hpos (by omega) HEr.out HTr.out).mono ?_
          rintro en w1 ⟨a, rfl, ha, ht1, b1⟩
          obtain ⟨ao, L, cap, rfl⟩ := own_slice3 ha
          have hr1 := (b1.block wr.heap.size (by simp) (by omega)).trans (heap_alloc_new _ _)
          have hlt1 := lt_of_block hr1
          obtain ⟨hcr, hfr⟩ := cells_of hr1
          have HR1 := Lib.hid hr1
          have HT1 := Lib.hid ht1
          have HA1 := Lib.hid ha
          have HB1 := Lib.hid b1
          clear hr1 ht1 ha b1 hct
          unfold resV
          go_wp2_with fail
          go_meet
          refine ⟨.slice ao L cap, rfl, ?_, ?_, ?_, ?_⟩
          · rw [HST.out]; exact seven HR1.out
          · rw [HST.out]
            have h9 := HA1.out
            rw [World.size_alloc] at h9
            exact own_same h9 (fun g h1 h2 => seven_other (by omega))
          · have h9 := HR2.out
            rw [if_neg HRE.out] at h9
            rw [h9]
            exact (seven_other (by omega)).trans HT1.out
          · exact ((But.of HBW.out).trans HB1.out).trans' (seven_below (Nat.le_refl _))
      case rest =>
        obtain ⟨a, rfl, hR, hA, htx, hbx⟩ := hcut
        obtain ⟨ao, L, cap, rfl⟩ := own_slice3 hA
        have hfit := M.step_fits raw rest e hpos
        have hmd := mode_eq raw rest e
        have hml := M.step_mode raw rest e hraw
        obtain ⟨f', rfl⟩ : ∃ f', f = f' + 1 := ⟨f - 1, by omega⟩
        have HSS := Lib.hid (HS.out.symm.trans (steps_ne f' e raw rest hne2))
        rw [← HR2.out] at hmd
        clear hct hft HS HEr HTr HBW
        generalize M.step raw rest e = RS at *
        obtain ⟨⟨⟨tk, tn, ta, tc, tt⟩, nn, ok⟩, md⟩ := RS
        dsimp only at hR hA hfit hmd hml
        unfold resCells at hR
        dsimp only at hR
        obtain ⟨hcr, hfr⟩ := cells_of hR
        obtain ⟨hct, hft⟩ := cells_of htx
        have hz5 := (hbx.block _ hwz (by omega)).trans HZ5.out
        have hltR := lt_of_block hR
        have hltT := lt_of_block htx
        have hltZ := lt_of_block hz5
        have HRx := Lib.hid hR
        have HTx := Lib.hid htx
        have HAx := Lib.hid hA
        have HZx := Lib.hid hz5
        have HMD := Lib.hid hmd
        have HBx := Lib.hid hbx
        clear hR htx hA hz5 hmd hbx
        cases ok with
        | false =>
          obtain ⟨hc5, hf5⟩ := cells_of HZx.out
          unfold zero5 at hc5 hf5
          go_wp2_with fail
          refine bodyPost_gen ?_
          intro F hF
          have hZ := HZx.out
          unfold zero5 at hZ
          have hFb : F.heap[w.heap.size]? = some (.cells #[.int .i64 0, .string ⟨#[]⟩, .slice none 0 0, .bool false, .string ⟨#[]⟩] 30 (0, 0)) := by rw [hF]; exact five hZ
          have hFt : IsTz tb d rest raw2 ret F := by rw [hF]; exact (five_other (by omega)).trans HTx.out
          have hFB : But tb w F := by rw [hF]; exact (hbut.trans HBx.out).trans' (five_below (Nat.le_refl _))
          clear hF hc5 hf5 hct hft hcr hfr
          obtain ⟨hcF, hfF⟩ := cells_of hFb
          have hx : X = (none, md, rest) := HSS.out
          have hm : md = raw2 := by have h8 := HMD.out; simpa using h8
          refine bodyPost_ret (v := .tuple #[tokV .none (.slice none 0 0), .bool false]) (by simp [results, Tryz.results44, go_sem, tokV, M.Tok.none, hcF]) rfl ?_
          rw [hx, hm]
          exact ⟨_, rfl, no_attrs _ _, hFt, hFB⟩
        | true =>
          obtain ⟨hn1, hn2⟩ := hfit rfl
          dsimp only at hn1 hn2
          clear hfit
          go_upto_region 8 with fail
          have hsl := T.slice_str rest nn rest.length hn2 (Nat.le_refl _)
          rw [List.take_of_length_le (by rw [List.length_drop]; omega)] at hsl
          have i0 : (0 : Int) ≤ (nn : Int) := by omega
          have i1 : (nn : Int) ≤ (rest.length : Int) := by omega
          have c1 : wc.cell? ⟨tb, 1, none⟩ = some (.string ⟨rest.toArray⟩) := hct 1
          have c5 : wc.cell? ⟨wr.heap.size, 5, none⟩ = some (.int .i64 nn) := hcr 5
          have f1 : wc.frozen? ⟨tb, 1, none⟩ = false := HTx.out.free 1 (by decide)
          clear hct hft hcr hfr
          go_region
          go_upto_region 9 with fail
          refine code_gen ?_
          intro F hF
          have hFR : F.heap[wr.heap.size]? = some (.cells #[.int .i64 tk, .string ⟨tn.toArray⟩, .slice ao L cap, .bool tc, .string ⟨tt.toArray⟩, .int .i64 nn, .bool true] 84 (0, 0)) := by rw [hF]; exact (Below.heap_setCell wc ⟨tb, 1, none⟩ _ _ (by show wr.heap.size ≠ tb; omega)).trans HRx.out
          have hFt : IsTz tb d (rest.drop nn) raw2 ret F := by rw [hF]; exact HTx.out.rest _
          have hFB : But tb wr F := by rw [hF]; exact HBx.out.trans ((But.set wc 1 _).drewN 1)
          have hFA : HasAttrs (wr.heap.size + 1) (.slice ao L cap) ta F := by rw [hF]; exact ownsRow_setCell_below HAx.out (by show tb < _; omega) _
          clear hF c1 c5 f1 hsl i0 i1 HTx HRx HAx HBx HZx
          obtain ⟨hcF, hfF⟩ := cells_of hFR
          have HEF := Lib.hid ((HE.out.but hbut ht htl).but hFB ht htl2)
          have HFR := Lib.hid hFR
          have HFT := Lib.hid hFt
          have HFB := Lib.hid hFB
          have HFA := Lib.hid hFA
          have hzF := hFB.size
          clear hFR hFt hFB hFA
          obtain ⟨B, hB⟩ : ∃ B, B = (tk == 1 && (M.isRaw tn || M.isPlain tn)) := ⟨_, rfl⟩
          have HB := Lib.hid hB
          clear hB
          go_cut [55] (fun s55 wx => s55 = .bool B ∧ Below F.heap.size F wx)
          case first =>
            by_cases hk1 : tk = 1
            · subst hk1
              cases hR : M.isRaw tn with
              | true =>
                have QR := Lib.hid (fun W h => IsRaw tn W h)
                rw [hR] at QR
                have hb : B = true := by rw [HB.out, hR]; rfl
                subst hb
                clear hR
                go_wp2_with fail
                refine (QR.out _ HEF.out).mono ?_
                rintro en w1 ⟨rfl, b1⟩
                go_wp2_with fail
                go_meet
                exact ⟨rfl, b1⟩
              | false =>
                have QR := Lib.hid (fun W h => IsRaw tn W h)
                rw [hR] at QR
                have QP := Lib.hid (fun W h => IsPlain tn W h)
                have hb : M.isPlain tn = B := by rw [HB.out, hR]; rfl
                rw [hb] at QP
                clear hR hb
                go_wp2_with fail
                refine (QR.out _ HEF.out).mono ?_
                rintro en w1 ⟨rfl, b1⟩
                have HE1 := Lib.hid (HEF.out.same b1)
                have hR1 := (b1.block _ (lt_of_block HFR.out)).trans HFR.out
                obtain ⟨hc1, hf1⟩ := cells_of hR1
                clear hR1
                go_wp2_with fail
                refine (QP.out _ HE1.out).mono ?_
                rintro en w2 ⟨rfl, b2⟩
                go_wp2_with fail
                go_meet
                exact ⟨rfl, b1.trans (b2.mono b1.size)⟩
            · have hk2 : ((tk : Int) == 1) = false := by simpa using (fun h : (tk : Int) = 1 => hk1 (by omega))
              have hk3 : (tk == 1) = false := by simpa using hk1
              have hb : B = false := by rw [HB.out, hk3]; rfl
              subst hb
              go_wp2_with fail
              go_meet
              exact ⟨rfl, Below.refl _ _⟩
          case rest =>
            obtain ⟨rfl, bc⟩ := hcut
            have hmB : md = if B = true then tn else raw2 := by
              have h8 := HMD.out
              rw [HB.out]
              simpa using h8
            have HMB := Lib.hid hmB
            clear hmB HMD
            have hR2 := (bc.block _ (lt_of_block HFR.out)).trans HFR.out
            have hT2 := HFT.out.below bc
            have hA2 := own_below bc HFA.out
            have hB2 := HFB.out.trans (But.of bc)
            obtain ⟨hcr, hfr⟩ := cells_of hR2
            obtain ⟨hct, hft⟩ := cells_of hT2
            have hlR2 := lt_of_block hR2
            have hlT2 := lt_of_block hT2
            have HR2x := Lib.hid hR2
            have HT2x := Lib.hid hT2
            have HA2x := Lib.hid hA2
            have HB2x := Lib.hid hB2
            clear hR2 hT2 hA2 hB2 bc hcF hfF HFR HFT HFA HFB
            go_upto_if 55 with fail
            go_cut [] (fun wx => wx.heap[wr.heap.size]? = some (.cells #[.int .i64 tk, .string ⟨tn.toArray⟩, .slice ao L cap, .bool tc, .string ⟨tt.toArray⟩, .int .i64 nn, .bool true] 84 (0, 0)) ∧ IsTz tb d (rest.drop nn) md ret wx ∧ HasAttrs (wr.heap.size + 1) (.slice ao L cap) ta wx ∧ But tb wr wx)
            case first =>
              cases B with
              | true =>
                have hm : md = tn := HMB.out
                subst hm
                go_wp2_with fail
                go_meet
                exact ⟨(Below.heap_setCell _ ⟨tb, 2, none⟩ _ _ (by show wr.heap.size ≠ tb; omega)).trans HR2x.out, HT2x.out.raw _, ownsRow_setCell_below HA2x.out (by show tb < _; omega) _, HB2x.out.trans (But.set _ _ _)⟩
              | false =>
                have hm : md = raw2 := HMB.out
                subst hm
                go_wp2_with fail
                go_meet
                exact ⟨HR2x.out, HT2x.out, HA2x.out, HB2x.out⟩
            case rest =>
              obtain ⟨hR3, hT3, hA3, hB3⟩ := hcut
              clear hcr hfr hct hft
              obtain ⟨hcr, hfr⟩ := cells_of hR3
              have hZ3 := (hB3.block _ hwz (by omega)).trans HZ5.out
              have hlR3 := lt_of_block hR3
              have hlT3 := lt_of_block hT3
              have hlZ3 := lt_of_block hZ3
              obtain ⟨hcz, hfz⟩ := cells_of hZ3
              unfold zero5 at hcz hfz
              have HR3 := Lib.hid hR3
              have HT3 := Lib.hid hT3
              have HA3 := Lib.hid hA3
              have HB3 := Lib.hid hB3
              have HZ3 := Lib.hid hZ3
              clear hR3 hT3 hA3 hB3 hZ3 HR2x HT2x HA2x HB2x
              by_cases hk0 : tk = 0
              · subst hk0
                go_wp2_with fail
                go_roundw
                case rel =>
                  refine ⟨rest.drop nn, md, f', HT3.out, by rw [List.length_drop]; omega, by rw [List.length_drop]; omega, hml, HZ3.out, hbut.trans HB3.out, Lib.hid ?_⟩
                  have h8 := HSS.out
                  simpa using h8.symm
                case measure =>
                  rw [restLen_of HT3.out, restLen_of HTZ.out, List.length_drop]
                  omega
              · have hk1 : ((tk : Int) == 0) = false := by simpa using hk0
                have hk2 : ((tk : Int) != 0) = true := by rw [bne, hk1]; rfl
                go_wp2_with fail
                refine bodyPost_gen ?_
                intro G hG
                have hZ := HZ3.out
                unfold zero5 at hZ
                have hGb : G.heap[w.heap.size]? = some (.cells #[.int .i64 tk, .string ⟨tn.toArray⟩, .slice ao L cap, .bool tc, .string ⟨tt.toArray⟩] 30 (0, 0)) := by rw [hG]; exact five hZ
                have hGt : IsTz tb d (rest.drop nn) md ret G := by rw [hG]; exact (five_other (by omega)).trans HT3.out
                have hGB : But tb w G := by rw [hG]; exact (hbut.trans HB3.out).trans' (five_below (Nat.le_refl _))
                have hGA : HasAttrs (wr.heap.size + 1) (.slice ao L cap) ta G := by rw [hG]; exact own_same HA3.out (fun g h1 h2 => five_other (by omega))
                clear hG hcr hfr hcz hfz
                obtain ⟨hcF, hfF⟩ := cells_of hGb
                have hx : X = (some ⟨tk, tn, ta, tc, tt⟩, md, rest.drop nn) := by
                  have h8 := HSS.out
                  simpa [hk0] using h8
                refine bodyPost_ret (v := .tuple #[tokV ⟨tk, tn, ta, tc, tt⟩ (.slice ao L cap), .bool true]) (by simp [results, Tryz.results44, go_sem, tokV, hcF]) rfl ?_
                rw [hx]
                exact ⟨_, rfl, own_mono hGA (by omega), hGt, hGB⟩

end K
end Go.Proofs.YtlnginciehjlnaaGreatDoor

/- Selectors, as the chapter has them; over lists of bytes. No program in sight. The text of selectors, and their specificity, as the chapter has them; over lists of bytes. No program in sight. Valid texts, joined and cut. No program in sight. -/
import Derived.Test.YtnmcgmbhkmfiaaaGreatDoorSpace
import Derived.Test.YtnmcgmbhkmfiaaaGreatDoorCases
import Derived.Lib.ItoaMem
import Derived.Test.YtnmcgmbhkmfiaaaGreatDoorUtf
set_option linter.unusedVariables false
set_option linter.unusedSimpArgs false
namespace Go.Proofs.YtnmcgmbhkmfiaaaGreatDoor
namespace L
open T (sp low)

def lower (l : List UInt8) : List UInt8 := l.map low

/-- A test without tests of its own; the kinds are the chapter's. -/
structure Tst where
  kind : Nat
  name : List UInt8
  value : List UInt8
  a : Int
  b : Int

/-- A test, and the tests within a 'not'. -/
structure Test where
  t : Tst
  nots : List Tst

structure Part where
  join : Nat
  type : List UInt8
  tests : List Test

def tst (kind : Nat) (name : List UInt8) : Tst := ⟨kind, name, [], 0, 0⟩

def isDig (c : UInt8) : Bool := decide (48 ≤ c.toNat) && decide (c.toNat ≤ 57)
/-- An identifier may begin with such a byte. -/
def first (c : UInt8) : Bool := c == 95 || (decide (128 ≤ c.toNat) || ((decide (97 ≤ c.toNat) && decide (c.toNat ≤ 122)) || (decide (65 ≤ c.toNat) && decide (c.toNat ≤ 90))))
def inName (c : UInt8) : Bool := first c || (isDig c || c == 45)

/-- An identifier is next. -/
def begins : List UInt8 → Bool
  | [] => false
  | c :: r => first c || (c == 45 && (match r with | [] => false | d :: _ => first d))

def space (s : List UInt8) : List UInt8 := s.dropWhile sp

/-- An identifier, and the rest. -/
def ident (s : List UInt8) : Option (List UInt8 × List UInt8) := if begins s then some (s.takeWhile inName, s.dropWhile inName) else none

/-- An identifier or a string, and the rest. -/
def value (s : List UInt8) : Option (List UInt8 × List UInt8) :=
  match s with
  | [] => none
  | q :: t => if q == 34 || q == 39 then (match t.dropWhile (· != q) with
      | [] => none
      | _ :: u => if (10 : UInt8) ∈ t.takeWhile (· != q) then none else some (t.takeWhile (· != q), u))
    else ident s

/-- What has to be next. -/
def need (p s : List UInt8) : Option (List UInt8) := if p.isPrefixOf s then some (s.drop p.length) else none

/-- The sign of a test of an attribute: its kind, and the rest. -/
def op (r : List UInt8) : Option (Nat × List UInt8) :=
  if ([61] : List UInt8).isPrefixOf r then some (4, r.drop 1)
  else if ([126, 61] : List UInt8).isPrefixOf r then some (5, r.drop 2)
  else if ([94, 61] : List UInt8).isPrefixOf r then some (6, r.drop 2)
  else none

/-- What follows the sign: a value. -/
def attrRest (n : List UInt8) (k : Nat) (u : List UInt8) : Option (Tst × List UInt8) :=
  match value (space u) with
  | none => none
  | some (v, x) => match need [93] (space x) with
    | none => none
    | some y => some (⟨k, lower n, v, 0, 0⟩, y)

def attrEnd (n r : List UInt8) : Option (Tst × List UInt8) :=
  match op (space r) with
  | none => (match need [93] (space r) with | none => none | some u => some (⟨3, lower n, [], 0, 0⟩, u))
  | some (k, u) => attrRest n k u

/-- The rest of a test in brackets. -/
def attr (s : List UInt8) : Option (Tst × List UInt8) :=
  match ident (space s) with
  | none => none
  | some (n, r) => attrEnd n r

def natOf (l : List UInt8) : Nat := l.foldl (fun n c => n * 10 + (c.toNat - 48)) 0

/-- One to six digits. -/
def number (s : List UInt8) : Option (Nat × List UInt8) :=
  if (s.takeWhile isDig).length < 1 ∨ 6 < (s.takeWhile isDig).length then none else some (natOf (s.takeWhile isDig), s.dropWhile isDig)

/-- An optional sign: its number, whether there is one, and the rest. -/
def sign : List UInt8 → Int × Bool × List UInt8
  | 43 :: r => (1, true, r)
  | 45 :: r => (-1, true, r)
  | s => (1, false, s)

/-- The sign and the digits behind a step. -/
def offset (s : List UInt8) : Option (Int × List UInt8) :=
  match sign (space s) with
  | (_, false, _) => some (0, s)
  | (g, true, r) => match number (space r) with
    | none => none
    | some (n, u) => some (g * n, u)

/-- The number ahead of the letter: 1 if there is none. -/
def coef : List UInt8 → Option (Nat × Bool × List UInt8)
  | [] => some (1, false, [])
  | c :: t => if isDig c then (match number (c :: t) with | none => none | some (n, r) => some (n, true, r)) else some (1, false, c :: t)

def isN (c : UInt8) : Bool := c == 110 || c == 78

def nthTail (g : Int) (n : Nat) (some_ : Bool) : List UInt8 → Option (Tst × List UInt8)
  | [] => if some_ then some (⟨9, [], [], 0, g * n⟩, []) else none
  | c :: t => if isN c then (match offset t with | none => none | some (b, u) => some (⟨9, [], [], g * n, b⟩, u))
    else if some_ then some (⟨9, [], [], 0, g * n⟩, c :: t) else none

def nthRest (s : List UInt8) : Option (Tst × List UInt8) :=
  match coef (sign s).2.2 with
  | none => none
  | some (n, some_, r) => nthTail (sign s).1 n some_ r

/-- The argument of nth-child. -/
def nth (s : List UInt8) : Option (Tst × List UInt8) :=
  if lower (s.take 3) = [111, 100, 100] then some (⟨9, [], [], 2, 1⟩, s.drop 3)
  else if lower (s.take 4) = [101, 118, 101, 110] then some (⟨9, [], [], 2, 0⟩, s.drop 4)
  else nthRest s

/-- The tests without arguments. -/
def pseudos : List (List UInt8 × Nat) :=
  [([102, 105, 114, 115, 116, 45, 99, 104, 105, 108, 100], 7), ([108, 97, 115, 116, 45, 99, 104, 105, 108, 100], 8), ([101, 109, 112, 116, 121], 10), ([102, 111, 99, 117, 115], 11), ([104, 111, 118, 101, 114], 12), ([99, 104, 101, 99, 107, 101, 100], 13)]
def nthChild : List UInt8 := [110, 116, 104, 45, 99, 104, 105, 108, 100]
def not_ : List UInt8 := [110, 111, 116]

/-- One test of a part, given what reads the argument of a 'not' (none: not allowed); none: no test is next; some none: it is not in the language. -/
def one (np : Option (List UInt8 → Option ((List UInt8 × List Tst) × List UInt8))) : List UInt8 → Option (Option (Test × List UInt8))
  | 35 :: r => some (match ident r with | none => none | some (n, u) => some (⟨tst 1 n, []⟩, u))
  | 46 :: r => some (match ident r with | none => none | some (n, u) => some (⟨tst 2 n, []⟩, u))
  | 91 :: r => some (match attr r with | none => none | some (t, u) => some (⟨t, []⟩, u))
  | 58 :: r => some (match ident r with
    | none => none
    | some (n, u) => match pseudos.find? (fun p => p.1 == lower n) with
      | some p => some (⟨tst p.2 [], []⟩, u)
      | none =>
        if lower n = nthChild then (match need [40] u with
          | none => none
          | some x => match nth (space x) with
            | none => none
            | some (t, y) => match need [41] (space y) with | none => none | some z => some (⟨t, []⟩, z))
        else if lower n = not_ then (match np, need [40] u with
          | some f, some x => (match f (space x) with
            | none => none
            | some ((ty, ts), y) => match need [41] (space y) with | none => none | some z => some (⟨tst 14 ty, ts⟩, z))
          | _, _ => none)
        else none)
  | _ => none

/-- The tests of a part. -/
def tests (np : Option (List UInt8 → Option ((List UInt8 × List Tst) × List UInt8))) : Nat → List UInt8 → Option (List Test × List UInt8)
  | 0, s => some ([], s)
  | n + 1, s => match one np s with
    | none => some ([], s)
    | some none => none
    | some (some (t, r)) => match tests np n r with
      | none => none
      | some (l, u) => some (t :: l, u)

/-- A part: its type, its tests, and the rest. -/
def part (np : Option (List UInt8 → Option ((List UInt8 × List Tst) × List UInt8))) (s : List UInt8) : Option ((List UInt8 × List Test) × List UInt8) :=
  let h : List UInt8 × List UInt8 × Bool := match s with
    | 42 :: r => ([], r, true)
    | _ => match ident s with
      | some (n, r) => (lower n, r, true)
      | none => ([], s, false)
  match tests np (h.2.1.length + 1) h.2.1 with
  | none => none
  | some (l, u) => if h.2.2 || !l.isEmpty then some ((h.1, l), u) else none

/-- A part within a 'not'. -/
def inner (s : List UInt8) : Option ((List UInt8 × List Tst) × List UInt8) := match part none s with | none => none | some ((n, l), u) => some ((n, l.map (·.t)), u)
def outer (s : List UInt8) : Option ((List UInt8 × List Test) × List UInt8) := part (some inner) s

/-- The combinator that is next, and what follows it; some none: none is there, and the selector ends; none: it is not in the language. -/
def join (s : List UInt8) : Option (Option (Nat × List UInt8)) :=
  match space s with
  | [] => some none
  | c :: r => if c == 44 then some none
    else if c == 62 then some (some (2, space r))
    else if c == 43 then some (some (3, space r))
    else if c == 126 then some (some (4, space r))
    else if (space s).length < s.length then some (some (1, space s))
    else none

/-- The parts behind the first. -/
def parts : Nat → List UInt8 → Option (List Part × List UInt8)
  | 0, s => none
  | n + 1, s => match join s with
    | none => none
    | some none => some ([], space s)
    | some (some (j, r)) => match outer r with
      | none => none
      | some ((ty, ts), u) => match parts n u with
        | none => none
        | some (l, x) => some (⟨j, ty, ts⟩ :: l, x)

def selector (s : List UInt8) : Option (List Part × List UInt8) :=
  match outer s with
  | none => none
  | some ((ty, ts), u) => match parts (u.length + 1) u with
    | none => none
    | some (l, x) => some (⟨0, ty, ts⟩ :: l, x)

/-- A list of selectors, to its end. -/
def list : Nat → List UInt8 → Option (List (List Part))
  | 0, _ => none
  | n + 1, s => match selector (space s) with
    | none => none
    | some (x, u) => match space u with
      | [] => some [x]
      | c :: r => if c == 44 then (match list n r with | none => none | some l => some (x :: l)) else none

def parse (s : List UInt8) : Option (List (List Part)) := list (s.length + 1) s

end L
end Go.Proofs.YtnmcgmbhkmfiaaaGreatDoor

namespace Go.Proofs.YtnmcgmbhkmfiaaaGreatDoor
namespace L

def quoted (v : List UInt8) : List UInt8 := if (34 : UInt8) ∈ v then 39 :: (v ++ [39]) else 34 :: (v ++ [34])

/-- The number ahead of the letter. -/
def ahead (a : Int) : List UInt8 := if a = 1 then [] else if a = -1 then [45] else Lib.itoa a
/-- What follows the letter. -/
def behind (b : Int) : List UInt8 := (if 0 < b then [43] else []) ++ (if b = 0 then [] else Lib.itoa b)
def stepOf (a b : Int) : List UInt8 := if a = 0 then Lib.itoa b else ahead a ++ (110 :: behind b)

def ofKind (k : Nat) : List UInt8 := match pseudos.find? (fun p => p.2 == k) with | some p => 58 :: p.1 | none => []

/-- A part, given the texts of its tests. -/
def fpart (ty : List UInt8) (fs : List (List UInt8)) : List UInt8 := if ty = [] ∧ fs = [] then [42] else ty ++ fs.flatten
def nthHead : List UInt8 := [58, 110, 116, 104, 45, 99, 104, 105, 108, 100, 40]
def notHead : List UInt8 := [58, 110, 111, 116, 40]

/-- A test, given the texts of the tests within. -/
def ftest (t : Tst) (fs : List (List UInt8)) : List UInt8 :=
  if t.kind = 1 then 35 :: t.name
  else if t.kind = 2 then 46 :: t.name
  else if t.kind = 3 then 91 :: (t.name ++ [93])
  else if t.kind = 4 then 91 :: (t.name ++ (61 :: (quoted t.value ++ [93])))
  else if t.kind = 5 then 91 :: (t.name ++ (126 :: 61 :: (quoted t.value ++ [93])))
  else if t.kind = 6 then 91 :: (t.name ++ (94 :: 61 :: (quoted t.value ++ [93])))
  else if t.kind = 9 then nthHead ++ (stepOf t.a t.b ++ [41])
  else if t.kind = 14 then notHead ++ (fpart t.name fs ++ [41])
  else ofKind t.kind

def ftst (t : Tst) : List UInt8 := ftest t []
def fTest (t : Test) : List UInt8 := ftest t.t (t.nots.map ftst)
def fTests (ty : List UInt8) (l : List Test) : List UInt8 := fpart ty (l.map fTest)
def fPart (p : Part) : List UInt8 := fTests p.type p.tests
def fjoin (j : Nat) : List UInt8 := if j = 1 then [32] else if j = 2 then [32, 62, 32] else if j = 3 then [32, 43, 32] else if j = 4 then [32, 126, 32] else []
def fSel (ps : List Part) : List UInt8 := ps.flatMap fun p => fjoin p.join ++ fPart p
def fList : List (List Part) → List UInt8
  | [] => []
  | [x] => fSel x
  | x :: y :: r => fSel x ++ (44 :: 32 :: fList (y :: r))

/-- Specificities. -/
def Wt := Nat × Nat × Nat
def wty (s : Wt) (ty : List UInt8) : Wt := if ty = [] then s else (s.1, s.2.1, s.2.2 + 1)
/-- One test, given what adds the tests within. -/
def wtest (s : Wt) (t : Tst) (f : Wt → Wt) : Wt := if t.kind = 1 then (s.1 + 1, s.2.1, s.2.2) else if t.kind = 14 then f (wty s t.name) else (s.1, s.2.1 + 1, s.2.2)
def wtst (s : Wt) (t : Tst) : Wt := wtest s t id
def wTest (s : Wt) (t : Test) : Wt := wtest s t.t (fun u => t.nots.foldl wtst u)
def wTests (s : Wt) (ty : List UInt8) (l : List Test) : Wt := l.foldl wTest (wty s ty)
def wSel (ps : List Part) : Wt := ps.foldl (fun s p => wTests s p.type p.tests) (0, 0, 0)

end L
end Go.Proofs.YtnmcgmbhkmfiaaaGreatDoor

namespace Go.Proofs.YtnmcgmbhkmfiaaaGreatDoor
namespace U

def V (l : List UInt8) : Prop := rep l = l

theorem V_nil : V [] := rfl

theorem V_app {a b : List UInt8} (ha : V a) (hb : V b) : V (a ++ b) := by
  have h := pts_rep a.length a b (Nat.le_refl _)
  unfold V at ha hb
  rw [ha] at h
  unfold V
  show (pts (a ++ b)).flatten = _
  rw [h, List.flatten_append]
  show rep a ++ rep b = _
  rw [ha, hb]

theorem sz_of_V {l : List UInt8} (h : V l) (hl : l ≠ []) : sz l ≠ 0 := by
  intro h0
  have h1 := rep_cons l hl
  unfold V at h
  rw [h] at h1
  unfold chunk at h1
  rw [if_pos h0] at h1
  have h3 : sz ([239, 191, 189] ++ rep (l.drop (adv l))) = 3 := sz_fffd _
  rw [← h1] at h3
  omega

theorem V_split {l : List UInt8} (h0 : sz l ≠ 0) : V l ↔ V (l.drop (sz l)) := by
  have hl : l ≠ [] := fun h => h0 (by rw [h]; exact sz_nil)
  have h1 := rep_cons l hl
  unfold chunk adv at h1
  rw [if_neg h0, if_neg h0] at h1
  unfold V
  rw [h1]
  constructor
  · intro h
    have h2 : l.take (sz l) ++ rep (l.drop (sz l)) = l.take (sz l) ++ l.drop (sz l) := by rw [List.take_append_drop]; exact h
    exact List.append_cancel_left h2
  · intro h
    rw [h, List.take_append_drop]

theorem sz_hi {l : List UInt8} {k : Nat} (h0 : 0 < k) (hk : k < sz l) : 128 ≤ (l.getD k 0).toNat := by
  rcases sz_cases l with ⟨e, h⟩ | ⟨e, h⟩ | ⟨e, h⟩ | ⟨e, h⟩ | ⟨e, h⟩
  · omega
  · obtain rfl : k = 1 := by omega
    exact h.2.2.2.1
  · rcases (by omega : k = 1 ∨ k = 2) with rfl | rfl
    · have := h.2.2.2.1; unfold sec at this; omega
    · exact h.2.2.2.2.1
  · rcases (by omega : k = 1 ∨ k = 2 ∨ k = 3) with rfl | rfl | rfl
    · have := h.2.2.2.1; unfold sec at this; omega
    · exact h.2.2.2.2.1
    · exact h.2.2.2.2.2.2.1
  · omega

theorem V_cut : ∀ (n : Nat) (a b : List UInt8), a.length ≤ n → V (a ++ b) → (∀ c r, b = c :: r → c.toNat < 128) → V a ∧ V b
  | 0, a, b, hn, h, hb => by
    obtain rfl : a = [] := List.eq_nil_of_length_eq_zero (by omega)
    exact ⟨V_nil, h⟩
  | n + 1, a, b, hn, h, hb => by
    by_cases ha : a = []
    · subst ha; exact ⟨V_nil, h⟩
    · have hl : a ++ b ≠ [] := by simp [ha]
      have h0 := sz_of_V h hl
      have hap : 0 < a.length := List.length_pos_iff.2 ha
      have hle : sz (a ++ b) ≤ a.length := by
        rcases Nat.lt_or_ge a.length (sz (a ++ b)) with h1 | h1
        · have h2 := sz_hi hap h1
          cases b with
          | nil => have := sz_le (a ++ []); simp at this h1; omega
          | cons c r =>
            have h3 : (a ++ c :: r).getD a.length 0 = c := by simp
            rw [h3] at h2
            have := hb c r rfl
            omega
        · exact h1
      have hs : sz a = sz (a ++ b) := sz_congr (a ++ b) a h0 (by rw [List.take_append_of_le_length hle]) hle
      have h2 := (V_split h0).1 h
      rw [List.drop_append_of_le_length hle, ← hs] at h2
      have hd : (a.drop (sz a)).length ≤ n := by rw [List.length_drop]; omega
      obtain ⟨k1, k2⟩ := V_cut n (a.drop (sz a)) b hd h2 hb
      exact ⟨(V_split (by omega)).2 k1, k2⟩

theorem V_cons {c : UInt8} {r : List UInt8} (hc : c.toNat < 128) : V (c :: r) ↔ V r := by
  have h0 : sz (c :: r) = 1 := by
    unfold sz
    have : rng (c :: r) 0 0 127 = true := by rw [rng_iff]; refine ⟨by simp, Nat.zero_le _, ?_⟩; show c.toNat ≤ 127; omega
    rw [if_pos this]
  have := V_split (l := c :: r) (by omega)
  rw [h0] at this
  exact this

theorem low_class (c : UInt8) : (T.low c).toNat = c.toNat ∨ (c.toNat < 128 ∧ (T.low c).toNat < 128) := by
  unfold T.low
  split
  · rename_i h
    right
    refine ⟨by omega, ?_⟩
    rw [UInt8.toNat_ofNat_of_lt' (by show c.toNat + 32 < 256; omega)]
    omega
  · exact Or.inl rfl

theorem getD_map (l : List UInt8) (k : Nat) (h : k < l.length) : (l.map T.low).getD k 0 = T.low (l.getD k 0) := by
  rw [List.getD_eq_getElem?_getD, List.getElem?_map, List.getElem?_eq_getElem h, List.getD_eq_getElem?_getD, List.getElem?_eq_getElem h]; rfl

theorem rng_low {l : List UInt8} {k lo hi : Nat} (hlo : 128 ≤ lo) (h : rng l k lo hi = true) : rng (l.map T.low) k lo hi = true := by
  rw [rng_iff] at h ⊢
  rw [getD_map l k h.1]
  rcases low_class (l.getD k 0) with e | e
  · rw [e]; simpa using h
  · omega

theorem sz_low {l : List UInt8} (h0 : sz l ≠ 0) : sz (l.map T.low) = sz l := by
  have hln : (l.map T.low).length = l.length := by simp
  have key : ∀ k, k < l.length → 128 ≤ (l.getD k 0).toNat → (l.map T.low).getD k 0 = l.getD k 0 := by
    intro k hk h
    rw [getD_map l k hk]
    unfold T.low
    rw [if_neg (by omega)]
  rcases sz_cases l with ⟨e, h⟩ | ⟨e, h⟩ | ⟨e, h⟩ | ⟨e, h⟩ | ⟨e, h⟩
  · rw [e]
    have : rng (l.map T.low) 0 0 127 = true := by
      rw [rng_iff, getD_map l 0 h.1, hln]
      refine ⟨h.1, Nat.zero_le _, ?_⟩
      have := h.2
      rcases low_class (l.getD 0 0) with e | e <;> omega
    unfold sz
    rw [if_pos this]
  all_goals first
    | (exfalso; exact h0 e)
    | (have h1 := h.1
       have hz0 : 128 ≤ (l.getD 0 0).toNat := by have := h.2.1; omega
       refine sz_congr l _ h0 ?_ (by have := sz_le l; omega)
       rw [← List.map_take]
       refine List.ext_getElem (by simp) fun k hk1 hk2 => ?_
       have hkz : k < sz l := by rw [List.length_take] at hk2; omega
       have hkl : k < l.length := by have := sz_le l; omega
       rw [List.getElem_map, List.getElem_take]
       have h2 : 128 ≤ (l.getD k 0).toNat := by
         rcases Nat.eq_zero_or_pos k with rfl | hp
         · exact hz0
         · exact sz_hi hp hkz
       have h3 : l.getD k 0 = l[k] := by rw [List.getD_eq_getElem?_getD, List.getElem?_eq_getElem hkl]; rfl
       rw [h3] at h2
       unfold T.low
       rw [if_neg (by omega)])

theorem V_low : ∀ (n : Nat) (l : List UInt8), l.length ≤ n → V l → V (l.map T.low)
  | 0, l, hn, h => by
    obtain rfl : l = [] := List.eq_nil_of_length_eq_zero (by omega)
    exact V_nil
  | n + 1, l, hn, h => by
    by_cases hl : l = []
    · subst hl; exact V_nil
    · have h0 := sz_of_V h hl
      have h1 := (V_split h0).1 h
      have hp : 0 < l.length := List.length_pos_iff.2 hl
      refine (V_split (by rw [sz_low h0]; exact h0)).2 ?_
      rw [sz_low h0, ← List.map_drop]
      exact V_low n _ (by rw [List.length_drop]; omega) h1

end U
end Go.Proofs.YtnmcgmbhkmfiaaaGreatDoor

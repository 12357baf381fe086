/- Selectors, as the chapter has them; over lists of bytes. No program in sight. -/
import Derived.Test.YtnmcgmbhkmfiaaaDoorSpace
import Derived.Test.YtnmcgmbhkmfiaaaDoorCases
set_option linter.unusedVariables false
namespace Go.Proofs.YtnmcgmbhkmfiaaaDoor
namespace L
open T (sp low)

def lower (l : List UInt8) : List UInt8 := l.map low

/-- A test without tests of its own; the kinds are the chapter's. -/
structure Tst where
  kind : Nat
  name : List UInt8
  value : List UInt8
  a : Int
  b : Int

/-- A test, and the tests within a 'not'. -/
structure Test where
  t : Tst
  nots : List Tst

structure Part where
  join : Nat
  type : List UInt8
  tests : List Test

def tst (kind : Nat) (name : List UInt8) : Tst := ⟨kind, name, [], 0, 0⟩

def isDig (c : UInt8) : Bool := decide (48 ≤ c.toNat) && decide (c.toNat ≤ 57)
/-- An identifier may begin with such a byte. -/
def first (c : UInt8) : Bool := c == 95 || (decide (128 ≤ c.toNat) || ((decide (97 ≤ c.toNat) && decide (c.toNat ≤ 122)) || (decide (65 ≤ c.toNat) && decide (c.toNat ≤ 90))))
def inName (c : UInt8) : Bool := first c || (isDig c || c == 45)

/-- An identifier is next. -/
def begins : List UInt8 → Bool
  | [] => false
  | c :: r => first c || (c == 45 && (match r with | [] => false | d :: _ => first d))

def space (s : List UInt8) : List UInt8 := s.dropWhile sp

/-- An identifier, and the rest. -/
def ident (s : List UInt8) : Option (List UInt8 × List UInt8) := if begins s then some (s.takeWhile inName, s.dropWhile inName) else none

/-- An identifier or a string, and the rest. -/
def value (s : List UInt8) : Option (List UInt8 × List UInt8) :=
  match s with
  | [] => none
  | q :: t => if q == 34 || q == 39 then (match t.dropWhile (· != q) with
      | [] => none
      | _ :: u => if (10 : UInt8) ∈ t.takeWhile (· != q) then none else some (t.takeWhile (· != q), u))
    else ident s

/-- What has to be next. -/
def need (p s : List UInt8) : Option (List UInt8) := if p.isPrefixOf s then some (s.drop p.length) else none

/-- The sign of a test of an attribute: its kind, and the rest. -/
def op (r : List UInt8) : Option (Nat × List UInt8) :=
  if ([61] : List UInt8).isPrefixOf r then some (4, r.drop 1)
  else if ([126, 61] : List UInt8).isPrefixOf r then some (5, r.drop 2)
  else if ([94, 61] : List UInt8).isPrefixOf r then some (6, r.drop 2)
  else none

/-- What follows the sign: a value. -/
def attrRest (n : List UInt8) (k : Nat) (u : List UInt8) : Option (Tst × List UInt8) :=
  match value (space u) with
  | none => none
  | some (v, x) => match need [93] (space x) with
    | none => none
    | some y => some (⟨k, lower n, v, 0, 0⟩, y)

def attrEnd (n r : List UInt8) : Option (Tst × List UInt8) :=
  match op (space r) with
  | none => (match need [93] (space r) with | none => none | some u => some (⟨3, lower n, [], 0, 0⟩, u))
  | some (k, u) => attrRest n k u

/-- The rest of a test in brackets. -/
def attr (s : List UInt8) : Option (Tst × List UInt8) :=
  match ident (space s) with
  | none => none
  | some (n, r) => attrEnd n r

def natOf (l : List UInt8) : Nat := l.foldl (fun n c => n * 10 + (c.toNat - 48)) 0

/-- One to six digits. -/
def number (s : List UInt8) : Option (Nat × List UInt8) :=
  if (s.takeWhile isDig).length < 1 ∨ 6 < (s.takeWhile isDig).length then none else some (natOf (s.takeWhile isDig), s.dropWhile isDig)

/-- An optional sign: its number, whether there is one, and the rest. -/
def sign : List UInt8 → Int × Bool × List UInt8
  | 43 :: r => (1, true, r)
  | 45 :: r => (-1, true, r)
  | s => (1, false, s)

/-- The sign and the digits behind a step. -/
def offset (s : List UInt8) : Option (Int × List UInt8) :=
  match sign (space s) with
  | (_, false, _) => some (0, s)
  | (g, true, r) => match number (space r) with
    | none => none
    | some (n, u) => some (g * n, u)

/-- The number ahead of the letter: 1 if there is none. -/
def coef : List UInt8 → Option (Nat × Bool × List UInt8)
  | [] => some (1, false, [])
  | c :: t => if isDig c then (match number (c :: t) with | none => none | some (n, r) => some (n, true, r)) else some (1, false, c :: t)

def isN (c : UInt8) : Bool := c == 110 || c == 78

def nthTail (g : Int) (n : Nat) (some_ : Bool) : List UInt8 → Option (Tst × List UInt8)
  | [] => if some_ then some (⟨9, [], [], 0, g * n⟩, []) else none
  | c :: t => if isN c then (match offset t with | none => none | some (b, u) => some (⟨9, [], [], g * n, b⟩, u))
    else if some_ then some (⟨9, [], [], 0, g * n⟩, c :: t) else none

def nthRest (s : List UInt8) : Option (Tst × List UInt8) :=
  match coef (sign s).2.2 with
  | none => none
  | some (n, some_, r) => nthTail (sign s).1 n some_ r

/-- The argument of nth-child. -/
def nth (s : List UInt8) : Option (Tst × List UInt8) :=
  if lower (s.take 3) = [111, 100, 100] then some (⟨9, [], [], 2, 1⟩, s.drop 3)
  else if lower (s.take 4) = [101, 118, 101, 110] then some (⟨9, [], [], 2, 0⟩, s.drop 4)
  else nthRest s

/-- The tests without arguments. -/
def pseudos : List (List UInt8 × Nat) :=
  [([102, 105, 114, 115, 116, 45, 99, 104, 105, 108, 100], 7), ([108, 97, 115, 116, 45, 99, 104, 105, 108, 100], 8), ([101, 109, 112, 116, 121], 10), ([102, 111, 99, 117, 115], 11), ([104, 111, 118, 101, 114], 12), ([99, 104, 101, 99, 107, 101, 100], 13)]
def nthChild : List UInt8 := [110, 116, 104, 45, 99, 104, 105, 108, 100]
def not_ : List UInt8 := [110, 111, 116]

/-- One test of a part, given what reads the argument of a 'not' (none: not allowed); none: no test is next; some none: it is not in the language. -/
def one (np : Option (List UInt8 → Option ((List UInt8 × List Tst) × List UInt8))) : List UInt8 → Option (Option (Test × List UInt8))
  | 35 :: r => some (match ident r with | none => none | some (n, u) => some (⟨tst 1 n, []⟩, u))
  | 46 :: r => some (match ident r with | none => none | some (n, u) => some (⟨tst 2 n, []⟩, u))
  | 91 :: r => some (match attr r with | none => none | some (t, u) => some (⟨t, []⟩, u))
  | 58 :: r => some (match ident r with
    | none => none
    | some (n, u) => match pseudos.find? (fun p => p.1 == lower n) with
      | some p => some (⟨tst p.2 [], []⟩, u)
      | none =>
        if lower n = nthChild then (match need [40] u with
          | none => none
          | some x => match nth (space x) with
            | none => none
            | some (t, y) => match need [41] (space y) with | none => none | some z => some (⟨t, []⟩, z))
        else if lower n = not_ then (match np, need [40] u with
          | some f, some x => (match f (space x) with
            | none => none
            | some ((ty, ts), y) => match need [41] (space y) with | none => none | some z => some (⟨tst 14 ty, ts⟩, z))
          | _, _ => none)
        else none)
  | _ => none

/-- The tests of a part. -/
def tests (np : Option (List UInt8 → Option ((List UInt8 × List Tst) × List UInt8))) : Nat → List UInt8 → Option (List Test × List UInt8)
  | 0, s => some ([], s)
  | n + 1, s => match one np s with
    | none => some ([], s)
    | some none => none
    | some (some (t, r)) => match tests np n r with
      | none => none
      | some (l, u) => some (t :: l, u)

/-- A part: its type, its tests, and the rest. -/
def part (np : Option (List UInt8 → Option ((List UInt8 × List Tst) × List UInt8))) (s : List UInt8) : Option ((List UInt8 × List Test) × List UInt8) :=
  let h : List UInt8 × List UInt8 × Bool := match s with
    | 42 :: r => ([], r, true)
    | _ => match ident s with
      | some (n, r) => (lower n, r, true)
      | none => ([], s, false)
  match tests np (h.2.1.length + 1) h.2.1 with
  | none => none
  | some (l, u) => if h.2.2 || !l.isEmpty then some ((h.1, l), u) else none

/-- A part within a 'not'. -/
def inner (s : List UInt8) : Option ((List UInt8 × List Tst) × List UInt8) := match part none s with | none => none | some ((n, l), u) => some ((n, l.map (·.t)), u)
def outer (s : List UInt8) : Option ((List UInt8 × List Test) × List UInt8) := part (some inner) s

/-- The combinator that is next, and what follows it; some none: none is there, and the selector ends; none: it is not in the language. -/
def join (s : List UInt8) : Option (Option (Nat × List UInt8)) :=
  match space s with
  | [] => some none
  | c :: r => if c == 44 then some none
    else if c == 62 then some (some (2, space r))
    else if c == 43 then some (some (3, space r))
    else if c == 126 then some (some (4, space r))
    else if (space s).length < s.length then some (some (1, space s))
    else none

/-- The parts behind the first. -/
def parts : Nat → List UInt8 → Option (List Part × List UInt8)
  | 0, s => none
  | n + 1, s => match join s with
    | none => none
    | some none => some ([], space s)
    | some (some (j, r)) => match outer r with
      | none => none
      | some ((ty, ts), u) => match parts n u with
        | none => none
        | some (l, x) => some (⟨j, ty, ts⟩ :: l, x)

def selector (s : List UInt8) : Option (List Part × List UInt8) :=
  match outer s with
  | none => none
  | some ((ty, ts), u) => match parts (u.length + 1) u with
    | none => none
    | some (l, x) => some (⟨0, ty, ts⟩ :: l, x)

/-- A list of selectors, to its end. -/
def list : Nat → List UInt8 → Option (List (List Part))
  | 0, _ => none
  | n + 1, s => match selector (space s) with
    | none => none
    | some (x, u) => match space u with
      | [] => some [x]
      | c :: r => if c == 44 then (match list n r with | none => none | some l => some (x :: l)) else none

def parse (s : List UInt8) : Option (List (List Part)) := list (s.length + 1) s

end L
end Go.Proofs.YtnmcgmbhkmfiaaaDoor

/- The tokens of a document, by the steps that the chapter describes; over lists of bytes. No program in sight. -/
import Derived.Test.YtlnginciehjlnaaGreatDoorEntSpec
import Derived.Test.YtlnginciehjlnaaGreatDoorSpace
import Derived.Test.YtlnginciehjlnaaGreatDoorCases
import Derived.Test.YtlnginciehjlnaaGreatDoorTrim
namespace Go.Proofs.YtlnginciehjlnaaGreatDoor
namespace M
open T (sp low)

structure Tok where
  kind : Nat
  name : List UInt8
  attrs : List (List UInt8 × List UInt8)
  closed : Bool
  text : List UInt8

def Tok.none : Tok := ⟨0, [], [], false, []⟩
def Tok.txt (kind : Nat) (t : List UInt8) : Tok := ⟨kind, [], [], false, t⟩

/-- What a step makes: a token (kind 0: none), the bytes removed, and whether the step is possible. -/
structure Res where
  tok : Tok
  n : Nat
  ok : Bool

def letter (c : UInt8) : Bool := (decide (97 ≤ c.toNat) && decide (c.toNat ≤ 122)) || (decide (65 ≤ c.toNat) && decide (c.toNat ≤ 90))
/-- A name ends at such a byte. -/
def stops (c : UInt8) : Bool := c == 47 || (c == 62 || sp c)
def goesOn (c : UInt8) : Bool := !stops c

/-- A construct begins at the head. -/
def begins : List UInt8 → Bool
  | 60 :: c :: _ => letter c || (c == 47 || c == 33 || c == 63)
  | _ => false

def lower (l : List UInt8) : List UInt8 := l.map low

/-- s begins with p, in any case. -/
def has (s p : List UInt8) : Bool := decide (p.length ≤ s.length) && (lower (s.take p.length) == p)

/-- The first place where p stands. -/
def idx (p : List UInt8) : List UInt8 → Option Nat
  | [] => if p.isPrefixOf [] then some 0 else none
  | c :: r => if p.isPrefixOf (c :: r) then some 0 else (idx p r).map (· + 1)

def upto (s : List UInt8) (skip : Nat) (mark : List UInt8) (kind : Nat) (e : Bool) : Res :=
  match idx mark (s.drop skip) with
  | none => ⟨.txt kind (s.drop skip), s.length, e⟩
  | some i => ⟨.txt kind ((s.drop skip).take i), skip + i + mark.length, true⟩

def endTag (s : List UInt8) (e : Bool) : Res :=
  match idx [62] s with
  | none => ⟨.none, s.length, e⟩
  | some n => ⟨⟨2, lower ((s.drop 2).takeWhile goesOn), [], false, []⟩, n + 1, true⟩

/-- White space and slashes are skipped between attributes. -/
def skips (c : UInt8) : Bool := c == 47 || sp c
/-- The name of an attribute goes on. -/
def inName (c : UInt8) : Bool := c != 61 && !stops c
/-- A value without quotes goes on. -/
def inValue (c : UInt8) : Bool := c != 62 && !sp c

/-- A value, and what follows it. -/
def value (r : List UInt8) : Option (List UInt8 × List UInt8) :=
  match r.dropWhile sp with
  | [] => none
  | c :: t => if c == 34 || c == 39 then (match idx [c] t with | none => none | some i => some (t.take i, t.drop (i + 1)))
    else (match (c :: t).dropWhile inValue with | [] => none | u => some ((c :: t).takeWhile inValue, u))

/-- An attribute, and what follows it; c: its first byte. -/
def attr (c : UInt8) (r : List UInt8) : Option ((List UInt8 × List UInt8) × List UInt8) :=
  match r.dropWhile inName with
  | [] => none
  | r1 => match r1.dropWhile sp with
    | [] => none
    | d :: t => if d == 61 then (match value t with | none => none | some (v, u) => some ((lower (c :: r.takeWhile inName), E.decode v), u))
      else some ((lower (c :: r.takeWhile inName), []), d :: t)

def add (l : List (List UInt8 × List UInt8)) (a : List UInt8 × List UInt8) : List (List UInt8 × List UInt8) :=
  if l.any (fun b => a.1 == b.1) then l else if l.length < 64 then l ++ [a] else l

/-- The attributes of a start tag, whether it is closed, and what follows it. -/
def tagLoop : Nat → List (List UInt8 × List UInt8) → List UInt8 → Option (List (List UInt8 × List UInt8) × Bool × List UInt8)
  | 0, _, _ => none
  | n + 1, l, r => match r.dropWhile skips with
    | [] => none
    | c :: t => if c == 62 then some (l, (r.takeWhile skips).getLast? == some 47, t)
      else match attr c t with
        | none => none
        | some (a, u) => tagLoop n (add l a) u

/-- The start tag whose name is at the head: the token, and what follows. -/
def start (r : List UInt8) : Option (Tok × List UInt8) :=
  match tagLoop (r.length + 1) [] (r.dropWhile goesOn) with
  | none => none
  | some (l, c, u) => some (⟨1, lower (r.takeWhile goesOn), l, c, []⟩, u)

def startTag (s : List UInt8) (e : Bool) : Res :=
  match start (s.drop 1) with
  | none => ⟨.none, s.length, e⟩
  | some (t, u) => ⟨t, s.length - u.length, true⟩

/-- The place of the next construct. -/
def nextAt : List UInt8 → Option Nat
  | [] => none
  | c :: r => if begins (c :: r) then some 0 else (nextAt r).map (· + 1)

def plain (s : List UInt8) (e : Bool) : Res :=
  match nextAt (s.drop 1) with
  | none => ⟨.txt 3 (E.decode s), s.length, e⟩
  | some i => ⟨.txt 3 (E.decode (s.take (i + 1))), i + 1, true⟩

def opening : List UInt8 := [60, 33, 45, 45]
def closing : List UInt8 := [45, 45, 62]
def doctype : List UInt8 := [60, 33, 100, 111, 99, 116, 121, 112, 101]

def trim (l : List UInt8) : List UInt8 := T.rt (T.lt l)

def normal (s : List UInt8) (e : Bool) : Res :=
  if !e && decide (s.length < 4) && s.isPrefixOf opening then ⟨.none, 0, false⟩
  else if opening.isPrefixOf s then upto s 4 closing 4 e
  else if has s doctype then (let r := upto s 9 [62] 5 e; ⟨.txt 5 (trim r.tok.text), r.n, r.ok⟩)
  else if !begins s then plain s e
  else if letter (s.getD 1 0) then startTag s e
  else if [60, 47, 62].isPrefixOf s then ⟨.none, 3, true⟩
  else if s.getD 1 0 == 47 && decide (2 < s.length) && letter (s.getD 2 0) then endTag s e
  else upto s 2 [62] 4 e

def isRaw (n : List UInt8) : Bool := n == [115, 99, 114, 105, 112, 116] || n == [115, 116, 121, 108, 101]
def isPlain (n : List UInt8) : Bool := n == [116, 105, 116, 108, 101] || n == [116, 101, 120, 116, 97, 114, 101, 97]

/-- The end of a raw element stands at the head: its mark, and one more byte that ends a name. -/
def shut (mark s : List UInt8) : Bool := has s mark && (match s.drop mark.length with | [] => false | c :: _ => stops c)

/-- The place of the end. -/
def shutAt (mark : List UInt8) : List UInt8 → Option Nat
  | [] => none
  | c :: r => if c == 60 && shut mark (c :: r) then some 0 else (shutAt mark r).map (· + 1)

def inner (raw s : List UInt8) (ok : Bool) : Res := ⟨.txt 3 (if isPlain raw then E.decode s else s), s.length, ok⟩

/-- A step within a raw element, and the mode behind it. -/
def rawStep (raw s : List UInt8) (e : Bool) : Res × List UInt8 :=
  match shutAt ([60, 47] ++ raw) s with
  | none => (inner raw s e, raw)
  | some 0 => (endTag s e, if (endTag s e).ok then [] else raw)
  | some (i + 1) => (inner raw (s.take (i + 1)) true, raw)

/-- A step, and the mode behind it. -/
def step (raw s : List UInt8) (e : Bool) : Res × List UInt8 :=
  if raw = [] then
    (let r := normal s e; (r, if r.ok && r.tok.kind == 1 && (isRaw r.tok.name || isPlain r.tok.name) then r.tok.name else []))
  else rawStep raw s e

/-- Steps until one yields a token: the token (kind 0: none), the mode and the text behind it. -/
def steps : Nat → Bool → List UInt8 → List UInt8 → Option Tok × List UInt8 × List UInt8
  | 0, _, raw, s => (none, raw, s)
  | n + 1, e, raw, s =>
    if s = [] then (none, raw, s)
    else if (step raw s e).1.ok then
      (if (step raw s e).1.tok.kind = 0 then steps n e (step raw s e).2 (s.drop (step raw s e).1.n)
       else (some (step raw s e).1.tok, (step raw s e).2, s.drop (step raw s e).1.n))
    else (none, (step raw s e).2, s)

/-- All tokens up to the end of the document. -/
def all : Nat → List UInt8 → List UInt8 → List Tok
  | 0, _, _ => []
  | n + 1, raw, s =>
    if s = [] then []
    else if (step raw s true).1.tok.kind = 0 then all n (step raw s true).2 (s.drop (step raw s true).1.n)
    else (step raw s true).1.tok :: all n (step raw s true).2 (s.drop (step raw s true).1.n)

end M
end Go.Proofs.YtlnginciehjlnaaGreatDoor

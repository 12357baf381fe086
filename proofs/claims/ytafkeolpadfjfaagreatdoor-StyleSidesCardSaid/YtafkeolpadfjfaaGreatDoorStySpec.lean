/- Values and declarations of styles, as the chapter has them; over lists of bytes. No program in sight. -/
import Derived.Test.YtafkeolpadfjfaaGreatDoorSpace
import Derived.Test.YtafkeolpadfjfaaGreatDoorCases
import Derived.Test.YtafkeolpadfjfaaGreatDoorTrim
import Derived.Test.YtafkeolpadfjfaaGreatDoorFieldsPlain
set_option linter.unusedVariables false
namespace Go.Proofs.YtafkeolpadfjfaaGreatDoor
namespace S
open T (sp low)

def lower (l : List UInt8) : List UInt8 := l.map low
def trim (l : List UInt8) : List UInt8 := T.rt (T.lt l)

/-- A value: its kind (1 keyword, 2 number, 3 pixels, 4 em, 5 percent, 6 color), its thousandths, its word. -/
structure Val where
  kind : Nat
  num : Int
  word : List UInt8

def isDig (c : UInt8) : Bool := decide (48 ≤ c.toNat) && decide (c.toNat ≤ 57)
def isHex (c : UInt8) : Bool := isDig c || (decide (97 ≤ c.toNat) && decide (c.toNat ≤ 102))
def natOf (l : List UInt8) : Nat := l.foldl (fun n c => n * 10 + (c.toNat - 48)) 0

/-- The sign at the head, and the rest. -/
def signOf : List UInt8 → Int × List UInt8
  | 45 :: t => (-1, t)
  | 43 :: t => (1, t)
  | s => (1, s)

/-- The part behind the point. -/
def frac (n : Nat) : List UInt8 → Option (Nat × List UInt8)
  | 46 :: t => if t.takeWhile isDig = [] then none else some (n + natOf ((t.takeWhile isDig ++ [48, 48]).take 3), t.dropWhile isDig)
  | r => some (n, r)

/-- A number in thousandths at the head, and the rest. -/
def decimal (s : List UInt8) : Option (Int × List UInt8) :=
  if ((signOf s).2.takeWhile isDig).length < 1 ∨ 7 < ((signOf s).2.takeWhile isDig).length then none
  else match frac (natOf ((signOf s).2.takeWhile isDig) * 1000) ((signOf s).2.dropWhile isDig) with
    | none => none
    | some (n, r) => if n ≤ 1048576000 then some ((signOf s).1 * n, r) else none

/-- A number, a length or a percentage, where a longhand takes it (bits: 1 length, 2 percentage, 3 number, 4 whole, 5 positive). -/
def measure (k : Nat) (s : List UInt8) : Option Val :=
  match decimal s with
  | none => none
  | some (n, r) =>
    if decide (n < 0) && k.testBit 5 then none
    else if r.isEmpty && k.testBit 3 then (if !k.testBit 4 || n % 1000 == 0 then some ⟨2, n, []⟩ else none)
    else if r == [112, 120] || (r.isEmpty && n == 0) then (if k.testBit 1 then some ⟨3, n, []⟩ else none)
    else if r == [101, 109] then (if k.testBit 1 then some ⟨4, n, []⟩ else none)
    else if r == [37] then (if k.testBit 2 then some ⟨5, n, []⟩ else none)
    else none

/-- The names of colors, and their digits. -/
def colors : List (List UInt8 × List UInt8) :=
  [([98, 108, 97, 99, 107], [48, 48, 48, 48, 48, 48]),
   ([98, 108, 117, 101], [48, 48, 48, 48, 102, 102]),
   ([103, 114, 97, 121], [56, 48, 56, 48, 56, 48]),
   ([103, 114, 101, 101, 110], [48, 48, 56, 48, 48, 48]),
   ([109, 97, 114, 111, 111, 110], [56, 48, 48, 48, 48, 48]),
   ([110, 97, 118, 121], [48, 48, 48, 48, 56, 48]),
   ([111, 114, 97, 110, 103, 101], [102, 102, 97, 53, 48, 48]),
   ([112, 117, 114, 112, 108, 101], [56, 48, 48, 48, 56, 48]),
   ([114, 101, 100], [102, 102, 48, 48, 48, 48]),
   ([115, 105, 108, 118, 101, 114], [99, 48, 99, 48, 99, 48]),
   ([119, 104, 105, 116, 101], [102, 102, 102, 102, 102, 102]),
   ([121, 101, 108, 108, 111, 119], [102, 102, 102, 102, 48, 48])]

def named (s : List UInt8) : Option Val := match colors.find? (fun p => p.1 == s) with | some p => some ⟨6, 0, 35 :: p.2⟩ | none => none

/-- A color. -/
def paint (s : List UInt8) : Option Val :=
  match s with
  | 35 :: d => if d.all isHex then (if (if d.length = 3 then d.flatMap (fun c => [c, c]) else d).length = 6 then some ⟨6, 0, 35 :: (if d.length = 3 then d.flatMap (fun c => [c, c]) else d)⟩ else none) else named s
  | _ => named s

/-- The longhands in ascending order: the name, what is taken besides keywords, and the keywords. -/
def tab : List (List UInt8 × Nat × List (List UInt8)) :=
  [
   ([98, 97, 99, 107, 103, 114, 111, 117, 110, 100], 1, [[116, 114, 97, 110, 115, 112, 97, 114, 101, 110, 116]]),
   ([98, 111, 114, 100, 101, 114, 45, 98, 111, 116, 116, 111, 109, 45, 119, 105, 100, 116, 104], 34, []),
   ([98, 111, 114, 100, 101, 114, 45, 99, 111, 108, 111, 114], 1, []),
   ([98, 111, 114, 100, 101, 114, 45, 108, 101, 102, 116, 45, 119, 105, 100, 116, 104], 34, []),
   ([98, 111, 114, 100, 101, 114, 45, 114, 105, 103, 104, 116, 45, 119, 105, 100, 116, 104], 34, []),
   ([98, 111, 114, 100, 101, 114, 45, 116, 111, 112, 45, 119, 105, 100, 116, 104], 34, []),
   ([99, 111, 108, 111, 114], 1, []),
   ([100, 105, 115, 112, 108, 97, 121], 0, [[98, 108, 111, 99, 107], [102, 108, 101, 120], [105, 110, 108, 105, 110, 101], [105, 110, 108, 105, 110, 101, 45, 98, 108, 111, 99, 107], [108, 105, 115, 116, 45, 105, 116, 101, 109], [110, 111, 110, 101], [116, 97, 98, 108, 101], [116, 97, 98, 108, 101, 45, 99, 101, 108, 108], [116, 97, 98, 108, 101, 45, 114, 111, 119], [116, 97, 98, 108, 101, 45, 114, 111, 119, 45, 103, 114, 111, 117, 112]]),
   ([102, 108, 101, 120, 45, 98, 97, 115, 105, 115], 38, [[97, 117, 116, 111]]),
   ([102, 108, 101, 120, 45, 100, 105, 114, 101, 99, 116, 105, 111, 110], 0, [[99, 111, 108, 117, 109, 110], [114, 111, 119]]),
   ([102, 108, 101, 120, 45, 103, 114, 111, 119], 40, []),
   ([102, 108, 101, 120, 45, 115, 104, 114, 105, 110, 107], 40, []),
   ([102, 108, 101, 120, 45, 119, 114, 97, 112], 0, [[110, 111, 119, 114, 97, 112], [119, 114, 97, 112]]),
   ([102, 111, 110, 116, 45, 115, 105, 122, 101], 38, []),
   ([104, 101, 105, 103, 104, 116], 38, [[97, 117, 116, 111]]),
   ([108, 101, 102, 116], 6, [[97, 117, 116, 111]]),
   ([108, 105, 110, 101, 45, 104, 101, 105, 103, 104, 116], 46, [[110, 111, 114, 109, 97, 108]]),
   ([109, 97, 114, 103, 105, 110, 45, 98, 111, 116, 116, 111, 109], 6, [[97, 117, 116, 111]]),
   ([109, 97, 114, 103, 105, 110, 45, 108, 101, 102, 116], 6, [[97, 117, 116, 111]]),
   ([109, 97, 114, 103, 105, 110, 45, 114, 105, 103, 104, 116], 6, [[97, 117, 116, 111]]),
   ([109, 97, 114, 103, 105, 110, 45, 116, 111, 112], 6, [[97, 117, 116, 111]]),
   ([109, 97, 120, 45, 119, 105, 100, 116, 104], 38, [[110, 111, 110, 101]]),
   ([109, 105, 110, 45, 119, 105, 100, 116, 104], 38, []),
   ([111, 114, 100, 101, 114], 24, []),
   ([111, 118, 101, 114, 102, 108, 111, 119], 0, [[104, 105, 100, 100, 101, 110], [115, 99, 114, 111, 108, 108], [118, 105, 115, 105, 98, 108, 101]]),
   ([112, 97, 100, 100, 105, 110, 103, 45, 98, 111, 116, 116, 111, 109], 38, []),
   ([112, 97, 100, 100, 105, 110, 103, 45, 108, 101, 102, 116], 38, []),
   ([112, 97, 100, 100, 105, 110, 103, 45, 114, 105, 103, 104, 116], 38, []),
   ([112, 97, 100, 100, 105, 110, 103, 45, 116, 111, 112], 38, []),
   ([112, 111, 115, 105, 116, 105, 111, 110], 0, [[97, 98, 115, 111, 108, 117, 116, 101], [114, 101, 108, 97, 116, 105, 118, 101], [115, 116, 97, 116, 105, 99]]),
   ([116, 101, 120, 116, 45, 97, 108, 105, 103, 110], 0, [[99, 101, 110, 116, 101, 114], [108, 101, 102, 116], [114, 105, 103, 104, 116]]),
   ([116, 111, 112], 6, [[97, 117, 116, 111]]),
   ([118, 101, 114, 116, 105, 99, 97, 108, 45, 97, 108, 105, 103, 110], 0, [[98, 111, 116, 116, 111, 109], [109, 105, 100, 100, 108, 101], [116, 111, 112]]),
   ([118, 105, 115, 105, 98, 105, 108, 105, 116, 121], 0, [[104, 105, 100, 100, 101, 110], [118, 105, 115, 105, 98, 108, 101]]),
   ([119, 104, 105, 116, 101, 45, 115, 112, 97, 99, 101], 0, [[110, 111, 114, 109, 97, 108], [110, 111, 119, 114, 97, 112], [112, 114, 101]]),
   ([119, 105, 100, 116, 104], 38, [[97, 117, 116, 111]]),
   ([122, 45, 105, 110, 100, 101, 120], 24, [[97, 117, 116, 111]])]

def globals : List (List UInt8) := [[105, 110, 104, 101, 114, 105, 116], [105, 110, 105, 116, 105, 97, 108]]

/-- The value of a trimmed text in lower case, for a line of the table. -/
def valueT (k : Nat) (ws : List (List UInt8)) (t : List UInt8) : Option Val :=
  if ws.contains t || globals.contains t then some ⟨1, 0, t⟩
  else if k.testBit 0 then (match paint t with | some v => some v | none => measure k t)
  else measure k t

/-- The value of a longhand: none: there is no such property; some none: the text is not valid. -/
def value (p s : List UInt8) : Option (Option Val) :=
  match tab.find? (fun r => r.1 == p) with
  | none => none
  | some r => some (valueT r.2.1 r.2.2 (trim (lower s)))

/-- Comments replaced: the mode 0: text; 1: within a comment; else within a string that ends with this byte. -/
def clean : UInt8 → List UInt8 → List UInt8
  | _, [] => []
  | 0, 47 :: 42 :: t => 32 :: clean 1 t
  | 1, 42 :: 47 :: t => clean 0 t
  | m, c :: t =>
    if m = 1 then clean 1 t
    else c :: clean (if m = 0 then (if c = 34 ∨ c = 39 then c else 0) else if c = m then 0 else m) t

/-- How many bytes stand ahead of the first stop outside of strings and parts; q: the string's end, 0 for none. -/
def scan (stops : List UInt8) : Nat → UInt8 → List UInt8 → Nat
  | _, _, [] => 0
  | d, q, c :: t =>
    if q ≠ 0 then 1 + scan stops d (if c = q then 0 else q) t
    else if d = 0 ∧ c ∈ stops then 0
    else if c = 34 ∨ c = 39 then 1 + scan stops d c t
    else if c = 40 ∨ c = 91 ∨ c = 123 then 1 + scan stops (d + 1) 0 t
    else if c = 41 ∨ c = 93 ∨ c = 125 then 1 + scan stops (d - 1) 0 t
    else 1 + scan stops d 0 t

structure Decl where
  name : List UInt8
  val : Val
  imp : Bool

/-- What stands ahead of the first colon, and behind it; none: there is none. -/
def colon (s : List UInt8) : Option (List UInt8 × List UInt8) := match s.dropWhile (· ≠ 58) with | [] => none | _ :: t => some (s.takeWhile (· ≠ 58), t)

/-- A text's end, where it ends so. -/
def cutEnd (s e : List UInt8) : Option (List UInt8) := if e.isSuffixOf s then some (s.take (s.length - e.length)) else none

/-- The value without its mark, and whether it had it. -/
def important (v : List UInt8) : List UInt8 × Bool :=
  match cutEnd v [105, 109, 112, 111, 114, 116, 97, 110, 116] with
  | none => (v, false)
  | some u => match cutEnd (trim u) [33] with
    | none => (v, false)
    | some x => (trim x, true)

/-- Words between white space. -/
def words (s : List UInt8) : List (List UInt8) := T.flds [] s

/-- Longhands with their values, where all are valid. -/
def each : List (List UInt8 × List UInt8) → Option (List (List UInt8 × Val))
  | [] => some []
  | p :: r => match value p.1 p.2 with
    | some (some v) => (match each r with | some l => some ((p.1, v) :: l) | none => none)
    | _ => none

/-- A part of a shorthand: a valid value that is no word for all properties. -/
def part (name w : List UInt8) : Bool := match value name w with | some (some _) => !globals.contains w | _ => false

def flexNames : List (List UInt8) := [[102, 108, 101, 120, 45, 103, 114, 111, 119], [102, 108, 101, 120, 45, 115, 104, 114, 105, 110, 107], [102, 108, 101, 120, 45, 98, 97, 115, 105, 115]]
/-- One word of the shorthand flex, if it is a part: else the word that stands for it. -/
def flexOne (name other : List UInt8) : List (List UInt8) → List UInt8 × List (List UInt8)
  | [] => (other, [])
  | w :: r => if part name w then (w, r) else (other, w :: r)
/-- The values of the shorthand flex. -/
def flexVals (s : List UInt8) (l : List (List UInt8)) : Option (List (List UInt8)) :=
  if s = [110, 111, 110, 101] then some [[48], [48], [97, 117, 116, 111]]
  else if s = [97, 117, 116, 111] then some [[49], [49], [97, 117, 116, 111]]
  else if globals.contains s then some [s, s, s]
  else match l with
    | [] => none
    | w :: r => if part [102, 108, 101, 120, 45, 103, 114, 111, 119] w then
        (if (flexOne [102, 108, 101, 120, 45, 98, 97, 115, 105, 115] [48, 112, 120] (flexOne [102, 108, 101, 120, 45, 115, 104, 114, 105, 110, 107] [49] r).2).2 = [] then some [w, (flexOne [102, 108, 101, 120, 45, 115, 104, 114, 105, 110, 107] [49] r).1, (flexOne [102, 108, 101, 120, 45, 98, 97, 115, 105, 115] [48, 112, 120] (flexOne [102, 108, 101, 120, 45, 115, 104, 114, 105, 110, 107] [49] r).2).1] else none)
      else none

def sidesOf (name : List UInt8) : Option (List (List UInt8)) :=
  if name = [109, 97, 114, 103, 105, 110] ∨ name = [112, 97, 100, 100, 105, 110, 103] then some [name ++ [45, 116, 111, 112], name ++ [45, 114, 105, 103, 104, 116], name ++ [45, 98, 111, 116, 116, 111, 109], name ++ [45, 108, 101, 102, 116]]
  else if name = [98, 111, 114, 100, 101, 114, 45, 119, 105, 100, 116, 104] then some [[98, 111, 114, 100, 101, 114, 45, 116, 111, 112, 45, 119, 105, 100, 116, 104], [98, 111, 114, 100, 101, 114, 45, 114, 105, 103, 104, 116, 45, 119, 105, 100, 116, 104], [98, 111, 114, 100, 101, 114, 45, 98, 111, 116, 116, 111, 109, 45, 119, 105, 100, 116, 104], [98, 111, 114, 100, 101, 114, 45, 108, 101, 102, 116, 45, 119, 105, 100, 116, 104]]
  else none

def fill : List (List UInt8) → Option (List (List UInt8))
  | [a] => some [a, a, a, a]
  | [a, b] => some [a, b, a, b]
  | [a, b, c] => some [a, b, c, b]
  | [a, b, c, d] => some [a, b, c, d]
  | _ => none

/-- What a property and a value stand for: longhands with values; none if one is not valid. -/
def expand (name s : List UInt8) : Option (List (List UInt8 × Val)) :=
  if name = [102, 108, 101, 120] then (match flexVals s (words s) with | some vs => each (flexNames.zip vs) | none => none)
  else match sidesOf name with
    | none => each [(name, s)]
    | some ns => if globals.contains s then each (ns.map (fun n => (n, s)))
      else if (words s).any globals.contains then none
      else match fill (words s) with | some vs => each (ns.zip vs) | none => none

/-- One declaration. -/
def colonP (s : List UInt8) : List UInt8 × List UInt8 := match colon s with | some p => p | none => (s, [])
def declOf (s : List UInt8) : List Decl :=
  match expand (trim (lower (colonP s).1)) (important (trim (lower (colonP s).2))).1 with
  | some l => l.map fun p => ⟨p.1, p.2, (important (trim (lower (colonP s).2))).2⟩
  | none => []
def declsN : Nat → List UInt8 → List Decl
  | 0, _ => []
  | n + 1, s => if s = [] then [] else declOf (s.take (scan [59] 0 0 s)) ++ declsN n (s.drop (scan [59] 0 0 s + 1))
/-- The declarations of a text without comments. -/
def decls (s : List UInt8) : List Decl := declsN (s.length + 1) s

end S
end Go.Proofs.YtafkeolpadfjfaaGreatDoor

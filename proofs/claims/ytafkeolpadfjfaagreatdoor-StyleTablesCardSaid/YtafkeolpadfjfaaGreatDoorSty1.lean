/- Values and declarations of styles, as the chapter has them; over lists of bytes. No program in sight. Plain facts on the numbers and colors of styles. No program in sight. Blocks that are kept, bytes of texts that are lists, and runs of bytes: what walks over memory ask for, of no package. What the functions of style that read numbers come to: run, decimal. -/
import Derived.Test.YtafkeolpadfjfaaGreatDoorCases
import Derived.Test.YtafkeolpadfjfaaGreatDoorTrim
import Derived.Lib.Atoi
import Derived.Lib.SlTrimSet
import Derived.Lib.Repeat
import Derived.Deep.QuietTactic
import Derived.BigQuiet
import Derived.Below
import Derived.OneCell
import Derived.Lib.Hide
import Derived.Test.YtafkeolpadfjfaaGreatDoorShelf
import Derived.Lib.AtoiAllCases
import Derived.Deep.DeepCutAuto
set_option linter.unusedVariables false
set_option linter.unusedSimpArgs false
namespace Go.Proofs.YtafkeolpadfjfaaGreatDoor
namespace S
open T (sp low)
def lower (l : List UInt8) : List UInt8 := l.map low
def trim (l : List UInt8) : List UInt8 := T.rt (T.lt l)
/-- A value: its kind (1 keyword, 2 number, 3 pixels, 4 em, 5 percent, 6 color), its thousandths, its word. -/
structure Val where
 kind : Nat
 num : Int
 word : List UInt8
def isDig (c : UInt8) : Bool := decide (48 ≤ c.toNat) && decide (c.toNat ≤ 57)
def isHex (c : UInt8) : Bool := isDig c || (decide (97 ≤ c.toNat) && decide (c.toNat ≤ 102))
def natOf (l : List UInt8) : Nat := l.foldl (fun n c => n * 10 + (c.toNat - 48)) 0
/-- The sign at the head, and the rest. -/
def signOf : List UInt8 → Int × List UInt8
 | 45 :: t => (-1, t)
 | 43 :: t => (1, t)
 | s => (1, s)
/-- The part behind the point. -/
def frac (n : Nat) : List UInt8 → Option (Nat × List UInt8)
 | 46 :: t => if t.takeWhile isDig = [] then none else some (n + natOf ((t.takeWhile isDig ++ [48, 48]).take 3), t.dropWhile isDig)
 | r => some (n, r)
/-- A number in thousandths at the head, and the rest. -/
def decimal (s : List UInt8) : Option (Int × List UInt8) :=
 if ((signOf s).2.takeWhile isDig).length < 1 ∨ 7 < ((signOf s).2.takeWhile isDig).length then none
 else match frac (natOf ((signOf s).2.takeWhile isDig) * 1000) ((signOf s).2.dropWhile isDig) with
  | none => none
  | some (n, r) => if n ≤ 1048576000 then some ((signOf s).1 * n, r) else none
/-- A number, a length or a percentage, where a longhand takes it (bits: 1 length, 2 percentage, 3 number, 4 whole, 5 positive). -/
def measure (k : Nat) (s : List UInt8) : Option Val :=
 match decimal s with
 | none => none
 | some (n, r) =>
  if decide (n < 0) && k.testBit 5 then none
  else if r.isEmpty && k.testBit 3 then (if !k.testBit 4 || n % 1000 == 0 then some ⟨2, n, []⟩ else none)
  else if r == [112, 120] || (r.isEmpty && n == 0) then (if k.testBit 1 then some ⟨3, n, []⟩ else none)
  else if r == [101, 109] then (if k.testBit 1 then some ⟨4, n, []⟩ else none)
  else if r == [37] then (if k.testBit 2 then some ⟨5, n, []⟩ else none)
  else none
/-- The names of colors, and their digits. -/
def colors : List (List UInt8 × List UInt8) :=
 [([98, 108, 97, 99, 107], [48, 48, 48, 48, 48, 48]),
  ([98, 108, 117, 101], [48, 48, 48, 48, 102, 102]),
  ([103, 114, 97, 121], [56, 48, 56, 48, 56, 48]),
  ([103, 114, 101, 101, 110], [48, 48, 56, 48, 48, 48]),
  ([109, 97, 114, 111, 111, 110], [56, 48, 48, 48, 48, 48]),
  ([110, 97, 118, 121], [48, 48, 48, 48, 56, 48]),
  ([111, 114, 97, 110, 103, 101], [102, 102, 97, 53, 48, 48]),
  ([112, 117, 114, 112, 108, 101], [56, 48, 48, 48, 56, 48]),
  ([114, 101, 100], [102, 102, 48, 48, 48, 48]),
  ([115, 105, 108, 118, 101, 114], [99, 48, 99, 48, 99, 48]),
  ([119, 104, 105, 116, 101], [102, 102, 102, 102, 102, 102]),
  ([121, 101, 108, 108, 111, 119], [102, 102, 102, 102, 48, 48])]
def named (s : List UInt8) : Option Val := match colors.find? (fun p => p.1 == s) with | some p => some ⟨6, 0, 35 :: p.2⟩ | none => none
/-- A color. -/
def paint (s : List UInt8) : Option Val :=
 match s with
 | 35 :: d => if d.all isHex then (if (if d.length = 3 then d.flatMap (fun c => [c, c]) else d).length = 6 then some ⟨6, 0, 35 :: (if d.length = 3 then d.flatMap (fun c => [c, c]) else d)⟩ else none) else named s
 | _ => named s
/-- The longhands in ascending order: the name, what is taken besides keywords, and the keywords. -/
def tab : List (List UInt8 × Nat × List (List UInt8)) :=
 [
  ([98, 97, 99, 107, 103, 114, 111, 117, 110, 100], 1, [[116, 114, 97, 110, 115, 112, 97, 114, 101, 110, 116]]),
  ([98, 111, 114, 100, 101, 114, 45, 98, 111, 116, 116, 111, 109, 45, 119, 105, 100, 116, 104], 34, []),
  ([98, 111, 114, 100, 101, 114, 45, 99, 111, 108, 111, 114], 1, []),
  ([98, 111, 114, 100, 101, 114, 45, 108, 101, 102, 116, 45, 119, 105, 100, 116, 104], 34, []),
  ([98, 111, 114, 100, 101, 114, 45, 114, 105, 103, 104, 116, 45, 119, 105, 100, 116, 104], 34, []),
  ([98, 111, 114, 100, 101, 114, 45, 116, 111, 112, 45, 119, 105, 100, 116, 104], 34, []),
  ([99, 111, 108, 111, 114], 1, []),
  ([100, 105, 115, 112, 108, 97, 121], 0, [[98, 108, 111, 99, 107], [102, 108, 101, 120], [105, 110, 108, 105, 110, 101], [105, 110, 108, 105, 110, 101, 45, 98, 108, 111, 99, 107], [108, 105, 115, 116, 45, 105, 116, 101, 109], [110, 111, 110, 101], [116, 97, 98, 108, 101], [116, 97, 98, 108, 101, 45, 99, 101, 108, 108], [116, 97, 98, 108, 101, 45, 114, 111, 119], [116, 97, 98, 108, 101, 45, 114, 111, 119, 45, 103, 114, 111, 117, 112]]),
  ([102, 108, 101, 120, 45, 98, 97, 115, 105, 115], 38, [[97, 117, 116, 111]]),
  ([102, 108, 101, 120, 45, 100, 105, 114, 101, 99, 116, 105, 111, 110], 0, [[99, 111, 108, 117, 109, 110], [114, 111, 119]]),
  ([102, 108, 101, 120, 45, 103, 114, 111, 119], 40, []),
  ([102, 108, 101, 120, 45, 115, 104, 114, 105, 110, 107], 40, []),
  ([102, 108, 101, 120, 45, 119, 114, 97, 112], 0, [[110, 111, 119, 114, 97, 112], [119, 114, 97, 112]]),
  ([102, 111, 110, 116, 45, 115, 105, 122, 101], 38, []),
  ([104, 101, 105, 103, 104, 116], 38, [[97, 117, 116, 111]]),
  ([108, 101, 102, 116], 6, [[97, 117, 116, 111]]),
  ([108, 105, 110, 101, 45, 104, 101, 105, 103, 104, 116], 46, [[110, 111, 114, 109, 97, 108]]),
  ([109, 97, 114, 103, 105, 110, 45, 98, 111, 116, 116, 111, 109], 6, [[97, 117, 116, 111]]),
  ([109, 97, 114, 103, 105, 110, 45, 108, 101, 102, 116], 6, [[97, 117, 116, 111]]),
  ([109, 97, 114, 103, 105, 110, 45, 114, 105, 103, 104, 116], 6, [[97, 117, 116, 111]]),
  ([109, 97, 114, 103, 105, 110, 45, 116, 111, 112], 6, [[97, 117, 116, 111]]),
  ([109, 97, 120, 45, 119, 105, 100, 116, 104], 38, [[110, 111, 110, 101]]),
  ([109, 105, 110, 45, 119, 105, 100, 116, 104], 38, []),
  ([111, 114, 100, 101, 114], 24, []),
  ([111, 118, 101, 114, 102, 108, 111, 119], 0, [[104, 105, 100, 100, 101, 110], [115, 99, 114, 111, 108, 108], [118, 105, 115, 105, 98, 108, 101]]),
  ([112, 97, 100, 100, 105, 110, 103, 45, 98, 111, 116, 116, 111, 109], 38, []),
  ([112, 97, 100, 100, 105, 110, 103, 45, 108, 101, 102, 116], 38, []),
  ([112, 97, 100, 100, 105, 110, 103, 45, 114, 105, 103, 104, 116], 38, []),
  ([112, 97, 100, 100, 105, 110, 103, 45, 116, 111, 112], 38, []),
  ([112, 111, 115, 105, 116, 105, 111, 110], 0, [[97, 98, 115, 111, 108, 117, 116, 101], [114, 101, 108, 97, 116, 105, 118, 101], [115, 116, 97, 116, 105, 99]]),
  ([116, 101, 120, 116, 45, 97, 108, 105, 103, 110], 0, [[99, 101, 110, 116, 101, 114], [108, 101, 102, 116], [114, 105, 103, 104, 116]]),
  ([116, 111, 112], 6, [[97, 117, 116, 111]]),
  ([118, 101, 114, 116, 105, 99, 97, 108, 45, 97, 108, 105, 103, 110], 0, [[98, 111, 116, 116, 111, 109], [109, 105, 100, 100, 108, 101], [116, 111, 112]]),
  ([118, 105, 115, 105, 98, 105, 108, 105, 116, 121], 0, [[104, 105, 100, 100, 101, 110], [118, 105, 115, 105, 98, 108, 101]]),
  ([119, 104, 105, 116, 101, 45, 115, 112, 97, 99, 101], 0, [[110, 111, 114, 109, 97, 108], [110, 111, 119, 114, 97, 112], [112, 114, 101]]),
  ([119, 105, 100, 116, 104], 38, [[97, 117, 116, 111]]),
  ([122, 45, 105, 110, 100, 101, 120], 24, [[97, 117, 116, 111]])]
def globals : List (List UInt8) := [[105, 110, 104, 101, 114, 105, 116], [105, 110, 105, 116, 105, 97, 108]]
/-- The value of a trimmed text in lower case, for a line of the table. -/
def valueT (k : Nat) (ws : List (List UInt8)) (t : List UInt8) : Option Val :=
 if ws.contains t || globals.contains t then some ⟨1, 0, t⟩
 else if k.testBit 0 then (match paint t with | some v => some v | none => measure k t)
 else measure k t
/-- The value of a longhand: none: there is no such property; some none: the text is not valid. -/
def value (p s : List UInt8) : Option (Option Val) :=
 match tab.find? (fun r => r.1 == p) with
 | none => none
 | some r => some (valueT r.2.1 r.2.2 (trim (lower s)))
/-- Comments replaced: the mode 0: text; 1: within a comment; else within a string that ends with this byte. -/
def clean : UInt8 → List UInt8 → List UInt8
 | _, [] => []
 | 0, 47 :: 42 :: t => 32 :: clean 1 t
 | 1, 42 :: 47 :: t => clean 0 t
 | m, c :: t =>
  if m = 1 then clean 1 t
  else c :: clean (if m = 0 then (if c = 34 ∨ c = 39 then c else 0) else if c = m then 0 else m) t
/-- How many bytes stand ahead of the first stop outside of strings and parts; q: the string's end, 0 for none. -/
def scan (stops : List UInt8) : Nat → UInt8 → List UInt8 → Nat
 | _, _, [] => 0
 | d, q, c :: t =>
  if q ≠ 0 then 1 + scan stops d (if c = q then 0 else q) t
  else if d = 0 ∧ c ∈ stops then 0
  else if c = 34 ∨ c = 39 then 1 + scan stops d c t
  else if c = 40 ∨ c = 91 ∨ c = 123 then 1 + scan stops (d + 1) 0 t
  else if c = 41 ∨ c = 93 ∨ c = 125 then 1 + scan stops (d - 1) 0 t
  else 1 + scan stops d 0 t
structure Decl where
 name : List UInt8
 val : Val
 imp : Bool
/-- What stands ahead of the first colon, and behind it; none: there is none. -/
def colon (s : List UInt8) : Option (List UInt8 × List UInt8) := match s.dropWhile (· ≠ 58) with | [] => none | _ :: t => some (s.takeWhile (· ≠ 58), t)
/-- A text's end, where it ends so. -/
def cutEnd (s e : List UInt8) : Option (List UInt8) := if e.isSuffixOf s then some (s.take (s.length - e.length)) else none
/-- The value without its mark, and whether it had it. -/
def important (v : List UInt8) : List UInt8 × Bool :=
 match cutEnd v [105, 109, 112, 111, 114, 116, 97, 110, 116] with
 | none => (v, false)
 | some u => match cutEnd (trim u) [33] with
  | none => (v, false)
  | some x => (trim x, true)
/-- Words between white space. -/
def words (s : List UInt8) : List (List UInt8) := T.flds [] s
/-- Longhands with their values, where all are valid. -/
def each : List (List UInt8 × List UInt8) → Option (List (List UInt8 × Val))
 | [] => some []
 | p :: r => match value p.1 p.2 with
  | some (some v) => (match each r with | some l => some ((p.1, v) :: l) | none => none)
  | _ => none
/-- A part of a shorthand: a valid value that is no word for all properties. -/
def part (name w : List UInt8) : Bool := match value name w with | some (some _) => !globals.contains w | _ => false
def flexNames : List (List UInt8) := [[102, 108, 101, 120, 45, 103, 114, 111, 119], [102, 108, 101, 120, 45, 115, 104, 114, 105, 110, 107], [102, 108, 101, 120, 45, 98, 97, 115, 105, 115]]
/-- One word of the shorthand flex, if it is a part: else the word that stands for it. -/
def flexOne (name other : List UInt8) : List (List UInt8) → List UInt8 × List (List UInt8)
 | [] => (other, [])
 | w :: r => if part name w then (w, r) else (other, w :: r)
/-- The values of the shorthand flex. -/
def flexVals (s : List UInt8) (l : List (List UInt8)) : Option (List (List UInt8)) :=
 if s = [110, 111, 110, 101] then some [[48], [48], [97, 117, 116, 111]]
 else if s = [97, 117, 116, 111] then some [[49], [49], [97, 117, 116, 111]]
 else if globals.contains s then some [s, s, s]
 else match l with
  | [] => none
  | w :: r => if part [102, 108, 101, 120, 45, 103, 114, 111, 119] w then
    (if (flexOne [102, 108, 101, 120, 45, 98, 97, 115, 105, 115] [48, 112, 120] (flexOne [102, 108, 101, 120, 45, 115, 104, 114, 105, 110, 107] [49] r).2).2 = [] then some [w, (flexOne [102, 108, 101, 120, 45, 115, 104, 114, 105, 110, 107] [49] r).1, (flexOne [102, 108, 101, 120, 45, 98, 97, 115, 105, 115] [48, 112, 120] (flexOne [102, 108, 101, 120, 45, 115, 104, 114, 105, 110, 107] [49] r).2).1] else none)
   else none
def sidesOf (name : List UInt8) : Option (List (List UInt8)) :=
 if name = [109, 97, 114, 103, 105, 110] ∨ name = [112, 97, 100, 100, 105, 110, 103] then some [name ++ [45, 116, 111, 112], name ++ [45, 114, 105, 103, 104, 116], name ++ [45, 98, 111, 116, 116, 111, 109], name ++ [45, 108, 101, 102, 116]]
 else if name = [98, 111, 114, 100, 101, 114, 45, 119, 105, 100, 116, 104] then some [[98, 111, 114, 100, 101, 114, 45, 116, 111, 112, 45, 119, 105, 100, 116, 104], [98, 111, 114, 100, 101, 114, 45, 114, 105, 103, 104, 116, 45, 119, 105, 100, 116, 104], [98, 111, 114, 100, 101, 114, 45, 98, 111, 116, 116, 111, 109, 45, 119, 105, 100, 116, 104], [98, 111, 114, 100, 101, 114, 45, 108, 101, 102, 116, 45, 119, 105, 100, 116, 104]]
 else none
def fill : List (List UInt8) → Option (List (List UInt8))
 | [a] => some [a, a, a, a]
 | [a, b] => some [a, b, a, b]
 | [a, b, c] => some [a, b, c, b]
 | [a, b, c, d] => some [a, b, c, d]
 | _ => none
/-- What a property and a value stand for: longhands with values; none if one is not valid. -/
def expand (name s : List UInt8) : Option (List (List UInt8 × Val)) :=
 if name = [102, 108, 101, 120] then (match flexVals s (words s) with | some vs => each (flexNames.zip vs) | none => none)
 else match sidesOf name with
  | none => each [(name, s)]
  | some ns => if globals.contains s then each (ns.map (fun n => (n, s)))
   else if (words s).any globals.contains then none
   else match fill (words s) with | some vs => each (ns.zip vs) | none => none
/-- One declaration. -/
def colonP (s : List UInt8) : List UInt8 × List UInt8 := match colon s with | some p => p | none => (s, [])
def declOf (s : List UInt8) : List Decl :=
 match expand (trim (lower (colonP s).1)) (important (trim (lower (colonP s).2))).1 with
 | some l => l.map fun p => ⟨p.1, p.2, (important (trim (lower (colonP s).2))).2⟩
 | none => []
def declsN : Nat → List UInt8 → List Decl
 | 0, _ => []
 | n + 1, s => if s = [] then [] else declOf (s.take (scan [59] 0 0 s)) ++ declsN n (s.drop (scan [59] 0 0 s + 1))
/-- The declarations of a text without comments. -/
def decls (s : List UInt8) : List Decl := declsN (s.length + 1) s
end S
end Go.Proofs.YtafkeolpadfjfaaGreatDoor
namespace Go.Proofs.YtafkeolpadfjfaaGreatDoor
namespace S
theorem isDig_iff (c : UInt8) : isDig c = true ↔ 48 ≤ c.toNat ∧ c.toNat ≤ 57 := by unfold isDig; simp
theorem foldl_lt : ∀ (l : List UInt8) (acc k : Nat), (∀ c ∈ l, isDig c = true) → acc < 10 ^ k → l.foldl (fun n c => n * 10 + (c.toNat - 48)) acc < 10 ^ (k + l.length)
 | [], acc, k, _, h => by simpa using h
 | c :: r, acc, k, h, ha => by
  have hc := (isDig_iff c).1 (h c (List.mem_cons_self ..))
  rw [List.foldl_cons, List.length_cons, show k + (r.length + 1) = (k + 1) + r.length by omega]
  refine foldl_lt r _ (k + 1) (fun x hx => h x (List.mem_cons_of_mem _ hx)) ?_
  rw [Nat.pow_succ]
  omega
theorem natOf_lt {l : List UInt8} (h : ∀ c ∈ l, isDig c = true) : natOf l < 10 ^ l.length := by
 have := foldl_lt l 0 0 h (by decide)
 simpa [natOf] using this
theorem natOf_snoc (l : List UInt8) (c : UInt8) : natOf (l ++ [c]) = natOf l * 10 + (c.toNat - 48) := by simp [natOf]
theorem tw_all (p : UInt8 → Bool) : ∀ (l : List UInt8), ∀ c ∈ l.takeWhile p, p c = true
 | [], c, h => by cases h
 | a :: r, c, h => by
  by_cases ha : p a = true
  ·rw [List.takeWhile_cons_of_pos ha] at h
   rcases List.mem_cons.1 h with rfl | h
   ·exact ha
   ·exact tw_all p r c h
  ·rw [List.takeWhile_cons_of_neg ha] at h; cases h
theorem tw_dig (s : List UInt8) : ∀ c ∈ s.takeWhile isDig, isDig c = true := tw_all isDig s
theorem drop_tw (p : UInt8 → Bool) : ∀ l : List UInt8, l.drop (l.takeWhile p).length = l.dropWhile p
 | [] => rfl
 | c :: r => by
  by_cases h : p c = true
  ·rw [List.takeWhile_cons_of_pos h, List.dropWhile_cons_of_pos h, List.length_cons, List.drop_succ_cons, drop_tw p r]
  ·rw [List.takeWhile_cons_of_neg h, List.dropWhile_cons_of_neg h]; rfl
theorem tw_le (p : UInt8 → Bool) : ∀ l : List UInt8, (l.takeWhile p).length ≤ l.length
 | [] => Nat.le_refl _
 | c :: r => by
  by_cases h : p c = true
  ·rw [List.takeWhile_cons_of_pos h, List.length_cons, List.length_cons]; have := tw_le p r; omega
  ·rw [List.takeWhile_cons_of_neg h]; exact Nat.zero_le _
theorem take_tw (p : UInt8 → Bool) : ∀ l : List UInt8, l.take (l.takeWhile p).length = l.takeWhile p
 | [] => rfl
 | c :: r => by
  by_cases h : p c = true
  ·rw [List.takeWhile_cons_of_pos h, List.length_cons, List.take_succ_cons, take_tw p r]
  ·rw [List.takeWhile_cons_of_neg h]; rfl
def hexset : List UInt8 := [48, 49, 50, 51, 52, 53, 54, 55, 56, 57, 97, 98, 99, 100, 101, 102]
theorem bounds_pad (f : List UInt8) (h : ∀ c ∈ f, isDig c = true) : ∀ c ∈ (f ++ [48, 48]).take 3, isDig c = true := fun c hc => by
 have := List.mem_of_mem_take hc
 rcases List.mem_append.1 this with hh | hh
 ·exact h c hh
 ·simp at hh; subst hh; decide
theorem pad_len {f : List UInt8} (h : f ≠ []) : ((f ++ [48, 48]).take 3).length = 3 := by
 have : 1 ≤ f.length := List.length_pos_iff.2 h
 rw [List.length_take, List.length_append]
 simp
 omega
/-- The part behind the point, digit by digit. -/
def fsum : Nat → List UInt8 → Nat
 | _, [] => 0
 | u, c :: t => u * (c.toNat - 48) + fsum (u / 10) t
theorem fsum_zero : ∀ t : List UInt8, fsum 0 t = 0
 | [] => rfl
 | c :: t => by unfold fsum; rw [show (0 : Nat) / 10 = 0 from rfl, fsum_zero t]; simp
theorem fsum_eq : ∀ {f : List UInt8}, f ≠ [] → fsum 100 f = natOf ((f ++ [48, 48]).take 3)
 | [], h => absurd rfl h
 | [a], _ => by simp [fsum, natOf]; omega
 | [a, b], _ => by simp [fsum, natOf]; omega
 | a :: b :: c :: t, _ => by
  have e : ((a :: b :: c :: t) ++ [48, 48]).take 3 = [a, b, c] := rfl
  rw [e]
  show 100 * (a.toNat - 48) + (100 / 10 * (b.toNat - 48) + (100 / 10 / 10 * (c.toNat - 48) + fsum (100 / 10 / 10 / 10) t)) = _
  rw [show 100 / 10 / 10 / 10 = 0 from rfl, fsum_zero]
  simp [natOf]
  omega
end S
end Go.Proofs.YtafkeolpadfjfaaGreatDoor
namespace Go.Proofs.YtafkeolpadfjfaaGreatDoor
open Go.RowKit
namespace H
theorem append_bytes (a b : List UInt8) : (⟨a.toArray⟩ : ByteArray) ++ ⟨b.toArray⟩ = ⟨(a ++ b).toArray⟩ := by
 apply ByteArray.ext
 simp [ByteArray.data_append]
theorem bytes_toList (l : List UInt8) : (⟨l.toArray⟩ : ByteArray).data.toList = l := by simp
theorem bytes_size (l : List UInt8) : (⟨l.toArray⟩ : ByteArray).size = l.length := by show l.toArray.size = _; simp
theorem slice_str (R : List UInt8) (a b : Nat) (h : a ≤ b) (hb : b ≤ R.length) : (⟨R.toArray⟩ : ByteArray).extract a b = ⟨((R.drop a).take (b - a)).toArray⟩ := by
 apply ByteArray.ext
 simp [ByteArray.data_extract, List.extract_eq_take_drop]
theorem byte_eq (b : UInt8) (n : Nat) (h : n < 256) : ((b.toNat : Int) == (n : Int)) = (b == UInt8.ofNat n) := by
 rw [Bool.eq_iff_iff]
 simp only [beq_iff_eq]
 constructor
 ·intro e
  have e' : b.toNat = n := by omega
  rw [← e']; simp
 ·intro e; subst e; simp; omega
theorem byte_ne {c : UInt8} {n : Nat} (h : c ≠ UInt8.ofNat n) (hn : n < 256) : ((c.toNat : Int) == (n : Int)) = false := by
 rw [byte_eq c n hn]; simpa using h
theorem byte_is {c : UInt8} {n : Nat} (h : c = UInt8.ofNat n) (hn : n < 256) : ((c.toNat : Int) == (n : Int)) = true := by
 rw [byte_eq c n hn]; simpa using h
theorem ret_bool {a b : Bool} (h : a = b) : Ending.returned (.bool a) = .returned (.bool b) := by rw [h]
theorem ret_int {k : IntKind} {a b : Int} (h : a = b) : Ending.returned (.int k a) = .returned (.int k b) := by rw [h]
theorem lt_drop {s r : List UInt8} {i : Nat} {c : UInt8} (h : s.drop i = c :: r) : i < s.length := by
 rcases Nat.lt_or_ge i s.length with h' | h'
 ·exact h'
 ·rw [List.drop_eq_nil_of_le h'] at h; cases h
theorem at_drop {s r : List UInt8} {i : Nat} {c : UInt8} (h : s.drop i = c :: r) (hi : i < (⟨s.toArray⟩ : ByteArray).size) : (⟨s.toArray⟩ : ByteArray)[i] = c := by
 have hl : i < s.length := by rw [bytes_size] at hi; exact hi
 have h1 : (s.drop i)[0]? = some c := by rw [h]; rfl
 rw [List.getElem?_drop, Nat.add_zero, List.getElem?_eq_getElem hl] at h1
 have h2 : s[i] = c := by simpa using h1
 rw [← h2]; rfl
theorem drop_more {s r : List UInt8} {i : Nat} {c : UInt8} (h : s.drop i = c :: r) : s.drop (i + 1) = r := by
 rw [← List.drop_drop, h]; rfl
theorem drop_cons {s : List UInt8} {i : Nat} (h : i < s.length) : ∃ c r, s.drop i = c :: r := by
 cases hd : s.drop i with
 | nil => have := congrArg List.length hd; rw [List.length_drop] at this; simp at this; omega
 | cons c r => exact ⟨c, r, rfl⟩
theorem getD_drop {s r : List UInt8} {i : Nat} {c : UInt8} (h : s.drop i = c :: r) : s.getD i 0 = c := by
 have h1 : (s.drop i)[0]? = some c := by rw [h]; rfl
 rw [List.getElem?_drop, Nat.add_zero] at h1
 rw [List.getD_eq_getElem?_getD, h1]; rfl
theorem getD_past {s : List UInt8} {i : Nat} (h : s.length ≤ i) : s.getD i 0 = 0 := by
 rw [List.getD_eq_getElem?_getD, List.getElem?_eq_none h]; rfl
theorem drop_past {s : List UInt8} {i : Nat} (h : s.drop i = []) (hi : i ≤ s.length) : i = s.length := by
 have := congrArg List.length h; rw [List.length_drop] at this; simp at this; omega
theorem drop_tw (p : UInt8 → Bool) : ∀ l : List UInt8, l.drop (l.takeWhile p).length = l.dropWhile p
 | [] => rfl
 | c :: r => by
  by_cases h : p c = true
  ·rw [List.takeWhile_cons_of_pos h, List.dropWhile_cons_of_pos h, List.length_cons, List.drop_succ_cons, drop_tw p r]
  ·rw [List.takeWhile_cons_of_neg h, List.dropWhile_cons_of_neg h]; rfl
theorem take_tw (p : UInt8 → Bool) : ∀ l : List UInt8, l.take (l.takeWhile p).length = l.takeWhile p
 | [] => rfl
 | c :: r => by
  by_cases h : p c = true
  ·rw [List.takeWhile_cons_of_pos h, List.length_cons, List.take_succ_cons, take_tw p r]
  ·rw [List.takeWhile_cons_of_neg h]; rfl
theorem tw_le (p : UInt8 → Bool) : ∀ l : List UInt8, (l.takeWhile p).length ≤ l.length
 | [] => Nat.le_refl _
 | c :: r => by
  by_cases h : p c = true
  ·rw [List.takeWhile_cons_of_pos h, List.length_cons, List.length_cons]; have := tw_le p r; omega
  ·rw [List.takeWhile_cons_of_neg h]; exact Nat.zero_le _
/-- The end of the run of bytes with p from a place on. -/
def twEnd (p : UInt8 → Bool) (s : List UInt8) (i : Nat) : Nat := i + ((s.drop i).takeWhile p).length
theorem twEnd_step {p : UInt8 → Bool} {s r : List UInt8} {i : Nat} {c : UInt8} (h : s.drop i = c :: r) (hc : p c = true) : twEnd p s (i + 1) = twEnd p s i := by
 unfold twEnd
 rw [drop_more h, h, List.takeWhile_cons_of_pos hc, List.length_cons]; omega
theorem twEnd_stop {p : UInt8 → Bool} {s r : List UInt8} {i : Nat} {c : UInt8} (h : s.drop i = c :: r) (hc : p c = false) : twEnd p s i = i := by
 unfold twEnd
 rw [h, List.takeWhile_cons_of_neg (by rw [hc]; simp)]; rfl
theorem twEnd_past {p : UInt8 → Bool} {s : List UInt8} {i : Nat} (h : s.length ≤ i) : twEnd p s i = i := by
 unfold twEnd
 rw [List.drop_eq_nil_of_le h]; rfl
theorem twEnd_ge (p : UInt8 → Bool) (s : List UInt8) (i : Nat) : i ≤ twEnd p s i := Nat.le_add_right _ _
theorem twEnd_le {p : UInt8 → Bool} {s : List UInt8} {i : Nat} (h : i ≤ s.length) : twEnd p s i ≤ s.length := by
 have := tw_le p (s.drop i)
 rw [List.length_drop] at this
 unfold twEnd; omega
theorem twEnd_take (p : UInt8 → Bool) (s : List UInt8) (i : Nat) : (s.drop i).take (twEnd p s i - i) = (s.drop i).takeWhile p := by
 unfold twEnd
 rw [Nat.add_sub_cancel_left, take_tw]
theorem twEnd_drop (p : UInt8 → Bool) (s : List UInt8) (i : Nat) : s.drop (twEnd p s i) = (s.drop i).dropWhile p := by
 unfold twEnd
 rw [← List.drop_drop, drop_tw]
theorem cells_of {w : World} {b : Nat} {cs : Array Value} {t : TypeId} (h : w.heap[b]? = some (.cells cs t (0, 0))) : (∀ o, w.cell? ⟨b, o, none⟩ = cs[o]?) ∧ (∀ o, o < cs.size → w.frozen? ⟨b, o, none⟩ = false) := by
 refine ⟨fun o => by simp [World.cell?, h], fun o ho => by simp [World.frozen?, h]⟩
/-- All blocks but one are as they were. -/
structure But (b : Nat) (w w' : World) : Prop where
 os : w'.os = w.os
 tape : w'.tape = w.tape
 output : w'.output = w.output
 size : w.heap.size ≤ w'.heap.size
 block : ∀ k, k < w.heap.size → k ≠ b → w'.heap[k]? = w.heap[k]?
theorem But.refl (b : Nat) (w : World) : But b w w := ⟨rfl, rfl, rfl, Nat.le_refl _, fun _ _ _ => rfl⟩
theorem But.trans {b : Nat} {u v w : World} (h : But b u v) (k : But b v w) : But b u w :=
 ⟨k.os.trans h.os, k.tape.trans h.tape, k.output.trans h.output, Nat.le_trans h.size k.size, fun i hi hn => (k.block i (Nat.lt_of_lt_of_le hi h.size) hn).trans (h.block i hi hn)⟩
theorem But.of {b : Nat} {w w' : World} (h : Below w.heap.size w w') : But b w w' := ⟨h.os, h.tape, h.output, h.size, fun k hk _ => h.block k hk⟩
theorem But.set {b : Nat} (w : World) (o : Nat) (v : Value) : But b w (w.setCell ⟨b, o, none⟩ v) :=
 ⟨rfl, rfl, rfl, by simp [World.setCell], fun k hk hn => Below.heap_setCell _ _ _ _ hn⟩
theorem But.drewN {b : Nat} {w w' : World} (h : But b w w') (n : Nat) : But b w (w'.drewN n) := ⟨h.os, h.tape, h.output, h.size, h.block⟩
theorem But.below {b : Nat} {w w' : World} (h : But b w w') (hb : b < w.heap.size) : Below b w w' :=
 ⟨h.os, h.tape, h.output, h.size, fun k hk => h.block k (Nat.lt_trans hk hb) (Nat.ne_of_lt hk)⟩
theorem belowN {B : Nat} {w w' : World} (h : Below B w w') (n : Nat) : Below B w (w'.drewN n) := ⟨h.os, h.tape, h.output, h.size, h.block⟩
theorem block_set {w : World} {b o : Nat} {cs : Array Value} {t : TypeId} {f : Nat × Nat} {v : Value} (h : w.heap[b]? = some (.cells cs t f)) : (w.setCell ⟨b, o, none⟩ v).heap[b]? = some (.cells (cs.setIfInBounds o v) t f) := by
 have hlt := lt_of_block h
 have h' : w.heap[b] = .cells cs t f := by simpa [Array.getElem?_eq_getElem hlt] using h
 show (w.heap.modify b _)[b]? = _
 rw [Array.getElem?_eq_getElem (by simpa using hlt), Array.getElem_modify_self, h']
 rfl
/-- A callee's contract that only draws, behind draws. -/
theorem quietAdd {P : Program} {f : FuncId} {args : Array Value} {w : World} {n : Nat} {v : Value}
  (h : Calls P f args (w.drewN n) fun e w' => e = .returned v ∧ w.drewN n = w') : Calls P f args (w.drewN n) fun e w'' => e = .returned v ∧ ∃ m, w'' = w.drewN m :=
 h.mono fun _ _ hh => ⟨hh.1, n, hh.2.symm⟩
end H
end Go.Proofs.YtafkeolpadfjfaaGreatDoor
namespace Go.Proofs.YtafkeolpadfjfaaGreatDoor
open Go.RowKit
namespace Y
open H
theorem isDig_no1 {c : UInt8} (h : S.isDig c = false) : c.toNat < 48 ∨ 57 < c.toNat := by
 unfold S.isDig at h
 rw [Bool.and_eq_false_iff] at h
 rcases h with h | h
 ·left; simpa using h
 ·right; simpa using h
set_option maxHeartbeats 2000000 in
set_option maxRecDepth 100000 in
theorem run (s : List UInt8) (w : World) (hs : s.length ≤ 1000000) :
  Calls Tryz.prog 121 #[.string ⟨s.toArray⟩] w fun e w' => e = .returned (.int .i64 ((s.takeWhile S.isDig).length : Nat)) ∧ w = w' := by
 have zs := bytes_size s
 have HN0 : Hid ((s.takeWhile S.isDig).length = 0 + ((s.drop 0).takeWhile S.isDig).length) := Lib.hid (by simp)
 generalize (s.takeWhile S.isDig).length = n at *
 go_enter Tryz.func121, Tryz.ntmps121
 go_wp2_with fail
 go_loopw [3] (fun v3 wr => ∃ k : Nat, v3 = .int .i64 k ∧ k ≤ s.length ∧ Hid (n = k + ((s.drop k).takeWhile S.isDig).length) ∧ Hid (w = wr)) (fun v3 _ => s.length - (intOf v3).toNat)
 case atStart => exact ⟨0, rfl, Nat.zero_le _, HN0, Lib.hid (by first | rfl | trivial)⟩
 case round =>
  obtain ⟨k, rfl, hk, HN, HW⟩ := hrel
  obtain rfl := HW.out
  clear HN0 HW
  by_cases hkl : k < s.length
  ·have hkI : (k : Int) < (s.length : Int) := by omega
   have hk0 : (0 : Int) ≤ (k : Int) := by omega
   obtain ⟨c, r, hd⟩ := drop_cons hkl
   have hix := at_drop hd (by rw [bytes_size]; exact hkl)
   cases hc : S.isDig c with
   | true =>
    obtain ⟨d1, d2⟩ := (S.isDig_iff c).1 hc
    have HN2 : Hid (n = (k + 1) + ((s.drop (k + 1)).takeWhile S.isDig).length) := Lib.hid (by
     have h := HN.out
     rw [hd, List.takeWhile_cons_of_pos hc, List.length_cons] at h
     rw [drop_more hd]; omega)
    have e1 : (48 : Int) ≤ (c.toNat : Int) := by omega
    have e2 : (c.toNat : Int) ≤ 57 := by omega
    have f1 : decide ((48 : Int) ≤ (c.toNat : Int)) = true := decide_eq_true e1
    have f2 : decide ((c.toNat : Int) ≤ 57) = true := decide_eq_true e2
    clear hc hd HN d1 d2
    go_wp2_with fail
    go_roundw
    case rel => exact ⟨k + 1, by go_num, by omega, HN2, Lib.hid trivial⟩
    case measure => simp [intOf]; omega
   | false =>
    have HN2 : Hid (n = k) := Lib.hid (by
     have h := HN.out
     rw [hd, List.takeWhile_cons_of_neg (by rw [hc]; simp)] at h
     simpa using h)
    rcases isDig_no1 hc with h | h
    ·have e1 : ¬ (48 : Int) ≤ (c.toNat : Int) := by omega
     have f1 : decide ((48 : Int) ≤ (c.toNat : Int)) = false := decide_eq_false e1
     clear hc hd HN h
     go_wp2_with fail
     go_ret
     exact ⟨by rw [HN2.out]; rfl, rfl⟩
    ·have e1 : (48 : Int) ≤ (c.toNat : Int) := by omega
     have f1 : decide ((48 : Int) ≤ (c.toNat : Int)) = true := decide_eq_true e1
     have e2 : ¬ (c.toNat : Int) ≤ 57 := by omega
     have f2 : decide ((c.toNat : Int) ≤ 57) = false := decide_eq_false e2
     clear hc hd HN h
     go_wp2_with fail
     go_ret
     exact ⟨by rw [HN2.out]; rfl, rfl⟩
  ·have HN2 : Hid (n = k) := Lib.hid (by
    have h := HN.out
    rw [List.drop_eq_nil_of_le (by omega)] at h
    simpa using h)
   have e1 : ¬ (k : Int) < (s.length : Int) := by omega
   have f1 : decide ((k : Int) < (s.length : Int)) = false := decide_eq_false e1
   clear HN
   go_wp2_with fail
   go_ret
   exact ⟨by rw [HN2.out]; rfl, rfl⟩
def DecPost (s : List UInt8) (w : World) (e : Ending) (w' : World) : Prop :=
 ∃ (n : Int) (r : List UInt8) (ok : Bool), e = .returned (.tuple #[.int .i64 n, .string ⟨r.toArray⟩, .bool ok]) ∧ Below w.heap.size w w' ∧
  Hid (ok = true → S.decimal s = some (n, r) ∧ -1048576000 ≤ n ∧ n ≤ 1048576000) ∧ Hid (ok = false → S.decimal s = none) ∧ r.length ≤ s.length
theorem nat_bound : ∀ (l : List UInt8) (acc : Nat), (∀ c ∈ l, S.isDig c = true) → l.foldl (fun n c => n * 10 + (c.toNat - 48)) acc < (acc + 1) * 10 ^ l.length
 | [], acc, _ => by simp
 | c :: r, acc, h => by
  have hc := (S.isDig_iff _).1 (h c (by simp))
  have ih := nat_bound r (acc * 10 + (c.toNat - 48)) (fun d hd => h d (by simp [hd]))
  rw [List.foldl_cons, List.length_cons, Nat.pow_succ]
  refine Nat.lt_of_lt_of_le ih ?_
  have : acc * 10 + (c.toNat - 48) + 1 ≤ (acc + 1) * 10 := by omega
  calc _ ≤ ((acc + 1) * 10) * 10 ^ r.length := Nat.mul_le_mul_right _ this
   _ = _ := by rw [Nat.mul_assoc, Nat.mul_comm 10]
theorem pu_small : ∀ (l : List UInt8) (acc : Nat), (∀ c ∈ l, S.isDig c = true) → (acc + 1) * 10 ^ l.length ≤ 100000000 → Lib.parseUint10 acc l = .ok (l.foldl (fun n c => n * 10 + (c.toNat - 48)) acc)
 | [], _, _, _ => rfl
 | c :: r, acc, h, hb => by
  have hc := (S.isDig_iff _).1 (h c (by simp))
  rw [List.length_cons, Nat.pow_succ] at hb
  have h1 : acc * 10 + (c.toNat - 48) + 1 ≤ (acc + 1) * 10 := by omega
  have h2 : (acc * 10 + (c.toNat - 48) + 1) * 10 ^ r.length ≤ 100000000 := by
   refine Nat.le_trans (Nat.mul_le_mul_right _ h1) ?_
   rw [Nat.mul_assoc, Nat.mul_comm 10]; exact hb
  have h3 : 0 < 10 ^ r.length := Nat.pow_pos (by omega)
  have h4 : acc * 10 + (c.toNat - 48) + 1 ≤ 100000000 := Nat.le_trans (Nat.le_mul_of_pos_right _ h3) h2
  unfold Lib.parseUint10
  rw [if_pos hc, if_neg (by omega), if_neg (by omega), pu_small r _ (fun d hd => h d (by simp [hd])) h2]
  rfl
theorem atoi7 {l : List UInt8} (h : ∀ c ∈ l, S.isDig c = true) (h1 : 1 ≤ l.length) (h7 : l.length ≤ 7) : Lib.atoiAll l = .ok (S.natOf l : Int) ∧ S.natOf l ≤ 9999999 := by
 have hp : (0 + 1) * 10 ^ l.length ≤ 10000000 := by
  have := Nat.pow_le_pow_right (n := 10) (by omega) h7
  simpa using this
 have hb := nat_bound l 0 h
 have hs := pu_small l 0 h (by omega)
 match l, h1 with
 | c :: r, _ =>
  have hc := (S.isDig_iff _).1 (h c (by simp))
  have hn : S.natOf (c :: r) ≤ 9999999 := by unfold S.natOf; omega
  refine ⟨?_, hn⟩
  rw [Lib.atoiAll_plain c r (by omega) (by omega)]
  have : Lib.parseMag (c :: r) = .ok (S.natOf (c :: r)) := by unfold Lib.parseMag; rw [if_neg (by simp), hs]; rfl
  rw [this]
  show (if _ then _ else _) = _
  rw [if_neg (by omega)]
theorem sign_cases (s : List UInt8) : (s = [] ∧ S.signOf s = (1, [])) ∨ (∃ t, s = 45 :: t ∧ S.signOf s = (-1, t)) ∨ (∃ t, s = 43 :: t ∧ S.signOf s = (1, t)) ∨ (∃ c t, s = c :: t ∧ c ≠ 45 ∧ c ≠ 43 ∧ S.signOf s = (1, c :: t)) := by
 cases s with
 | nil => exact Or.inl ⟨rfl, rfl⟩
 | cons c t =>
  by_cases h1 : c = 45
  ·subst h1; exact Or.inr (Or.inl ⟨t, rfl, rfl⟩)
  ·by_cases h2 : c = 43
   ·subst h2; exact Or.inr (Or.inr (Or.inl ⟨t, rfl, rfl⟩))
   ·refine Or.inr (Or.inr (Or.inr ⟨c, t, rfl, h1, h2, ?_⟩))
    unfold S.signOf
    split
    ·rename_i h; exact absurd (List.cons.inj h).1 h1
    ·rename_i h; exact absurd (List.cons.inj h).1 h2
    ·rfl
end Y
end Go.Proofs.YtafkeolpadfjfaaGreatDoor

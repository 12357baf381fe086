/- Selectors, as the chapter has them; over lists of bytes. No program in sight. What the small functions of package selector, and those of its reader, come to. The reader of selectors: need, named, name. The reader of selectors: name. -/
import Derived.Test.YtafkeolpadfjfaaGreatDoorCases
import Derived.Test.YtafkeolpadfjfaaGreatDoorSty1
set_option linter.unusedVariables false
set_option linter.unusedSimpArgs false
namespace Go.Proofs.YtafkeolpadfjfaaGreatDoor
namespace L
open T (sp low)
def lower (l : List UInt8) : List UInt8 := l.map low
/-- A test without tests of its own; the kinds are the chapter's. -/
structure Tst where
 kind : Nat
 name : List UInt8
 value : List UInt8
 a : Int
 b : Int
/-- A test, and the tests within a 'not'. -/
structure Test where
 t : Tst
 nots : List Tst
structure Part where
 join : Nat
 type : List UInt8
 tests : List Test
def tst (kind : Nat) (name : List UInt8) : Tst := ⟨kind, name, [], 0, 0⟩
def isDig (c : UInt8) : Bool := decide (48 ≤ c.toNat) && decide (c.toNat ≤ 57)
/-- An identifier may begin with such a byte. -/
def first (c : UInt8) : Bool := c == 95 || (decide (128 ≤ c.toNat) || ((decide (97 ≤ c.toNat) && decide (c.toNat ≤ 122)) || (decide (65 ≤ c.toNat) && decide (c.toNat ≤ 90))))
def inName (c : UInt8) : Bool := first c || (isDig c || c == 45)
/-- An identifier is next. -/
def begins : List UInt8 → Bool
 | [] => false
 | c :: r => first c || (c == 45 && (match r with | [] => false | d :: _ => first d))
def space (s : List UInt8) : List UInt8 := s.dropWhile sp
/-- An identifier, and the rest. -/
def ident (s : List UInt8) : Option (List UInt8 × List UInt8) := if begins s then some (s.takeWhile inName, s.dropWhile inName) else none
/-- An identifier or a string, and the rest. -/
def value (s : List UInt8) : Option (List UInt8 × List UInt8) :=
 match s with
 | [] => none
 | q :: t => if q == 34 || q == 39 then (match t.dropWhile (· != q) with
   | [] => none
   | _ :: u => if (10 : UInt8) ∈ t.takeWhile (· != q) then none else some (t.takeWhile (· != q), u))
  else ident s
/-- What has to be next. -/
def need (p s : List UInt8) : Option (List UInt8) := if p.isPrefixOf s then some (s.drop p.length) else none
/-- The sign of a test of an attribute: its kind, and the rest. -/
def op (r : List UInt8) : Option (Nat × List UInt8) :=
 if ([61] : List UInt8).isPrefixOf r then some (4, r.drop 1)
 else if ([126, 61] : List UInt8).isPrefixOf r then some (5, r.drop 2)
 else if ([94, 61] : List UInt8).isPrefixOf r then some (6, r.drop 2)
 else none
/-- What follows the sign: a value. -/
def attrRest (n : List UInt8) (k : Nat) (u : List UInt8) : Option (Tst × List UInt8) :=
 match value (space u) with
 | none => none
 | some (v, x) => match need [93] (space x) with
  | none => none
  | some y => some (⟨k, lower n, v, 0, 0⟩, y)
def attrEnd (n r : List UInt8) : Option (Tst × List UInt8) :=
 match op (space r) with
 | none => (match need [93] (space r) with | none => none | some u => some (⟨3, lower n, [], 0, 0⟩, u))
 | some (k, u) => attrRest n k u
/-- The rest of a test in brackets. -/
def attr (s : List UInt8) : Option (Tst × List UInt8) :=
 match ident (space s) with
 | none => none
 | some (n, r) => attrEnd n r
def natOf (l : List UInt8) : Nat := l.foldl (fun n c => n * 10 + (c.toNat - 48)) 0
/-- One to six digits. -/
def number (s : List UInt8) : Option (Nat × List UInt8) :=
 if (s.takeWhile isDig).length < 1 ∨ 6 < (s.takeWhile isDig).length then none else some (natOf (s.takeWhile isDig), s.dropWhile isDig)
/-- An optional sign: its number, whether there is one, and the rest. -/
def sign : List UInt8 → Int × Bool × List UInt8
 | 43 :: r => (1, true, r)
 | 45 :: r => (-1, true, r)
 | s => (1, false, s)
/-- The sign and the digits behind a step. -/
def offset (s : List UInt8) : Option (Int × List UInt8) :=
 match sign (space s) with
 | (_, false, _) => some (0, s)
 | (g, true, r) => match number (space r) with
  | none => none
  | some (n, u) => some (g * n, u)
/-- The number ahead of the letter: 1 if there is none. -/
def coef : List UInt8 → Option (Nat × Bool × List UInt8)
 | [] => some (1, false, [])
 | c :: t => if isDig c then (match number (c :: t) with | none => none | some (n, r) => some (n, true, r)) else some (1, false, c :: t)
def isN (c : UInt8) : Bool := c == 110 || c == 78
def nthTail (g : Int) (n : Nat) (some_ : Bool) : List UInt8 → Option (Tst × List UInt8)
 | [] => if some_ then some (⟨9, [], [], 0, g * n⟩, []) else none
 | c :: t => if isN c then (match offset t with | none => none | some (b, u) => some (⟨9, [], [], g * n, b⟩, u))
  else if some_ then some (⟨9, [], [], 0, g * n⟩, c :: t) else none
def nthRest (s : List UInt8) : Option (Tst × List UInt8) :=
 match coef (sign s).2.2 with
 | none => none
 | some (n, some_, r) => nthTail (sign s).1 n some_ r
/-- The argument of nth-child. -/
def nth (s : List UInt8) : Option (Tst × List UInt8) :=
 if lower (s.take 3) = [111, 100, 100] then some (⟨9, [], [], 2, 1⟩, s.drop 3)
 else if lower (s.take 4) = [101, 118, 101, 110] then some (⟨9, [], [], 2, 0⟩, s.drop 4)
 else nthRest s
/-- The tests without arguments. -/
def pseudos : List (List UInt8 × Nat) :=
 [([102, 105, 114, 115, 116, 45, 99, 104, 105, 108, 100], 7), ([108, 97, 115, 116, 45, 99, 104, 105, 108, 100], 8), ([101, 109, 112, 116, 121], 10), ([102, 111, 99, 117, 115], 11), ([104, 111, 118, 101, 114], 12), ([99, 104, 101, 99, 107, 101, 100], 13)]
def nthChild : List UInt8 := [110, 116, 104, 45, 99, 104, 105, 108, 100]
def not_ : List UInt8 := [110, 111, 116]
/-- One test of a part, given what reads the argument of a 'not' (none: not allowed); none: no test is next; some none: it is not in the language. -/
def one (np : Option (List UInt8 → Option ((List UInt8 × List Tst) × List UInt8))) : List UInt8 → Option (Option (Test × List UInt8))
 | 35 :: r => some (match ident r with | none => none | some (n, u) => some (⟨tst 1 n, []⟩, u))
 | 46 :: r => some (match ident r with | none => none | some (n, u) => some (⟨tst 2 n, []⟩, u))
 | 91 :: r => some (match attr r with | none => none | some (t, u) => some (⟨t, []⟩, u))
 | 58 :: r => some (match ident r with
  | none => none
  | some (n, u) => match pseudos.find? (fun p => p.1 == lower n) with
   | some p => some (⟨tst p.2 [], []⟩, u)
   | none =>
    if lower n = nthChild then (match need [40] u with
     | none => none
     | some x => match nth (space x) with
      | none => none
      | some (t, y) => match need [41] (space y) with | none => none | some z => some (⟨t, []⟩, z))
    else if lower n = not_ then (match np, need [40] u with
     | some f, some x => (match f (space x) with
      | none => none
      | some ((ty, ts), y) => match need [41] (space y) with | none => none | some z => some (⟨tst 14 ty, ts⟩, z))
     | _, _ => none)
    else none)
 | _ => none
/-- The tests of a part. -/
def tests (np : Option (List UInt8 → Option ((List UInt8 × List Tst) × List UInt8))) : Nat → List UInt8 → Option (List Test × List UInt8)
 | 0, s => some ([], s)
 | n + 1, s => match one np s with
  | none => some ([], s)
  | some none => none
  | some (some (t, r)) => match tests np n r with
   | none => none
   | some (l, u) => some (t :: l, u)
/-- A part: its type, its tests, and the rest. -/
def part (np : Option (List UInt8 → Option ((List UInt8 × List Tst) × List UInt8))) (s : List UInt8) : Option ((List UInt8 × List Test) × List UInt8) :=
 let h : List UInt8 × List UInt8 × Bool := match s with
  | 42 :: r => ([], r, true)
  | _ => match ident s with
   | some (n, r) => (lower n, r, true)
   | none => ([], s, false)
 match tests np (h.2.1.length + 1) h.2.1 with
 | none => none
 | some (l, u) => if h.2.2 || !l.isEmpty then some ((h.1, l), u) else none
/-- A part within a 'not'. -/
def inner (s : List UInt8) : Option ((List UInt8 × List Tst) × List UInt8) := match part none s with | none => none | some ((n, l), u) => some ((n, l.map (·.t)), u)
def outer (s : List UInt8) : Option ((List UInt8 × List Test) × List UInt8) := part (some inner) s
/-- The combinator that is next, and what follows it; some none: none is there, and the selector ends; none: it is not in the language. -/
def join (s : List UInt8) : Option (Option (Nat × List UInt8)) :=
 match space s with
 | [] => some none
 | c :: r => if c == 44 then some none
  else if c == 62 then some (some (2, space r))
  else if c == 43 then some (some (3, space r))
  else if c == 126 then some (some (4, space r))
  else if (space s).length < s.length then some (some (1, space s))
  else none
/-- The parts behind the first. -/
def parts : Nat → List UInt8 → Option (List Part × List UInt8)
 | 0, s => none
 | n + 1, s => match join s with
  | none => none
  | some none => some ([], space s)
  | some (some (j, r)) => match outer r with
   | none => none
   | some ((ty, ts), u) => match parts n u with
    | none => none
    | some (l, x) => some (⟨j, ty, ts⟩ :: l, x)
def selector (s : List UInt8) : Option (List Part × List UInt8) :=
 match outer s with
 | none => none
 | some ((ty, ts), u) => match parts (u.length + 1) u with
  | none => none
  | some (l, x) => some (⟨0, ty, ts⟩ :: l, x)
/-- A list of selectors, to its end. -/
def list : Nat → List UInt8 → Option (List (List Part))
 | 0, _ => none
 | n + 1, s => match selector (space s) with
  | none => none
  | some (x, u) => match space u with
   | [] => some [x]
   | c :: r => if c == 44 then (match list n r with | none => none | some l => some (x :: l)) else none
def parse (s : List UInt8) : Option (List (List Part)) := list (s.length + 1) s
end L
end Go.Proofs.YtafkeolpadfjfaaGreatDoor
namespace Go.Proofs.YtafkeolpadfjfaaGreatDoor
open Go.RowKit
namespace K
open H
set_option maxHeartbeats 400000 in
theorem digit (c : UInt8) (w : World) :
  Calls Tryz.prog 194 #[.int .u8 c.toNat] w fun e w' => e = .returned (.bool (L.isDig c)) ∧ w = w' := by
 have hc := c.toNat_lt
 go_enter Tryz.func194, Tryz.ntmps194
 go_wp2
 all_goals
  go_ret
  refine ⟨ret_bool ?_, rfl⟩
  unfold L.isDig
  rw [Bool.eq_iff_iff]
  simp
  omega
set_option maxHeartbeats 1000000 in
set_option maxRecDepth 100000 in
theorem initial (c : UInt8) (w : World) :
  Calls Tryz.prog 193 #[.int .u8 c.toNat] w fun e w' => e = .returned (.bool (L.first c)) ∧ w = w' := by
 have hc := c.toNat_lt
 have hv : L.first c = decide (c.toNat = 95 ∨ 128 ≤ c.toNat ∨ (97 ≤ c.toNat ∧ c.toNat ≤ 122) ∨ (65 ≤ c.toNat ∧ c.toNat ≤ 90)) := by
  have e1 : (c == 95) = decide (c.toNat = 95) := by
   rw [Bool.eq_iff_iff]; simp [← UInt8.toNat_inj]
  unfold L.first
  rw [e1, Bool.eq_iff_iff]
  simp
 rw [hv]
 clear hv
 go_enter Tryz.func193, Tryz.ntmps193
 go_wp2
 all_goals
  go_ret
  refine ⟨ret_bool ?_, rfl⟩
  rw [Bool.eq_iff_iff]
  simp
  omega
/-- The reader: its text, its place, and whether it has met what is not in the language. -/
def IsRdr (b : Nat) (s : List UInt8) (i : Nat) (bad : Bool) (w : World) : Prop :=
 w.heap[b]? = some (.cells #[.string ⟨s.toArray⟩, .int .i64 i, .bool bad] 137 (0, 0))
theorem IsRdr.below {b : Nat} {s : List UInt8} {i : Nat} {bad : Bool} {w w' : World} (h : IsRdr b s i bad w) (hb : Below w.heap.size w w') : IsRdr b s i bad w' := (hb.block b (lt_of_block h)).trans h
theorem IsRdr.drewN {b : Nat} {s : List UInt8} {i : Nat} {bad : Bool} {w : World} (h : IsRdr b s i bad w) (n : Nat) : IsRdr b s i bad (w.drewN n) := h
theorem IsRdr.place {b : Nat} {s : List UInt8} {i : Nat} {bad : Bool} {w : World} (h : IsRdr b s i bad w) {z : Int} (j : Nat) (hz : z = (j : Int)) : IsRdr b s j bad (w.setCell ⟨b, 1, none⟩ (.int .i64 z)) := by
 subst hz
 exact block_set (o := 1) h
theorem IsRdr.fail {b : Nat} {s : List UInt8} {i : Nat} {bad : Bool} {w : World} (h : IsRdr b s i bad w) : IsRdr b s i true (w.setCell ⟨b, 2, none⟩ (.bool true)) := block_set (o := 2) h
set_option maxHeartbeats 1000000 in
theorem peek (b : Nat) (s : List UInt8) (i : Nat) (bad : Bool) (w : World) (hs : s.length ≤ 1000000) (hi : i ≤ s.length) (hR : IsRdr b s i bad w) :
  Calls Tryz.prog 129 #[.pointer (some ⟨b, 0, none⟩)] w fun e w' => e = .returned (.int .u8 (s.getD i 0).toNat) ∧ ∃ n, w' = w.drewN n := by
 obtain ⟨hc, hf⟩ := cells_of hR
 have c0 : w.cell? ⟨b, 0, none⟩ = some (.string ⟨s.toArray⟩) := hc 0
 have c1 : w.cell? ⟨b, 1, none⟩ = some (.int .i64 i) := hc 1
 clear hc hf hR
 by_cases hl : i < s.length
 ·obtain ⟨c, r, hd⟩ := drop_cons hl
  have hx := at_drop hd (by rw [bytes_size]; exact hl)
  have hl0 : (0 : Int) ≤ (i : Int) := by omega
  have hl1 : (i : Int) < (s.length : Int) := by omega
  rw [getD_drop hd]
  clear hd
  go_enter Tryz.func129, Tryz.ntmps129
  go_wp2_with fail
  go_quiet (fail)
  go_wp2_with fail
  go_quiet (fail)
  go_wp2_with fail
  go_ret
  exact ⟨rfl, _, World.drewN_drewN _ _ _⟩
 ·have hl1 : (s.length : Int) ≤ (i : Int) := by omega
  rw [getD_past (by omega)]
  go_enter Tryz.func129, Tryz.ntmps129
  go_wp2_with fail
  go_quiet (fail)
  go_wp2_with fail
  go_ret
  exact ⟨rfl, _, rfl⟩
def RdPost (b : Nat) (s : List UInt8) (j : Nat) (bad : Bool) (v : Value) (w : World) (e : Ending) (w' : World) : Prop := e = .returned v ∧ IsRdr b s j bad w' ∧ But b w w'
set_option maxHeartbeats 2000000 in
theorem space (b : Nat) (s : List UInt8) (i : Nat) (bad : Bool) (w : World) (hs : s.length ≤ 1000000) (hi : i ≤ s.length) (hR : IsRdr b s i bad w) :
  Calls Tryz.prog 88 #[.pointer (some ⟨b, 0, none⟩)] w (RdPost b s (twEnd T.sp s i) bad (.bool (decide (i < twEnd T.sp s i))) w) := by
 obtain ⟨E, hE⟩ : ∃ E, twEnd T.sp s i = E := ⟨_, rfl⟩
 have HE := Lib.hid hE
 have HR := Lib.hid hR
 obtain ⟨hc, hf⟩ := cells_of hR
 have hlb := lt_of_block hR
 rw [hE]
 clear hE hR
 go_enter Tryz.func88, Tryz.ntmps88
 go_wp2_with fail
 clear hc hf
 go_loopw [] (fun wr => ∃ k : Nat, IsRdr b s k bad wr ∧ But b w wr ∧ i ≤ k ∧ k ≤ s.length ∧ Hid (twEnd T.sp s k = E)) (fun wr => s.length - (match wr.cell? ⟨b, 1, none⟩ with | some (.int _ q) => q.toNat | _ => 0))
 case atStart => exact ⟨i, HR.out, But.refl _ _, Nat.le_refl _, hi, HE⟩
 case round =>
  obtain ⟨k, hr, hb, hk1, hk2, HK⟩ := hrel
  obtain ⟨hc, hf⟩ := cells_of hr
  have hlr := lt_of_block hr
  have HRr := Lib.hid hr
  have c0 : wr.cell? ⟨b, 0, none⟩ = some (.string ⟨s.toArray⟩) := hc 0
  have c1 : wr.cell? ⟨b, 1, none⟩ = some (.int .i64 k) := hc 1
  have f1 : wr.frozen? ⟨b, 1, none⟩ = false := hf 1 (by show 1 < 3; omega)
  have hk0 : (0 : Int) ≤ (k : Int) := by omega
  clear hr HR HE
  by_cases hlt : k < s.length
  ·have hlt1 : (k : Int) < (s.length : Int) := by omega
   obtain ⟨c, r, hd⟩ := drop_cons hlt
   have hix := at_drop hd (by rw [bytes_size]; exact hlt)
   have q : ∀ W, Calls Tryz.prog 49 #[.int .u8 c.toNat] W fun e w' => e = .returned (.bool (T.sp c)) ∧ W = w' := fun W => T.IsSpace c W
   cases hsp : T.sp c with
   | true =>
    rw [hsp] at q
    have Q := Lib.hid q
    have HK' := Lib.hid ((twEnd_step hd hsp).trans HK.out)
    clear q hsp hd HK hc hf
    go_wp2_with fail
    go_quiet ((go_at_call 49; exact quietAdd (Q.out _)))
    go_wp2_with fail
    go_roundw
    case rel => exact ⟨k + 1, (HRr.out.drewN _).place (k + 1) (by omega), (hb.drewN _).trans (But.set _ _ _), by omega, by omega, HK'⟩
    case measure =>
     have h1 := (cells_of ((HRr.out.drewN nq).place (k + 1) (z := (k : Int) + 1) (by omega))).1 1
     have hl := hlt
     rw [h1, c1]
     show s.length - (((k + 1 : Nat) : Int)).toNat < s.length - ((k : Int)).toNat
     omega
   | false =>
    rw [hsp] at q
    have Q := Lib.hid q
    obtain rfl : k = E := (twEnd_stop hd hsp).symm.trans HK.out
    clear q hsp hd HK hc hf
    go_wp2_with fail
    go_quiet ((go_at_call 49; exact quietAdd (Q.out _)))
    go_wp2_with fail
    go_ret
    refine ⟨ret_bool ?_, HRr.out.drewN _, hb.drewN _⟩
    first | (rw [Bool.eq_iff_iff]; simp; done) | (rw [Bool.eq_iff_iff]) | simp
  ·have hge : (s.length : Int) ≤ (k : Int) := by omega
   have hge2 : decide ((k : Int) < (s.length : Int)) = false := decide_eq_false (by omega)
   obtain rfl : k = E := (twEnd_past (by omega)).symm.trans HK.out
   clear HK hc hf
   go_wp2_with fail
   go_quiet (fail)
   go_wp2_with fail
   go_ret
   refine ⟨ret_bool ?_, HRr.out.drewN _, hb.drewN _⟩
   first | (rw [Bool.eq_iff_iff]; simp; done) | (rw [Bool.eq_iff_iff]) | simp
set_option maxHeartbeats 1000000 in
theorem take (b : Nat) (s p : List UInt8) (i : Nat) (w : World) (hs : s.length ≤ 1000000) (hp : p.length ≤ 1000) (hi : i ≤ s.length) (hR : IsRdr b s i false w) :
  Calls Tryz.prog 87 #[.pointer (some ⟨b, 0, none⟩), .string ⟨p.toArray⟩] w (RdPost b s (if p.isPrefixOf (s.drop i) then i + p.length else i) false (.bool (p.isPrefixOf (s.drop i))) w) := by
 have HR := Lib.hid hR
 obtain ⟨hc, hf⟩ := cells_of hR
 have hlb := lt_of_block hR
 have c0 : w.cell? ⟨b, 0, none⟩ = some (.string ⟨s.toArray⟩) := hc 0
 have c1 : w.cell? ⟨b, 1, none⟩ = some (.int .i64 i) := hc 1
 have c2 : w.cell? ⟨b, 2, none⟩ = some (.bool false) := hc 2
 have f1 : w.frozen? ⟨b, 1, none⟩ = false := hf 1 (by show 1 < 3; omega)
 have hi0 : (0 : Int) ≤ (i : Int) := by omega
 have hi1 : (i : Int) ≤ (s.length : Int) := by omega
 have hxs := slice_str s i s.length hi (Nat.le_refl _)
 rw [List.take_of_length_le (by rw [List.length_drop]; omega)] at hxs
 have zs := bytes_size s
 have q : ∀ W, Calls Tryz.prog 66 #[.string ⟨(s.drop i).toArray⟩, .string ⟨p.toArray⟩] W fun e w' => e = .returned (.bool (p.isPrefixOf (s.drop i))) ∧ W = w' := fun W => by
  have h := Tryz.strings_HasPrefix ⟨(s.drop i).toArray⟩ ⟨p.toArray⟩ W
  rw [bytes_toList, bytes_toList] at h
  exact h.mono fun _ _ hh => ⟨hh.1, hh.2.symm⟩
 clear hc hf hR
 generalize s.drop i = d at *
 cases hpr : p.isPrefixOf d with
 | true =>
  rw [hpr] at q
  have Q := Lib.hid q
  clear q hpr
  go_enter Tryz.func87, Tryz.ntmps87
  go_wp2_with fail
  go_quiet ((go_at_call 66; exact quietAdd (Q.out _)))
  go_wp2_with fail
  go_ret
  exact ⟨rfl, (HR.out.drewN _).place (i + p.length) (by omega), ((But.refl _ _).drewN _).trans (But.set _ _ _)⟩
 | false =>
  rw [hpr] at q
  have Q := Lib.hid q
  clear q hpr
  go_enter Tryz.func87, Tryz.ntmps87
  go_wp2_with fail
  go_quiet ((go_at_call 66; exact quietAdd (Q.out _)))
  go_wp2_with fail
  go_ret
  exact ⟨rfl, HR.out.drewN _, (But.refl _ _).drewN _⟩
set_option maxHeartbeats 1000000 in
theorem take_bad (b : Nat) (s p : List UInt8) (i : Nat) (w : World) (hR : IsRdr b s i true w) :
  Calls Tryz.prog 87 #[.pointer (some ⟨b, 0, none⟩), .string ⟨p.toArray⟩] w (RdPost b s i true (.bool false) w) := by
 have HR := Lib.hid hR
 obtain ⟨hc, hf⟩ := cells_of hR
 have hlb := lt_of_block hR
 have c2 : w.cell? ⟨b, 2, none⟩ = some (.bool true) := hc 2
 clear hc hf hR
 go_enter Tryz.func87, Tryz.ntmps87
 go_wp2_with fail
 go_quiet (fail)
 go_wp2_with fail
 go_ret
 exact ⟨rfl, HR.out.drewN _, (But.refl _ _).drewN _⟩
end K
end Go.Proofs.YtafkeolpadfjfaaGreatDoor
namespace Go.Proofs.YtafkeolpadfjfaaGreatDoor
open Go.RowKit
namespace K
open H
def heads : List UInt8 → Bool
 | [] => false
 | d :: _ => L.first d
set_option maxHeartbeats 1000000 in
theorem need (b : Nat) (s p : List UInt8) (i : Nat) (w : World) (hs : s.length ≤ 1000000) (hp : p.length ≤ 1000) (hi : i ≤ s.length) (hR : IsRdr b s i false w) :
  Calls Tryz.prog 195 #[.pointer (some ⟨b, 0, none⟩), .string ⟨p.toArray⟩] w (RdPost b s (if p.isPrefixOf (s.drop i) then i + p.length else i) (!p.isPrefixOf (s.drop i)) (.tuple #[]) w) := by
 have T := take b s p i w hs hp hi hR
 have hlb := lt_of_block hR
 clear hR
 generalize (if p.isPrefixOf (s.drop i) then i + p.length else i) = j at *
 cases hpr : p.isPrefixOf (s.drop i) with
 | true =>
  rw [hpr] at T
  have Q := Lib.hid T
  clear T hpr
  go_enter Tryz.func195, Tryz.ntmps195
  go_wp2_with fail
  refine (Q.out).mono ?_
  rintro en w1 ⟨rfl, hr, hb⟩
  go_wp2_with fail
  first | go_ret | refine bodyPost_ret (results_none rfl _ _ _) rfl ?_
  exact ⟨rfl, hr, hb⟩
 | false =>
  rw [hpr] at T
  have Q := Lib.hid T
  clear T hpr
  go_enter Tryz.func195, Tryz.ntmps195
  go_wp2_with fail
  refine (Q.out).mono ?_
  rintro en w1 ⟨rfl, hr, hb⟩
  obtain ⟨hc, hf⟩ := cells_of hr
  have c2 : w1.cell? ⟨b, 2, none⟩ = some (.bool false) := hc 2
  have f2 : w1.frozen? ⟨b, 2, none⟩ = false := hf 2 (by show 2 < 3; omega)
  have HR := Lib.hid hr
  clear hc hf hr
  go_wp2_with fail
  first | go_ret | refine bodyPost_ret (results_none rfl _ _ _) rfl ?_
  exact ⟨rfl, HR.out.fail, hb.trans (But.set _ _ _)⟩
set_option maxHeartbeats 1000000 in
theorem need_bad (b : Nat) (s p : List UInt8) (i : Nat) (w : World) (hR : IsRdr b s i true w) :
  Calls Tryz.prog 195 #[.pointer (some ⟨b, 0, none⟩), .string ⟨p.toArray⟩] w (RdPost b s i true (.tuple #[]) w) := by
 have Q := Lib.hid (take_bad b s p i w hR)
 have hlb := lt_of_block hR
 clear hR
 go_enter Tryz.func195, Tryz.ntmps195
 go_wp2_with fail
 refine (Q.out).mono ?_
 rintro en w1 ⟨rfl, hr, hb⟩
 obtain ⟨hc, hf⟩ := cells_of hr
 have c2 : w1.cell? ⟨b, 2, none⟩ = some (.bool true) := hc 2
 have f2 : w1.frozen? ⟨b, 2, none⟩ = false := hf 2 (by show 2 < 3; omega)
 have HR := Lib.hid hr
 clear hc hf hr
 go_wp2_with fail
 first | go_ret | refine bodyPost_ret (results_none rfl _ _ _) rfl ?_
 exact ⟨rfl, HR.out.fail, hb.trans (But.set _ _ _)⟩
set_option maxHeartbeats 1000000 in
theorem named (b : Nat) (s : List UInt8) (i : Nat) (bad : Bool) (w : World) (hs : s.length ≤ 1000000) (hi : i ≤ s.length) (hR : IsRdr b s i bad w) :
  Calls Tryz.prog 164 #[.pointer (some ⟨b, 0, none⟩)] w fun e w' => e = .returned (.bool (L.begins (s.drop i))) ∧ ∃ n, w' = w.drewN n := by
 obtain ⟨hc, hf⟩ := cells_of hR
 have c0 : w.cell? ⟨b, 0, none⟩ = some (.string ⟨s.toArray⟩) := hc 0
 have c1 : w.cell? ⟨b, 1, none⟩ = some (.int .i64 i) := hc 1
 have P := peek b s i bad w hs hi hR
 clear hc hf
 by_cases hl : i < s.length
 ·obtain ⟨c, r, hd⟩ := drop_cons hl
  rw [getD_drop hd] at P
  have hd1 := drop_more hd
  have q : ∀ W, Calls Tryz.prog 193 #[.int .u8 c.toNat] W fun e w' => e = .returned (.bool (L.first c)) ∧ W = w' := fun W => initial c W
  have Q := Lib.hid q
  have PP := Lib.hid P
  have Hb : Hid (L.begins (s.drop i) = (L.first c || (c == 45 && heads r))) := Lib.hid (by rw [hd]; rfl)
  have ec := byte_eq c 45 (by decide)
  generalize L.begins (s.drop i) = X at *
  clear q P hR hd
  cases hf1 : L.first c with
  | true =>
   rw [hf1] at Q
   obtain rfl : X = true := by rw [Hb.out, hf1]; rfl
   clear hf1 hd1
   clear Hb
   go_enter Tryz.func164, Tryz.ntmps164
   go_wp2_with fail
   refine (PP.out).mono ?_
   rintro en w1 ⟨rfl, n, hw1⟩
   have d0 : w1.cell? ⟨b, 0, none⟩ = some (.string ⟨s.toArray⟩) := by rw [hw1]; exact c0
   have d1 : w1.cell? ⟨b, 1, none⟩ = some (.int .i64 i) := by rw [hw1]; exact c1
   have HW := Lib.hid hw1
   clear c0 c1 hw1
   go_wp2_with fail
   go_quiet ((go_at_call 193; exact quietAdd (Q.out _)))
   go_wp2_with fail
   go_ret
   exact ⟨rfl, _, by rw [HW.out]; exact World.drewN_drewN _ _ _⟩
  | false =>
   rw [hf1] at Q
   by_cases hcd : c = 45
   ·have hce : (c == 45) = true := by rw [hcd]; rfl
    clear ec
    have ec : ((c.toNat : Int) == 45) = true := byte_is (n := 45) hcd (by decide)
    clear hcd
    by_cases hl2 : i + 1 < s.length
    ·obtain ⟨d, r2, hd2⟩ := drop_cons hl2
     have hx2 := at_drop hd2 (by rw [bytes_size]; exact hl2)
     obtain rfl : X = L.first d := by rw [Hb.out, hf1, hce, ← hd1, hd2]; rfl
     have q2 : ∀ W, Calls Tryz.prog 193 #[.int .u8 d.toNat] W fun e w' => e = .returned (.bool (L.first d)) ∧ W = w' := fun W => initial d W
     have Q2 := Lib.hid q2
     have zs := bytes_size s
     have h0 : (0 : Int) ≤ (i : Int) + 1 := by omega
     have g1 : IntKind.i64.wrap ((i : Int) + 1) = (i : Int) + 1 := IntWalk.i64_in _ (by omega)
     have h1 : (i : Int) + 1 < (s.length : Int) := by omega
     have h2 : decide ((i : Int) + 1 < (s.length : Int)) = true := decide_eq_true h1
     have h3 : ((i : Int) + 1).toNat = i + 1 := by omega
     generalize L.first d = X at *
     clear hf1 hd1 q2 hd2
     clear Hb
     go_enter Tryz.func164, Tryz.ntmps164
     go_wp2_with fail
     refine (PP.out).mono ?_
     rintro en w1 ⟨rfl, n, hw1⟩
     have d0 : w1.cell? ⟨b, 0, none⟩ = some (.string ⟨s.toArray⟩) := by rw [hw1]; exact c0
     have d1 : w1.cell? ⟨b, 1, none⟩ = some (.int .i64 i) := by rw [hw1]; exact c1
     have HW := Lib.hid hw1
     clear c0 c1 hw1
     go_wp2_with fail
     go_quiet (first | (go_at_call_of 193 (Value.int .u8 c.toNat); exact quietAdd (Q.out _)) | (go_at_call_of 193 (Value.int .u8 d.toNat); exact quietAdd (Q2.out _)))
     go_wp2_with fail
     go_ret
     exact ⟨rfl, _, by rw [HW.out]; exact World.drewN_drewN _ _ _⟩
    ·have g1 : IntKind.i64.wrap ((i : Int) + 1) = (i : Int) + 1 := IntWalk.i64_in _ (by omega)
     have h1 : decide ((i : Int) + 1 < (s.length : Int)) = false := decide_eq_false (by omega)
     obtain rfl : X = false := by rw [Hb.out, hf1, hce, ← hd1, List.drop_eq_nil_of_le (by omega)]; rfl
     clear hf1 hd1
     clear Hb
     go_enter Tryz.func164, Tryz.ntmps164
     go_wp2_with fail
     refine (PP.out).mono ?_
     rintro en w1 ⟨rfl, n, hw1⟩
     have d0 : w1.cell? ⟨b, 0, none⟩ = some (.string ⟨s.toArray⟩) := by rw [hw1]; exact c0
     have d1 : w1.cell? ⟨b, 1, none⟩ = some (.int .i64 i) := by rw [hw1]; exact c1
     have HW := Lib.hid hw1
     clear c0 c1 hw1
     go_wp2_with fail
     go_quiet ((go_at_call 193; exact quietAdd (Q.out _)))
     go_wp2_with fail
     go_ret
     exact ⟨rfl, _, by rw [HW.out]; exact World.drewN_drewN _ _ _⟩
   ·have ec2 : ((c.toNat : Int) == 45) = false := byte_ne (n := 45) hcd (by decide)
    obtain rfl : X = false := by rw [Hb.out, hf1, show (c == 45) = false from by simpa using hcd]; rfl
    clear hf1 hd1 ec
    clear Hb
    go_enter Tryz.func164, Tryz.ntmps164
    go_wp2_with fail
    refine (PP.out).mono ?_
    rintro en w1 ⟨rfl, n, hw1⟩
    have d0 : w1.cell? ⟨b, 0, none⟩ = some (.string ⟨s.toArray⟩) := by rw [hw1]; exact c0
    have d1 : w1.cell? ⟨b, 1, none⟩ = some (.int .i64 i) := by rw [hw1]; exact c1
    have HW := Lib.hid hw1
    clear c0 c1 hw1
    go_wp2_with fail
    go_quiet ((go_at_call 193; exact quietAdd (Q.out _)))
    go_wp2_with fail
    go_ret
    exact ⟨rfl, _, by rw [HW.out]; exact World.drewN_drewN _ _ _⟩
 ·rw [getD_past (by omega)] at P
  have q : ∀ W, Calls Tryz.prog 193 #[.int .u8 0] W fun e w' => e = .returned (.bool false) ∧ W = w' := fun W => initial 0 W
  have Q := Lib.hid q
  have PP := Lib.hid P
  have Hb : Hid True := Lib.hid trivial
  rw [List.drop_eq_nil_of_le (by omega)]
  show Calls _ _ _ _ fun e w' => e = .returned (.bool false) ∧ ∃ n, w' = w.drewN n
  clear q P hR
  clear Hb
  go_enter Tryz.func164, Tryz.ntmps164
  go_wp2_with fail
  refine (PP.out).mono ?_
  rintro en w1 ⟨rfl, n, hw1⟩
  have d0 : w1.cell? ⟨b, 0, none⟩ = some (.string ⟨s.toArray⟩) := by rw [hw1]; exact c0
  have d1 : w1.cell? ⟨b, 1, none⟩ = some (.int .i64 i) := by rw [hw1]; exact c1
  have HW := Lib.hid hw1
  clear c0 c1 hw1
  go_wp2_with fail
  go_quiet ((go_at_call 193; exact quietAdd (Q.out _)))
  go_wp2_with fail
  go_ret
  exact ⟨rfl, _, by rw [HW.out]; exact World.drewN_drewN _ _ _⟩
end K
end Go.Proofs.YtafkeolpadfjfaaGreatDoor
namespace Go.Proofs.YtafkeolpadfjfaaGreatDoor
open Go.RowKit
namespace K
open H
/-- A callee's contract that only draws, behind draws; it may draw itself. -/
theorem quietDrew {P : Program} {f : FuncId} {args : Array Value} {w : World} {n : Nat} {v : Value}
  (h : Calls P f args (w.drewN n) fun e w' => e = .returned v ∧ ∃ m, w' = (w.drewN n).drewN m) : Calls P f args (w.drewN n) fun e w'' => e = .returned v ∧ ∃ m, w'' = w.drewN m :=
 h.mono fun _ _ hh => ⟨hh.1, by obtain ⟨m, e⟩ := hh.2; exact ⟨_, e.trans (World.drewN_drewN _ _ _)⟩⟩
set_option maxHeartbeats 1000000 in
theorem name_no (b : Nat) (s : List UInt8) (i : Nat) (w : World) (hs : s.length ≤ 1000000) (hi : i ≤ s.length) (hb : L.begins (s.drop i) = false) (hR : IsRdr b s i false w) :
  Calls Tryz.prog 165 #[.pointer (some ⟨b, 0, none⟩)] w (RdPost b s i true (.string ⟨#[]⟩) w) := by
 have HR := Lib.hid hR
 obtain ⟨hc, hf⟩ := cells_of hR
 have hlb := lt_of_block hR
 have c0 : w.cell? ⟨b, 0, none⟩ = some (.string ⟨s.toArray⟩) := hc 0
 have c1 : w.cell? ⟨b, 1, none⟩ = some (.int .i64 i) := hc 1
 have c2 : w.cell? ⟨b, 2, none⟩ = some (.bool false) := hc 2
 have f2 : w.frozen? ⟨b, 2, none⟩ = false := hf 2 (by show 2 < 3; omega)
 have q : Calls Tryz.prog 164 #[.pointer (some ⟨b, 0, none⟩)] w fun e w' => e = .returned (.bool false) ∧ ∃ m, w' = w.drewN m := by
  have h := named b s i false w hs hi hR
  rw [hb] at h
  exact h
 have Q := Lib.hid q
 clear hc hf hR q hb
 go_enter Tryz.func165, Tryz.ntmps165
 go_wp2_with fail
 refine (Q.out).mono ?_
 rintro en w1 ⟨rfl, n, hw1⟩
 have hw2 := hw1
 have d0 : w1.cell? ⟨b, 0, none⟩ = some (.string ⟨s.toArray⟩) := by rw [hw2]; exact c0
 have d1 : w1.cell? ⟨b, 1, none⟩ = some (.int .i64 i) := by rw [hw2]; exact c1
 have d2 : w1.cell? ⟨b, 2, none⟩ = some (.bool false) := by rw [hw2]; exact c2
 have g2 : w1.frozen? ⟨b, 2, none⟩ = false := by rw [hw2]; exact f2
 have HR1 : IsRdr b s i false w1 := by rw [hw2]; exact HR.out.drewN _
 have HB1 : But b w w1 := by rw [hw2]; exact (But.refl _ _).drewN _
 have HR1 := Lib.hid HR1
 have HB1 := Lib.hid HB1
 have hlb1 := lt_of_block HR1.out
 clear c0 c1 c2 f2 hw1 hw2
 go_wp2_with fail
 go_ret
 exact ⟨rfl, HR1.out.fail, HB1.out.trans (But.set _ _ _)⟩
set_option maxHeartbeats 2000000 in
theorem name (b : Nat) (s : List UInt8) (i : Nat) (w : World) (hs : s.length ≤ 1000000) (hi : i ≤ s.length) (hb : L.begins (s.drop i) = true) (hR : IsRdr b s i false w) :
  Calls Tryz.prog 165 #[.pointer (some ⟨b, 0, none⟩)] w (RdPost b s (twEnd L.inName s i) false (.string ⟨((s.drop i).takeWhile L.inName).toArray⟩) w) := by
 obtain ⟨E, hE⟩ : ∃ E, twEnd L.inName s i = E := ⟨_, rfl⟩
 have hv : (s.drop i).takeWhile L.inName = (s.drop i).take (E - i) := by rw [← hE, twEnd_take]
 have hEl : E ≤ s.length := by rw [← hE]; exact twEnd_le hi
 have hEi : i ≤ E := by rw [← hE]; exact twEnd_ge _ _ _
 have hxs := slice_str s i E hEi hEl
 rw [hv, hE, ← hxs]
 clear hv hxs
 have HE := Lib.hid hE
 have HR := Lib.hid hR
 obtain ⟨hc, hf⟩ := cells_of hR
 have hlb := lt_of_block hR
 have c0 : w.cell? ⟨b, 0, none⟩ = some (.string ⟨s.toArray⟩) := hc 0
 have c1 : w.cell? ⟨b, 1, none⟩ = some (.int .i64 i) := hc 1
 have c2 : w.cell? ⟨b, 2, none⟩ = some (.bool false) := hc 2
 have f2 : w.frozen? ⟨b, 2, none⟩ = false := hf 2 (by show 2 < 3; omega)
 have q : Calls Tryz.prog 164 #[.pointer (some ⟨b, 0, none⟩)] w fun e w' => e = .returned (.bool true) ∧ ∃ m, w' = w.drewN m := by
  have h := named b s i false w hs hi hR
  rw [hb] at h
  exact h
 have Q := Lib.hid q
 clear hc hf hR q hb hE
 go_enter Tryz.func165, Tryz.ntmps165
 go_wp2_with fail
 refine (Q.out).mono ?_
 rintro en w1 ⟨rfl, n, hw1⟩
 have hw2 := hw1
 have d0 : w1.cell? ⟨b, 0, none⟩ = some (.string ⟨s.toArray⟩) := by rw [hw2]; exact c0
 have d1 : w1.cell? ⟨b, 1, none⟩ = some (.int .i64 i) := by rw [hw2]; exact c1
 have d2 : w1.cell? ⟨b, 2, none⟩ = some (.bool false) := by rw [hw2]; exact c2
 have g2 : w1.frozen? ⟨b, 2, none⟩ = false := by rw [hw2]; exact f2
 have HR1 : IsRdr b s i false w1 := by rw [hw2]; exact HR.out.drewN _
 have HB1 : But b w w1 := by rw [hw2]; exact (But.refl _ _).drewN _
 have HR1 := Lib.hid HR1
 have HB1 := Lib.hid HB1
 have hlb1 := lt_of_block HR1.out
 clear c0 c1 c2 f2 hw1 hw2
 go_wp2_with fail
 go_loopw [] (fun wr => ∃ k : Nat, IsRdr b s k false wr ∧ But b w wr ∧ i ≤ k ∧ k ≤ s.length ∧ Hid (twEnd L.inName s k = E)) (fun wr => s.length - (match wr.cell? ⟨b, 1, none⟩ with | some (.int _ q) => q.toNat | _ => 0))
 case atStart => exact ⟨i, HR1.out, HB1.out, Nat.le_refl _, hi, HE⟩
 case round =>
  obtain ⟨k, hr, hb, hk1, hk2, HK⟩ := hrel
  obtain ⟨hc, hf⟩ := cells_of hr
  have hlr := lt_of_block hr
  have HRr := Lib.hid hr
  have c0 : wr.cell? ⟨b, 0, none⟩ = some (.string ⟨s.toArray⟩) := hc 0
  have c1 : wr.cell? ⟨b, 1, none⟩ = some (.int .i64 k) := hc 1
  have f1 : wr.frozen? ⟨b, 1, none⟩ = false := hf 1 (by show 1 < 3; omega)
  have hk0 : (0 : Int) ≤ (k : Int) := by omega
  have hi0 : (0 : Int) ≤ (i : Int) := by omega
  have hik : (i : Int) ≤ (k : Int) := by omega
  have hks : (k : Int) ≤ (s.length : Int) := by omega
  have zs := bytes_size s
  clear hr HR HE d0 d1 d2 g2 HR1 HB1
  by_cases hlt : k < s.length
  ·have hlt1 : (k : Int) < (s.length : Int) := by omega
   obtain ⟨c, r, hd⟩ := drop_cons hlt
   have hix := at_drop hd (by rw [bytes_size]; exact hlt)
   have Q1 : Hid (∀ W, Calls Tryz.prog 193 #[.int .u8 c.toNat] W fun e w' => e = .returned (.bool (L.first c)) ∧ W = w') := Lib.hid (fun W => initial c W)
   have Q2 : Hid (∀ W, Calls Tryz.prog 194 #[.int .u8 c.toNat] W fun e w' => e = .returned (.bool (L.isDig c)) ∧ W = w') := Lib.hid (fun W => digit c W)
   have HN : Hid (L.inName c = (L.first c || (L.isDig c || c == 45))) := Lib.hid rfl
   have ec := byte_eq c 45 (by decide)
   rw [show UInt8.ofNat 45 = 45 from rfl] at ec
   cases hf1 : L.first c with
   | true =>
    rw [hf1] at Q1
    have hin : L.inName c = true := by rw [HN.out, hf1]; rfl
    clear hf1
    have HK' := Lib.hid ((twEnd_step hd hin).trans HK.out)
    clear hin hd HK hc hf HN
    go_wp2_with fail
    go_quiet (first | (go_at_call 193; exact quietAdd (Q1.out _)) | (go_at_call 194; exact quietAdd (Q2.out _)))
    go_wp2_with fail
    go_roundw
    case rel => exact ⟨k + 1, (HRr.out.drewN _).place (k + 1) (by omega), (hb.drewN _).trans (But.set _ _ _), by omega, by omega, HK'⟩
    case measure =>
     have hl := hlt
     have h1 := (cells_of ((HRr.out.drewN nq).place (k + 1) (z := (k : Int) + 1) (by omega))).1 1
     rw [h1, c1]
     show s.length - (((k + 1 : Nat) : Int)).toNat < s.length - ((k : Int)).toNat
     omega
   | false =>
    rw [hf1] at Q1
    cases hf2 : L.isDig c with
    | true =>
     rw [hf2] at Q2
     have hin : L.inName c = true := by rw [HN.out, hf1, hf2]; rfl
     clear hf1 hf2
     have HK' := Lib.hid ((twEnd_step hd hin).trans HK.out)
     clear hin hd HK hc hf HN
     go_wp2_with fail
     go_quiet (first | (go_at_call 193; exact quietAdd (Q1.out _)) | (go_at_call 194; exact quietAdd (Q2.out _)))
     go_wp2_with fail
     go_roundw
     case rel => exact ⟨k + 1, (HRr.out.drewN _).place (k + 1) (by omega), (hb.drewN _).trans (But.set _ _ _), by omega, by omega, HK'⟩
     case measure =>
      have hl := hlt
      have h1 := (cells_of ((HRr.out.drewN nq).place (k + 1) (z := (k : Int) + 1) (by omega))).1 1
      rw [h1, c1]
      show s.length - (((k + 1 : Nat) : Int)).toNat < s.length - ((k : Int)).toNat
      omega
    | false =>
     rw [hf2] at Q2
     cases hf3 : (c == 45) with
     | true =>
      rw [hf3] at ec
      have hin : L.inName c = true := by rw [HN.out, hf1, hf2, hf3]; rfl
      clear hf1 hf2 hf3
      have HK' := Lib.hid ((twEnd_step hd hin).trans HK.out)
      clear hin hd HK hc hf HN
      go_wp2_with fail
      go_quiet (first | (go_at_call 193; exact quietAdd (Q1.out _)) | (go_at_call 194; exact quietAdd (Q2.out _)))
      go_wp2_with fail
      go_roundw
      case rel => exact ⟨k + 1, (HRr.out.drewN _).place (k + 1) (by omega), (hb.drewN _).trans (But.set _ _ _), by omega, by omega, HK'⟩
      case measure =>
       have hl := hlt
       have h1 := (cells_of ((HRr.out.drewN nq).place (k + 1) (z := (k : Int) + 1) (by omega))).1 1
       rw [h1, c1]
       show s.length - (((k + 1 : Nat) : Int)).toNat < s.length - ((k : Int)).toNat
       omega
     | false =>
      rw [hf3] at ec
      have hin : L.inName c = false := by rw [HN.out, hf1, hf2, hf3]; rfl
      clear hf1 hf2 hf3
      obtain rfl : k = E := (twEnd_stop hd hin).symm.trans HK.out
      clear hin hd HK hc hf HN
      go_wp2_with fail
      go_quiet (first | (go_at_call 193; exact quietAdd (Q1.out _)) | (go_at_call 194; exact quietAdd (Q2.out _)))
      go_wp2_with fail
      go_quiet (fail)
      go_wp2_with fail
      go_ret
      exact ⟨rfl, (HRr.out.drewN _).drewN _, (hb.drewN _).drewN _⟩
  ·have hge : (s.length : Int) ≤ (k : Int) := by omega
   have hge2 : decide ((k : Int) < (s.length : Int)) = false := decide_eq_false (by omega)
   obtain rfl : k = E := (twEnd_past (by omega)).symm.trans HK.out
   clear HK hc hf
   go_wp2_with fail
   go_quiet (fail)
   go_wp2_with fail
   go_quiet (fail)
   go_wp2_with fail
   go_ret
   exact ⟨rfl, (HRr.out.drewN _).drewN _, (hb.drewN _).drewN _⟩
end K
end Go.Proofs.YtafkeolpadfjfaaGreatDoor

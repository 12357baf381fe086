/- The text of selectors, and their specificity, as the chapter has them; over lists of bytes. No program in sight. -/
import Derived.Test.YtnmcgmbhkmfiaaaDoorSelSpec
import Derived.Lib.ItoaMem
set_option linter.unusedVariables false
namespace Go.Proofs.YtnmcgmbhkmfiaaaDoor
namespace L

def quoted (v : List UInt8) : List UInt8 := if (34 : UInt8) ∈ v then 39 :: (v ++ [39]) else 34 :: (v ++ [34])

/-- The number ahead of the letter. -/
def ahead (a : Int) : List UInt8 := if a = 1 then [] else if a = -1 then [45] else Lib.itoa a
/-- What follows the letter. -/
def behind (b : Int) : List UInt8 := (if 0 < b then [43] else []) ++ (if b = 0 then [] else Lib.itoa b)
def stepOf (a b : Int) : List UInt8 := if a = 0 then Lib.itoa b else ahead a ++ (110 :: behind b)

def ofKind (k : Nat) : List UInt8 := match pseudos.find? (fun p => p.2 == k) with | some p => 58 :: p.1 | none => []

/-- A part, given the texts of its tests. -/
def fpart (ty : List UInt8) (fs : List (List UInt8)) : List UInt8 := if ty = [] ∧ fs = [] then [42] else ty ++ fs.flatten
def nthHead : List UInt8 := [58, 110, 116, 104, 45, 99, 104, 105, 108, 100, 40]
def notHead : List UInt8 := [58, 110, 111, 116, 40]

/-- A test, given the texts of the tests within. -/
def ftest (t : Tst) (fs : List (List UInt8)) : List UInt8 :=
  if t.kind = 1 then 35 :: t.name
  else if t.kind = 2 then 46 :: t.name
  else if t.kind = 3 then 91 :: (t.name ++ [93])
  else if t.kind = 4 then 91 :: (t.name ++ (61 :: (quoted t.value ++ [93])))
  else if t.kind = 5 then 91 :: (t.name ++ (126 :: 61 :: (quoted t.value ++ [93])))
  else if t.kind = 6 then 91 :: (t.name ++ (94 :: 61 :: (quoted t.value ++ [93])))
  else if t.kind = 9 then nthHead ++ (stepOf t.a t.b ++ [41])
  else if t.kind = 14 then notHead ++ (fpart t.name fs ++ [41])
  else ofKind t.kind

def ftst (t : Tst) : List UInt8 := ftest t []
def fTest (t : Test) : List UInt8 := ftest t.t (t.nots.map ftst)
def fTests (ty : List UInt8) (l : List Test) : List UInt8 := fpart ty (l.map fTest)
def fPart (p : Part) : List UInt8 := fTests p.type p.tests
def fjoin (j : Nat) : List UInt8 := if j = 1 then [32] else if j = 2 then [32, 62, 32] else if j = 3 then [32, 43, 32] else if j = 4 then [32, 126, 32] else []
def fSel (ps : List Part) : List UInt8 := ps.flatMap fun p => fjoin p.join ++ fPart p
def fList : List (List Part) → List UInt8
  | [] => []
  | [x] => fSel x
  | x :: y :: r => fSel x ++ (44 :: 32 :: fList (y :: r))

/-- Specificities. -/
def Wt := Nat × Nat × Nat
def wty (s : Wt) (ty : List UInt8) : Wt := if ty = [] then s else (s.1, s.2.1, s.2.2 + 1)
/-- One test, given what adds the tests within. -/
def wtest (s : Wt) (t : Tst) (f : Wt → Wt) : Wt := if t.kind = 1 then (s.1 + 1, s.2.1, s.2.2) else if t.kind = 14 then f (wty s t.name) else (s.1, s.2.1 + 1, s.2.2)
def wtst (s : Wt) (t : Tst) : Wt := wtest s t id
def wTest (s : Wt) (t : Test) : Wt := wtest s t.t (fun u => t.nots.foldl wtst u)
def wTests (s : Wt) (ty : List UInt8) (l : List Test) : Wt := l.foldl wTest (wty s ty)
def wSel (ps : List Part) : Wt := ps.foldl (fun s p => wTests s p.type p.tests) (0, 0, 0)

end L
end Go.Proofs.YtnmcgmbhkmfiaaaDoor

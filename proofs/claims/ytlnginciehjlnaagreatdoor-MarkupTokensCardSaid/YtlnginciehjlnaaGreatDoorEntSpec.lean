/- Character references: what they are, by the three rules; over lists of bytes. No program in sight. -/
import Derived.WalkKit
namespace Go.Proofs.YtlnginciehjlnaaGreatDoor
namespace E

/-- The names in ascending order, with their characters. -/
def tab : List (List UInt8 × List UInt8) :=
  [([97, 109, 112], [38]),
   ([97, 112, 111, 115], [39]),
   ([98, 117, 108, 108], [226, 128, 162]),
   ([99, 101, 110, 116], [194, 162]),
   ([99, 111, 112, 121], [194, 169]),
   ([100, 101, 103], [194, 176]),
   ([100, 105, 118, 105, 100, 101], [195, 183]),
   ([101, 117, 114, 111], [226, 130, 172]),
   ([103, 116], [62]),
   ([104, 101, 108, 108, 105, 112], [226, 128, 166]),
   ([108, 97, 114, 114], [226, 134, 144]),
   ([108, 100, 113, 117, 111], [226, 128, 156]),
   ([108, 115, 113, 117, 111], [226, 128, 152]),
   ([108, 116], [60]),
   ([109, 100, 97, 115, 104], [226, 128, 148]),
   ([109, 105, 100, 100, 111, 116], [194, 183]),
   ([110, 98, 115, 112], [194, 160]),
   ([110, 100, 97, 115, 104], [226, 128, 147]),
   ([112, 97, 114, 97], [194, 182]),
   ([112, 108, 117, 115, 109, 110], [194, 177]),
   ([112, 111, 117, 110, 100], [194, 163]),
   ([113, 117, 111, 116], [34]),
   ([114, 97, 114, 114], [226, 134, 146]),
   ([114, 100, 113, 117, 111], [226, 128, 157]),
   ([114, 101, 103], [194, 174]),
   ([114, 115, 113, 117, 111], [226, 128, 153]),
   ([115, 101, 99, 116], [194, 167]),
   ([116, 105, 109, 101, 115], [195, 151]),
   ([116, 114, 97, 100, 101], [226, 132, 162]),
   ([121, 101, 110], [194, 165])]

/-- The value of a digit, -1 if it is none. -/
def dig (base : Nat) (c : UInt8) : Int :=
  let n : Int := if 48 ≤ c.toNat ∧ c.toNat ≤ 57 then (c.toNat : Int) - 48 else if 97 ≤ c.toNat ∧ c.toNat ≤ 102 then (c.toNat : Int) - 87 else if 65 ≤ c.toNat ∧ c.toNat ≤ 70 then (c.toNat : Int) - 55 else -1
  if (base : Int) ≤ n then -1 else n
def isDig (base : Nat) (c : UInt8) : Bool := decide (0 ≤ dig base c)

/-- The value of digits, limited. -/
def valFrom (base : Nat) : Nat → List UInt8 → Nat
  | v, [] => v
  | v, c :: r => valFrom base (min (v * base + (dig base c).toNat) 1114112) r

/-- The character with a number. -/
def number (n : Nat) : List UInt8 :=
  if n < 1 ∨ 1114111 < n ∨ (55296 ≤ n ∧ n ≤ 57343) then [239, 191, 189]
  else if n < 128 then [UInt8.ofNat n]
  else if n < 2048 then [UInt8.ofNat (192 + n / 64), UInt8.ofNat (128 + n % 64)]
  else if n < 65536 then [UInt8.ofNat (224 + n / 4096), UInt8.ofNat (128 + n / 64 % 64), UInt8.ofNat (128 + n % 64)]
  else [UInt8.ofNat (240 + n / 262144), UInt8.ofNat (128 + n / 4096 % 64), UInt8.ofNat (128 + n / 64 % 64), UInt8.ofNat (128 + n % 64)]

/-- Does a semicolon follow? -/
def semi : List UInt8 → Bool
  | 59 :: _ => true
  | _ => false

/-- A reference by a number: the digits begin at a place. -/
def numeric (s : List UInt8) (at_ base : Nat) : List UInt8 × Nat :=
  let d := (s.drop at_).takeWhile (isDig base)
  if d = [] then ([], 0)
  else (number (valFrom base 0 d), at_ + d.length + (if semi (s.drop (at_ + d.length)) then 1 else 0))

/-- Does a name go on with a byte? -/
def goes (c : UInt8) : Bool := c == 61 || (decide (48 ≤ c.toNat) && decide (c.toNat ≤ 57)) || (decide (97 ≤ c.toNat) && decide (c.toNat ≤ 122)) || (decide (65 ≤ c.toNat) && decide (c.toNat ≤ 90))
/-- A name may end here. -/
def ends : List UInt8 → Bool
  | [] => true
  | c :: _ => !goes c

/-- The names that need no semicolon. -/
def shorts : List (List UInt8 × List UInt8) := [([97, 109, 112], [38]), ([108, 116], [60]), ([103, 116], [62]), ([113, 117, 111, 116], [34])]

def short (s : List UInt8) : List (List UInt8 × List UInt8) → List UInt8 × Nat
  | [] => ([], 0)
  | p :: r => if (38 :: p.1).isPrefixOf s && ends (s.drop (p.1.length + 1)) then (p.2, p.1.length + 1) else short s r

/-- The name with its semicolon that stands behind the first byte. -/
def named (s : List UInt8) : Option (List UInt8 × List UInt8) := tab.find? fun p => (p.1 ++ [59]).isPrefixOf (s.drop 1)

/-- The character of the reference at the head, and its length; none: 0. -/
def next (s : List UInt8) : List UInt8 × Nat :=
  if [38, 35, 120].isPrefixOf s || [38, 35, 88].isPrefixOf s then numeric s 3 16
  else if [38, 35].isPrefixOf s then numeric s 2 10
  else if [38].isPrefixOf s then (match named s with | some p => (p.2, p.1.length + 2) | none => short s shorts)
  else ([], 0)

/-- All references replaced. -/
def dec : Nat → List UInt8 → List UInt8
  | 0, _ => []
  | _ + 1, [] => []
  | n + 1, c :: r => if (next (c :: r)).2 = 0 then c :: dec n r else (next (c :: r)).1 ++ dec n ((c :: r).drop (next (c :: r)).2)
def decode (s : List UInt8) : List UInt8 := dec s.length s

theorem dec_more : ∀ (n m : Nat) (l : List UInt8), l.length ≤ n → l.length ≤ m → dec n l = dec m l
  | 0, 0, _, _, _ => rfl
  | 0, m + 1, l, h, _ => by
    have : l = [] := List.eq_nil_of_length_eq_zero (by omega)
    subst this; rfl
  | n + 1, 0, l, _, h => by
    have : l = [] := List.eq_nil_of_length_eq_zero (by omega)
    subst this; rfl
  | n + 1, m + 1, [], _, _ => rfl
  | n + 1, m + 1, c :: r, h1, h2 => by
    simp only [List.length_cons] at h1 h2
    unfold dec
    split
    · rw [dec_more n m r (by omega) (by omega)]
    · rw [dec_more n m _ (by simp only [List.length_drop, List.length_cons]; omega) (by simp only [List.length_drop, List.length_cons]; omega)]

theorem decode_nil : decode [] = [] := rfl
theorem decode_skip (c : UInt8) (r : List UInt8) (h : (next (c :: r)).2 = 0) : decode (c :: r) = c :: decode r := by
  unfold decode
  rw [List.length_cons]
  conv => lhs; unfold dec
  rw [if_pos h]
theorem decode_ref (s : List UInt8) (h : (next s).2 ≠ 0) (hs : s ≠ []) : decode s = (next s).1 ++ decode (s.drop (next s).2) := by
  cases s with
  | nil => exact absurd rfl hs
  | cons c r =>
    unfold decode
    rw [List.length_cons]
    conv => lhs; unfold dec
    rw [if_neg h, dec_more r.length _ _ (by simp only [List.length_drop, List.length_cons]; omega) (Nat.le_refl _)]

/-- What does not begin with an ampersand is no reference. -/
theorem next_no (c : UInt8) (r : List UInt8) (h : c ≠ 38) : next (c :: r) = ([], 0) := by
  have e : (38 == c) = false := by simpa using fun e => h e.symm
  simp [next, List.isPrefixOf, e]

theorem decode_no (c : UInt8) (r : List UInt8) (h : c ≠ 38) : decode (c :: r) = c :: decode r := decode_skip c r (by rw [next_no c r h])

theorem decode_pre : ∀ (a r : List UInt8), 38 ∉ a → decode (a ++ r) = a ++ decode r
  | [], r, _ => rfl
  | c :: a, r, h => by
    have hc : c ≠ 38 := fun e => h (by simp [e])
    have ha : 38 ∉ a := fun e => h (by simp [e])
    rw [List.cons_append, decode_no c _ hc, decode_pre a r ha]; rfl

end E
end Go.Proofs.YtlnginciehjlnaaGreatDoor

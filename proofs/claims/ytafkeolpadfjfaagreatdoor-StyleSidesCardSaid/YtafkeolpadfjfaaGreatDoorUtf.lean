/- Plain facts on UTF-8 over lists of bytes: the valid sequence at a list's head, the code points of the repaired form, and the model's own decoding as these. No program in sight. -/
import Derived.WalkKit
import Derived.Lib.RuneBytes
import Derived.Lib.RuneCount
namespace Go.Proofs.YtafkeolpadfjfaaGreatDoor
namespace U

/-- The byte at a place lies in a range. -/
def rng (l : List UInt8) (i lo hi : Nat) : Bool := decide (i < l.length ∧ lo ≤ (l.getD i 0).toNat ∧ (l.getD i 0).toNat ≤ hi)

/-- May the second byte follow the first, of three or four? -/
def second (l : List UInt8) : Bool :=
  if (l.getD 0 0).toNat = 224 then rng l 1 160 191
  else if (l.getD 0 0).toNat = 237 then rng l 1 128 159
  else if (l.getD 0 0).toNat = 240 then rng l 1 144 191
  else if (l.getD 0 0).toNat = 244 then rng l 1 128 143
  else rng l 1 128 191

/-- The number of bytes of the valid sequence at the head; 0 if there is none. -/
def sz (l : List UInt8) : Nat :=
  if rng l 0 0 127 then 1
  else if rng l 0 194 223 && rng l 1 128 191 then 2
  else if rng l 0 224 239 && (second l && rng l 2 128 191) then 3
  else if rng l 0 240 244 && (second l && (rng l 2 128 191 && rng l 3 128 191)) then 4
  else 0

theorem sz_le4 (l : List UInt8) : sz l ≤ 4 := by
  unfold sz
  repeat' split
  all_goals omega

theorem sz_le (l : List UInt8) : sz l ≤ l.length := by
  unfold sz
  repeat' split
  all_goals simp_all [rng]
  all_goals omega

theorem sz_nil : sz [] = 0 := by simp [sz, rng]

/-- How far the reading goes on. -/
def adv (l : List UInt8) : Nat := if sz l = 0 then 1 else sz l
/-- What stands for it in the repaired form. -/
def chunk (l : List UInt8) : List UInt8 := if sz l = 0 then [239, 191, 189] else l.take (sz l)

theorem adv_pos (l : List UInt8) : 1 ≤ adv l := by unfold adv; split <;> omega
theorem adv_le (l : List UInt8) (h : l ≠ []) : adv l ≤ l.length := by
  have := sz_le l
  have : 0 < l.length := List.length_pos_iff.2 h
  unfold adv
  split <;> omega

/-- The code points of the repaired form, each as its bytes. -/
def chunks : Nat → List UInt8 → List (List UInt8)
  | 0, _ => []
  | n + 1, l => if l = [] then [] else chunk l :: chunks n (l.drop (adv l))

def pts (l : List UInt8) : List (List UInt8) := chunks l.length l
def rep (l : List UInt8) : List UInt8 := (pts l).flatten

theorem chunks_more : ∀ (n m : Nat) (l : List UInt8), l.length ≤ n → l.length ≤ m → chunks n l = chunks m l
  | 0, 0, _, _, _ => rfl
  | 0, m + 1, l, h, _ => by
    have : l = [] := List.eq_nil_of_length_eq_zero (by omega)
    simp [chunks, this]
  | n + 1, 0, l, _, h => by
    have : l = [] := List.eq_nil_of_length_eq_zero (by omega)
    simp [chunks, this]
  | n + 1, m + 1, l, h1, h2 => by
    unfold chunks
    by_cases hl : l = []
    · simp [hl]
    · have ha := adv_pos l
      have hlen : 0 < l.length := List.length_pos_iff.2 hl
      rw [if_neg hl, if_neg hl, chunks_more n m (l.drop (adv l)) (by simp; omega) (by simp; omega)]

theorem pts_nil : pts [] = [] := rfl
theorem pts_cons (l : List UInt8) (h : l ≠ []) : pts l = chunk l :: pts (l.drop (adv l)) := by
  have hl : 0 < l.length := List.length_pos_iff.2 h
  have ha := adv_pos l
  unfold pts
  obtain ⟨n, hn⟩ : ∃ n, l.length = n + 1 := ⟨l.length - 1, by omega⟩
  rw [hn]
  conv => lhs; unfold chunks
  rw [if_neg h, chunks_more n (l.drop (adv l)).length (l.drop (adv l)) (by simp; omega) (by simp)]

theorem rep_nil : rep [] = [] := rfl
theorem rep_cons (l : List UInt8) (h : l ≠ []) : rep l = chunk l ++ rep (l.drop (adv l)) := by
  unfold rep; rw [pts_cons l h]; rfl

theorem getD_congr {n i : Nat} {l l' : List UInt8} (hi : i < n) (h : l'.take n = l.take n) : l'.getD i 0 = l.getD i 0 := by
  have h1 : (l'.take n)[i]? = (l.take n)[i]? := by rw [h]
  rw [List.getElem?_take_of_lt hi, List.getElem?_take_of_lt hi] at h1
  simp [List.getD, h1]

theorem rng_congr {n i : Nat} {l l' : List UInt8} (hi : i < n) (h : l'.take n = l.take n) (hn : n ≤ l.length) (hn' : n ≤ l'.length) (lo hi' : Nat) : rng l' i lo hi' = rng l i lo hi' := by
  unfold rng
  rw [getD_congr hi h]
  have a : i < l.length := by omega
  have b : i < l'.length := by omega
  simp [a, b]

theorem second_congr {n : Nat} {l l' : List UInt8} (hi : 1 < n) (h : l'.take n = l.take n) (hn : n ≤ l.length) (hn' : n ≤ l'.length) : second l' = second l := by
  unfold second
  rw [getD_congr (by omega : 0 < n) h]
  simp only [rng_congr hi h hn hn']

/-- The sequence at the head is told by its own bytes. -/
theorem sz_congr (l l' : List UInt8) (h : sz l ≠ 0) (ht : l'.take (sz l) = l.take (sz l)) (hl : sz l ≤ l'.length) : sz l' = sz l := by
  have hle := sz_le l
  generalize hn : sz l = n at *
  have h0 : 0 < n := by omega
  have r0 := fun lo hi => rng_congr h0 ht hle hl lo hi
  unfold sz at hn ⊢
  split at hn
  · subst hn; rename_i a; rw [r0, if_pos a]
  · rename_i a0
    split at hn
    · subst hn; rename_i a
      rw [r0, if_neg a0, r0, rng_congr (by omega : 1 < 2) ht hle hl, if_pos a]
    · rename_i a1
      split at hn
      · subst hn; rename_i a
        rw [r0, if_neg a0, r0, rng_congr (by omega : 1 < 3) ht hle hl, if_neg a1, r0, second_congr (by omega : 1 < 3) ht hle hl, rng_congr (by omega : 2 < 3) ht hle hl, if_pos a]
      · rename_i a2
        split at hn
        · subst hn; rename_i a
          rw [r0, if_neg a0, r0, rng_congr (by omega : 1 < 4) ht hle hl, if_neg a1, r0, second_congr (by omega : 1 < 4) ht hle hl, rng_congr (by omega : 2 < 4) ht hle hl, if_neg a2, r0, rng_congr (by omega : 3 < 4) ht hle hl, if_pos a]
        · omega

theorem sz_take_append (l r : List UInt8) (h : sz l ≠ 0) : sz (l.take (sz l) ++ r) = sz l := by
  have hle := sz_le l
  exact sz_congr l (l.take (sz l) ++ r) h (by rw [List.take_append_of_le_length (by rw [List.length_take]; omega), List.take_take, Nat.min_self]) (by rw [List.length_append, List.length_take]; omega)

theorem sz_fffd (r : List UInt8) : sz (239 :: 191 :: 189 :: r) = 3 := by simp [sz, rng, second]

theorem chunk_length (l : List UInt8) (_h : l ≠ []) : 1 ≤ (chunk l).length ∧ (chunk l).length ≤ 4 := by
  have := sz_le l
  have := sz_le4 l
  unfold chunk
  split
  · simp
  · simp; omega

/-- What stands for a code point is read as one. -/
theorem sz_chunk (l r : List UInt8) (_h : l ≠ []) : sz (chunk l ++ r) = (chunk l).length := by
  have hle := sz_le l
  unfold chunk
  split
  · simp [sz_fffd]
  · rename_i h0
    rw [sz_take_append l r h0]; simp; omega

theorem adv_chunk (l r : List UInt8) (h : l ≠ []) : adv (chunk l ++ r) = (chunk l).length := by
  have := (chunk_length l h).1
  unfold adv
  rw [sz_chunk l r h, if_neg (by omega)]

theorem chunk_chunk (l r : List UInt8) (h : l ≠ []) : chunk (chunk l ++ r) = chunk l := by
  have := (chunk_length l h).1
  generalize hc : chunk l = c at *
  have e := sz_chunk l r h
  rw [hc] at e
  unfold chunk
  rw [e, if_neg (by omega)]
  simp

theorem ne_nil_chunk (l r : List UInt8) (h : l ≠ []) : chunk l ++ r ≠ [] := by
  have := (chunk_length l h).1
  intro e
  have e' := congrArg List.length e
  rw [List.length_append, List.length_nil] at e'
  omega

/-- The code points of the repaired form, again. -/
theorem pts_rep : ∀ (n : Nat) (l r : List UInt8), l.length ≤ n → pts (rep l ++ r) = pts l ++ pts r
  | 0, l, r, h => by
    have : l = [] := List.eq_nil_of_length_eq_zero (by omega)
    subst this; simp [rep_nil, pts_nil]
  | n + 1, l, r, h => by
    by_cases hl : l = []
    · subst hl; simp [rep_nil, pts_nil]
    · have ha := adv_pos l
      rw [rep_cons l hl, List.append_assoc, pts_cons _ (ne_nil_chunk l _ hl), chunk_chunk l _ hl, adv_chunk l _ hl, pts_cons l hl]
      rw [List.drop_left, pts_rep n _ _ (by simp; omega)]
      rfl

theorem pts_of_rep (l : List UInt8) : pts (rep l) = pts l := by
  have := pts_rep l.length l [] (Nat.le_refl _)
  simpa [pts_nil] using this

theorem rep_rep (l : List UInt8) : rep (rep l) = rep l := by
  show (pts (rep l)).flatten = (pts l).flatten
  rw [pts_of_rep]

/-- The model's decoding is this reading. -/
def code (c : List UInt8) : Nat :=
  match c with
  | [a] => a.toNat
  | [a, b] => (a.toNat % 32) * 64 + b.toNat % 64
  | [a, b, c] => (a.toNat % 16) * 4096 + (b.toNat % 64) * 64 + c.toNat % 64
  | [a, b, c, d] => (a.toNat % 8) * 262144 + (b.toNat % 64) * 4096 + (c.toNat % 64) * 64 + d.toNat % 64
  | _ => 0

theorem get_eq (s : ByteArray) (i : Nat) : s.get! i = s.data.toList.getD i 0 := by
  cases s with
  | mk a =>
    simp only [ByteArray.get!, List.getD, Array.getElem?_toList]
    rw [getElem!_def]
    cases a[i]? <;> rfl

theorem getD_drop (l : List UInt8) (i k : Nat) : (l.drop i).getD k 0 = l.getD (i + k) 0 := by
  simp [List.getD]

theorem list_size (s : ByteArray) : s.data.toList.length = s.size := by simp

/-- The bytes of a list by places. -/
theorem head_take (l : List UInt8) (n : Nat) (h : n ≤ l.length) : l.take n = (List.range n).map fun i => l.getD i 0 := by
  apply List.ext_getElem?
  intro i
  by_cases hi : i < n
  · rw [List.getElem?_take_of_lt hi]
    have : i < l.length := by omega
    simp [hi, List.getD, this]
  · rw [List.getElem?_eq_none (by rw [List.length_take]; omega)]
    simp [hi]

theorem code_take (l : List UInt8) (h : sz l ≠ 0) : code (l.take (sz l)) =
    if sz l = 1 then (l.getD 0 0).toNat
    else if sz l = 2 then ((l.getD 0 0).toNat % 32) * 64 + (l.getD 1 0).toNat % 64
    else if sz l = 3 then ((l.getD 0 0).toNat % 16) * 4096 + ((l.getD 1 0).toNat % 64) * 64 + (l.getD 2 0).toNat % 64
    else ((l.getD 0 0).toNat % 8) * 262144 + ((l.getD 1 0).toNat % 64) * 4096 + ((l.getD 2 0).toNat % 64) * 64 + (l.getD 3 0).toNat % 64 := by
  have hle := sz_le l
  have h4 := sz_le4 l
  rw [head_take l _ hle]
  generalize sz l = n at *
  have : n = 1 ∨ n = 2 ∨ n = 3 ∨ n = 4 := by omega
  rcases this with rfl | rfl | rfl | rfl <;> simp [code, List.range, List.range.loop]

theorem code_chunk (l : List UInt8) : code (chunk l) = if sz l = 0 then 65533 else code (l.take (sz l)) := by
  unfold chunk
  split <;> rfl

theorem rng_iff (l : List UInt8) (i lo hi : Nat) : rng l i lo hi = true ↔ (i < l.length ∧ lo ≤ (l.getD i 0).toNat ∧ (l.getD i 0).toNat ≤ hi) := by
  simp [rng]

theorem second_iff (l : List UInt8) : second l = true ↔ (1 < l.length ∧
    (((l.getD 0 0).toNat = 224 ∧ 160 ≤ (l.getD 1 0).toNat ∧ (l.getD 1 0).toNat ≤ 191) ∨ ((l.getD 0 0).toNat = 237 ∧ 128 ≤ (l.getD 1 0).toNat ∧ (l.getD 1 0).toNat ≤ 159) ∨
     ((l.getD 0 0).toNat = 240 ∧ 144 ≤ (l.getD 1 0).toNat ∧ (l.getD 1 0).toNat ≤ 191) ∨ ((l.getD 0 0).toNat = 244 ∧ 128 ≤ (l.getD 1 0).toNat ∧ (l.getD 1 0).toNat ≤ 143) ∨
     ((l.getD 0 0).toNat ≠ 224 ∧ (l.getD 0 0).toNat ≠ 237 ∧ (l.getD 0 0).toNat ≠ 240 ∧ (l.getD 0 0).toNat ≠ 244 ∧ 128 ≤ (l.getD 1 0).toNat ∧ (l.getD 1 0).toNat ≤ 191))) := by
  unfold second
  by_cases h1 : (l.getD 0 0).toNat = 224
  · simp only [if_pos h1, rng_iff]; omega
  · by_cases h2 : (l.getD 0 0).toNat = 237
    · simp only [if_neg h1, if_pos h2, rng_iff]; omega
    · by_cases h3 : (l.getD 0 0).toNat = 240
      · simp only [if_neg h1, if_neg h2, if_pos h3, rng_iff]; omega
      · by_cases h4 : (l.getD 0 0).toNat = 244
        · simp only [if_neg h1, if_neg h2, if_neg h3, if_pos h4, rng_iff]; omega
        · simp only [if_neg h1, if_neg h2, if_neg h3, if_neg h4, rng_iff]; omega

/-- The valid sequences, by their bytes' numbers. -/
def one (n x0 : Nat) : Prop := 0 < n ∧ x0 ≤ 127
def two (n x0 x1 : Nat) : Prop := 1 < n ∧ 194 ≤ x0 ∧ x0 ≤ 223 ∧ 128 ≤ x1 ∧ x1 ≤ 191
def sec (x0 x1 : Nat) : Prop := (x0 = 224 ∧ 160 ≤ x1 ∧ x1 ≤ 191) ∨ (x0 = 237 ∧ 128 ≤ x1 ∧ x1 ≤ 159) ∨ (x0 = 240 ∧ 144 ≤ x1 ∧ x1 ≤ 191) ∨ (x0 = 244 ∧ 128 ≤ x1 ∧ x1 ≤ 143) ∨ (x0 ≠ 224 ∧ x0 ≠ 237 ∧ x0 ≠ 240 ∧ x0 ≠ 244 ∧ 128 ≤ x1 ∧ x1 ≤ 191)
def three (n x0 x1 x2 : Nat) : Prop := 2 < n ∧ 224 ≤ x0 ∧ x0 ≤ 239 ∧ sec x0 x1 ∧ 128 ≤ x2 ∧ x2 ≤ 191
def four (n x0 x1 x2 x3 : Nat) : Prop := 3 < n ∧ 240 ≤ x0 ∧ x0 ≤ 244 ∧ sec x0 x1 ∧ 128 ≤ x2 ∧ x2 ≤ 191 ∧ 128 ≤ x3 ∧ x3 ≤ 191

theorem sz_cases (l : List UInt8) :
    (sz l = 1 ∧ one l.length (l.getD 0 0).toNat) ∨ (sz l = 2 ∧ two l.length (l.getD 0 0).toNat (l.getD 1 0).toNat) ∨
    (sz l = 3 ∧ three l.length (l.getD 0 0).toNat (l.getD 1 0).toNat (l.getD 2 0).toNat) ∨ (sz l = 4 ∧ four l.length (l.getD 0 0).toNat (l.getD 1 0).toNat (l.getD 2 0).toNat (l.getD 3 0).toNat) ∨
    (sz l = 0 ∧ ¬ one l.length (l.getD 0 0).toNat ∧ ¬ two l.length (l.getD 0 0).toNat (l.getD 1 0).toNat ∧ ¬ three l.length (l.getD 0 0).toNat (l.getD 1 0).toNat (l.getD 2 0).toNat ∧ ¬ four l.length (l.getD 0 0).toNat (l.getD 1 0).toNat (l.getD 2 0).toNat (l.getD 3 0).toNat) := by
  have e := sz.eq_1 l
  by_cases c1 : rng l 0 0 127 = true
  · rw [if_pos c1] at e
    rw [rng_iff] at c1
    exact Or.inl ⟨e, c1.1, c1.2.2⟩
  · rw [if_neg c1] at e
    by_cases c2 : (rng l 0 194 223 && rng l 1 128 191) = true
    · rw [if_pos c2] at e
      rw [Bool.and_eq_true, rng_iff, rng_iff] at c2
      exact Or.inr (Or.inl ⟨e, c2.2.1, c2.1.2.1, c2.1.2.2, c2.2.2⟩)
    · rw [if_neg c2] at e
      by_cases c3 : (rng l 0 224 239 && (second l && rng l 2 128 191)) = true
      · rw [if_pos c3] at e
        rw [Bool.and_eq_true, Bool.and_eq_true, rng_iff, rng_iff, second_iff] at c3
        exact Or.inr (Or.inr (Or.inl ⟨e, c3.2.2.1, c3.1.2.1, c3.1.2.2, c3.2.1.2, c3.2.2.2⟩))
      · rw [if_neg c3] at e
        by_cases c4 : (rng l 0 240 244 && (second l && (rng l 2 128 191 && rng l 3 128 191))) = true
        · rw [if_pos c4] at e
          rw [Bool.and_eq_true, Bool.and_eq_true, Bool.and_eq_true, rng_iff, rng_iff, rng_iff, second_iff] at c4
          exact Or.inr (Or.inr (Or.inr (Or.inl ⟨e, c4.2.2.2.1, c4.1.2.1, c4.1.2.2, c4.2.1.2, c4.2.2.1.2.1, c4.2.2.1.2.2, c4.2.2.2.2⟩)))
        · rw [if_neg c4] at e
          rw [rng_iff] at c1
          rw [Bool.and_eq_true, rng_iff, rng_iff] at c2
          rw [Bool.and_eq_true, Bool.and_eq_true, rng_iff, rng_iff, second_iff] at c3
          rw [Bool.and_eq_true, Bool.and_eq_true, Bool.and_eq_true, rng_iff, rng_iff, rng_iff, second_iff] at c4
          refine Or.inr (Or.inr (Or.inr (Or.inr ⟨e, fun h => c1 ⟨h.1, Nat.zero_le _, h.2⟩, fun h => c2 ⟨⟨by have := h.1; omega, h.2.1, h.2.2.1⟩, h.1, h.2.2.2⟩, fun h => c3 ⟨⟨by have := h.1; omega, h.2.1, h.2.2.1⟩, ⟨by have := h.1; omega, h.2.2.2.1⟩, h.1, h.2.2.2.2⟩, fun h => c4 ⟨⟨by have := h.1; omega, h.2.1, h.2.2.1⟩, ⟨by have := h.1; omega, h.2.2.2.1⟩, ⟨by have := h.1; omega, h.2.2.2.2.1, h.2.2.2.2.2.1⟩, h.1, h.2.2.2.2.2.2⟩⟩)))

/-- The arithmetic of decoding. -/
def dec (n x0 x1 x2 x3 : Nat) : Nat × Nat :=
  if x0 < 0x80 then (x0, 1)
  else if x0 / 32 == 6 && (decide (1 < n) && x1 / 64 == 2) then
    if (x0 % 32) * 64 + x1 % 64 ≥ 0x80 then ((x0 % 32) * 64 + x1 % 64, 2) else (65533, 1)
  else if x0 / 16 == 14 && (decide (1 < n) && x1 / 64 == 2) && (decide (2 < n) && x2 / 64 == 2) then
    if decide ((x0 % 16) * 4096 + (x1 % 64) * 64 + x2 % 64 ≥ 0x800) && Utf8.valid ((x0 % 16) * 4096 + (x1 % 64) * 64 + x2 % 64 : Nat) then ((x0 % 16) * 4096 + (x1 % 64) * 64 + x2 % 64, 3) else (65533, 1)
  else if x0 / 8 == 30 && (decide (1 < n) && x1 / 64 == 2) && (decide (2 < n) && x2 / 64 == 2) && (decide (3 < n) && x3 / 64 == 2) then
    if decide ((x0 % 8) * 262144 + (x1 % 64) * 4096 + (x2 % 64) * 64 + x3 % 64 ≥ 0x10000) && Utf8.valid ((x0 % 8) * 262144 + (x1 % 64) * 4096 + (x2 % 64) * 64 + x3 % 64 : Nat) then ((x0 % 8) * 262144 + (x1 % 64) * 4096 + (x2 % 64) * 64 + x3 % 64, 4) else (65533, 1)
  else (65533, 1)

theorem dec_one {n x0 x1 x2 x3 : Nat} (h : one n x0) : dec n x0 x1 x2 x3 = (x0, 1) := by
  unfold one at h
  unfold dec
  rw [if_pos (by omega)]

theorem dec_two {n x0 x1 x2 x3 : Nat} (h : two n x0 x1) : dec n x0 x1 x2 x3 = ((x0 % 32) * 64 + x1 % 64, 2) := by
  unfold two at h
  unfold dec
  rw [if_neg (by omega), if_pos (by simp; omega), if_pos (by omega)]

theorem dec_three {n x0 x1 x2 x3 : Nat} (h : three n x0 x1 x2) : dec n x0 x1 x2 x3 = ((x0 % 16) * 4096 + (x1 % 64) * 64 + x2 % 64, 3) := by
  unfold three sec at h
  unfold dec
  rw [if_neg (by omega), if_neg (by simp; omega), if_pos (by simp; omega), if_pos]
  simp [Utf8.valid]
  omega

theorem dec_four {n x0 x1 x2 x3 : Nat} (h : four n x0 x1 x2 x3) : dec n x0 x1 x2 x3 = ((x0 % 8) * 262144 + (x1 % 64) * 4096 + (x2 % 64) * 64 + x3 % 64, 4) := by
  unfold four sec at h
  unfold dec
  rw [if_neg (by omega), if_neg (by simp; omega), if_neg (by simp; omega), if_pos (by simp; omega), if_pos]
  simp [Utf8.valid]
  omega

theorem dec_none {n x0 x1 x2 x3 : Nat} (hn : 0 < n) (b0 : x0 < 256) (b1 : x1 < 256) (b2 : x2 < 256) (b3 : x3 < 256) (h1 : ¬ one n x0) (h2 : ¬ two n x0 x1) (h3 : ¬ three n x0 x1 x2) (h4 : ¬ four n x0 x1 x2 x3) : dec n x0 x1 x2 x3 = (65533, 1) := by
  unfold one at h1
  unfold two at h2
  unfold three sec at h3
  unfold four sec at h4
  unfold dec
  rw [if_neg (by omega)]
  split
  · rename_i c
    simp at c
    rw [if_neg (by omega)]
  · split
    · rename_i c
      simp at c
      rw [if_neg]
      simp [Utf8.valid]
      omega
    · split
      · rename_i c
        simp at c
        rw [if_neg]
        simp [Utf8.valid]
        omega
      · rfl

theorem decode_dec (s : ByteArray) (i : Nat) (h : i < s.size) : Utf8.decode s i = dec (s.size - i) (s.data.toList.getD (i + 0) 0).toNat (s.data.toList.getD (i + 1) 0).toNat (s.data.toList.getD (i + 2) 0).toNat (s.data.toList.getD (i + 3) 0).toNat := by
  unfold Utf8.decode dec
  simp only [get_eq, Utf8.runeError]
  have e1 : decide (1 < s.size - i) = decide (i + 1 < s.size) := by rw [decide_eq_decide]; omega
  have e2 : decide (2 < s.size - i) = decide (i + 2 < s.size) := by rw [decide_eq_decide]; omega
  have e3 : decide (3 < s.size - i) = decide (i + 3 < s.size) := by rw [decide_eq_decide]; omega
  rw [e1, e2, e3]

theorem decode_eq (s : ByteArray) (i : Nat) (h : i < s.size) : Utf8.decode s i = (code (chunk (s.data.toList.drop i)), adv (s.data.toList.drop i)) := by
  have hl : (s.data.toList.drop i).length = s.size - i := by simp
  have hc := sz_cases (s.data.toList.drop i)
  rw [hl] at hc
  simp only [getD_drop] at hc
  rw [decode_dec s i h, code_chunk]
  have ct := code_take (s.data.toList.drop i)
  simp only [getD_drop] at ct
  unfold adv
  have b0 := (s.data.toList.getD (i + 0) 0).toNat_lt
  have b1 := (s.data.toList.getD (i + 1) 0).toNat_lt
  have b2 := (s.data.toList.getD (i + 2) 0).toNat_lt
  have b3 := (s.data.toList.getD (i + 3) 0).toNat_lt
  rcases hc with ⟨e, hc⟩ | ⟨e, hc⟩ | ⟨e, hc⟩ | ⟨e, hc⟩ | ⟨e, h1, h2, h3, h4⟩
  · rw [dec_one hc, ct (by omega), e]; rfl
  · rw [dec_two hc, ct (by omega), e]; rfl
  · rw [dec_three hc, ct (by omega), e]; rfl
  · rw [dec_four hc, ct (by omega), e]; rfl
  · rw [dec_none (by omega) b0 b1 b2 b3 h1 h2 h3 h4, e]; rfl

end U
end Go.Proofs.YtafkeolpadfjfaaGreatDoor

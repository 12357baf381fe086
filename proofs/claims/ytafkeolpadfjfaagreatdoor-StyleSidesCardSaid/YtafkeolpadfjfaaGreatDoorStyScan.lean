/- Going over strings and parts in brackets: in one pass with a depth, or part by part. No program in sight. -/
import Derived.Test.YtafkeolpadfjfaaGreatDoorStySpec
set_option linter.unusedVariables false
set_option linter.unusedSimpArgs false
namespace Go.Proofs.YtafkeolpadfjfaaGreatDoor
namespace S

def closers : List UInt8 := [41, 93, 125]
/-- How long a string is, behind its first sign. -/
def strLen (q : UInt8) (t : List UInt8) : Nat := min ((t.takeWhile (· ≠ q)).length + 1) t.length
/-- How long the character, the string, or the part at the head is. -/
def nx : List UInt8 → Nat
  | [] => 0
  | c :: t => if c = 34 ∨ c = 39 then 1 + strLen c t else if c = 40 ∨ c = 91 ∨ c = 123 then 1 + min (scan closers 0 0 t + 1) t.length else 1

theorem scan_le (stops : List UInt8) : ∀ (t : List UInt8) (d : Nat) (q : UInt8), scan stops d q t ≤ t.length
  | [], _, _ => by simp [scan]
  | c :: t, d, q => by
    have h1 := fun d q => scan_le stops t d q
    rw [scan]
    repeat' split
    all_goals first
      | (rw [List.length_cons]; omega)
      | (rw [List.length_cons]; have := h1 d (if c = q then 0 else q); omega)
      | (rw [List.length_cons]; have := h1 d c; omega)
      | (rw [List.length_cons]; have := h1 (d + 1) 0; omega)
      | (rw [List.length_cons]; have := h1 (d - 1) 0; omega)
      | (rw [List.length_cons]; have := h1 d 0; have := h1 d q; omega)

theorem nx_pos {c : UInt8} {t : List UInt8} : 1 ≤ nx (c :: t) := by rw [nx]; (repeat' split) <;> omega
theorem nx_le : ∀ s : List UInt8, nx s ≤ s.length
  | [] => Nat.le_refl _
  | c :: t => by
    rw [nx]
    unfold strLen
    repeat' split
    all_goals (rw [List.length_cons]; omega)

/-- Within a string: on to its end. -/
theorem scan_str (stops : List UInt8) (d : Nat) {q : UInt8} (hq : q ≠ 0) : ∀ t : List UInt8, scan stops d q t = strLen q t + scan stops d 0 (t.drop (strLen q t))
  | [] => by simp [scan, strLen]
  | c :: t => by
    have ih := scan_str stops d hq t
    rw [show scan stops d q (c :: t) = 1 + scan stops d (if c = q then 0 else q) t by rw [scan]; rw [if_pos hq]]
    by_cases h : c = q
    · rw [if_pos h]
      have e : strLen q (c :: t) = 1 := by
        unfold strLen
        rw [List.takeWhile_cons_of_neg (by simp [h])]
        simp
      rw [e]; rfl
    · rw [if_neg h, ih]
      have e : strLen q (c :: t) = strLen q t + 1 := by
        unfold strLen
        rw [List.takeWhile_cons_of_pos (by simp [h]), List.length_cons, List.length_cons]
        omega
      rw [e, List.drop_succ_cons]
      omega

/-- Behind an opening sign: on to what closes it. -/
theorem scan_part (stops : List UInt8) (d : Nat) : ∀ (t : List UInt8) (e : Nat) (q : UInt8), scan stops (d + e + 1) q t = min (scan closers e q t + 1) t.length + scan stops d 0 (t.drop (scan closers e q t + 1))
  | [], _, _ => by simp [scan]
  | c :: t, e, q => by
    have ih := fun e q => scan_part stops d t e q
    have hle := fun e q => scan_le closers t e q
    by_cases hq : q ≠ 0
    · rw [show scan stops (d + e + 1) q (c :: t) = 1 + scan stops (d + e + 1) (if c = q then 0 else q) t by rw [scan]; rw [if_pos hq],
        show scan closers e q (c :: t) = 1 + scan closers e (if c = q then 0 else q) t by rw [scan]; rw [if_pos hq], ih]
      generalize (if c = q then (0 : UInt8) else q) = q2
      have := hle e q2
      rw [show 1 + scan closers e q2 t + 1 = (scan closers e q2 t + 1) + 1 by omega, List.drop_succ_cons, List.length_cons]
      omega
    · have hq0 : q = 0 := by simpa using hq
      subst hq0
      have hd : ¬ (d + e + 1 = 0 ∧ c ∈ stops) := fun h => by omega
      by_cases hc : e = 0 ∧ c ∈ closers
      · obtain ⟨rfl, hcl⟩ := hc
        have e0 : scan closers 0 0 (c :: t) = 0 := by rw [scan]; rw [if_neg (by simp), if_pos ⟨rfl, hcl⟩]
        have h3 : c = 41 ∨ c = 93 ∨ c = 125 := by simpa [closers] using hcl
        have n1 : ¬ (c = 34 ∨ c = 39) := by rcases h3 with rfl | rfl | rfl <;> decide
        have n2 : ¬ (c = 40 ∨ c = 91 ∨ c = 123) := by rcases h3 with rfl | rfl | rfl <;> decide
        rw [e0, show scan stops (d + 0 + 1) 0 (c :: t) = 1 + scan stops (d + 0 + 1 - 1) 0 t by rw [scan]; rw [if_neg (by simp), if_neg hd, if_neg n1, if_neg n2, if_pos h3]]
        rw [List.length_cons]
        have : min (0 + 1) (t.length + 1) = 1 := by omega
        rw [this]
        rfl
      · by_cases h1 : c = 34 ∨ c = 39
        · rw [show scan stops (d + e + 1) 0 (c :: t) = 1 + scan stops (d + e + 1) c t by rw [scan]; rw [if_neg (by simp), if_neg hd, if_pos h1],
            show scan closers e 0 (c :: t) = 1 + scan closers e c t by rw [scan]; rw [if_neg (by simp), if_neg hc, if_pos h1], ih]
          have := hle e c
          rw [show 1 + scan closers e c t + 1 = (scan closers e c t + 1) + 1 by omega, List.drop_succ_cons, List.length_cons]
          omega
        · by_cases h2 : c = 40 ∨ c = 91 ∨ c = 123
          · rw [show scan stops (d + e + 1) 0 (c :: t) = 1 + scan stops (d + (e + 1) + 1) 0 t by rw [scan]; rw [if_neg (by simp), if_neg hd, if_neg h1, if_pos h2, show d + e + 1 + 1 = d + (e + 1) + 1 by omega],
              show scan closers e 0 (c :: t) = 1 + scan closers (e + 1) 0 t by rw [scan]; rw [if_neg (by simp), if_neg hc, if_neg h1, if_pos h2], ih]
            have := hle (e + 1) 0
            rw [show 1 + scan closers (e + 1) 0 t + 1 = (scan closers (e + 1) 0 t + 1) + 1 by omega, List.drop_succ_cons, List.length_cons]
            omega
          · by_cases h3 : c = 41 ∨ c = 93 ∨ c = 125
            · have he : e ≠ 0 := fun h0 => hc ⟨h0, by simpa [closers] using h3⟩
              rw [show scan stops (d + e + 1) 0 (c :: t) = 1 + scan stops (d + (e - 1) + 1) 0 t by rw [scan]; rw [if_neg (by simp), if_neg hd, if_neg h1, if_neg h2, if_pos h3, show d + e + 1 - 1 = d + (e - 1) + 1 by omega],
                show scan closers e 0 (c :: t) = 1 + scan closers (e - 1) 0 t by rw [scan]; rw [if_neg (by simp), if_neg hc, if_neg h1, if_neg h2, if_pos h3], ih]
              have := hle (e - 1) 0
              rw [show 1 + scan closers (e - 1) 0 t + 1 = (scan closers (e - 1) 0 t + 1) + 1 by omega, List.drop_succ_cons, List.length_cons]
              omega
            · rw [show scan stops (d + e + 1) 0 (c :: t) = 1 + scan stops (d + e + 1) 0 t by rw [scan]; rw [if_neg (by simp), if_neg hd, if_neg h1, if_neg h2, if_neg h3],
                show scan closers e 0 (c :: t) = 1 + scan closers e 0 t by rw [scan]; rw [if_neg (by simp), if_neg hc, if_neg h1, if_neg h2, if_neg h3], ih]
              have := hle e 0
              rw [show 1 + scan closers e 0 t + 1 = (scan closers e 0 t + 1) + 1 by omega, List.drop_succ_cons, List.length_cons]
              omega

/-- Ahead of the first stop outside of strings and parts: part by part. -/
theorem scan_next {stops : List UInt8} {c : UInt8} {t : List UInt8} (hc : c ∉ stops) : scan stops 0 0 (c :: t) = nx (c :: t) + scan stops 0 0 ((c :: t).drop (nx (c :: t))) := by
  have hd : ¬ ((0 : Nat) = 0 ∧ c ∈ stops) := fun h => hc h.2
  by_cases h1 : c = 34 ∨ c = 39
  · have hn : nx (c :: t) = 1 + strLen c t := by rw [nx]; rw [if_pos h1]
    have hc0 : c ≠ 0 := by rcases h1 with rfl | rfl <;> decide
    rw [show scan stops 0 0 (c :: t) = 1 + scan stops 0 c t by rw [scan]; rw [if_neg (by simp), if_neg hd, if_pos h1], scan_str stops 0 hc0, hn,
      show 1 + strLen c t = strLen c t + 1 by omega, List.drop_succ_cons]
    omega
  · by_cases h2 : c = 40 ∨ c = 91 ∨ c = 123
    · have hn : nx (c :: t) = 1 + min (scan closers 0 0 t + 1) t.length := by rw [nx]; rw [if_neg h1, if_pos h2]
      have hp := scan_part stops 0 t 0 0
      rw [show scan stops 0 0 (c :: t) = 1 + scan stops (0 + 0 + 1) 0 t by rw [scan]; rw [if_neg (by simp), if_neg hd, if_neg h1, if_pos h2], hp, hn,
        show 1 + min (scan closers 0 0 t + 1) t.length = min (scan closers 0 0 t + 1) t.length + 1 by omega, List.drop_succ_cons]
      have e : t.drop (min (scan closers 0 0 t + 1) t.length) = t.drop (scan closers 0 0 t + 1) := by
        rcases Nat.le_total (scan closers 0 0 t + 1) t.length with h | h
        · rw [Nat.min_eq_left h]
        · rw [Nat.min_eq_right h, List.drop_length, List.drop_eq_nil_of_le h]
      rw [e]
      omega
    · have hn : nx (c :: t) = 1 := by rw [nx]; rw [if_neg h1, if_neg h2]
      rw [hn]
      by_cases h3 : c = 41 ∨ c = 93 ∨ c = 125
      · rw [show scan stops 0 0 (c :: t) = 1 + scan stops (0 - 1) 0 t by rw [scan]; rw [if_neg (by simp), if_neg hd, if_neg h1, if_neg h2, if_pos h3]]
        rfl
      · rw [show scan stops 0 0 (c :: t) = 1 + scan stops 0 0 t by rw [scan]; rw [if_neg (by simp), if_neg hd, if_neg h1, if_neg h2, if_neg h3]]
        rfl
theorem scan_stop {stops : List UInt8} {c : UInt8} {t : List UInt8} (hc : c ∈ stops) : scan stops 0 0 (c :: t) = 0 := by
  rw [scan]; rw [if_neg (by simp), if_pos ⟨rfl, hc⟩]

end S
end Go.Proofs.YtafkeolpadfjfaaGreatDoor

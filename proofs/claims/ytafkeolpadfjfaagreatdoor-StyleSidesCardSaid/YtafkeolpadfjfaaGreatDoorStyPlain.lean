/- Plain facts on the numbers and colors of styles. No program in sight. -/
import Derived.Test.YtafkeolpadfjfaaGreatDoorStySpec
import Derived.Lib.Atoi
import Derived.Lib.SlTrimSet
import Derived.Lib.Repeat
set_option linter.unusedVariables false
set_option linter.unusedSimpArgs false
namespace Go.Proofs.YtafkeolpadfjfaaGreatDoor
namespace S

theorem isDig_iff (c : UInt8) : isDig c = true ↔ 48 ≤ c.toNat ∧ c.toNat ≤ 57 := by unfold isDig; simp
theorem isDig_val {c : UInt8} (h : isDig c = true) : Go.Lib.digitVal c = some (c.toNat - 48) := by
  unfold Go.Lib.digitVal
  rw [if_pos ((isDig_iff c).1 h)]

theorem decFrom_digs : ∀ (l : List UInt8) (acc : Nat), (∀ c ∈ l, isDig c = true) → Go.Lib.decFrom acc l = some (l.foldl (fun n c => n * 10 + (c.toNat - 48)) acc)
  | [], acc, _ => rfl
  | c :: r, acc, h => by
    unfold Go.Lib.decFrom
    rw [isDig_val (h c (List.mem_cons_self ..))]
    dsimp only
    rw [decFrom_digs r _ (fun x hx => h x (List.mem_cons_of_mem _ hx)), List.foldl_cons]

theorem atoi_digs {l : List UInt8} (h : ∀ c ∈ l, isDig c = true) (h0 : l ≠ []) : Go.Lib.atoi l = some ((natOf l : Nat) : Int) := by
  obtain ⟨c, r, rfl⟩ := List.exists_cons_of_ne_nil h0
  have hc := (isDig_iff c).1 (h c (List.mem_cons_self ..))
  have e1 : (c == 45) = false := by
    cases hh : c == 45 with
    | false => rfl
    | true => rw [beq_iff_eq] at hh; subst hh; exact absurd hc (by decide)
  have e2 : (c == 43) = false := by
    cases hh : c == 43 with
    | false => rfl
    | true => rw [beq_iff_eq] at hh; subst hh; exact absurd hc (by decide)
  unfold Go.Lib.atoi
  simp only [e1, e2, Bool.false_eq_true, if_false]
  unfold Go.Lib.decNat
  rw [decFrom_digs _ 0 h]
  rfl

theorem foldl_lt : ∀ (l : List UInt8) (acc k : Nat), (∀ c ∈ l, isDig c = true) → acc < 10 ^ k → l.foldl (fun n c => n * 10 + (c.toNat - 48)) acc < 10 ^ (k + l.length)
  | [], acc, k, _, h => by simpa using h
  | c :: r, acc, k, h, ha => by
    have hc := (isDig_iff c).1 (h c (List.mem_cons_self ..))
    rw [List.foldl_cons, List.length_cons, show k + (r.length + 1) = (k + 1) + r.length by omega]
    refine foldl_lt r _ (k + 1) (fun x hx => h x (List.mem_cons_of_mem _ hx)) ?_
    rw [Nat.pow_succ]
    omega
theorem natOf_lt {l : List UInt8} (h : ∀ c ∈ l, isDig c = true) : natOf l < 10 ^ l.length := by
  have := foldl_lt l 0 0 h (by decide)
  simpa [natOf] using this
theorem natOf_snoc (l : List UInt8) (c : UInt8) : natOf (l ++ [c]) = natOf l * 10 + (c.toNat - 48) := by simp [natOf]

theorem tw_all (p : UInt8 → Bool) : ∀ (l : List UInt8), ∀ c ∈ l.takeWhile p, p c = true
  | [], c, h => by cases h
  | a :: r, c, h => by
    by_cases ha : p a = true
    · rw [List.takeWhile_cons_of_pos ha] at h
      rcases List.mem_cons.1 h with rfl | h
      · exact ha
      · exact tw_all p r c h
    · rw [List.takeWhile_cons_of_neg ha] at h; cases h
theorem tw_dig (s : List UInt8) : ∀ c ∈ s.takeWhile isDig, isDig c = true := tw_all isDig s
theorem drop_tw (p : UInt8 → Bool) : ∀ l : List UInt8, l.drop (l.takeWhile p).length = l.dropWhile p
  | [] => rfl
  | c :: r => by
    by_cases h : p c = true
    · rw [List.takeWhile_cons_of_pos h, List.dropWhile_cons_of_pos h, List.length_cons, List.drop_succ_cons, drop_tw p r]
    · rw [List.takeWhile_cons_of_neg h, List.dropWhile_cons_of_neg h]; rfl
theorem tw_le (p : UInt8 → Bool) : ∀ l : List UInt8, (l.takeWhile p).length ≤ l.length
  | [] => Nat.le_refl _
  | c :: r => by
    by_cases h : p c = true
    · rw [List.takeWhile_cons_of_pos h, List.length_cons, List.length_cons]; have := tw_le p r; omega
    · rw [List.takeWhile_cons_of_neg h]; exact Nat.zero_le _
theorem take_tw (p : UInt8 → Bool) : ∀ l : List UInt8, l.take (l.takeWhile p).length = l.takeWhile p
  | [] => rfl
  | c :: r => by
    by_cases h : p c = true
    · rw [List.takeWhile_cons_of_pos h, List.length_cons, List.take_succ_cons, take_tw p r]
    · rw [List.takeWhile_cons_of_neg h]; rfl

def hexset : List UInt8 := [48, 49, 50, 51, 52, 53, 54, 55, 56, 57, 97, 98, 99, 100, 101, 102]

theorem bounds_pad (f : List UInt8) (h : ∀ c ∈ f, isDig c = true) : ∀ c ∈ (f ++ [48, 48]).take 3, isDig c = true := fun c hc => by
  have := List.mem_of_mem_take hc
  rcases List.mem_append.1 this with hh | hh
  · exact h c hh
  · simp at hh; subst hh; decide
theorem pad_len {f : List UInt8} (h : f ≠ []) : ((f ++ [48, 48]).take 3).length = 3 := by
  have : 1 ≤ f.length := List.length_pos_iff.2 h
  rw [List.length_take, List.length_append]
  simp
  omega

/-- The part behind the point, digit by digit. -/
def fsum : Nat → List UInt8 → Nat
  | _, [] => 0
  | u, c :: t => u * (c.toNat - 48) + fsum (u / 10) t
theorem fsum_zero : ∀ t : List UInt8, fsum 0 t = 0
  | [] => rfl
  | c :: t => by unfold fsum; rw [show (0 : Nat) / 10 = 0 from rfl, fsum_zero t]; simp
theorem fsum_eq : ∀ {f : List UInt8}, f ≠ [] → fsum 100 f = natOf ((f ++ [48, 48]).take 3)
  | [], h => absurd rfl h
  | [a], _ => by simp [fsum, natOf]; omega
  | [a, b], _ => by simp [fsum, natOf]; omega
  | a :: b :: c :: t, _ => by
    have e : ((a :: b :: c :: t) ++ [48, 48]).take 3 = [a, b, c] := rfl
    rw [e]
    show 100 * (a.toNat - 48) + (100 / 10 * (b.toNat - 48) + (100 / 10 / 10 * (c.toNat - 48) + fsum (100 / 10 / 10 / 10) t)) = _
    rw [show 100 / 10 / 10 / 10 = 0 from rfl, fsum_zero]
    simp [natOf]
    omega

end S
end Go.Proofs.YtafkeolpadfjfaaGreatDoor

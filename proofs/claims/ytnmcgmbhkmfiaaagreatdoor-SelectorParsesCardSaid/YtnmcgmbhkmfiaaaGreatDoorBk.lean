/- That what is written of a selector is read as it: the plain law of going there and back. No program in sight. -/
import Derived.Test.YtnmcgmbhkmfiaaaGreatDoorVcut
import Derived.Test.YtnmcgmbhkmfiaaaGreatDoorOwn
import Derived.Test.YtnmcgmbhkmfiaaaGreatDoorSel14
import Derived.Test.YtnmcgmbhkmfiaaaGreatDoorSel16
import Derived.Test.YtnmcgmbhkmfiaaaGreatDoorSel18
import Derived.Test.YtnmcgmbhkmfiaaaGreatDoorFmt4
set_option linter.unusedVariables false
set_option linter.unusedSimpArgs false
namespace Go.Proofs.YtnmcgmbhkmfiaaaGreatDoor
namespace L
open T (sp low)
open U (V V_app V_cons V_cut V_nil V_low)

theorem byte_all {p : UInt8 → Prop} [DecidablePred p] (h : ∀ n : Fin 256, p (UInt8.ofNat n.val)) (c : UInt8) : p c := by
  have := h ⟨c.toNat, c.toNat_lt⟩
  simpa using this

set_option maxRecDepth 1000000 in
theorem first_low (c : UInt8) : first (low c) = first c := byte_all (p := fun c => first (low c) = first c) (by decide) c
set_option maxRecDepth 1000000 in
theorem in_low (c : UInt8) : inName (low c) = inName c := byte_all (p := fun c => inName (low c) = inName c) (by decide) c
set_option maxRecDepth 1000000 in
theorem low_low (c : UInt8) : low (low c) = low c := byte_all (p := fun c => low (low c) = low c) (by decide) c
set_option maxRecDepth 1000000 in
theorem not_in_lt (c : UInt8) : inName c = false → c.toNat < 128 := byte_all (p := fun c => inName c = false → c.toNat < 128) (by decide) c
set_option maxRecDepth 1000000 in
theorem first_in (c : UInt8) : first c = true → inName c = true := byte_all (p := fun c => first c = true → inName c = true) (by decide) c
set_option maxRecDepth 1000000 in
theorem first_facts (c : UInt8) : first c = true → c ≠ 42 ∧ c ≠ 44 ∧ c ≠ 62 ∧ c ≠ 43 ∧ c ≠ 126 ∧ c ≠ 35 ∧ c ≠ 46 ∧ c ≠ 91 ∧ c ≠ 58 ∧ c ≠ 34 ∧ c ≠ 39 ∧ c ≠ 45 ∧ sp c = false :=
  byte_all (p := fun c => first c = true → c ≠ 42 ∧ c ≠ 44 ∧ c ≠ 62 ∧ c ≠ 43 ∧ c ≠ 126 ∧ c ≠ 35 ∧ c ≠ 46 ∧ c ≠ 91 ∧ c ≠ 58 ∧ c ≠ 34 ∧ c ≠ 39 ∧ c ≠ 45 ∧ sp c = false) (by decide) c
set_option maxRecDepth 1000000 in
theorem sp_lt (c : UInt8) : sp c = true → c.toNat < 128 := byte_all (p := fun c => sp c = true → c.toNat < 128) (by decide) c
set_option maxRecDepth 1000000 in
theorem dig_facts (c : UInt8) : isDig c = true → c ≠ 43 ∧ c ≠ 45 ∧ c.toNat < 128 ∧ sp c = false ∧ low c ≠ 111 ∧ low c ≠ 101 ∧ isN c = false :=
  byte_all (p := fun c => isDig c = true → c ≠ 43 ∧ c ≠ 45 ∧ c.toNat < 128 ∧ sp c = false ∧ low c ≠ 111 ∧ low c ≠ 101 ∧ isN c = false) (by decide) c

/-- The rest does not go on with a name. -/
def Stop (r : List UInt8) : Prop := ∀ c u, r = c :: u → inName c = false

/-- What has been read: at least c bytes, and the rest is valid if the text is. -/
structure Step (c : Nat) (s r : List UInt8) : Prop where
  len : r.length + c ≤ s.length
  val : V s → V r

theorem Step.refl (s : List UInt8) : Step 0 s s := ⟨Nat.le_refl _, id⟩
theorem Step.trans {c d : Nat} {s r t : List UInt8} (h : Step c s r) (k : Step d r t) : Step (c + d) s t := ⟨by have := h.len; have := k.len; omega, fun hv => k.val (h.val hv)⟩
theorem Step.less {c d : Nat} {s r : List UInt8} (h : Step c s r) (hd : d ≤ c) : Step d s r := ⟨by have := h.len; omega, h.val⟩
theorem Step.one {c : UInt8} {r : List UInt8} (h : c.toNat < 128) : Step 1 (c :: r) r := ⟨by simp, fun hv => (V_cons h).1 hv⟩

theorem step_dropWhile {p : UInt8 → Bool} (hp : ∀ c, p c = true → c.toNat < 128) : ∀ s : List UInt8, Step (s.takeWhile p).length s (s.dropWhile p)
  | [] => Step.refl []
  | c :: r => by
    by_cases h : p c = true
    · rw [List.takeWhile_cons_of_pos h, List.dropWhile_cons_of_pos h, List.length_cons]
      exact ((Step.one (hp c h)).trans (step_dropWhile hp r)).less (by omega)
    · rw [List.takeWhile_cons_of_neg h, List.dropWhile_cons_of_neg h]
      exact Step.refl _
theorem space_step (s : List UInt8) : Step 0 s (space s) := (step_dropWhile sp_lt s).less (Nat.zero_le _)
theorem need_step {p s r : List UInt8} (hp : ∀ c ∈ p, c.toNat < 128) (h : need p s = some r) : Step p.length s r := by
  unfold need at h
  split at h
  · rename_i hpre
    obtain rfl := Option.some.inj h
    obtain ⟨t, rfl⟩ := List.isPrefixOf_iff_prefix.1 hpre
    rw [List.drop_left]
    clear hpre h
    induction p with
    | nil => exact Step.refl _
    | cons c q ih =>
      have := (Step.one (c := c) (r := q ++ t) (hp c (by simp))).trans (ih (fun d hd => hp d (by simp [hd])))
      exact this.less (by simp; omega)
  · cases h

/-- An identifier. -/
def Id (n : List UInt8) : Prop := begins n = true ∧ ∀ c ∈ n, inName c = true

theorem Id.cons {n : List UInt8} (h : Id n) : ∃ c t, n = c :: t ∧ (first c = true ∨ c = 45) := by
  cases n with
  | nil => exact absurd h.1 (by decide)
  | cons c t =>
    refine ⟨c, t, rfl, ?_⟩
    have := h.1
    unfold begins at this
    rw [Bool.or_eq_true, Bool.and_eq_true] at this
    exact this.imp id (fun h => by simpa using h.1)

theorem tw_app {p : UInt8 → Bool} {n r : List UInt8} (hn : ∀ c ∈ n, p c = true) (hr : ∀ c u, r = c :: u → p c = false) : (n ++ r).takeWhile p = n ∧ (n ++ r).dropWhile p = r := by
  induction n with
  | nil =>
    cases r with
    | nil => exact ⟨rfl, rfl⟩
    | cons c u =>
      have h : ¬ p c = true := by rw [hr c u rfl]; simp
      rw [List.nil_append, List.takeWhile_cons_of_neg h, List.dropWhile_cons_of_neg h]
      exact ⟨rfl, rfl⟩
  | cons c t ih =>
    have h := hn c (by simp)
    rw [List.cons_append, List.takeWhile_cons_of_pos h, List.dropWhile_cons_of_pos h]
    obtain ⟨h1, h2⟩ := ih (fun d hd => hn d (by simp [hd]))
    exact ⟨by rw [h1], h2⟩

theorem begins_app {n : List UInt8} (r : List UInt8) (h : begins n = true) : begins (n ++ r) = true := by
  cases n with
  | nil => exact absurd h (by decide)
  | cons c t =>
    unfold begins at h ⊢
    rw [List.cons_append]
    dsimp only
    cases t with
    | nil =>
      have : first c = true := by simpa using h
      rw [this]; rfl
    | cons d u => exact h

theorem ident_app {n r : List UInt8} (hn : Id n) (hr : Stop r) : ident (n ++ r) = some (n, r) := by
  unfold ident
  rw [begins_app r hn.1, if_pos rfl]
  obtain ⟨h1, h2⟩ := tw_app (p := inName) hn.2 hr
  rw [h1, h2]

theorem dw_head {p : UInt8 → Bool} : ∀ {s : List UInt8} {c : UInt8} {u : List UInt8}, s.dropWhile p = c :: u → p c = false
  | [], c, u, h => by cases h
  | d :: r, c, u, h => by
    by_cases hd : p d = true
    · rw [List.dropWhile_cons_of_pos hd] at h; exact dw_head h
    · rw [List.dropWhile_cons_of_neg hd] at h
      obtain ⟨rfl, _⟩ := List.cons.inj h
      simpa using hd
theorem tw_in {p : UInt8 → Bool} : ∀ {s : List UInt8} {c : UInt8}, c ∈ s.takeWhile p → p c = true
  | [], c, h => by cases h
  | d :: r, c, h => by
    by_cases hd : p d = true
    · rw [List.takeWhile_cons_of_pos hd] at h
      rcases List.mem_cons.1 h with rfl | h
      · exact hd
      · exact tw_in h
    · rw [List.takeWhile_cons_of_neg hd] at h; cases h

theorem begins_tw {s : List UInt8} (h : begins s = true) : begins (s.takeWhile inName) = true := by
  cases s with
  | nil => exact absurd h (by decide)
  | cons c t =>
    have hh := h
    unfold begins at h
    rw [Bool.or_eq_true, Bool.and_eq_true] at h
    rcases h with h | ⟨h1, h2⟩
    · rw [List.takeWhile_cons_of_pos (first_in c h)]
      unfold begins
      dsimp only
      rw [h]; rfl
    · have hc : c = 45 := by simpa using h1
      subst hc
      cases t with
      | nil => exact absurd h2 (by decide)
      | cons d u =>
        rw [List.takeWhile_cons_of_pos (by decide), List.takeWhile_cons_of_pos (first_in d h2)]
        unfold begins
        dsimp only
        dsimp only at h2
        rw [h2]; rfl

theorem ident_ok {s n u : List UInt8} (h : ident s = some (n, u)) : Id n ∧ (V s → V n) ∧ Step n.length s u ∧ 1 ≤ n.length := by
  unfold ident at h
  split at h
  · rename_i hb
    obtain ⟨rfl, rfl⟩ := Prod.mk.inj (Option.some.inj h)
    have hcut : V s → V (s.takeWhile inName) ∧ V (s.dropWhile inName) := fun hv => by
      refine V_cut _ _ _ (Nat.le_refl _) (by rw [List.takeWhile_append_dropWhile]; exact hv) ?_
      intro c r hr
      exact not_in_lt c (dw_head hr)
    have hlen : (s.takeWhile inName).length + (s.dropWhile inName).length = s.length := by
      have := congrArg List.length (List.takeWhile_append_dropWhile (p := inName) (l := s))
      rw [List.length_append] at this; exact this
    have hid : Id (s.takeWhile inName) := ⟨begins_tw hb, fun c hc => tw_in hc⟩
    refine ⟨hid, fun hv => (hcut hv).1, ⟨by omega, fun hv => (hcut hv).2⟩, ?_⟩
    obtain ⟨c, t, ht, _⟩ := hid.cons
    rw [ht]; simp
  · cases h

theorem begins_lower (n : List UInt8) : begins (lower n) = begins n := by
  cases n with
  | nil => rfl
  | cons c t =>
    unfold lower begins
    rw [List.map_cons]
    dsimp only
    have h45 : (low c == 45) = (c == 45) := by
      have : ∀ c : UInt8, (low c == 45) = (c == 45) := fun c => byte_all (p := fun c => (low c == 45) = (c == 45)) (by set_option maxRecDepth 1000000 in decide) c
      exact this c
    rw [first_low, h45]
    cases t with
    | nil => rfl
    | cons d u => rw [List.map_cons]; dsimp only; rw [first_low]

/-- An identifier without upper letters. -/
def LId (n : List UInt8) : Prop := Id n ∧ lower n = n
theorem lower_lower (n : List UInt8) : lower (lower n) = lower n := by
  unfold lower; rw [List.map_map]; congr 1; funext c; exact low_low c
theorem Id.lower {n : List UInt8} (h : Id n) : LId (lower n) := by
  refine ⟨⟨by rw [begins_lower]; exact h.1, ?_⟩, lower_lower n⟩
  intro c hc
  unfold L.lower at hc
  obtain ⟨d, hd, rfl⟩ := List.mem_map.1 hc
  rw [in_low]; exact h.2 d hd
theorem V_lower {n : List UInt8} (h : V n) : V (lower n) := V_low n.length n (Nat.le_refl _) h
theorem len_lower (n : List UInt8) : (lower n).length = n.length := by unfold lower; simp

/-- What a value is. -/
def Val (v : List UInt8) : Prop := ¬ ((34 : UInt8) ∈ v ∧ (39 : UInt8) ∈ v) ∧ (10 : UInt8) ∉ v

theorem value_quote {q : UInt8} {t : List UInt8} (hq : q = 34 ∨ q = 39) : value (q :: t) = match t.dropWhile (· != q) with
    | [] => none
    | _ :: u => if (10 : UInt8) ∈ t.takeWhile (· != q) then none else some (t.takeWhile (· != q), u) := by
  rcases hq with rfl | rfl <;> rfl
theorem value_plain {q : UInt8} {t : List UInt8} (h1 : q ≠ 34) (h2 : q ≠ 39) : value (q :: t) = ident (q :: t) := by
  have e1 : (q == 34) = false := by simpa using h1
  have e2 : (q == 39) = false := by simpa using h2
  unfold value
  dsimp only
  rw [e1, e2]; rfl

theorem value_ok {s v u : List UInt8} (h : value s = some (v, u)) : Val v ∧ (V s → V v) ∧ Step v.length s u := by
  cases s with
  | nil => cases h
  | cons q t =>
    by_cases hq : q = 34 ∨ q = 39
    · rw [value_quote hq] at h
      cases hd : t.dropWhile (· != q) with
      | nil => rw [hd] at h; cases h
      | cons c r =>
        rw [hd] at h
        dsimp only at h
        have hc : c = q := by
          have := dw_head hd
          simpa using this
        subst hc
        split at h
        · cases h
        · rename_i h10
          obtain ⟨rfl, rfl⟩ := Prod.mk.inj (Option.some.inj h)
          have hnq : c ∉ t.takeWhile (· != c) := fun hm => by
            have := tw_in hm
            simp at this
          have hlt : c.toNat < 128 := by rcases hq with rfl | rfl <;> decide
          have happ : t.takeWhile (· != c) ++ c :: r = t := by rw [← hd]; exact List.takeWhile_append_dropWhile
          have hcut : V (c :: t) → V (t.takeWhile (· != c)) ∧ V r := fun hv => by
            have h1 := (V_cons hlt).1 hv
            rw [← happ] at h1
            obtain ⟨h2, h3⟩ := V_cut _ _ _ (Nat.le_refl _) h1 (fun d w hw => by obtain ⟨rfl, _⟩ := List.cons.inj hw; exact hlt)
            exact ⟨h2, (V_cons hlt).1 h3⟩
          have hlen : (t.takeWhile (· != c)).length + (r.length + 1) = t.length := by
            have := congrArg List.length happ
            rw [List.length_append, List.length_cons] at this; exact this
          refine ⟨⟨?_, h10⟩, fun hv => (hcut hv).1, ⟨by rw [List.length_cons]; omega, fun hv => (hcut hv).2⟩⟩
          rintro ⟨h1, h2⟩
          rcases hq with rfl | rfl
          · exact hnq h1
          · exact hnq h2
    · have h1 : q ≠ 34 := fun h => hq (Or.inl h)
      have h2 : q ≠ 39 := fun h => hq (Or.inr h)
      rw [value_plain h1 h2] at h
      obtain ⟨k1, k2, k3, _⟩ := ident_ok h
      refine ⟨⟨fun hh => ?_, fun hh => ?_⟩, k2, k3⟩
      · have := k1.2 _ hh.1; exact absurd this (by decide)
      · have := k1.2 _ hh; exact absurd this (by decide)

theorem value_app {v r : List UInt8} (h : Val v) : value (quoted v ++ r) = some (v, r) := by
  unfold quoted
  by_cases h34 : (34 : UInt8) ∈ v
  · have h39 : (39 : UInt8) ∉ v := fun h' => h.1 ⟨h34, h'⟩
    rw [if_pos h34]
    have e : (39 :: (v ++ [39])) ++ r = 39 :: (v ++ (39 :: r)) := by simp
    rw [e, value_quote (Or.inr rfl)]
    obtain ⟨h1, h2⟩ := tw_app (p := (· != 39)) (n := v) (r := 39 :: r) (fun c hc => by simp; rintro rfl; exact h39 hc) (fun c u hcu => by obtain ⟨rfl, _⟩ := List.cons.inj hcu; rfl)
    rw [h1, h2]
    dsimp only
    rw [if_neg h.2]
  · rw [if_neg h34]
    have e : (34 :: (v ++ [34])) ++ r = 34 :: (v ++ (34 :: r)) := by simp
    rw [e, value_quote (Or.inl rfl)]
    obtain ⟨h1, h2⟩ := tw_app (p := (· != 34)) (n := v) (r := 34 :: r) (fun c hc => by simp; rintro rfl; exact h34 hc) (fun c u hcu => by obtain ⟨rfl, _⟩ := List.cons.inj hcu; rfl)
    rw [h1, h2]
    dsimp only
    rw [if_neg h.2]

/- Numbers. -/
theorem natOf_snoc (l : List UInt8) (c : UInt8) : natOf (l ++ [c]) = natOf l * 10 + (c.toNat - 48) := by
  unfold natOf; rw [List.foldl_append]; rfl

theorem dec_ok : ∀ (k u : Nat), u < 10 ^ (k + 1) → (∀ c ∈ Lib.decDigits u, isDig c = true) ∧ 1 ≤ (Lib.decDigits u).length ∧ (Lib.decDigits u).length ≤ k + 1 ∧ natOf (Lib.decDigits u) = u := by
  intro k
  induction k with
  | zero =>
    intro u hu
    have hu : u < 10 := by simpa using hu
    rw [Lib.decDigits_one hu]
    have h1 : (UInt8.ofNat (48 + u)).toNat = 48 + u := by rw [UInt8.toNat_ofNat_of_lt' (by show 48 + u < 256; omega)]
    refine ⟨fun c hc => ?_, Nat.le_refl _, Nat.le_refl _, ?_⟩
    · rw [List.mem_singleton.1 hc]; unfold isDig; rw [h1]; simp; omega
    · show 0 * 10 + ((UInt8.ofNat (48 + u)).toNat - 48) = u
      rw [h1]; omega
  | succ k ih =>
    intro u hu
    by_cases h10 : u < 10
    · rw [Lib.decDigits_one h10]
      have h1 : (UInt8.ofNat (48 + u)).toNat = 48 + u := by rw [UInt8.toNat_ofNat_of_lt' (by show 48 + u < 256; omega)]
      refine ⟨fun c hc => ?_, Nat.le_refl _, by simp, ?_⟩
      · rw [List.mem_singleton.1 hc]; unfold isDig; rw [h1]; simp; omega
      · show 0 * 10 + ((UInt8.ofNat (48 + u)).toNat - 48) = u
        rw [h1]; omega
    · have hq : u / 10 < 10 ^ (k + 1) := by
        rw [Nat.pow_succ] at hu
        exact Nat.div_lt_of_lt_mul (by rw [Nat.mul_comm]; exact hu)
      obtain ⟨i1, i2, i3, i4⟩ := ih (u / 10) hq
      have h1 : (UInt8.ofNat (48 + u % 10)).toNat = 48 + u % 10 := by rw [UInt8.toNat_ofNat_of_lt' (by show 48 + u % 10 < 256; omega)]
      rw [Lib.decDigits, dif_neg h10]
      refine ⟨fun c hc => ?_, by rw [List.length_append]; simp, by rw [List.length_append]; simp; omega, ?_⟩
      · rcases List.mem_append.1 hc with hc | hc
        · exact i1 c hc
        · rw [List.mem_singleton.1 hc]; unfold isDig; rw [h1]; simp; omega
      · rw [natOf_snoc, i4, h1]; omega

theorem number_app {u : Nat} {r : List UInt8} (hu : u ≤ 999999) (hr : ∀ c t, r = c :: t → isDig c = false) : number (Lib.decDigits u ++ r) = some (u, r) := by
  obtain ⟨h1, h2, h3, h4⟩ := dec_ok 5 u (by omega)
  obtain ⟨t1, t2⟩ := tw_app (p := isDig) (n := Lib.decDigits u) (r := r) h1 hr
  unfold number
  rw [t1, t2, if_neg (by omega), h4]

theorem dec_cons {u : Nat} (hu : u ≤ 999999) : ∃ c t, Lib.decDigits u = c :: t ∧ isDig c = true := by
  obtain ⟨h1, h2, h3, h4⟩ := dec_ok 5 u (by omega)
  cases hd : Lib.decDigits u with
  | nil => rw [hd] at h2; simp at h2
  | cons c t => exact ⟨c, t, rfl, h1 c (by rw [hd]; simp)⟩

theorem number_ok {s u : List UInt8} {n : Nat} (h : number s = some (n, u)) : n ≤ 999999 ∧ Step 1 s u := by
  unfold number at h
  split at h
  · cases h
  · rename_i hl
    obtain ⟨rfl, rfl⟩ := Prod.mk.inj (Option.some.inj h)
    refine ⟨?_, (step_dropWhile (fun c hc => (dig_facts c hc).2.2.1) s).less (by omega)⟩
    have hb : ∀ (l : List UInt8) (acc : Nat), (∀ c ∈ l, isDig c = true) → l.foldl (fun n c => n * 10 + (c.toNat - 48)) acc < (acc + 1) * 10 ^ l.length := by
      intro l
      induction l with
      | nil => intro acc _; simp
      | cons c r ih =>
        intro acc hc
        have hc1 : c.toNat ≤ 57 := by have := hc c (by simp); unfold isDig at this; simp at this; exact this.2
        have := ih (acc * 10 + (c.toNat - 48)) (fun d hd => hc d (by simp [hd]))
        rw [List.foldl_cons, List.length_cons, Nat.pow_succ]
        refine Nat.lt_of_lt_of_le this ?_
        have h2 : acc * 10 + (c.toNat - 48) + 1 ≤ (acc + 1) * 10 := by omega
        calc _ ≤ ((acc + 1) * 10) * 10 ^ r.length := Nat.mul_le_mul_right _ h2
          _ = _ := by rw [Nat.mul_assoc, Nat.mul_comm 10]
    have h1 := hb (s.takeWhile isDig) 0 (fun c hc => tw_in hc)
    have h2 : (0 + 1) * 10 ^ (s.takeWhile isDig).length ≤ 1000000 := by
      have := Nat.pow_le_pow_right (n := 10) (by omega) (show (s.takeWhile isDig).length ≤ 6 by omega)
      simpa using this
    unfold natOf
    omega

end L
end Go.Proofs.YtnmcgmbhkmfiaaaGreatDoor

namespace Go.Proofs.YtnmcgmbhkmfiaaaGreatDoor
namespace L
open T (sp low)
open U (V V_app V_cons V_cut V_nil V_low)

/- nth. -/
theorem nth_rest' {s : List UInt8} (h : ∀ c t, s = c :: t → low c ≠ 111 ∧ low c ≠ 101) : nth s = nthRest s := by
  have h1 : ¬ lower (s.take 3) = [111, 100, 100] := by
    cases s with
    | nil => intro hh; cases hh
    | cons c t => intro hh; exact (h c t rfl).1 (List.cons.inj hh).1
  have h2 : ¬ lower (s.take 4) = [101, 118, 101, 110] := by
    cases s with
    | nil => intro hh; cases hh
    | cons c t => intro hh; exact (h c t rfl).2 (List.cons.inj hh).1
  unfold nth; rw [if_neg h1, if_neg h2]

theorem itoa_cases (b : Int) : (0 ≤ b ∧ Lib.itoa b = Lib.decDigits b.toNat) ∨ (b < 0 ∧ Lib.itoa b = 45 :: Lib.decDigits b.natAbs) := by
  unfold Lib.itoa
  by_cases h : b < 0
  · right; exact ⟨h, by rw [if_pos h]⟩
  · left; exact ⟨by omega, by rw [if_neg h]⟩

theorem sign_dig {c : UInt8} {t : List UInt8} (h : isDig c = true) : sign (c :: t) = (1, false, c :: t) := by
  have h1 := (dig_facts c h).1
  have h2 := (dig_facts c h).2.1
  unfold sign
  split
  · rename_i r hh; exact absurd (List.cons.inj hh).1 h1
  · rename_i r hh; exact absurd (List.cons.inj hh).1 h2
  · rfl
theorem space_dig {c : UInt8} {t : List UInt8} (h : sp c = false) : space (c :: t) = c :: t := by
  unfold space; rw [List.dropWhile_cons_of_neg (by rw [h]; simp)]

theorem offset_behind {b : Int} {r : List UInt8} (h1 : -999999 ≤ b) (h2 : b ≤ 999999) : offset (behind b ++ 41 :: r) = some (b, 41 :: r) := by
  have hr : ∀ c t, (41 :: r) = c :: t → isDig c = false := fun c t h => by obtain ⟨rfl, _⟩ := List.cons.inj h; rfl
  unfold behind
  by_cases h0 : b = 0
  · subst h0
    rw [if_neg (by omega), if_pos rfl]
    rfl
  · rw [if_neg h0]
    rcases itoa_cases b with ⟨hb, e⟩ | ⟨hb, e⟩
    · rw [if_pos (by omega), e]
      have hu : b.toNat ≤ 999999 := by omega
      obtain ⟨c, t, hc, hd⟩ := dec_cons hu
      have hn := number_app (r := 41 :: r) hu hr
      rw [hc] at hn ⊢
      have e1 : ([43] ++ (c :: t)) ++ 41 :: r = 43 :: (c :: (t ++ 41 :: r)) := by simp
      have e2 : (c :: t) ++ 41 :: r = c :: (t ++ 41 :: r) := rfl
      rw [e2] at hn
      rw [e1]
      unfold offset
      rw [space_dig (by decide)]
      show (match number (space (c :: (t ++ 41 :: r))) with | none => none | some (n, u) => some ((1 : Int) * n, u)) = _
      rw [space_dig (dig_facts c hd).2.2.2.1, hn]
      show some ((1 : Int) * (b.toNat : Int), 41 :: r) = _
      have : (1 : Int) * (b.toNat : Int) = b := by omega
      rw [this]
    · rw [if_neg (by omega), e]
      have hu : b.natAbs ≤ 999999 := by omega
      obtain ⟨c, t, hc, hd⟩ := dec_cons hu
      have hn := number_app (r := 41 :: r) hu hr
      rw [hc] at hn ⊢
      have e1 : ([] ++ 45 :: (c :: t)) ++ 41 :: r = 45 :: (c :: (t ++ 41 :: r)) := by simp
      have e2 : (c :: t) ++ 41 :: r = c :: (t ++ 41 :: r) := rfl
      rw [e2] at hn
      rw [e1]
      unfold offset
      rw [space_dig (by decide)]
      show (match number (space (c :: (t ++ 41 :: r))) with | none => none | some (n, u) => some ((-1 : Int) * n, u)) = _
      rw [space_dig (dig_facts c hd).2.2.2.1, hn]
      show some ((-1 : Int) * (b.natAbs : Int), 41 :: r) = _
      have : (-1 : Int) * (b.natAbs : Int) = b := by omega
      rw [this]

theorem coef_dig {c : UInt8} {t : List UInt8} {n : Nat} {r : List UInt8} (h : isDig c = true) (hn : number (c :: t) = some (n, r)) : coef (c :: t) = some (n, true, r) := by
  unfold coef; dsimp only; rw [if_pos h, hn]
theorem tail_n' {g : Int} {n : Nat} {sm : Bool} {t u : List UInt8} {b : Int} (h : offset t = some (b, u)) : nthTail g n sm (110 :: t) = some (⟨9, [], [], g * n, b⟩, u) := by
  unfold nthTail; dsimp only; rw [if_pos (show isN 110 = true from rfl), h]

theorem nth_app {a b : Int} {r : List UInt8} (ha1 : -999999 ≤ a) (ha2 : a ≤ 999999) (hb1 : -999999 ≤ b) (hb2 : b ≤ 999999) : nth (stepOf a b ++ 41 :: r) = some (⟨9, [], [], a, b⟩, 41 :: r) := by
  have hr : ∀ c t, (41 :: r) = c :: t → isDig c = false := fun c t h => by obtain ⟨rfl, _⟩ := List.cons.inj h; rfl
  have hrn : ∀ (x : List UInt8) c t, (110 :: x) = c :: t → isDig c = false := fun x c t h => by obtain ⟨rfl, _⟩ := List.cons.inj h; rfl
  have hoff := offset_behind (r := r) hb1 hb2
  unfold stepOf
  by_cases h0 : a = 0
  · subst h0
    rw [if_pos rfl]
    rcases itoa_cases b with ⟨hb, e⟩ | ⟨hb, e⟩
    · have hu : b.toNat ≤ 999999 := by omega
      obtain ⟨c, t, hc, hd⟩ := dec_cons hu
      have hn := number_app (r := 41 :: r) hu hr
      rw [e, hc]
      rw [hc] at hn
      have e2 : (c :: t) ++ 41 :: r = c :: (t ++ 41 :: r) := rfl
      rw [e2] at hn ⊢
      rw [nth_rest' (fun d w h => by obtain ⟨rfl, _⟩ := List.cons.inj h; exact ⟨(dig_facts _ hd).2.2.2.2.1, (dig_facts _ hd).2.2.2.2.2.1⟩)]
      unfold nthRest
      rw [sign_dig hd]
      dsimp only
      rw [coef_dig hd hn]
      dsimp only
      show some ((⟨9, [], [], 0, (1 : Int) * (b.toNat : Int)⟩ : Tst), 41 :: r) = _
      have : (1 : Int) * (b.toNat : Int) = b := by omega
      rw [this]
    · have hu : b.natAbs ≤ 999999 := by omega
      obtain ⟨c, t, hc, hd⟩ := dec_cons hu
      have hn := number_app (r := 41 :: r) hu hr
      rw [e, hc]
      rw [hc] at hn
      have e2 : (c :: t) ++ 41 :: r = c :: (t ++ 41 :: r) := rfl
      rw [e2] at hn
      have e3 : (45 :: (c :: t)) ++ 41 :: r = 45 :: (c :: (t ++ 41 :: r)) := rfl
      rw [e3]
      rw [nth_rest' (fun d w h => by obtain ⟨rfl, _⟩ := List.cons.inj h; exact ⟨by decide, by decide⟩)]
      unfold nthRest
      show (match coef (c :: (t ++ 41 :: r)) with | none => none | some (n, some_, r) => nthTail (-1) n some_ r) = _
      rw [coef_dig hd hn]
      dsimp only
      show some ((⟨9, [], [], 0, (-1 : Int) * (b.natAbs : Int)⟩ : Tst), 41 :: r) = _
      have : (-1 : Int) * (b.natAbs : Int) = b := by omega
      rw [this]
  · rw [if_neg h0]
    unfold ahead
    by_cases h1 : a = 1
    · subst h1
      rw [if_pos rfl]
      have e : ([] ++ 110 :: behind b) ++ 41 :: r = 110 :: (behind b ++ 41 :: r) := by simp
      rw [e, nth_rest' (fun d w h => by obtain ⟨rfl, _⟩ := List.cons.inj h; exact ⟨by decide, by decide⟩)]
      unfold nthRest
      show nthTail 1 1 false (110 :: (behind b ++ 41 :: r)) = _
      rw [tail_n' hoff]; rfl
    · rw [if_neg h1]
      by_cases h2 : a = -1
      · subst h2
        rw [if_pos rfl]
        have e : ([45] ++ 110 :: behind b) ++ 41 :: r = 45 :: 110 :: (behind b ++ 41 :: r) := by simp
        rw [e, nth_rest' (fun d w h => by obtain ⟨rfl, _⟩ := List.cons.inj h; exact ⟨by decide, by decide⟩)]
        unfold nthRest
        show nthTail (-1) 1 false (110 :: (behind b ++ 41 :: r)) = _
        rw [tail_n' hoff]; rfl
      · rw [if_neg h2]
        rcases itoa_cases a with ⟨ha, e⟩ | ⟨ha, e⟩
        · have hu : a.toNat ≤ 999999 := by omega
          obtain ⟨c, t, hc, hd⟩ := dec_cons hu
          have hn := number_app (r := 110 :: (behind b ++ 41 :: r)) hu (hrn _)
          rw [e, hc]
          rw [hc] at hn
          have e2 : (c :: t) ++ 110 :: (behind b ++ 41 :: r) = c :: (t ++ 110 :: (behind b ++ 41 :: r)) := rfl
          rw [e2] at hn
          have e3 : ((c :: t) ++ 110 :: behind b) ++ 41 :: r = c :: (t ++ 110 :: (behind b ++ 41 :: r)) := by simp
          rw [e3, nth_rest' (fun d w h => by obtain ⟨rfl, _⟩ := List.cons.inj h; exact ⟨(dig_facts _ hd).2.2.2.2.1, (dig_facts _ hd).2.2.2.2.2.1⟩)]
          unfold nthRest
          rw [sign_dig hd]
          dsimp only
          rw [coef_dig hd hn]
          dsimp only
          rw [tail_n' hoff]
          have : (1 : Int) * (a.toNat : Int) = a := by omega
          rw [this]
        · have hu : a.natAbs ≤ 999999 := by omega
          obtain ⟨c, t, hc, hd⟩ := dec_cons hu
          have hn := number_app (r := 110 :: (behind b ++ 41 :: r)) hu (hrn _)
          rw [e, hc]
          rw [hc] at hn
          have e2 : (c :: t) ++ 110 :: (behind b ++ 41 :: r) = c :: (t ++ 110 :: (behind b ++ 41 :: r)) := rfl
          rw [e2] at hn
          have e3 : ((45 :: (c :: t)) ++ 110 :: behind b) ++ 41 :: r = 45 :: c :: (t ++ 110 :: (behind b ++ 41 :: r)) := by simp
          rw [e3, nth_rest' (fun d w h => by obtain ⟨rfl, _⟩ := List.cons.inj h; exact ⟨by decide, by decide⟩)]
          unfold nthRest
          show (match coef (c :: (t ++ 110 :: (behind b ++ 41 :: r))) with | none => none | some (n, some_, r) => nthTail (-1) n some_ r) = _
          rw [coef_dig hd hn]
          dsimp only
          rw [tail_n' hoff]
          have : (-1 : Int) * (a.natAbs : Int) = a := by omega
          rw [this]

end L
end Go.Proofs.YtnmcgmbhkmfiaaaGreatDoor

namespace Go.Proofs.YtnmcgmbhkmfiaaaGreatDoor
namespace L
open T (sp low)
open U (V V_app V_cons V_cut V_nil V_low)

/-- A test without tests of its own, as it may be read. -/
inductive W1 : Tst → Prop
  | id (k : Nat) (n : List UInt8) (hk : k = 1 ∨ k = 2) (h : Id n) : W1 ⟨k, n, [], 0, 0⟩
  | has (n : List UInt8) (h : LId n) : W1 ⟨3, n, [], 0, 0⟩
  | attr (k : Nat) (n v : List UInt8) (hk : k = 4 ∨ k = 5 ∨ k = 6) (h : LId n) (hv : Val v) : W1 ⟨k, n, v, 0, 0⟩
  | nth (a b : Int) (ha : -999999 ≤ a ∧ a ≤ 999999) (hb : -999999 ≤ b ∧ b ≤ 999999) : W1 ⟨9, [], [], a, b⟩
  | word (p : List UInt8 × Nat) (hp : p ∈ pseudos) : W1 (tst p.2 [])

def Ty (ty : List UInt8) : Prop := ty = [] ∨ LId ty

inductive WT : Test → Prop
  | one (t : Tst) (h : W1 t) : WT ⟨t, []⟩
  | not (ty : List UInt8) (l : List Tst) (h : Ty ty) (hl : ∀ u ∈ l, W1 u) : WT ⟨tst 14 ty, l⟩

/-- The names and values are valid texts. -/
def VT (t : Tst) : Prop := V t.name ∧ V t.value
def VTest (t : Test) : Prop := VT t.t ∧ ∀ u ∈ t.nots, VT u

/- nth, read. -/
theorem sign_step (s : List UInt8) : Step 0 s (sign s).2.2 ∧ ((sign s).1 = 1 ∨ (sign s).1 = -1) := by
  unfold sign
  split
  · exact ⟨(Step.one (by decide)).less (by omega), Or.inl rfl⟩
  · exact ⟨(Step.one (by decide)).less (by omega), Or.inr rfl⟩
  · exact ⟨Step.refl _, Or.inl rfl⟩

theorem coef_ok {s r : List UInt8} {n : Nat} {sm : Bool} (h : coef s = some (n, sm, r)) : n ≤ 999999 ∧ (if sm then Step 1 s r else Step 0 s r) := by
  unfold coef at h
  split at h
  · obtain ⟨rfl, h2⟩ := Prod.mk.inj (Option.some.inj h)
    obtain ⟨rfl, rfl⟩ := Prod.mk.inj h2
    exact ⟨by omega, Step.refl _⟩
  · split at h
    · split at h
      · cases h
      · rename_i n' r' hn
        obtain ⟨rfl, h2⟩ := Prod.mk.inj (Option.some.inj h)
        obtain ⟨rfl, rfl⟩ := Prod.mk.inj h2
        obtain ⟨h1, h2⟩ := number_ok hn
        exact ⟨h1, h2⟩
    · obtain ⟨rfl, h2⟩ := Prod.mk.inj (Option.some.inj h)
      obtain ⟨rfl, rfl⟩ := Prod.mk.inj h2
      exact ⟨by omega, Step.refl _⟩

theorem prod_bound {g : Int} {n : Nat} (hg : g = 1 ∨ g = -1) (hn : n ≤ 999999) : -999999 ≤ g * (n : Int) ∧ g * (n : Int) ≤ 999999 := by
  rcases hg with rfl | rfl <;> omega

theorem offset_ok {t u : List UInt8} {b : Int} (h : offset t = some (b, u)) : (-999999 ≤ b ∧ b ≤ 999999) ∧ Step 0 t u := by
  have hs := sign_step (space t)
  have hsp := space_step t
  unfold offset at h
  revert h
  generalize hq : sign (space t) = q at *
  obtain ⟨g, sm, r⟩ := q
  cases sm with
  | false =>
    intro h
    obtain ⟨rfl, rfl⟩ := Prod.mk.inj (Option.some.inj h)
    exact ⟨by omega, Step.refl _⟩
  | true =>
    intro h
    dsimp only at h
    cases hn : number (space r) with
    | none => rw [hn] at h; cases h
    | some q =>
      obtain ⟨n, y⟩ := q
      rw [hn] at h
      obtain ⟨rfl, rfl⟩ := Prod.mk.inj (Option.some.inj h)
      obtain ⟨h1, h2⟩ := number_ok hn
      exact ⟨prod_bound hs.2 h1, ((hsp.trans hs.1).trans ((space_step r).trans h2)).less (Nat.zero_le _)⟩

theorem isN_lt {c : UInt8} (h : isN c = true) : c.toNat < 128 := by
  unfold isN at h
  rw [Bool.or_eq_true] at h
  rcases h with h | h
  · rw [show c = 110 by simpa using h]; decide
  · rw [show c = 78 by simpa using h]; decide

theorem take_step {s : List UInt8} {n : Nat} {w : List UInt8} (hw : ∀ c ∈ w, 97 ≤ c.toNat ∧ c.toNat < 123) (hn : w.length = n) (h : lower (s.take n) = w) : Step n s (s.drop n) := by
  have hl : (s.take n).length = n := by
    have := congrArg List.length h
    rw [len_lower] at this; omega
  have hle : n ≤ s.length := by rw [List.length_take] at hl; omega
  refine ⟨by rw [List.length_drop]; omega, fun hv => ?_⟩
  have key : ∀ (a b : List UInt8), (∀ c ∈ a, c.toNat < 128) → V (a ++ b) → V b := by
    intro a
    induction a with
    | nil => intro b _ h; exact h
    | cons c t ih => intro b hc h; exact ih b (fun d hd => hc d (by simp [hd])) ((V_cons (hc c (by simp))).1 h)
  refine key (s.take n) (s.drop n) (fun c hc => ?_) (by rw [List.take_append_drop]; exact hv)
  have hm : low c ∈ w := by rw [← h]; unfold lower; exact List.mem_map_of_mem hc
  have := hw _ hm
  rcases U.low_class c with e | e <;> omega

theorem nth_ok {s u : List UInt8} {t : Tst} (h : nth s = some (t, u)) : W1 t ∧ VT t ∧ Step 1 s u := by
  unfold nth at h
  split at h
  · rename_i h3
    obtain ⟨rfl, rfl⟩ := Prod.mk.inj (Option.some.inj h)
    exact ⟨.nth 2 1 (by omega) (by omega), ⟨V_nil, V_nil⟩, (take_step (n := 3) (w := [111, 100, 100]) (by decide) rfl h3).less (by omega)⟩
  · split at h
    · rename_i h4
      obtain ⟨rfl, rfl⟩ := Prod.mk.inj (Option.some.inj h)
      exact ⟨.nth 2 0 (by omega) (by omega), ⟨V_nil, V_nil⟩, (take_step (n := 4) (w := [101, 118, 101, 110]) (by decide) rfl h4).less (by omega)⟩
    · have hs := sign_step s
      unfold nthRest at h
      cases hc : coef (sign s).2.2 with
      | none => rw [hc] at h; cases h
      | some q =>
        obtain ⟨n, sm, r⟩ := q
        rw [hc] at h
        dsimp only at h
        obtain ⟨hn, hst⟩ := coef_ok hc
        have hb := prod_bound hs.2 hn
        unfold nthTail at h
        split at h
        · split at h
          · rename_i hsm
            obtain ⟨rfl, rfl⟩ := Prod.mk.inj (Option.some.inj h)
            rw [if_pos hsm] at hst
            exact ⟨.nth 0 _ (by omega) hb, ⟨V_nil, V_nil⟩, (hs.1.trans hst).less (by omega)⟩
          · cases h
        · rename_i c t
          split at h
          · rename_i hN
            cases ho : offset t with
            | none => rw [ho] at h; cases h
            | some q =>
              obtain ⟨b, y⟩ := q
              rw [ho] at h
              obtain ⟨rfl, rfl⟩ := Prod.mk.inj (Option.some.inj h)
              obtain ⟨hb2, hst2⟩ := offset_ok ho
              have hst0 : Step 0 (sign s).2.2 (c :: t) := by
                cases sm
                · simpa using hst
                · exact (by simpa using hst : Step 1 _ _).less (by omega)
              exact ⟨.nth _ b hb hb2, ⟨V_nil, V_nil⟩, (hs.1.trans (hst0.trans ((Step.one (isN_lt hN)).trans hst2))).less (by omega)⟩
          · split at h
            · rename_i hsm
              obtain ⟨rfl, rfl⟩ := Prod.mk.inj (Option.some.inj h)
              rw [if_pos hsm] at hst
              exact ⟨.nth 0 _ (by omega) hb, ⟨V_nil, V_nil⟩, (hs.1.trans hst).less (by omega)⟩
            · cases h

/- Attributes, read. -/
theorem op_ok {r u : List UInt8} {k : Nat} (h : op r = some (k, u)) : (k = 4 ∨ k = 5 ∨ k = 6) ∧ Step 1 r u := by
  have key : ∀ p : List UInt8, (∀ c ∈ p, c.toNat < 128) → p.isPrefixOf r = true → Step p.length r (r.drop p.length) := fun p hp hh => need_step hp (by unfold need; rw [if_pos hh])
  unfold op at h
  split at h
  · rename_i hh
    obtain ⟨rfl, rfl⟩ := Prod.mk.inj (Option.some.inj h)
    exact ⟨Or.inl rfl, key [61] (by decide) hh⟩
  · split at h
    · rename_i hh
      obtain ⟨rfl, rfl⟩ := Prod.mk.inj (Option.some.inj h)
      exact ⟨Or.inr (Or.inl rfl), (key [126, 61] (by decide) hh).less (by simp)⟩
    · split at h
      · rename_i hh
        obtain ⟨rfl, rfl⟩ := Prod.mk.inj (Option.some.inj h)
        exact ⟨Or.inr (Or.inr rfl), (key [94, 61] (by decide) hh).less (by simp)⟩
      · cases h

theorem attr_ok {s u : List UInt8} {t : Tst} (h : attr s = some (t, u)) : W1 t ∧ (V s → VT t) ∧ Step (t.name.length + t.value.length + 1) s u := by
  unfold attr at h
  cases hi : ident (space s) with
  | none => rw [hi] at h; cases h
  | some q =>
    obtain ⟨n, r⟩ := q
    rw [hi] at h
    dsimp only at h
    obtain ⟨i1, i2, i3, _⟩ := ident_ok hi
    have hs1 := (space_step s).trans i3
    unfold attrEnd at h
    cases ho : op (space r) with
    | none =>
      rw [ho] at h
      dsimp only at h
      cases hn : need [93] (space r) with
      | none => rw [hn] at h; cases h
      | some y =>
        rw [hn] at h
        obtain ⟨rfl, rfl⟩ := Prod.mk.inj (Option.some.inj h)
        have hs2 := (hs1.trans (space_step r)).trans (need_step (by decide) hn)
        refine ⟨.has _ i1.lower, fun hv => ⟨V_lower (i2 ((space_step s).val hv)), V_nil⟩, hs2.less ?_⟩
        rw [len_lower]; simp
    | some q =>
      obtain ⟨k, x⟩ := q
      rw [ho] at h
      dsimp only at h
      obtain ⟨hk, ho2⟩ := op_ok ho
      unfold attrRest at h
      cases hv : value (space x) with
      | none => rw [hv] at h; cases h
      | some q =>
        obtain ⟨v, y⟩ := q
        rw [hv] at h
        dsimp only at h
        obtain ⟨v1, v2, v3⟩ := value_ok hv
        cases hn : need [93] (space y) with
        | none => rw [hn] at h; cases h
        | some z =>
          rw [hn] at h
          obtain ⟨rfl, rfl⟩ := Prod.mk.inj (Option.some.inj h)
          have hs2 := (hs1.trans (space_step r)).trans ho2
          have hs3 := hs2.trans (space_step x)
          have hs4 := (hs3.trans v3).trans ((space_step y).trans (need_step (by decide) hn))
          refine ⟨.attr _ _ _ hk i1.lower v1, fun hV => ⟨V_lower (i2 ((space_step s).val hV)), v2 (hs3.val hV)⟩, hs4.less ?_⟩
          rw [len_lower]; simp

end L
end Go.Proofs.YtnmcgmbhkmfiaaaGreatDoor

namespace Go.Proofs.YtnmcgmbhkmfiaaaGreatDoor
namespace L
open T (sp low)
open U (V V_app V_cons V_cut V_nil V_low)

abbrev NP := Option (List UInt8 → Option ((List UInt8 × List Tst) × List UInt8))

/-- What the reader of the argument of a 'not' keeps to. -/
def NpOk (np : NP) : Prop := ∀ f, np = some f → ∀ s ty ts r, f s = some ((ty, ts), r) →
  Ty ty ∧ (∀ u ∈ ts, W1 u) ∧ (V s → V ty ∧ ∀ u ∈ ts, VT u) ∧ ∃ c, Step c s r ∧ (fpart ty (ts.map ftst)).length ≤ 3 * c

theorem dec_len {u : Nat} (h : u ≤ 999999) : (Lib.decDigits u).length ≤ 6 := (dec_ok 5 u (by omega)).2.2.1
theorem itoa_len {b : Int} (h1 : -999999 ≤ b) (h2 : b ≤ 999999) : (Lib.itoa b).length ≤ 7 := by
  rcases itoa_cases b with ⟨hb, e⟩ | ⟨hb, e⟩
  · rw [e]; have := dec_len (u := b.toNat) (by omega); omega
  · rw [e, List.length_cons]; have := dec_len (u := b.natAbs) (by omega); omega
theorem step_len {a b : Int} (ha : -999999 ≤ a ∧ a ≤ 999999) (hb : -999999 ≤ b ∧ b ≤ 999999) : (stepOf a b).length ≤ 16 := by
  have h1 := itoa_len ha.1 ha.2
  have h2 := itoa_len hb.1 hb.2
  have h3 : (ahead a).length ≤ 7 := by
    unfold ahead
    split
    · simp
    · split
      · simp
      · exact h1
  have h4 : (behind b).length ≤ 8 := by
    unfold behind
    rw [List.length_append]
    have : (if 0 < b then ([43] : List UInt8) else []).length ≤ 1 := by split <;> simp
    have : (if b = 0 then ([] : List UInt8) else Lib.itoa b).length ≤ 7 := by split; simp; exact h2
    omega
  unfold stepOf
  split
  · omega
  · rw [List.length_append, List.length_cons]; omega
theorem quoted_len (v : List UInt8) : (quoted v).length = v.length + 2 := by unfold quoted; split <;> simp

theorem ftest_attr {k : Nat} {n v : List UInt8} (hk : k = 4 ∨ k = 5 ∨ k = 6) (fs : List (List UInt8)) : (ftest ⟨k, n, v, 0, 0⟩ fs).length ≤ n.length + v.length + 6 := by
  have hq := quoted_len v
  rcases hk with rfl | rfl | rfl
  all_goals
    simp [ftest, hq]
    try omega

theorem word_kind {p : List UInt8 × Nat} (hp : p ∈ pseudos) (fs : List (List UInt8)) : ftest (tst p.2 []) fs = 58 :: p.1 := by
  simp only [pseudos, List.mem_cons, List.not_mem_nil, or_false] at hp
  rcases hp with rfl | rfl | rfl | rfl | rfl | rfl <;> rfl

theorem nth_kind {s r : List UInt8} {t : Tst} (h : t.kind ≠ 9) : ¬ nth s = some (t, r) := by
  intro hn
  apply h
  unfold nth at hn
  split at hn
  · obtain ⟨rfl, _⟩ := Prod.mk.inj (Option.some.inj hn); rfl
  · split at hn
    · obtain ⟨rfl, _⟩ := Prod.mk.inj (Option.some.inj hn); rfl
    · unfold nthRest at hn
      cases hc : coef (sign s).2.2 with
      | none => rw [hc] at hn; cases hn
      | some q =>
        obtain ⟨n, sm, r'⟩ := q
        rw [hc] at hn
        dsimp only at hn
        unfold nthTail at hn
        split at hn
        · split at hn
          · obtain ⟨rfl, _⟩ := Prod.mk.inj (Option.some.inj hn); rfl
          · cases hn
        · split at hn
          · split at hn
            · cases hn
            · obtain ⟨rfl, _⟩ := Prod.mk.inj (Option.some.inj hn); rfl
          · split at hn
            · obtain ⟨rfl, _⟩ := Prod.mk.inj (Option.some.inj hn); rfl
            · cases hn

theorem attr_kinds {s r : List UInt8} {t : Tst} (h : attr s = some (t, r)) : t.kind = 3 ∨ t.kind = 4 ∨ t.kind = 5 ∨ t.kind = 6 := by
  unfold attr at h
  split at h
  · cases h
  · unfold attrEnd at h
    split at h
    · split at h
      · cases h
      · obtain ⟨rfl, _⟩ := Prod.mk.inj (Option.some.inj h); exact Or.inl rfl
    · rename_i k u ho
      have hk := (op_ok ho).1
      unfold attrRest at h
      split at h
      · cases h
      · split at h
        · cases h
        · obtain ⟨rfl, _⟩ := Prod.mk.inj (Option.some.inj h); exact Or.inr hk
theorem attr_kind {s r : List UInt8} {t : Tst} (h : t.kind = 9) : ¬ attr s = some (t, r) := fun hn => by have := attr_kinds hn; omega
theorem attr_kind2 {s r : List UInt8} {p : List UInt8 × Nat} (hp : p ∈ pseudos) : ¬ attr s = some (tst p.2 [], r) := fun hn => by
  have := attr_kinds hn
  simp only [pseudos, List.mem_cons, List.not_mem_nil, or_false] at hp
  rcases hp with rfl | rfl | rfl | rfl | rfl | rfl <;> exact absurd this (by decide)

end L
end Go.Proofs.YtnmcgmbhkmfiaaaGreatDoor

namespace Go.Proofs.YtnmcgmbhkmfiaaaGreatDoor
namespace L
open T (sp low)
open U (V V_app V_cons V_cut V_nil V_low)

/-- What a reading of a test leaves. -/
structure OneOk (np : NP) (s : List UInt8) (t : Test) (r : List UInt8) : Prop where
  wt : WT t
  flat : np = none → t.nots = [] ∧ W1 t.t
  val : V s → VTest t
  step : ∃ c, Step c s r ∧ 1 ≤ c ∧ (fTest t).length ≤ 3 * c

theorem OneOk.simple {np : NP} {s r : List UInt8} {t : Tst} (h : W1 t) (hv : V s → VT t) (c : Nat) (hs : Step c s r) (h1 : 1 ≤ c) (hl : (ftst t).length ≤ 3 * c) : OneOk np s ⟨t, []⟩ r :=
  ⟨.one t h, fun _ => ⟨rfl, h⟩, fun hV => ⟨hv hV, fun u hu => (by cases hu)⟩, c, hs, h1, hl⟩

theorem find_mem {n : List UInt8} {p : List UInt8 × Nat} (h : pseudos.find? (fun p => p.1 == n) = some p) : p ∈ pseudos ∧ p.1 = n := by
  refine ⟨List.mem_of_find?_eq_some h, ?_⟩
  have := List.find?_some h
  simpa using this

theorem pseudo_ok {np : NP} (hnp : NpOk np) {s r : List UInt8} {t : Test} (h : pseudo np s = some (t, r)) : OneOk np (58 :: s) t r := by
  have h58 : Step 1 (58 :: s) s := Step.one (by decide)
  unfold pseudo at h
  cases hi : ident s with
  | none => rw [hi] at h; cases h
  | some q =>
    obtain ⟨n, u⟩ := q
    rw [hi] at h
    dsimp only at h
    obtain ⟨i1, i2, i3, i4⟩ := ident_ok hi
    have hs := h58.trans i3
    cases hf : pseudos.find? (fun p => p.1 == lower n) with
    | some p =>
      rw [hf] at h
      obtain ⟨rfl, rfl⟩ := Prod.mk.inj (Option.some.inj h)
      obtain ⟨hp, hpn⟩ := find_mem hf
      refine OneOk.simple (.word p hp) (fun _ => ⟨V_nil, V_nil⟩) _ hs (by omega) ?_
      have e : ftst (tst p.2 []) = 58 :: p.1 := word_kind hp []
      rw [e, List.length_cons, hpn, len_lower]; omega
    | none =>
      rw [hf] at h
      dsimp only at h
      split at h
      · rename_i hn
        have hnl : n.length = 9 := by have := congrArg List.length hn; rw [len_lower] at this; exact this
        cases hd : need [40] u with
        | none => rw [hd] at h; cases h
        | some x =>
          rw [hd] at h
          dsimp only at h
          cases ht : nth (space x) with
          | none => rw [ht] at h; cases h
          | some q =>
            obtain ⟨t', y⟩ := q
            rw [ht] at h
            dsimp only at h
            cases hd2 : need [41] (space y) with
            | none => rw [hd2] at h; cases h
            | some z =>
              rw [hd2] at h
              obtain ⟨rfl, rfl⟩ := Prod.mk.inj (Option.some.inj h)
              obtain ⟨n1, n2, n3⟩ := nth_ok ht
              have hs2 := ((hs.trans (need_step (by decide) hd)).trans (space_step x)).trans n3
              have hs3 := hs2.trans ((space_step y).trans (need_step (by decide) hd2))
              refine OneOk.simple n1 (fun _ => n2) 13 (hs3.less (by simp; omega)) (by omega) ?_
              cases n1 with
              | nth a b ha hb =>
                have := step_len ha hb
                show (nthHead ++ (stepOf a b ++ [41])).length ≤ _
                rw [List.length_append, List.length_append]
                show 11 + (_ + 1) ≤ _
                omega
              | id k nm hk hid => exact absurd ht (nth_kind (by dsimp only; omega))
              | has nm hid => exact absurd ht (nth_kind (by dsimp only; omega))
              | attr k nm v hk hid hv => exact absurd ht (nth_kind (by dsimp only; omega))
              | word p hp => exact absurd ht (nth_kind (by simp only [pseudos, List.mem_cons, List.not_mem_nil, or_false] at hp; rcases hp with rfl | rfl | rfl | rfl | rfl | rfl <;> decide))
      · split at h
        · rename_i hn0 hn
          have hnl : n.length = 3 := by have := congrArg List.length hn; rw [len_lower] at this; exact this
          cases np with
          | none => cases h
          | some f =>
            cases hd : need [40] u with
            | none => rw [hd] at h; cases h
            | some x =>
              rw [hd] at h
              dsimp only at h
              cases hfx : f (space x) with
              | none => rw [hfx] at h; cases h
              | some q =>
                obtain ⟨⟨ty, ts⟩, y⟩ := q
                rw [hfx] at h
                dsimp only at h
                cases hd2 : need [41] (space y) with
                | none => rw [hd2] at h; cases h
                | some z =>
                  rw [hd2] at h
                  obtain ⟨rfl, rfl⟩ := Prod.mk.inj (Option.some.inj h)
                  obtain ⟨f1, f2, f3, c, f4, f5⟩ := hnp f rfl _ _ _ _ hfx
                  have hs1 := (hs.trans (need_step (by decide) hd)).trans (space_step x)
                  have hs2 := hs1.trans f4
                  have hs3 := hs2.trans ((space_step y).trans (need_step (by decide) hd2))
                  refine ⟨.not ty ts f1 f2, fun h0 => (by cases h0), fun hV => ?_, c + 6, hs3.less (by simp; omega), by omega, ?_⟩
                  · have hv := f3 (hs1.val hV)
                    exact ⟨⟨hv.1, V_nil⟩, hv.2⟩
                  · show (notHead ++ (fpart ty (ts.map ftst) ++ [41])).length ≤ _
                    rw [List.length_append, List.length_append]
                    show 5 + (_ + 1) ≤ _
                    omega
        · cases h

theorem one_ok {np : NP} (hnp : NpOk np) {s r : List UInt8} {t : Test} (h : one np s = some (some (t, r))) : OneOk np s t r := by
  cases s with
  | nil => cases h
  | cons c s =>
    by_cases h35 : c = 35
    · subst h35
      rw [one_35] at h
      have h := Option.some.inj h
      cases hi : ident s with
      | none => rw [hi] at h; cases h
      | some q =>
        obtain ⟨n, u⟩ := q
        rw [hi] at h
        obtain ⟨rfl, rfl⟩ := Prod.mk.inj (Option.some.inj h)
        obtain ⟨i1, i2, i3, i4⟩ := ident_ok hi
        refine OneOk.simple (.id 1 n (Or.inl rfl) i1) (fun hV => ⟨i2 ((Step.one (c := 35) (by decide)).val hV), V_nil⟩) _ ((Step.one (by decide)).trans i3) (by omega) ?_
        show (35 :: n).length ≤ _
        rw [List.length_cons]; omega
    · by_cases h46 : c = 46
      · subst h46
        rw [one_46] at h
        have h := Option.some.inj h
        cases hi : ident s with
        | none => rw [hi] at h; cases h
        | some q =>
          obtain ⟨n, u⟩ := q
          rw [hi] at h
          obtain ⟨rfl, rfl⟩ := Prod.mk.inj (Option.some.inj h)
          obtain ⟨i1, i2, i3, i4⟩ := ident_ok hi
          refine OneOk.simple (.id 2 n (Or.inr rfl) i1) (fun hV => ⟨i2 ((Step.one (c := 46) (by decide)).val hV), V_nil⟩) _ ((Step.one (by decide)).trans i3) (by omega) ?_
          show (46 :: n).length ≤ _
          rw [List.length_cons]; omega
      · by_cases h91 : c = 91
        · subst h91
          rw [one_91] at h
          have h := Option.some.inj h
          cases ha : attr s with
          | none => rw [ha] at h; cases h
          | some q =>
            obtain ⟨t', u⟩ := q
            rw [ha] at h
            obtain ⟨rfl, rfl⟩ := Prod.mk.inj (Option.some.inj h)
            obtain ⟨a1, a2, a3⟩ := attr_ok ha
            refine OneOk.simple a1 (fun hV => a2 ((Step.one (c := 91) (by decide)).val hV)) _ ((Step.one (by decide)).trans a3) (by omega) ?_
            cases a1 with
            | id k nm hk hid => rcases hk with rfl | rfl <;> (show (_ :: nm).length ≤ _; rw [List.length_cons]; dsimp only; omega)
            | has nm hid => show (91 :: (nm ++ [93])).length ≤ _; rw [List.length_cons, List.length_append]; dsimp only; simp; omega
            | attr k nm v hk hid hv => have := ftest_attr (n := nm) (v := v) hk []; show (ftest _ []).length ≤ _; dsimp only; omega
            | nth a b ha' hb => exact absurd ha (attr_kind rfl)
            | word p hp => exact absurd ha (attr_kind2 hp)
        · by_cases h58 : c = 58
          · subst h58
            rw [one_58] at h
            exact pseudo_ok hnp (Option.some.inj h)
          · have : one np (c :: s) = none := one_none (fun r h => h35 (List.cons.inj h).1) (fun r h => h46 (List.cons.inj h).1) (fun r h => h91 (List.cons.inj h).1) (fun r h => h58 (List.cons.inj h).1)
            rw [this] at h; cases h

end L
end Go.Proofs.YtnmcgmbhkmfiaaaGreatDoor

namespace Go.Proofs.YtnmcgmbhkmfiaaaGreatDoor
namespace L
open T (sp low)
open U (V V_app V_cons V_cut V_nil V_low)

theorem tests_ok {np : NP} (hnp : NpOk np) : ∀ (n : Nat) {s r : List UInt8} {l : List Test}, tests np n s = some (l, r) →
    (∀ t ∈ l, WT t ∧ (np = none → t.nots = [] ∧ W1 t.t)) ∧ (V s → ∀ t ∈ l, VTest t) ∧ ∃ c, Step c s r ∧ ((l.map fTest).flatten).length ≤ 3 * c ∧ l.length ≤ c
  | 0, s, r, l, h => by
    obtain ⟨rfl, rfl⟩ := Prod.mk.inj (Option.some.inj h)
    exact ⟨fun t ht => (by cases ht), fun _ t ht => (by cases ht), 0, Step.refl _, by simp, by simp⟩
  | n + 1, s, r, l, h => by
    unfold tests at h
    cases ho : one np s with
    | none =>
      rw [ho] at h
      obtain ⟨rfl, rfl⟩ := Prod.mk.inj (Option.some.inj h)
      exact ⟨fun t ht => (by cases ht), fun _ t ht => (by cases ht), 0, Step.refl _, by simp, by simp⟩
    | some o =>
      rw [ho] at h
      cases o with
      | none => cases h
      | some q =>
        obtain ⟨t, u⟩ := q
        dsimp only at h
        cases ht : tests np n u with
        | none => rw [ht] at h; cases h
        | some q =>
          obtain ⟨l', x⟩ := q
          rw [ht] at h
          obtain ⟨rfl, rfl⟩ := Prod.mk.inj (Option.some.inj h)
          have h1 := one_ok hnp ho
          obtain ⟨h2, h3, c, h4, h5, h6⟩ := tests_ok hnp n ht
          obtain ⟨d, k1, k2, k3⟩ := h1.step
          refine ⟨fun t' ht' => ?_, fun hV t' ht' => ?_, d + c, k1.trans h4, ?_, by rw [List.length_cons]; omega⟩
          · rcases List.mem_cons.1 ht' with rfl | ht'
            · exact ⟨h1.wt, h1.flat⟩
            · exact h2 t' ht'
          · rcases List.mem_cons.1 ht' with rfl | ht'
            · exact h1.val hV
            · exact h3 (k1.val hV) t' ht'
          · rw [List.map_cons, List.flatten_cons, List.length_append]; omega

theorem headOf_ok (s : List UInt8) : Ty (headOf s).1 ∧ (V s → V (headOf s).1) ∧ ∃ c, Step c s (headOf s).2.1 ∧ (headOf s).1.length ≤ c ∧ ((headOf s).2.2 = true → 1 ≤ c) ∧ ((headOf s).2.2 = false → (headOf s).1 = []) := by
  unfold headOf
  split
  · exact ⟨Or.inl rfl, fun _ => V_nil, 1, Step.one (by decide), by simp, fun _ => Nat.le_refl _, fun h => (by cases h)⟩
  · cases hi : ident s with
    | none => exact ⟨Or.inl rfl, fun _ => V_nil, 0, Step.refl _, by simp, fun h => (by cases h), fun _ => rfl⟩
    | some q =>
      obtain ⟨n, u⟩ := q
      obtain ⟨i1, i2, i3, i4⟩ := ident_ok hi
      exact ⟨Or.inr i1.lower, fun hV => V_lower (i2 hV), n.length, i3, by show (lower n).length ≤ _; rw [len_lower]; exact Nat.le_refl _, fun _ => i4, fun h => (by cases h)⟩

theorem fpart_len (ty : List UInt8) (fs : List (List UInt8)) (c : Nat) (h : ty.length + fs.flatten.length ≤ 3 * c) (h1 : 1 ≤ c) : (fpart ty fs).length ≤ 3 * c := by
  unfold fpart
  split
  · show 1 ≤ _; omega
  · rw [List.length_append]; omega

theorem part_ok {np : NP} (hnp : NpOk np) {s r : List UInt8} {ty : List UInt8} {l : List Test} (h : part np s = some ((ty, l), r)) :
    Ty ty ∧ (∀ t ∈ l, WT t ∧ (np = none → t.nots = [] ∧ W1 t.t)) ∧ (V s → V ty ∧ ∀ t ∈ l, VTest t) ∧ ∃ c, Step c s r ∧ 1 ≤ c ∧ (fTests ty l).length ≤ 3 * c := by
  rw [part_eq] at h
  obtain ⟨h1, h2, c, h3, h4, h5, h6⟩ := headOf_ok s
  generalize headOf s = q at *
  obtain ⟨ty', s', hb⟩ := q
  dsimp only at *
  cases ht : tests np (s'.length + 1) s' with
  | none => rw [ht] at h; cases h
  | some q =>
    obtain ⟨l', u⟩ := q
    rw [ht] at h
    dsimp only at h
    split at h
    · rename_i hc
      have h := Option.some.inj h
      obtain ⟨hx, rfl⟩ := Prod.mk.inj h
      obtain ⟨rfl, rfl⟩ := Prod.mk.inj hx
      obtain ⟨k1, k2, d, k3, k4, k5⟩ := tests_ok hnp _ ht
      have h1c : 1 ≤ c + d := by
        cases hb with
        | true => have := h5 rfl; omega
        | false =>
          cases l' with
          | nil => simp at hc
          | cons x y => simp at k5; omega
      exact ⟨h1, k1, fun hV => ⟨h2 hV, k2 (h3.val hV)⟩, c + d, h3.trans k3, h1c, fpart_len _ _ _ (by omega) h1c⟩
    · cases h

theorem np_none : NpOk none := fun f h => (by cases h)
theorem np_inner : NpOk (some inner) := by
  intro f hf s ty ts r h
  obtain rfl := Option.some.inj hf
  unfold inner at h
  cases hp : part none s with
  | none => rw [hp] at h; cases h
  | some q =>
    obtain ⟨⟨n, l⟩, u⟩ := q
    rw [hp] at h
    have h := Option.some.inj h
    obtain ⟨hx, rfl⟩ := Prod.mk.inj h
    obtain ⟨rfl, rfl⟩ := Prod.mk.inj hx
    obtain ⟨h1, h2, h3, c, h4, h5, h6⟩ := part_ok np_none hp
    refine ⟨h1, fun u hu => ?_, fun hV => ⟨(h3 hV).1, fun u hu => ?_⟩, c, h4, ?_⟩
    · obtain ⟨t, ht, rfl⟩ := List.mem_map.1 hu
      exact ((h2 t ht).2 rfl).2
    · obtain ⟨t, ht, rfl⟩ := List.mem_map.1 hu
      exact ((h3 hV).2 t ht).1
    · have e : (l.map (·.t)).map ftst = l.map fTest := by
        rw [List.map_map]
        refine List.map_congr_left fun t ht => ?_
        have := ((h2 t ht).2 rfl).1
        show ftest t.t [] = ftest t.t (t.nots.map ftst)
        rw [this]; rfl
      rw [e]; exact h6

/-- A part, as it may be read; the combinator apart. -/
structure WP (p : Part) : Prop where
  ty : Ty p.type
  tests : ∀ t ∈ p.tests, WT t
def VP (p : Part) : Prop := V p.type ∧ ∀ t ∈ p.tests, VTest t

theorem outer_ok {s r : List UInt8} {ty : List UInt8} {l : List Test} (h : outer s = some ((ty, l), r)) (j : Nat) :
    WP ⟨j, ty, l⟩ ∧ (V s → VP ⟨j, ty, l⟩) ∧ ∃ c, Step c s r ∧ 1 ≤ c ∧ (fPart ⟨j, ty, l⟩).length ≤ 3 * c := by
  obtain ⟨h1, h2, h3, c, h4, h5, h6⟩ := part_ok np_inner h
  exact ⟨⟨h1, fun t ht => (h2 t ht).1⟩, h3, c, h4, h5, h6⟩

theorem join_ok {s r : List UInt8} {j : Nat} (h : join s = some (some (j, r))) : 1 ≤ j ∧ j ≤ 4 ∧ Step 1 s r := by
  have hsp := space_step s
  cases hs : space s with
  | nil => rw [join_nil hs] at h; cases h
  | cons c u =>
    by_cases h44 : c = 44
    · rw [join_comma (u := u) (by rw [hs, h44])] at h; cases h
    · by_cases hj : 0 < jx c
      · rw [join_mark hs hj] at h
        obtain ⟨rfl, rfl⟩ := Prod.mk.inj (Option.some.inj (Option.some.inj h))
        have hr := K.jx_range c
        rw [hs] at hsp
        have hlt : c.toNat < 128 := by
          unfold jx at hj
          by_cases h1 : c = 32
          · rw [if_pos h1] at hj; omega
          · rw [if_neg h1] at hj
            by_cases h2 : c = 62
            · subst h2; decide
            · rw [if_neg h2] at hj
              by_cases h3 : c = 43
              · subst h3; decide
              · rw [if_neg h3] at hj
                by_cases h4 : c = 126
                · subst h4; decide
                · rw [if_neg h4] at hj; omega
        exact ⟨by omega, by omega, ((hsp.trans (Step.one hlt)).trans (space_step u)).less (by omega)⟩
      · rw [join_other hs hj h44] at h
        split at h
        · rename_i hl
          obtain ⟨rfl, rfl⟩ := Prod.mk.inj (Option.some.inj (Option.some.inj h))
          exact ⟨by omega, by omega, ⟨by omega, hsp.val⟩⟩
        · cases h

/-- The parts behind the first. -/
def WTail (l : List Part) : Prop := ∀ p ∈ l, WP p ∧ 1 ≤ p.join ∧ p.join ≤ 4
theorem fjoin_len (j : Nat) : (fjoin j).length ≤ 3 := by unfold fjoin; (repeat' split) <;> simp

theorem parts_ok : ∀ (n : Nat) {s r : List UInt8} {l : List Part}, parts n s = some (l, r) → WTail l ∧ (V s → ∀ p ∈ l, VP p) ∧ ∃ c, Step c s r ∧ (fSel l).length ≤ 3 * c
  | 0, s, r, l, h => by cases h
  | n + 1, s, r, l, h => by
    unfold parts at h
    cases hj : join s with
    | none => rw [hj] at h; cases h
    | some o =>
      rw [hj] at h
      cases o with
      | none =>
        obtain ⟨rfl, rfl⟩ := Prod.mk.inj (Option.some.inj h)
        exact ⟨fun p hp => (by cases hp), fun _ p hp => (by cases hp), 0, space_step s, by simp [fSel]⟩
      | some q =>
        obtain ⟨j, x⟩ := q
        dsimp only at h
        cases ho : outer x with
        | none => rw [ho] at h; cases h
        | some q =>
          obtain ⟨⟨ty, ts⟩, u⟩ := q
          rw [ho] at h
          dsimp only at h
          cases hp : parts n u with
          | none => rw [hp] at h; cases h
          | some q =>
            obtain ⟨l', y⟩ := q
            rw [hp] at h
            obtain ⟨rfl, rfl⟩ := Prod.mk.inj (Option.some.inj h)
            obtain ⟨j1, j2, j3⟩ := join_ok hj
            obtain ⟨o1, o2, c, o3, o4, o5⟩ := outer_ok ho j
            obtain ⟨p1, p2, d, p3, p4⟩ := parts_ok n hp
            refine ⟨fun p hp => ?_, fun hV p hp => ?_, 1 + c + d, (j3.trans o3).trans p3, ?_⟩
            · rcases List.mem_cons.1 hp with rfl | hp
              · exact ⟨o1, j1, j2⟩
              · exact p1 p hp
            · rcases List.mem_cons.1 hp with rfl | hp
              · exact o2 (j3.val hV)
              · exact p2 ((j3.trans o3).val hV) p hp
            · show ((fjoin j ++ fPart ⟨j, ty, ts⟩) ++ fSel l').length ≤ _
              have := fjoin_len j
              rw [List.length_append, List.length_append]; omega

/-- A selector, as it may be read. -/
def WS (ps : List Part) : Prop := ∃ p r, ps = p :: r ∧ p.join = 0 ∧ WP p ∧ WTail r

theorem selector_ok {s r : List UInt8} {ps : List Part} (h : selector s = some (ps, r)) : WS ps ∧ (V s → ∀ p ∈ ps, VP p) ∧ ∃ c, Step c s r ∧ 1 ≤ c ∧ (fSel ps).length ≤ 3 * c := by
  unfold selector at h
  cases ho : outer s with
  | none => rw [ho] at h; cases h
  | some q =>
    obtain ⟨⟨ty, ts⟩, u⟩ := q
    rw [ho] at h
    dsimp only at h
    cases hp : parts (u.length + 1) u with
    | none => rw [hp] at h; cases h
    | some q =>
      obtain ⟨l', y⟩ := q
      rw [hp] at h
      obtain ⟨rfl, rfl⟩ := Prod.mk.inj (Option.some.inj h)
      obtain ⟨o1, o2, c, o3, o4, o5⟩ := outer_ok ho 0
      obtain ⟨p1, p2, d, p3, p4⟩ := parts_ok _ hp
      refine ⟨⟨_, _, rfl, rfl, o1, p1⟩, fun hV p hp => ?_, c + d, o3.trans p3, by omega, ?_⟩
      · rcases List.mem_cons.1 hp with rfl | hp
        · exact o2 hV
        · exact p2 (o3.val hV) p hp
      · show ((fjoin 0 ++ fPart ⟨0, ty, ts⟩) ++ fSel l').length ≤ _
        have : (fjoin 0).length = 0 := rfl
        rw [List.length_append, List.length_append]; omega

theorem list_ok : ∀ (n : Nat) {s : List UInt8} {l : List (List Part)}, list n s = some l → l ≠ [] ∧ (∀ ps ∈ l, WS ps) ∧ (V s → ∀ ps ∈ l, ∀ p ∈ ps, VP p) ∧ (fList l).length ≤ 3 * s.length ∧ l.length ≤ s.length
  | 0, s, l, h => by cases h
  | n + 1, s, l, h => by
    cases hs : selector (space s) with
    | none => rw [list_fall hs] at h; cases h
    | some q =>
      obtain ⟨x, u⟩ := q
      obtain ⟨s1, s2, c, s3, s4, s5⟩ := selector_ok hs
      have hst := (space_step s).trans s3
      have hl1 := hst.len
      cases hu : space u with
      | nil =>
        rw [list_end hs hu] at h
        obtain rfl := Option.some.inj h
        refine ⟨by simp, fun ps hp => ?_, fun hV ps hp => ?_, ?_, by show 1 ≤ _; omega⟩
        · rw [List.mem_singleton.1 hp]; exact s1
        · rw [List.mem_singleton.1 hp]; exact s2 ((space_step s).val hV)
        · show (fSel x).length ≤ _; omega
      | cons d r =>
        by_cases h44 : d = 44
        · subst h44
          rw [list_more hs hu] at h
          cases hl : list n r with
          | none => rw [hl] at h; cases h
          | some l' =>
            rw [hl] at h
            obtain rfl := Option.some.inj h
            obtain ⟨i1, i2, i3, i4, i5⟩ := list_ok n hl
            have hst2 : Step (0 + c + (0 + 1)) s r := hst.trans (((space_step u).trans (by rw [hu]; exact Step.one (by decide))))
            have hl2 := hst2.len
            refine ⟨by simp, fun ps hp => ?_, fun hV ps hp => ?_, ?_, by rw [List.length_cons]; omega⟩
            · rcases List.mem_cons.1 hp with rfl | hp
              · exact s1
              · exact i2 ps hp
            · rcases List.mem_cons.1 hp with rfl | hp
              · exact s2 ((space_step s).val hV)
              · exact i3 (hst2.val hV) ps hp
            · obtain ⟨y, r', rfl⟩ : ∃ y r', l' = y :: r' := by cases l' with
                | nil => exact absurd rfl i1
                | cons y r' => exact ⟨y, r', rfl⟩
              show (fSel x ++ (44 :: 32 :: fList (y :: r'))).length ≤ _
              rw [List.length_append, List.length_cons, List.length_cons]; omega
        · rw [list_other hs hu h44] at h; cases h

end L
end Go.Proofs.YtnmcgmbhkmfiaaaGreatDoor

namespace Go.Proofs.YtnmcgmbhkmfiaaaGreatDoor
namespace L
open T (sp low)
open U (V V_app V_cons V_cut V_nil V_low)

def End (r : List UInt8) : Prop := ∀ c u, r = c :: u → c = 32 ∨ c = 44 ∨ c = 41
theorem End.stop {r : List UInt8} (h : End r) : Stop r := fun c u hc => by rcases h c u hc with rfl | rfl | rfl <;> rfl
theorem stop_cons {c : UInt8} {u : List UInt8} (h : inName c = false) : Stop (c :: u) := fun d w hd => by obtain ⟨rfl, _⟩ := List.cons.inj hd; exact h
theorem End.one {np : NP} {r : List UInt8} (h : End r) : one np r = none := by
  refine one_none ?_ ?_ ?_ ?_ <;> (rintro u rfl; rcases h _ _ rfl with h | h | h <;> exact absurd h (by decide))

theorem need_cons {c : UInt8} {r : List UInt8} : need [c] (c :: r) = some r := by
  unfold need
  rw [if_pos (by simp [List.isPrefixOf])]; rfl

theorem Id.space {n : List UInt8} (h : Id n) (r : List UInt8) : space (n ++ r) = n ++ r := by
  obtain ⟨c, t, rfl, hc⟩ := h.cons
  refine space_dig (c := c) (t := t ++ r) ?_
  rcases hc with hc | rfl
  · have := first_facts c hc; exact this.2.2.2.2.2.2.2.2.2.2.2.2
  · decide

theorem quoted_space (v r : List UInt8) : space (quoted v ++ r) = quoted v ++ r := by
  unfold quoted
  split
  · exact space_dig (c := 39) (t := (v ++ [39]) ++ r) (by decide)
  · exact space_dig (c := 34) (t := (v ++ [34]) ++ r) (by decide)

theorem attr_has {n r : List UInt8} (h : LId n) : attr (n ++ 93 :: r) = some (⟨3, n, [], 0, 0⟩, r) := by
  unfold attr
  rw [h.1.space, ident_app h.1 (stop_cons (by decide))]
  dsimp only
  unfold attrEnd
  rw [space_dig (by decide)]
  have ho : op (93 :: r) = none := by simp [op, List.isPrefixOf]
  rw [ho]
  dsimp only
  rw [need_cons, h.2]

theorem attr_val {n v r : List UInt8} {k : Nat} {p : List UInt8} (h : LId n) (hv : Val v) (hp : op (p ++ (quoted v ++ 93 :: r)) = some (k, quoted v ++ 93 :: r)) (hst : Stop (p ++ (quoted v ++ 93 :: r))) (hsp : space (p ++ (quoted v ++ 93 :: r)) = p ++ (quoted v ++ 93 :: r)) :
    attr (n ++ (p ++ (quoted v ++ 93 :: r))) = some (⟨k, n, v, 0, 0⟩, r) := by
  unfold attr
  rw [h.1.space, ident_app h.1 hst]
  dsimp only
  unfold attrEnd
  rw [hsp, hp]
  dsimp only
  unfold attrRest
  rw [quoted_space, value_app hv]
  dsimp only
  rw [space_dig (by decide), need_cons, h.2]

theorem step_space {a b : Int} (ha : -999999 ≤ a ∧ a ≤ 999999) (hb : -999999 ≤ b ∧ b ≤ 999999) (r : List UInt8) : space (stepOf a b ++ r) = stepOf a b ++ r := by
  have hit : ∀ (z : Int) (x : List UInt8), -999999 ≤ z → z ≤ 999999 → space (Lib.itoa z ++ x) = Lib.itoa z ++ x := by
    intro z x h1 h2
    rcases itoa_cases z with ⟨hz, e⟩ | ⟨hz, e⟩
    · obtain ⟨c, t, hc, hd⟩ := dec_cons (u := z.toNat) (by omega)
      rw [e, hc]
      exact space_dig (c := c) (t := t ++ x) (dig_facts c hd).2.2.2.1
    · rw [e]
      exact space_dig (c := 45) (t := Lib.decDigits z.natAbs ++ x) (by decide)
  unfold stepOf
  split
  · exact hit b r hb.1 hb.2
  · unfold ahead
    split
    · exact space_dig (c := 110) (t := behind b ++ r) (by decide)
    · split
      · exact space_dig (c := 45) (t := (110 :: behind b) ++ r) (by decide)
      · rw [List.append_assoc]; exact hit a _ ha.1 ha.2

theorem word_find {p : List UInt8 × Nat} (hp : p ∈ pseudos) : pseudos.find? (fun q => q.1 == lower p.1) = some p ∧ Id p.1 := by
  simp only [pseudos, List.mem_cons, List.not_mem_nil, or_false] at hp
  rcases hp with rfl | rfl | rfl | rfl | rfl | rfl
  all_goals exact ⟨by decide, by decide, by decide⟩

theorem one_app1 {np : NP} {t : Tst} {r : List UInt8} (h : W1 t) (hr : Stop r) : one np (ftst t ++ r) = some (some (⟨t, []⟩, r)) := by
  cases h with
  | id k n hk hid =>
    rcases hk with rfl | rfl
    · show one np (35 :: (n ++ r)) = _
      rw [one_35, ident_app hid hr]; rfl
    · show one np (46 :: (n ++ r)) = _
      rw [one_46, ident_app hid hr]; rfl
  | has n hid =>
    have e : ftst ⟨3, n, [], 0, 0⟩ ++ r = 91 :: (n ++ 93 :: r) := by show (91 :: (n ++ [93])) ++ r = _; simp
    rw [e, one_91, attr_has hid]
  | attr k n v hk hid hv =>
    rcases hk with rfl | rfl | rfl
    · have e : ftst ⟨4, n, v, 0, 0⟩ ++ r = 91 :: (n ++ ([61] ++ (quoted v ++ 93 :: r))) := by show (91 :: (n ++ (61 :: (quoted v ++ [93])))) ++ r = _; simp
      rw [e, one_91, attr_val hid hv (k := 4) (by simp [op, List.isPrefixOf]) (stop_cons (by decide)) (space_dig (by decide))]
    · have e : ftst ⟨5, n, v, 0, 0⟩ ++ r = 91 :: (n ++ ([126, 61] ++ (quoted v ++ 93 :: r))) := by show (91 :: (n ++ (126 :: 61 :: (quoted v ++ [93])))) ++ r = _; simp
      rw [e, one_91, attr_val hid hv (k := 5) (by simp [op, List.isPrefixOf]) (stop_cons (by decide)) (space_dig (by decide))]
    · have e : ftst ⟨6, n, v, 0, 0⟩ ++ r = 91 :: (n ++ ([94, 61] ++ (quoted v ++ 93 :: r))) := by show (91 :: (n ++ (94 :: 61 :: (quoted v ++ [93])))) ++ r = _; simp
      rw [e, one_91, attr_val hid hv (k := 6) (by simp [op, List.isPrefixOf]) (stop_cons (by decide)) (space_dig (by decide))]
  | nth a b ha hb =>
    have e : ftst ⟨9, [], [], a, b⟩ ++ r = 58 :: (nthChild ++ 40 :: (stepOf a b ++ 41 :: r)) := by
      show (nthHead ++ (stepOf a b ++ [41])) ++ r = _
      have : nthHead = 58 :: (nthChild ++ [40]) := by decide
      rw [this]; simp
    have hid : ident (nthChild ++ 40 :: (stepOf a b ++ 41 :: r)) = some (nthChild, 40 :: (stepOf a b ++ 41 :: r)) := ident_app ⟨by decide, by decide⟩ (stop_cons (by decide))
    rw [e, one_58, pseudo_nth hid (by decide), need_cons]
    dsimp only
    rw [step_space ha hb, nth_app ha.1 ha.2 hb.1 hb.2]
    dsimp only
    rw [space_dig (by decide), need_cons]
  | word p hp =>
    have e : ftst (tst p.2 []) ++ r = 58 :: (p.1 ++ r) := by
      show ftest (tst p.2 []) [] ++ r = _
      rw [word_kind hp]; rfl
    obtain ⟨h1, h2⟩ := word_find hp
    rw [e, one_58, pseudo_word (ident_app h2 hr) h1]

/-- The texts of tests begin with a mark. -/
def Mark (c : UInt8) : Prop := c = 35 ∨ c = 46 ∨ c = 91 ∨ c = 58
theorem W1.head {t : Tst} (h : W1 t) (fs : List (List UInt8)) : ∃ c u, ftest t fs = c :: u ∧ Mark c := by
  cases h with
  | id k n hk hid => rcases hk with rfl | rfl; exact ⟨_, _, rfl, Or.inl rfl⟩; exact ⟨_, _, rfl, Or.inr (Or.inl rfl)⟩
  | has n hid => exact ⟨_, _, rfl, Or.inr (Or.inr (Or.inl rfl))⟩
  | attr k n v hk hid hv => rcases hk with rfl | rfl | rfl <;> exact ⟨_, _, rfl, Or.inr (Or.inr (Or.inl rfl))⟩
  | nth a b ha hb => exact ⟨_, _, rfl, Or.inr (Or.inr (Or.inr rfl))⟩
  | word p hp => exact ⟨_, _, word_kind hp fs, Or.inr (Or.inr (Or.inr rfl))⟩
theorem WT.head {t : Test} (h : WT t) : ∃ c u, fTest t = c :: u ∧ Mark c := by
  cases h with
  | one t h => exact h.head []
  | not ty l h hl => exact ⟨_, _, rfl, Or.inr (Or.inr (Or.inr rfl))⟩
theorem Mark.stop {c : UInt8} (h : Mark c) : inName c = false := by rcases h with rfl | rfl | rfl | rfl <;> rfl

theorem tests_app {np : NP} : ∀ (l : List Test) (n : Nat) (r : List UInt8), (∀ t ∈ l, (∃ c u, fTest t = c :: u ∧ Mark c) ∧ ∀ r, Stop r → one np (fTest t ++ r) = some (some (t, r))) → End r → l.length ≤ n → tests np n ((l.map fTest).flatten ++ r) = some (l, r)
  | [], n, r, h, hr, hn => by
    show tests np n r = _
    cases n with
    | zero => rfl
    | succ n => unfold tests; rw [hr.one]
  | t :: l, n, r, h, hr, hn => by
    obtain ⟨m, rfl⟩ : ∃ m, n = m + 1 := ⟨n - 1, by simp at hn; omega⟩
    have e : ((t :: l).map fTest).flatten ++ r = fTest t ++ ((l.map fTest).flatten ++ r) := by simp
    have hstop : Stop ((l.map fTest).flatten ++ r) := by
      cases l with
      | nil => exact hr.stop
      | cons t2 l2 =>
        obtain ⟨⟨c, u, hc, hm⟩, _⟩ := h t2 (by simp)
        rw [List.map_cons, List.flatten_cons, hc]
        exact stop_cons hm.stop
    rw [e]
    unfold tests
    rw [(h t (by simp)).2 _ hstop]
    dsimp only
    rw [tests_app l m r (fun t' ht' => h t' (by simp [ht'])) hr (by simpa using hn)]

theorem ident_mark {c : UInt8} {u : List UInt8} (h : Mark c) : ident (c :: u) = none ∧ c ≠ 42 := by
  rcases h with rfl | rfl | rfl | rfl <;> exact ⟨rfl, by decide⟩

theorem tests_len {l : List Test} (h : ∀ t ∈ l, ∃ c u, fTest t = c :: u ∧ Mark c) : l.length ≤ ((l.map fTest).flatten).length := by
  induction l with
  | nil => simp
  | cons t l ih =>
    obtain ⟨c, u, hc, _⟩ := h t (by simp)
    have := ih (fun t' ht' => h t' (by simp [ht']))
    rw [List.map_cons, List.flatten_cons, List.length_append, hc, List.length_cons, List.length_cons]; omega

theorem part_app {np : NP} {ty : List UInt8} {l : List Test} {r : List UInt8} (hty : Ty ty) (h : ∀ t ∈ l, (∃ c u, fTest t = c :: u ∧ Mark c) ∧ ∀ r, Stop r → one np (fTest t ++ r) = some (some (t, r))) (hr : End r) :
    part np (fTests ty l ++ r) = some ((ty, l), r) := by
  have hlen := tests_len (fun t ht => (h t ht).1)
  rw [part_eq]
  unfold fTests fpart
  by_cases h0 : ty = [] ∧ l.map fTest = []
  · rw [if_pos h0]
    obtain ⟨rfl, h1⟩ := h0
    obtain rfl : l = [] := by simpa using h1
    show (match tests np ((headOf (42 :: r)).2.1.length + 1) (headOf (42 :: r)).2.1 with | none => none | some (l, u) => if (headOf (42 :: r)).2.2 || !l.isEmpty then some (((headOf (42 :: r)).1, l), u) else none) = _
    rw [headOf_star]
    dsimp only
    have := tests_app (np := np) [] (r.length + 1) r (fun t ht => (by cases ht)) hr (Nat.zero_le _)
    rw [show tests np (r.length + 1) r = some ([], r) from this]
    rfl
  · rw [if_neg h0, List.append_assoc]
    have htests : ∀ k, l.length ≤ k → tests np k ((l.map fTest).flatten ++ r) = some (l, r) := fun k hk => tests_app l k r h hr hk
    have hstop : Stop ((l.map fTest).flatten ++ r) := by
      cases l with
      | nil => exact hr.stop
      | cons t2 l2 =>
        obtain ⟨⟨c, u, hc, hm⟩, _⟩ := h t2 (by simp)
        rw [List.map_cons, List.flatten_cons, hc]
        exact stop_cons hm.stop
    rcases hty with rfl | hty
    · cases l with
      | nil => exact absurd ⟨rfl, rfl⟩ h0
      | cons t2 l2 =>
        obtain ⟨⟨c, u, hc, hm⟩, _⟩ := h t2 (by simp)
        obtain ⟨hi, h42⟩ := ident_mark (u := u ++ ((l2.map fTest).flatten ++ r)) hm
        have e : (([] : List UInt8) ++ (((t2 :: l2).map fTest).flatten ++ r)) = c :: (u ++ ((l2.map fTest).flatten ++ r)) := by rw [List.map_cons, List.flatten_cons, hc]; simp
        have hh : headOf (c :: (u ++ ((l2.map fTest).flatten ++ r))) = ([], c :: (u ++ ((l2.map fTest).flatten ++ r)), false) := headOf_none (fun r h => h42 (List.cons.inj h).1) hi
        have ht := htests ((c :: (u ++ ((l2.map fTest).flatten ++ r))).length + 1) (by
          have e2 : (((t2 :: l2).map fTest).flatten ++ r) = c :: (u ++ ((l2.map fTest).flatten ++ r)) := e
          rw [← e2, List.length_append]; omega)
        have e2 : (((t2 :: l2).map fTest).flatten ++ r) = c :: (u ++ ((l2.map fTest).flatten ++ r)) := e
        rw [e2] at ht
        rw [e, hh]
        dsimp only
        rw [ht]
        rfl
    · have hi := ident_app hty.1 hstop
      obtain ⟨c, u, hcu, hf⟩ := hty.1.cons
      have h42 : ∀ x, ty ++ ((l.map fTest).flatten ++ r) ≠ 42 :: x := by
        intro x hx
        rw [hcu] at hx
        obtain ⟨rfl, _⟩ := List.cons.inj hx
        rcases hf with hf | hf <;> exact absurd hf (by decide)
      rw [headOf_name h42 hi]
      dsimp only
      rw [htests _ (by rw [List.length_append]; omega), hty.2]
      rfl

theorem ftst_eq (u : Tst) : fTest ⟨u, []⟩ = ftst u := rfl

theorem inner_app {ty : List UInt8} {l : List Tst} {r : List UInt8} (hty : Ty ty) (hl : ∀ u ∈ l, W1 u) : inner (fpart ty (l.map ftst) ++ 41 :: r) = some ((ty, l), 41 :: r) := by
  have e : fTests ty (l.map (fun u => (⟨u, []⟩ : Test))) = fpart ty (l.map ftst) := by unfold fTests; rw [List.map_map]; rfl
  have := part_app (np := none) (ty := ty) (l := l.map (fun u => (⟨u, []⟩ : Test))) (r := 41 :: r) hty (fun t ht => by
    obtain ⟨u, hu, rfl⟩ := List.mem_map.1 ht
    exact ⟨(hl u hu).head [], fun r hr => one_app1 (hl u hu) hr⟩) (fun c u h => by obtain ⟨rfl, _⟩ := List.cons.inj h; simp)
  rw [e] at this
  unfold inner
  rw [this]
  dsimp only
  rw [List.map_map]
  have : l.map ((fun t : Test => t.t) ∘ fun u => (⟨u, []⟩ : Test)) = l := by
    have : ((fun t : Test => t.t) ∘ fun u => (⟨u, []⟩ : Test)) = id := rfl
    rw [this, List.map_id]
  rw [this]

/-- What a part's text may begin with. -/
def Good (c : UInt8) : Prop := sp c = false ∧ c ≠ 44 ∧ c ≠ 62 ∧ c ≠ 43 ∧ c ≠ 126
theorem Mark.good {c : UInt8} (h : Mark c) : Good c := by rcases h with rfl | rfl | rfl | rfl <;> exact ⟨by decide, by decide, by decide, by decide, by decide⟩
theorem fpart_head {ty : List UInt8} {fs : List (List UInt8)} (hty : Ty ty) (h : ∀ f ∈ fs, ∃ c u, f = c :: u ∧ Mark c) : ∃ c u, fpart ty fs = c :: u ∧ Good c := by
  unfold fpart
  split
  · exact ⟨42, [], rfl, by decide, by decide, by decide, by decide, by decide⟩
  · rename_i h0
    rcases hty with rfl | hty
    · cases fs with
      | nil => exact absurd ⟨rfl, rfl⟩ h0
      | cons f fs =>
        obtain ⟨c, u, rfl, hm⟩ := h f (by simp)
        exact ⟨c, u ++ fs.flatten, by simp, hm.good⟩
    · obtain ⟨c, u, rfl, hf⟩ := hty.1.cons
      refine ⟨c, u ++ fs.flatten, by simp, ?_⟩
      rcases hf with hf | rfl
      · obtain ⟨_, h2, h3, h4, h5, _, _, _, _, _, _, _, h6⟩ := first_facts c hf
        exact ⟨h6, h2, h3, h4, h5⟩
      · exact ⟨by decide, by decide, by decide, by decide, by decide⟩

theorem one_app {t : Test} {r : List UInt8} (h : WT t) (hr : Stop r) : one (some inner) (fTest t ++ r) = some (some (t, r)) := by
  cases h with
  | one t h => exact one_app1 h hr
  | not ty l hty hl =>
    have e : fTest ⟨tst 14 ty, l⟩ ++ r = 58 :: (not_ ++ 40 :: (fpart ty (l.map ftst) ++ 41 :: r)) := by
      show (notHead ++ (fpart ty (l.map ftst) ++ [41])) ++ r = _
      have : notHead = 58 :: (not_ ++ [40]) := by decide
      rw [this]; simp
    have hid : ident (not_ ++ 40 :: (fpart ty (l.map ftst) ++ 41 :: r)) = some (not_, 40 :: (fpart ty (l.map ftst) ++ 41 :: r)) := ident_app ⟨by decide, by decide⟩ (stop_cons (by decide))
    obtain ⟨c, u, hc, hg⟩ := fpart_head (fs := l.map ftst) hty (fun f hf => by
      obtain ⟨x, hx, rfl⟩ := List.mem_map.1 hf
      exact (hl x hx).head [])
    have hsp : space (fpart ty (l.map ftst) ++ 41 :: r) = fpart ty (l.map ftst) ++ 41 :: r := by
      rw [hc]; exact space_dig (c := c) (t := u ++ 41 :: r) hg.1
    rw [e, one_58, pseudo_not hid (by decide), need_cons]
    dsimp only
    rw [hsp, inner_app hty hl]
    dsimp only
    rw [space_dig (by decide), need_cons]

theorem outer_app {p : Part} {r : List UInt8} (h : WP p) (hr : End r) : outer (fPart p ++ r) = some ((p.type, p.tests), r) :=
  part_app h.ty (fun t ht => ⟨(h.tests t ht).head, fun r hr => one_app (h.tests t ht) hr⟩) hr
theorem WP.head {p : Part} (h : WP p) : ∃ c u, fPart p = c :: u ∧ Good c :=
  fpart_head h.ty (fun f hf => by
    obtain ⟨t, ht, rfl⟩ := List.mem_map.1 hf
    exact (h.tests t ht).head)

theorem join_app {j : Nat} {c : UInt8} {u : List UInt8} (h1 : 1 ≤ j) (h4 : j ≤ 4) (hg : Good c) : join (fjoin j ++ c :: u) = some (some (j, c :: u)) := by
  obtain ⟨g1, g2, g3, g4, g5⟩ := hg
  have hs : space (c :: u) = c :: u := space_dig g1
  have hs32 : ∀ x : List UInt8, space (32 :: x) = space x := fun x => by unfold space; rw [List.dropWhile_cons_of_pos (by decide)]
  rcases (by omega : j = 1 ∨ j = 2 ∨ j = 3 ∨ j = 4) with rfl | rfl | rfl | rfl
  · have e : space (32 :: c :: u) = c :: u := by rw [hs32, hs]
    show join (32 :: c :: u) = _
    by_cases h32 : c = 32
    · subst h32; exact absurd g1 (by decide)
    · have hj : ¬ 0 < jx c := by
        unfold jx
        rw [if_neg h32, if_neg g3, if_neg g4, if_neg g5]; omega
      rw [join_other e hj g2, if_pos (by rw [e]; simp), e]
  · show join (32 :: 62 :: 32 :: c :: u) = _
    have e : space (32 :: 62 :: 32 :: c :: u) = 62 :: 32 :: c :: u := by rw [hs32]; exact space_dig (by decide)
    rw [join_mark e (by decide), hs32, hs]; rfl
  · show join (32 :: 43 :: 32 :: c :: u) = _
    have e : space (32 :: 43 :: 32 :: c :: u) = 43 :: 32 :: c :: u := by rw [hs32]; exact space_dig (by decide)
    rw [join_mark e (by decide), hs32, hs]; rfl
  · show join (32 :: 126 :: 32 :: c :: u) = _
    have e : space (32 :: 126 :: 32 :: c :: u) = 126 :: 32 :: c :: u := by rw [hs32]; exact space_dig (by decide)
    rw [join_mark e (by decide), hs32, hs]; rfl

theorem tail_end {l : List Part} (hl : WTail l) {r : List UInt8} (hr : r = [] ∨ ∃ u, r = 44 :: u) : End (fSel l ++ r) := by
  cases l with
  | nil =>
    intro c u hc
    rcases hr with rfl | ⟨x, rfl⟩
    · cases hc
    · have hc : 44 :: x = c :: u := hc
      obtain ⟨rfl, _⟩ := List.cons.inj hc; simp
  | cons p l =>
    obtain ⟨_, h1, h4⟩ := hl p (by simp)
    intro c u hc
    left
    have e : fSel (p :: l) ++ r = fjoin p.join ++ (fPart p ++ fSel l ++ r) := by show ((fjoin p.join ++ fPart p) ++ fSel l) ++ r = _; simp
    rw [e] at hc
    rcases (by omega : p.join = 1 ∨ p.join = 2 ∨ p.join = 3 ∨ p.join = 4) with h | h | h | h
    all_goals
      rw [h] at hc
      exact (List.cons.inj hc).1.symm

theorem parts_app : ∀ (l : List Part) (n : Nat) (r : List UInt8), WTail l → (r = [] ∨ ∃ u, r = 44 :: u) → l.length < n → parts n (fSel l ++ r) = some (l, r)
  | [], n, r, hl, hr, hn => by
    obtain ⟨m, rfl⟩ : ∃ m, n = m + 1 := ⟨n - 1, by omega⟩
    show parts (m + 1) r = _
    unfold parts
    rcases hr with rfl | ⟨u, rfl⟩
    · rfl
    · have e : space (44 :: u) = 44 :: u := space_dig (by decide)
      rw [join_comma e]
      dsimp only
      rw [e]
  | p :: l, n, r, hl, hr, hn => by
    obtain ⟨m, rfl⟩ : ∃ m, n = m + 1 := ⟨n - 1, by omega⟩
    obtain ⟨hp, h1, h4⟩ := hl p (by simp)
    have hl' : WTail l := fun q hq => hl q (by simp [hq])
    have e : fSel (p :: l) ++ r = fjoin p.join ++ (fPart p ++ (fSel l ++ r)) := by show ((fjoin p.join ++ fPart p) ++ fSel l) ++ r = _; simp
    obtain ⟨c, u, hc, hg⟩ := hp.head
    have hj := join_app (u := u ++ (fSel l ++ r)) h1 h4 hg
    have e2 : c :: (u ++ (fSel l ++ r)) = fPart p ++ (fSel l ++ r) := by rw [hc]; rfl
    rw [e2] at hj
    rw [e]
    unfold parts
    rw [hj]
    dsimp only
    rw [outer_app hp (tail_end hl' hr)]
    dsimp only
    rw [parts_app l m r hl' hr (by simpa using hn)]

theorem tail_len {l : List Part} (hl : WTail l) : l.length ≤ (fSel l).length := by
  induction l with
  | nil => simp
  | cons p l ih =>
    obtain ⟨hp, _⟩ := hl p (by simp)
    obtain ⟨c, u, hc, _⟩ := hp.head
    have := ih (fun q hq => hl q (by simp [hq]))
    show _ ≤ ((fjoin p.join ++ fPart p) ++ fSel l).length
    rw [List.length_append, List.length_append, hc, List.length_cons, List.length_cons]; omega

theorem selector_app {ps : List Part} {r : List UInt8} (h : WS ps) (hr : r = [] ∨ ∃ u, r = 44 :: u) : selector (fSel ps ++ r) = some (ps, r) := by
  obtain ⟨p, l, rfl, hj, hp, hl⟩ := h
  have e : fSel (p :: l) ++ r = fPart p ++ (fSel l ++ r) := by show ((fjoin p.join ++ fPart p) ++ fSel l) ++ r = _; rw [hj]; simp [fjoin]
  rw [e]
  unfold selector
  rw [outer_app hp (tail_end hl hr)]
  dsimp only
  rw [parts_app l _ r hl hr (by have := tail_len hl; rw [List.length_append]; omega)]
  obtain ⟨j, ty, ts⟩ := p
  obtain rfl : j = 0 := hj
  rfl

theorem sel_head {ps : List Part} (h : WS ps) : ∃ c u, fSel ps = c :: u ∧ Good c := by
  obtain ⟨p, l, rfl, hj, hp, hl⟩ := h
  obtain ⟨c, u, hc, hg⟩ := hp.head
  refine ⟨c, u ++ fSel l, ?_, hg⟩
  show (fjoin p.join ++ fPart p) ++ fSel l = _
  rw [hj, hc]; simp [fjoin]

theorem list_app : ∀ (l : List (List Part)) (n : Nat) (pre : List UInt8), (pre = [] ∨ pre = [32]) → l ≠ [] → (∀ ps ∈ l, WS ps) → l.length ≤ n → list n (pre ++ fList l) = some l
  | [], n, pre, hpre, hl, h, hn => absurd rfl hl
  | [x], n, pre, hpre, hl, h, hn => by
    obtain ⟨m, rfl⟩ : ∃ m, n = m + 1 := ⟨n - 1, by simp at hn; omega⟩
    have hx := h x (by simp)
    obtain ⟨c, u, hc, hg⟩ := sel_head hx
    have hsp : space (pre ++ fList [x]) = fSel x ++ [] := by
      show space (pre ++ fSel x) = _
      rw [hc]
      have hs : space (c :: u) = c :: u := space_dig hg.1
      rcases hpre with rfl | rfl
      · simpa using hs
      · have : space ([32] ++ c :: u) = space (c :: u) := by unfold space; show (32 :: c :: u).dropWhile sp = _; rw [List.dropWhile_cons_of_pos (by decide)]
        rw [this, hs]; simp
    refine list_end (x := x) (u := []) ?_ rfl
    rw [hsp]
    exact selector_app hx (Or.inl rfl)
  | x :: y :: r, n, pre, hpre, hl, h, hn => by
    obtain ⟨m, rfl⟩ : ∃ m, n = m + 1 := ⟨n - 1, by simp at hn; omega⟩
    have hx := h x (by simp)
    obtain ⟨c, u, hc, hg⟩ := sel_head hx
    have hsp : space (pre ++ fList (x :: y :: r)) = fSel x ++ (44 :: 32 :: fList (y :: r)) := by
      show space (pre ++ (fSel x ++ (44 :: 32 :: fList (y :: r)))) = _
      rw [hc]
      have hs : space (c :: (u ++ (44 :: 32 :: fList (y :: r)))) = c :: (u ++ (44 :: 32 :: fList (y :: r))) := space_dig hg.1
      rcases hpre with rfl | rfl
      · exact hs
      · have : space ([32] ++ (c :: u ++ (44 :: 32 :: fList (y :: r)))) = space (c :: (u ++ (44 :: 32 :: fList (y :: r)))) := by unfold space; show (32 :: (c :: u ++ (44 :: 32 :: fList (y :: r)))).dropWhile sp = _; rw [List.dropWhile_cons_of_pos (by decide)]; rfl
        rw [this, hs]; rfl
    have hsel : selector (space (pre ++ fList (x :: y :: r))) = some (x, 44 :: 32 :: fList (y :: r)) := by
      rw [hsp]; exact selector_app hx (Or.inr ⟨_, rfl⟩)
    rw [list_more hsel (r := 32 :: fList (y :: r)) (space_dig (by decide))]
    have ih := list_app (y :: r) m [32] (Or.inr rfl) (by simp) (fun ps hp => h ps (by simp at hp ⊢; exact Or.inr hp)) (by simpa using hn)
    rw [show (32 :: fList (y :: r)) = [32] ++ fList (y :: r) from rfl, ih]
    rfl

end L
end Go.Proofs.YtnmcgmbhkmfiaaaGreatDoor

namespace Go.Proofs.YtnmcgmbhkmfiaaaGreatDoor
namespace L
open T (sp low)
open U (V V_app V_cons V_cut V_nil V_low)

theorem V_ascii {l : List UInt8} (h : ∀ c ∈ l, c.toNat < 128) : V l := by
  induction l with
  | nil => exact V_nil
  | cons c t ih => exact (V_cons (h c (by simp))).2 (ih (fun d hd => h d (by simp [hd])))
theorem V_c {c : UInt8} {l : List UInt8} (h : V l) (hc : c.toNat < 128 := by decide) : V (c :: l) := (V_cons hc).2 h
theorem V_quoted {v : List UInt8} (h : V v) : V (quoted v) := by
  unfold quoted
  split
  · exact V_c (V_app h (V_ascii (by decide)))
  · exact V_c (V_app h (V_ascii (by decide)))
theorem itoa_ascii {z : Int} (h1 : -999999 ≤ z) (h2 : z ≤ 999999) : ∀ c ∈ Lib.itoa z, c.toNat < 128 := by
  intro c hc
  rcases itoa_cases z with ⟨hz, e⟩ | ⟨hz, e⟩
  · rw [e] at hc
    exact (dig_facts c ((dec_ok 5 z.toNat (by omega)).1 c hc)).2.2.1
  · rw [e] at hc
    rcases List.mem_cons.1 hc with rfl | hc
    · decide
    · exact (dig_facts c ((dec_ok 5 z.natAbs (by omega)).1 c hc)).2.2.1
theorem V_step {a b : Int} (ha : -999999 ≤ a ∧ a ≤ 999999) (hb : -999999 ≤ b ∧ b ≤ 999999) : V (stepOf a b) := by
  have h1 := V_ascii (itoa_ascii ha.1 ha.2)
  have h2 := V_ascii (itoa_ascii hb.1 hb.2)
  unfold stepOf ahead behind
  split
  · exact h2
  · refine V_app ?_ (V_c (V_app ?_ ?_))
    · split
      · exact V_nil
      · split
        · exact V_ascii (by decide)
        · exact h1
    · split
      · exact V_ascii (by decide)
      · exact V_nil
    · split
      · exact V_nil
      · exact h2

theorem V_one {t : Tst} (h : W1 t) (hv : VT t) : V (ftst t) := by
  cases h with
  | id k n hk hid => rcases hk with rfl | rfl; exact V_c hv.1; exact V_c hv.1
  | has n hid => exact V_c (V_app hv.1 (V_ascii (by decide)))
  | attr k n v hk hid hval =>
    rcases hk with rfl | rfl | rfl
    · exact V_c (V_app hv.1 (V_c (V_app (V_quoted hv.2) (V_ascii (by decide)))))
    · exact V_c (V_app hv.1 (V_c (V_c (V_app (V_quoted hv.2) (V_ascii (by decide))))))
    · exact V_c (V_app hv.1 (V_c (V_c (V_app (V_quoted hv.2) (V_ascii (by decide))))))
  | nth a b ha hb => exact V_app (V_ascii (by decide)) (V_app (V_step ha hb) (V_ascii (by decide)))
  | word p hp =>
    show V (ftest (tst p.2 []) [])
    rw [word_kind hp]
    simp only [pseudos, List.mem_cons, List.not_mem_nil, or_false] at hp
    rcases hp with rfl | rfl | rfl | rfl | rfl | rfl <;> exact V_ascii (by decide)

theorem V_flat {fs : List (List UInt8)} (h : ∀ f ∈ fs, V f) : V fs.flatten := by
  induction fs with
  | nil => exact V_nil
  | cons f fs ih => rw [List.flatten_cons]; exact V_app (h f (by simp)) (ih (fun g hg => h g (by simp [hg])))
theorem V_fpart {ty : List UInt8} {fs : List (List UInt8)} (h : V ty) (hf : ∀ f ∈ fs, V f) : V (fpart ty fs) := by
  unfold fpart
  split
  · exact V_ascii (by decide)
  · exact V_app h (V_flat hf)
theorem V_test {t : Test} (h : WT t) (hv : VTest t) : V (fTest t) := by
  cases h with
  | one t h => exact V_one h hv.1
  | not ty l hty hl =>
    show V (notHead ++ (fpart ty (l.map ftst) ++ [41]))
    refine V_app (V_ascii (by decide)) (V_app (V_fpart hv.1.1 (fun f hf => ?_)) (V_ascii (by decide)))
    obtain ⟨u, hu, rfl⟩ := List.mem_map.1 hf
    exact V_one (hl u hu) (hv.2 u hu)
theorem V_part {p : Part} (h : WP p) (hv : VP p) : V (fPart p) := V_fpart hv.1 (fun f hf => by
  obtain ⟨t, ht, rfl⟩ := List.mem_map.1 hf
  exact V_test (h.tests t ht) (hv.2 t ht))
theorem V_sel {ps : List Part} (h : ∀ p ∈ ps, WP p ∧ VP p) : V (fSel ps) := by
  induction ps with
  | nil => exact V_nil
  | cons p ps ih =>
    show V ((fjoin p.join ++ fPart p) ++ fSel ps)
    refine V_app (V_app ?_ (V_part (h p (by simp)).1 (h p (by simp)).2)) (ih (fun q hq => h q (by simp [hq])))
    unfold fjoin
    (repeat' split) <;> exact V_ascii (by decide)
theorem V_list : ∀ {l : List (List Part)}, (∀ ps ∈ l, ∀ p ∈ ps, WP p ∧ VP p) → V (fList l)
  | [], h => V_nil
  | [x], h => V_sel (h x (by simp))
  | x :: y :: r, h => V_app (V_sel (h x (by simp))) (V_c (V_c (V_list (l := y :: r) (fun ps hp => h ps (by simp at hp ⊢; exact Or.inr hp)))))

theorem WS.all {ps : List Part} (h : WS ps) : ∀ p ∈ ps, WP p ∧ p.join ≤ 4 := by
  obtain ⟨p, r, rfl, h0, hp, hr⟩ := h
  intro q hq
  rcases List.mem_cons.1 hq with rfl | hq
  · exact ⟨hp, by omega⟩
  · exact ⟨(hr q hq).1, (hr q hq).2.2⟩

theorem flat_count {α : Type} {f : α → List UInt8} : ∀ {l : List α}, (∀ x ∈ l, 1 ≤ (f x).length) → l.length ≤ ((l.map f).flatten).length
  | [], _ => by simp
  | x :: l, h => by
    have h1 := h x (by simp)
    have h2 := flat_count (f := f) (l := l) (fun y hy => h y (by simp [hy]))
    rw [List.map_cons, List.flatten_cons, List.length_append, List.length_cons]; omega

theorem W1.ok {t : Tst} (h : W1 t) : K.TstOk t := by
  intro hk
  cases h with
  | nth a b ha hb => exact ⟨by dsimp only; omega, by dsimp only; omega⟩
  | id k n hk' hid => dsimp only at hk; omega
  | has n hid => exact absurd hk (by dsimp only; omega)
  | attr k n v hk' hid hv => dsimp only at hk; omega
  | word p hp =>
    simp only [pseudos, List.mem_cons, List.not_mem_nil, or_false] at hp
    rcases hp with rfl | rfl | rfl | rfl | rfl | rfl <;> exact absurd hk (by decide)

theorem WT.ok {t : Test} (h : WT t) (hl : (fTest t).length ≤ 1000000) : K.TestOk t := by
  cases h with
  | one t h => exact ⟨h.ok, fun u hu => (by cases hu), Nat.zero_le _⟩
  | not ty l hty hl' =>
    refine ⟨fun hk => absurd (show (14 : Nat) = 9 from hk) (by omega), fun u hu => (hl' u hu).ok, ?_⟩
    have h1 : l.length ≤ ((l.map ftst).flatten).length := flat_count (fun u hu => by
      obtain ⟨c, x, hc, _⟩ := (hl' u hu).head []
      show 1 ≤ (ftest u []).length
      rw [hc]; simp)
    have h2 := K.le_fpart ty (l.map ftst)
    have h3 : (fpart ty (l.map ftst)).length ≤ (fTest ⟨tst 14 ty, l⟩).length := by
      show _ ≤ (notHead ++ (fpart ty (l.map ftst) ++ [41])).length
      rw [List.length_append, List.length_append]; omega
    show l.length ≤ _
    omega

theorem WP.ok {p : Part} (h : WP p) (hj : p.join ≤ 4) (hl : (fPart p).length ≤ 1000000) : K.PartOk p := by
  have h1 := tests_len (fun t ht => (h.tests t ht).head)
  have h2 := K.le_fpart p.type (p.tests.map fTest)
  have h3 : (fpart p.type (p.tests.map fTest)).length ≤ 1000000 := hl
  exact ⟨fun t ht => (h.tests t ht).ok (by have := K.len_test (ty := p.type) ht; have h4 : (fTests p.type p.tests).length ≤ 1000000 := hl; omega), by omega, hj⟩

theorem WS.ok {ps : List Part} (h : WS ps) (hl : (fSel ps).length ≤ 1000000) : K.SelOk ps := by
  have hall := h.all
  have hlen : ∀ {l : List Part}, (∀ p ∈ l, WP p ∧ p.join ≤ 4) → l.length ≤ (fSel l).length ∧ ∀ p ∈ l, (fPart p).length ≤ (fSel l).length := by
    intro l
    induction l with
    | nil => intro _; exact ⟨by simp, fun p hp => (by cases hp)⟩
    | cons q l ih =>
      intro hq
      obtain ⟨i1, i2⟩ := ih (fun p hp => hq p (by simp [hp]))
      obtain ⟨c, u, hc, _⟩ := (hq q (by simp)).1.head
      have e : (fSel (q :: l)).length = (fjoin q.join).length + (fPart q).length + (fSel l).length := by
        show ((fjoin q.join ++ fPart q) ++ fSel l).length = _
        rw [List.length_append, List.length_append]
      refine ⟨?_, fun p hp => ?_⟩
      · rw [e, hc, List.length_cons, List.length_cons]; omega
      · rcases List.mem_cons.1 hp with rfl | hp
        · omega
        · have := i2 p hp; omega
  obtain ⟨h1, h2⟩ := hlen hall
  exact ⟨fun p hp => (hall p hp).1.ok (hall p hp).2 (by have := h2 p hp; omega), by omega⟩

theorem list_count {l : List (List Part)} (h : ∀ ps ∈ l, WS ps) : l.length ≤ (fList l).length := by
  induction l with
  | nil => simp
  | cons x l ih =>
    obtain ⟨c, u, hc, _⟩ := sel_head (h x (by simp))
    have := ih (fun ps hp => h ps (by simp [hp]))
    cases l with
    | nil => show 1 ≤ (fSel x).length; rw [hc]; simp
    | cons y r =>
      show _ ≤ (fSel x ++ (44 :: 32 :: fList (y :: r))).length
      simp only [List.length_append, hc, List.length_cons] at this ⊢
      omega

/-- What is read, written, and read again. -/
theorem read_back {s : List UInt8} {l : List (List Part)} (h : read s = some l) (hs : s.length ≤ 300000) :
    read (fList l) = some l ∧ (fList l).length ≤ 3 * s.length ∧ l.length ≤ s.length ∧ 0 < l.length ∧ (∀ ps ∈ l, K.SelOk ps) ∧ ∀ ps ∈ l, WS ps := by
  unfold read at h
  split at h
  · rename_i hv
    obtain ⟨l1, l2, l3, l4, l5⟩ := list_ok _ h
    have hV : V (fList l) := V_list (fun ps hp p hq => ⟨((l2 ps hp).all p hq).1, l3 hv ps hp p hq⟩)
    refine ⟨?_, l4, l5, List.length_pos_iff.2 l1, fun ps hp => (l2 ps hp).ok ?_, l2⟩
    · unfold read
      rw [if_pos (show U.rep (fList l) = fList l from hV)]
      unfold parse
      have := list_app l ((fList l).length + 1) [] (Or.inl rfl) l1 l2 (by have := list_count l2; omega)
      simpa using this
    · have := K.len_sel hp; omega
  · cases h

end L
end Go.Proofs.YtnmcgmbhkmfiaaaGreatDoor

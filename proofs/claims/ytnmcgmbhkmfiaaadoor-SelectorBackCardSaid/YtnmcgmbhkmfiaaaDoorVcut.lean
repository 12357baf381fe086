/- Valid texts, joined and cut. No program in sight. -/
import Derived.Test.YtnmcgmbhkmfiaaaDoorUtf
import Derived.Test.YtnmcgmbhkmfiaaaDoorCases
set_option linter.unusedVariables false
namespace Go.Proofs.YtnmcgmbhkmfiaaaDoor
namespace U

def V (l : List UInt8) : Prop := rep l = l

theorem V_nil : V [] := rfl

theorem V_app {a b : List UInt8} (ha : V a) (hb : V b) : V (a ++ b) := by
  have h := pts_rep a.length a b (Nat.le_refl _)
  unfold V at ha hb
  rw [ha] at h
  unfold V
  show (pts (a ++ b)).flatten = _
  rw [h, List.flatten_append]
  show rep a ++ rep b = _
  rw [ha, hb]

theorem sz_of_V {l : List UInt8} (h : V l) (hl : l ≠ []) : sz l ≠ 0 := by
  intro h0
  have h1 := rep_cons l hl
  unfold V at h
  rw [h] at h1
  unfold chunk at h1
  rw [if_pos h0] at h1
  have h3 : sz ([239, 191, 189] ++ rep (l.drop (adv l))) = 3 := sz_fffd _
  rw [← h1] at h3
  omega

theorem V_split {l : List UInt8} (h0 : sz l ≠ 0) : V l ↔ V (l.drop (sz l)) := by
  have hl : l ≠ [] := fun h => h0 (by rw [h]; exact sz_nil)
  have h1 := rep_cons l hl
  unfold chunk adv at h1
  rw [if_neg h0, if_neg h0] at h1
  unfold V
  rw [h1]
  constructor
  · intro h
    have h2 : l.take (sz l) ++ rep (l.drop (sz l)) = l.take (sz l) ++ l.drop (sz l) := by rw [List.take_append_drop]; exact h
    exact List.append_cancel_left h2
  · intro h
    rw [h, List.take_append_drop]

theorem sz_hi {l : List UInt8} {k : Nat} (h0 : 0 < k) (hk : k < sz l) : 128 ≤ (l.getD k 0).toNat := by
  rcases sz_cases l with ⟨e, h⟩ | ⟨e, h⟩ | ⟨e, h⟩ | ⟨e, h⟩ | ⟨e, h⟩
  · omega
  · obtain rfl : k = 1 := by omega
    exact h.2.2.2.1
  · rcases (by omega : k = 1 ∨ k = 2) with rfl | rfl
    · have := h.2.2.2.1; unfold sec at this; omega
    · exact h.2.2.2.2.1
  · rcases (by omega : k = 1 ∨ k = 2 ∨ k = 3) with rfl | rfl | rfl
    · have := h.2.2.2.1; unfold sec at this; omega
    · exact h.2.2.2.2.1
    · exact h.2.2.2.2.2.2.1
  · omega

theorem V_cut : ∀ (n : Nat) (a b : List UInt8), a.length ≤ n → V (a ++ b) → (∀ c r, b = c :: r → c.toNat < 128) → V a ∧ V b
  | 0, a, b, hn, h, hb => by
    obtain rfl : a = [] := List.eq_nil_of_length_eq_zero (by omega)
    exact ⟨V_nil, h⟩
  | n + 1, a, b, hn, h, hb => by
    by_cases ha : a = []
    · subst ha; exact ⟨V_nil, h⟩
    · have hl : a ++ b ≠ [] := by simp [ha]
      have h0 := sz_of_V h hl
      have hap : 0 < a.length := List.length_pos_iff.2 ha
      have hle : sz (a ++ b) ≤ a.length := by
        rcases Nat.lt_or_ge a.length (sz (a ++ b)) with h1 | h1
        · have h2 := sz_hi hap h1
          cases b with
          | nil => have := sz_le (a ++ []); simp at this h1; omega
          | cons c r =>
            have h3 : (a ++ c :: r).getD a.length 0 = c := by simp
            rw [h3] at h2
            have := hb c r rfl
            omega
        · exact h1
      have hs : sz a = sz (a ++ b) := sz_congr (a ++ b) a h0 (by rw [List.take_append_of_le_length hle]) hle
      have h2 := (V_split h0).1 h
      rw [List.drop_append_of_le_length hle, ← hs] at h2
      have hd : (a.drop (sz a)).length ≤ n := by rw [List.length_drop]; omega
      obtain ⟨k1, k2⟩ := V_cut n (a.drop (sz a)) b hd h2 hb
      exact ⟨(V_split (by omega)).2 k1, k2⟩

theorem V_cons {c : UInt8} {r : List UInt8} (hc : c.toNat < 128) : V (c :: r) ↔ V r := by
  have h0 : sz (c :: r) = 1 := by
    unfold sz
    have : rng (c :: r) 0 0 127 = true := by rw [rng_iff]; refine ⟨by simp, Nat.zero_le _, ?_⟩; show c.toNat ≤ 127; omega
    rw [if_pos this]
  have := V_split (l := c :: r) (by omega)
  rw [h0] at this
  exact this

theorem low_class (c : UInt8) : (T.low c).toNat = c.toNat ∨ (c.toNat < 128 ∧ (T.low c).toNat < 128) := by
  unfold T.low
  split
  · rename_i h
    right
    refine ⟨by omega, ?_⟩
    rw [UInt8.toNat_ofNat_of_lt' (by show c.toNat + 32 < 256; omega)]
    omega
  · exact Or.inl rfl

theorem getD_map (l : List UInt8) (k : Nat) (h : k < l.length) : (l.map T.low).getD k 0 = T.low (l.getD k 0) := by
  rw [List.getD_eq_getElem?_getD, List.getElem?_map, List.getElem?_eq_getElem h, List.getD_eq_getElem?_getD, List.getElem?_eq_getElem h]; rfl

theorem rng_low {l : List UInt8} {k lo hi : Nat} (hlo : 128 ≤ lo) (h : rng l k lo hi = true) : rng (l.map T.low) k lo hi = true := by
  rw [rng_iff] at h ⊢
  rw [getD_map l k h.1]
  rcases low_class (l.getD k 0) with e | e
  · rw [e]; simpa using h
  · omega

theorem sz_low {l : List UInt8} (h0 : sz l ≠ 0) : sz (l.map T.low) = sz l := by
  have hln : (l.map T.low).length = l.length := by simp
  have key : ∀ k, k < l.length → 128 ≤ (l.getD k 0).toNat → (l.map T.low).getD k 0 = l.getD k 0 := by
    intro k hk h
    rw [getD_map l k hk]
    unfold T.low
    rw [if_neg (by omega)]
  rcases sz_cases l with ⟨e, h⟩ | ⟨e, h⟩ | ⟨e, h⟩ | ⟨e, h⟩ | ⟨e, h⟩
  · rw [e]
    have : rng (l.map T.low) 0 0 127 = true := by
      rw [rng_iff, getD_map l 0 h.1, hln]
      refine ⟨h.1, Nat.zero_le _, ?_⟩
      have := h.2
      rcases low_class (l.getD 0 0) with e | e <;> omega
    unfold sz
    rw [if_pos this]
  all_goals first
    | (exfalso; exact h0 e)
    | (have h1 := h.1
       have hz0 : 128 ≤ (l.getD 0 0).toNat := by have := h.2.1; omega
       refine sz_congr l _ h0 ?_ (by have := sz_le l; omega)
       rw [← List.map_take]
       refine List.ext_getElem (by simp) fun k hk1 hk2 => ?_
       have hkz : k < sz l := by rw [List.length_take] at hk2; omega
       have hkl : k < l.length := by have := sz_le l; omega
       rw [List.getElem_map, List.getElem_take]
       have h2 : 128 ≤ (l.getD k 0).toNat := by
         rcases Nat.eq_zero_or_pos k with rfl | hp
         · exact hz0
         · exact sz_hi hp hkz
       have h3 : l.getD k 0 = l[k] := by rw [List.getD_eq_getElem?_getD, List.getElem?_eq_getElem hkl]; rfl
       rw [h3] at h2
       unfold T.low
       rw [if_neg (by omega)])

theorem V_low : ∀ (n : Nat) (l : List UInt8), l.length ≤ n → V l → V (l.map T.low)
  | 0, l, hn, h => by
    obtain rfl : l = [] := List.eq_nil_of_length_eq_zero (by omega)
    exact V_nil
  | n + 1, l, hn, h => by
    by_cases hl : l = []
    · subst hl; exact V_nil
    · have h0 := sz_of_V h hl
      have h1 := (V_split h0).1 h
      have hp : 0 < l.length := List.length_pos_iff.2 hl
      refine (V_split (by rw [sz_low h0]; exact h0)).2 ?_
      rw [sz_low h0, ← List.map_drop]
      exact V_low n _ (by rw [List.length_drop]; omega) h1

end U
end Go.Proofs.YtnmcgmbhkmfiaaaDoor

/- The reader of selectors: number and sign, whatever comes. -/
import Derived.Test.YtnmcgmbhkmfiaaaGreatDoorSel10
import Derived.Lib.AtoiAllCases
import Derived.Lib.AtoiErrMem
set_option linter.unusedVariables false
set_option linter.unusedSimpArgs false
namespace Go.Proofs.YtnmcgmbhkmfiaaaGreatDoor
open Go.RowKit
namespace K
open H

/-- What Atoi asks of the world: its two errors are laid. -/
structure ErrEnv (w : World) : Prop where
  syn : ∃ te pe, w.cell? ⟨5, 0, none⟩ = some (.iface te pe)
  rng : ∃ te pe, w.cell? ⟨6, 0, none⟩ = some (.iface te pe)

/-- The first block that is no variable. -/
def top : Nat := 9

theorem blk_lt {w : World} {g o : Nat} {v : Value} (h : w.cell? ⟨g, o, none⟩ = some v) : g < w.heap.size := by
  rcases Nat.lt_or_ge g w.heap.size with h' | h'
  · exact h'
  · simp [World.cell?, Array.getElem?_eq_none h'] at h

theorem cell_but {b g o : Nat} {w w' : World} {v : Value} (h : w.cell? ⟨g, o, none⟩ = some v) (hb : But b w w') (hne : g ≠ b) : w'.cell? ⟨g, o, none⟩ = some v := by
  rw [← h]
  exact World.cell?_of_block (hb.block g (blk_lt h) hne)

theorem ErrEnv.but {b : Nat} {w w' : World} (h : ErrEnv w) (hb : But b w w') (ht : top ≤ b) : ErrEnv w' := by
  unfold top at ht
  obtain ⟨⟨t1, p1, h1⟩, ⟨t2, p2, h2⟩⟩ := h
  exact ⟨⟨t1, p1, cell_but h1 hb (by omega)⟩, ⟨t2, p2, cell_but h2 hb (by omega)⟩⟩

theorem dig_nat {c : UInt8} (h : L.isDig c = true) : 48 ≤ c.toNat ∧ c.toNat ≤ 57 := by unfold L.isDig at h; simpa using h

theorem pu_digits : ∀ (l : List UInt8) (acc : Nat), (∀ c ∈ l, L.isDig c = true) → Lib.parseUint10 acc l ≠ .«syntax»
  | [], _, _ => by simp [Lib.parseUint10]
  | c :: r, acc, h => by
    have hc := dig_nat (h c (by simp))
    have ih := pu_digits r (acc * 10 + (c.toNat - 48)) (fun d hd => h d (by simp [hd]))
    unfold Lib.parseUint10
    rw [if_pos hc]
    split
    · simp
    · split
      · simp
      · exact ih

theorem nat_bound : ∀ (l : List UInt8) (acc : Nat), (∀ c ∈ l, L.isDig c = true) → l.foldl (fun n c => n * 10 + (c.toNat - 48)) acc < (acc + 1) * 10 ^ l.length
  | [], acc, _ => by simp
  | c :: r, acc, h => by
    have hc := dig_nat (h c (by simp))
    have ih := nat_bound r (acc * 10 + (c.toNat - 48)) (fun d hd => h d (by simp [hd]))
    rw [List.foldl_cons, List.length_cons, Nat.pow_succ]
    refine Nat.lt_of_lt_of_le ih ?_
    have : acc * 10 + (c.toNat - 48) + 1 ≤ (acc + 1) * 10 := by omega
    calc _ ≤ ((acc + 1) * 10) * 10 ^ r.length := Nat.mul_le_mul_right _ this
      _ = _ := by rw [Nat.mul_assoc, Nat.mul_comm 10]

theorem pu_small : ∀ (l : List UInt8) (acc : Nat), (∀ c ∈ l, L.isDig c = true) → (acc + 1) * 10 ^ l.length ≤ 10000000 → Lib.parseUint10 acc l = .ok (l.foldl (fun n c => n * 10 + (c.toNat - 48)) acc)
  | [], _, _, _ => rfl
  | c :: r, acc, h, hb => by
    have hc := dig_nat (h c (by simp))
    rw [List.length_cons, Nat.pow_succ] at hb
    have h1 : acc * 10 + (c.toNat - 48) + 1 ≤ (acc + 1) * 10 := by omega
    have h2 : (acc * 10 + (c.toNat - 48) + 1) * 10 ^ r.length ≤ 10000000 := by
      refine Nat.le_trans (Nat.mul_le_mul_right _ h1) ?_
      rw [Nat.mul_assoc, Nat.mul_comm 10]; exact hb
    have h3 : 0 < 10 ^ r.length := Nat.pow_pos (by omega)
    have h4 : acc * 10 + (c.toNat - 48) + 1 ≤ 10000000 := Nat.le_trans (Nat.le_mul_of_pos_right _ h3) h2
    unfold Lib.parseUint10
    rw [if_pos hc, if_neg (by omega), if_neg (by omega), pu_small r _ (fun d hd => h d (by simp [hd])) h2]
    rfl

theorem tw_all {p : UInt8 → Bool} : ∀ {l : List UInt8} {c : UInt8}, c ∈ l.takeWhile p → p c = true
  | [], _, h => by cases h
  | d :: r, c, h => by
    by_cases hd : p d = true
    · rw [List.takeWhile_cons_of_pos hd] at h
      rcases List.mem_cons.1 h with rfl | h
      · exact hd
      · exact tw_all h
    · rw [List.takeWhile_cons_of_neg hd] at h; cases h

theorem atoi_small {l : List UInt8} (h : ∀ c ∈ l, L.isDig c = true) (h1 : 1 ≤ l.length) (h6 : l.length ≤ 6) : Lib.atoiAll l = .ok (L.natOf l : Int) ∧ L.natOf l ≤ 999999 := by
  have hp : (0 + 1) * 10 ^ l.length ≤ 1000000 := by
    have := Nat.pow_le_pow_right (n := 10) (by omega) h6
    simpa using this
  have hb := nat_bound l 0 h
  have hs := pu_small l 0 h (by omega)
  match l, h1 with
  | c :: r, _ =>
    have hc := dig_nat (h c (by simp))
    have hn : L.natOf (c :: r) ≤ 999999 := by unfold L.natOf; omega
    refine ⟨?_, hn⟩
    rw [Lib.atoiAll_plain c r (by omega) (by omega)]
    have : Lib.parseMag (c :: r) = .ok (L.natOf (c :: r)) := by unfold Lib.parseMag; rw [if_neg (by simp), hs]; rfl
    rw [this]
    show (if _ then _ else _) = _
    rw [if_neg (by omega)]

theorem atoi_no_syntax {l : List UInt8} (h : ∀ c ∈ l, L.isDig c = true) (h1 : 1 ≤ l.length) : Lib.atoiAll l ≠ .«syntax» := by
  match l, h1 with
  | c :: r, _ =>
    have hc := dig_nat (h c (by simp))
    have hp := pu_digits (c :: r) 0 h
    rw [Lib.atoiAll_plain c r (by omega) (by omega)]
    have : Lib.parseMag (c :: r) = Lib.parseUint10 0 (c :: r) := by unfold Lib.parseMag; rw [if_neg (by simp)]
    rw [this]
    cases hq : Lib.parseUint10 0 (c :: r) with
    | ok u => unfold Lib.signless; dsimp; split <;> simp
    | «syntax» => exact absurd hq hp
    | range => unfold Lib.signless; simp

def IntPost (b : Nat) (s : List UInt8) (i : Nat) (o : Option (Nat × List UInt8)) (w : World) (e : Ending) (w' : World) : Prop :=
  (∃ (n j : Nat), e = .returned (.int .i64 n) ∧ IsRdr b s j false w' ∧ But b w w' ∧ i ≤ j ∧ j ≤ s.length ∧ n ≤ 999999 ∧ Hid (o = some (n, s.drop j))) ∨
  (∃ (z : Int) (j : Nat), e = .returned (.int .i64 z) ∧ IsRdr b s j true w' ∧ But b w w' ∧ i ≤ j ∧ j ≤ s.length ∧ Hid (o = none))

theorem number_any (b : Nat) (s : List UInt8) (i : Nat) (w : World) (hs : s.length ≤ 1000000) (hi : i ≤ s.length) (hR : IsRdr b s i false w) (hE : ErrEnv w) (ht : top ≤ b) :
    Calls Tryz.prog 82 #[.pointer (some ⟨b, 0, none⟩)] w (IntPost b s i (L.number (s.drop i)) w) := by
  have hE1 := twEnd_ge L.isDig s i
  have hE2 := twEnd_le (p := L.isDig) hi
  have hx : (⟨s.toArray⟩ : ByteArray).extract i (twEnd L.isDig s i) = ⟨((s.drop i).takeWhile L.isDig).toArray⟩ := by
    rw [slice_str s i _ hE1 hE2, twEnd_take]
  have hl : ((s.drop i).takeWhile L.isDig).length = twEnd L.isDig s i - i := by unfold twEnd; omega
  have hall : ∀ c ∈ (s.drop i).takeWhile L.isDig, L.isDig c = true := fun c hc => tw_all hc
  have hdr := twEnd_drop L.isDig s i
  have hno : ((s.drop i).takeWhile L.isDig).length < 1 ∨ 6 < ((s.drop i).takeWhile L.isDig).length → L.number (s.drop i) = none := fun h => by unfold L.number; rw [if_pos h]
  have hfail : ∀ {z : Int} {e : Ending} {w' : World}, ((s.drop i).takeWhile L.isDig).length < 1 ∨ 6 < ((s.drop i).takeWhile L.isDig).length → RdPost b s (twEnd L.isDig s i) true (.int .i64 z) w e w' → IntPost b s i (L.number (s.drop i)) w e w' := by
    rintro z e w' h ⟨rfl, hr, hB⟩
    exact Or.inr ⟨z, _, rfl, hr, hB, hE1, hE2, Lib.hid (hno h)⟩
  have hsy : ∀ W, But b w W → ∃ te pe, W.cell? ⟨5, 0, none⟩ = some (.iface te pe) := fun W hW => (hE.but hW ht).syn
  have hrg : ∀ W, But b w W → ∃ te pe, W.cell? ⟨6, 0, none⟩ = some (.iface te pe) := fun W hW => (hE.but hW ht).rng
  rcases Nat.lt_or_ge ((s.drop i).takeWhile L.isDig).length 1 with h1 | h1
  · refine (number_err b s i _ 0 w hs hi rfl 132 hR ?_).mono (fun _ _ h => hfail (Or.inl h1) h)
    intro W hW
    obtain ⟨te, pe, hc⟩ := hsy W hW
    rw [hx]
    have hnil : (s.drop i).takeWhile L.isDig = [] := List.eq_nil_of_length_eq_zero (by omega)
    rw [hnil]
    refine (Tryz.strconv_Atoi_syntax _ (by rw [bytes_size]; exact Nat.zero_le _) (by rw [bytes_toList]; rfl) _ W hc (Or.inr ⟨te, pe, rfl⟩)).mono ?_
    rintro e w' ⟨N, rfl, _, _, hb⟩
    exact ⟨N, rfl, hb⟩
  · rcases Nat.lt_or_ge 6 ((s.drop i).takeWhile L.isDig).length with h6 | h6
    · have hz : (⟨((s.drop i).takeWhile L.isDig).toArray⟩ : ByteArray).size ≤ 1000000 := by rw [bytes_size]; omega
      have hns := atoi_no_syntax hall h1
      cases hq : Lib.atoiAll ((s.drop i).takeWhile L.isDig) with
      | «syntax» => exact absurd hq hns
      | ok v =>
        refine (number_long b s i _ v w hs hi rfl (by omega) hR ?_).mono (fun _ _ h => hfail (Or.inr h6) h)
        intro W
        rw [hx]
        refine (Tryz.strconv_Atoi_ok _ (by omega) v (by rw [bytes_toList]; exact hq) W).mono ?_
        rintro e w' ⟨rfl, h⟩
        refine ⟨rfl, ?_⟩
        rcases h with rfl | ⟨t, rfl⟩
        · exact Below.refl _ _
        · exact Lib.bytesWorld_below _ _ _
      | range =>
        refine (number_err b s i _ (Lib.atoiSat (⟨((s.drop i).takeWhile L.isDig).toArray⟩ : ByteArray).data.toList) w hs hi rfl 132 hR ?_).mono (fun _ _ h => hfail (Or.inr h6) h)
        intro W hW
        obtain ⟨te, pe, hc⟩ := hrg W hW
        rw [hx]
        refine (Tryz.strconv_Atoi_range _ (by omega) (by rw [bytes_toList]; exact hq) _ W hc (Or.inr ⟨te, pe, rfl⟩)).mono ?_
        rintro e w' ⟨N, rfl, _, _, hb⟩
        exact ⟨N, rfl, hb⟩
    · obtain ⟨ha, hn⟩ := atoi_small hall h1 h6
      refine (number_ok b s i _ (L.natOf ((s.drop i).takeWhile L.isDig) : Int) w hs hi rfl (by omega) hR ?_).mono ?_
      · intro W
        rw [hx]
        refine (Tryz.strconv_Atoi_ok _ (by rw [bytes_size]; omega) _ (by rw [bytes_toList]; exact ha) W).mono ?_
        rintro e w' ⟨rfl, h⟩
        refine ⟨rfl, ?_⟩
        rcases h with rfl | ⟨t, rfl⟩
        · exact Below.refl _ _
        · exact Lib.bytesWorld_below _ _ _
      · rintro e w' ⟨rfl, hr, hB⟩
        refine Or.inl ⟨_, _, rfl, hr, hB, hE1, hE2, hn, Lib.hid ?_⟩
        unfold L.number
        rw [if_neg (by omega), hdr]

def SignPost (b : Nat) (s : List UInt8) (i : Nat) (bad : Bool) (w : World) (e : Ending) (w' : World) : Prop :=
  ∃ (g : Int) (ok : Bool) (j : Nat), e = .returned (.tuple #[.int .i64 g, .bool ok]) ∧ IsRdr b s j bad w' ∧ But b w w' ∧ i ≤ j ∧ j ≤ s.length ∧ (g = 1 ∨ g = -1) ∧ Hid (bad = false → L.sign (s.drop i) = (g, ok, s.drop j)) ∧ Hid (bad = true → ok = false)

set_option maxHeartbeats 1000000 in
theorem sign_bad (b : Nat) (s : List UInt8) (i : Nat) (w : World) (hR : IsRdr b s i true w) :
    Calls Tryz.prog 81 #[.pointer (some ⟨b, 0, none⟩)] w (RdPost b s i true (signV 1 false) w) := by
  have Q := Lib.hid (take_bad b s [43] i w hR)
  have Q2 := Lib.hid (fun W => take_bad b s [45] i W)
  clear hR
  go_enter Tryz.func81, Tryz.ntmps81
  go_wp2_with fail
  refine (Q.out).mono ?_
  rintro en w1 ⟨rfl, hr, hb⟩
  go_wp2_with fail
  refine (Q2.out _ hr).mono ?_
  rintro en w2 ⟨rfl, hr2, hb2⟩
  go_wp2_with fail
  refine bodyPost_ret (v := signV 1 false) (by simp [results, Tryz.results81, go_sem, signV]) rfl ⟨rfl, hr2, hb.trans hb2⟩

theorem prefix_one {c : UInt8} {s : List UInt8} : ([c] : List UInt8).isPrefixOf s = true → ∃ r, s = c :: r := by
  intro h
  cases s with
  | nil => simp [List.isPrefixOf] at h
  | cons d r =>
    have : c = d := by simpa [List.isPrefixOf] using h
    exact ⟨r, by rw [this]⟩

theorem sign_any (b : Nat) (s : List UInt8) (i : Nat) (bad : Bool) (w : World) (hs : s.length ≤ 1000000) (hi : i ≤ s.length) (hR : IsRdr b s i bad w) :
    Calls Tryz.prog 81 #[.pointer (some ⟨b, 0, none⟩)] w (SignPost b s i bad w) := by
  cases bad with
  | true =>
    refine (sign_bad b s i w hR).mono ?_
    rintro e w' ⟨rfl, hr, hB⟩
    exact ⟨1, false, i, rfl, hr, hB, Nat.le_refl _, hi, Or.inl rfl, Lib.hid (fun h => (by cases h)), Lib.hid (fun _ => rfl)⟩
  | false =>
    cases h1 : ([43] : List UInt8).isPrefixOf (s.drop i) with
    | true =>
      obtain ⟨r, hr0⟩ := prefix_one h1
      have hlt := lt_drop hr0
      refine (sign_plus b s i w hs hi h1 hR).mono ?_
      rintro e w' ⟨rfl, hr, hB⟩
      exact ⟨1, true, i + 1, rfl, hr, hB, by omega, by omega, Or.inl rfl, Lib.hid (fun _ => by rw [drop_more hr0, hr0]; rfl), Lib.hid (fun h => (by cases h))⟩
    | false =>
      cases h2 : ([45] : List UInt8).isPrefixOf (s.drop i) with
      | true =>
        obtain ⟨r, hr0⟩ := prefix_one h2
        have hlt := lt_drop hr0
        refine (sign_minus b s i w hs hi h1 h2 hR).mono ?_
        rintro e w' ⟨rfl, hr, hB⟩
        exact ⟨-1, true, i + 1, rfl, hr, hB, by omega, by omega, Or.inr rfl, Lib.hid (fun _ => by rw [drop_more hr0, hr0]; rfl), Lib.hid (fun h => (by cases h))⟩
      | false =>
        refine (sign_none b s i w hs hi h1 h2 hR).mono ?_
        rintro e w' ⟨rfl, hr, hB⟩
        refine ⟨1, false, i, rfl, hr, hB, Nat.le_refl _, hi, Or.inl rfl, Lib.hid (fun _ => ?_), Lib.hid (fun h => (by cases h))⟩
        unfold L.sign
        split
        · rename_i r h; rw [h] at h1; simp [List.isPrefixOf] at h1
        · rename_i r h; rw [h] at h2; simp [List.isPrefixOf] at h2
        · rfl

end K
end Go.Proofs.YtnmcgmbhkmfiaaaGreatDoor

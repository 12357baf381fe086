/- What entity.Next comes to where a name may follow; and entity.Next at every string. -/
import Derived.Test.YtlnginciehjlnaaGreatDoorEnt4
import Derived.Outline
set_option linter.unusedVariables false
set_option linter.unusedSimpArgs false
namespace Go.Proofs.YtlnginciehjlnaaGreatDoor
open Go.RowKit
namespace K

theorem pre_trans {p q s : List UInt8} (hpq : p.isPrefixOf q = true) (h : p.isPrefixOf s = false) : q.isPrefixOf s = false := by
  cases hq : q.isPrefixOf s with
  | false => rfl
  | true =>
    have := (List.isPrefixOf_iff_prefix.1 hpq).trans (List.isPrefixOf_iff_prefix.1 hq)
    rw [← List.isPrefixOf_iff_prefix, h] at this; cases this

/-- The loop over the four names: one of them. -/
theorem short_step (t : List UInt8) (p : List UInt8 × List UInt8) (r : List (List UInt8 × List UInt8)) :
    E.short (38 :: t) (p :: r) = if p.1.isPrefixOf t && E.ends (t.drop p.1.length) then (p.2, p.1.length + 1) else E.short (38 :: t) r := by
  conv => lhs; unfold E.short
  have e : (38 :: p.1).isPrefixOf (38 :: t) = p.1.isPrefixOf t := by simp [List.isPrefixOf]
  rw [e, List.drop_succ_cons]

/-- The four names, one by one. -/
theorem short_at (t : List UInt8) (k : Nat) (hk : k < 4) : ∃ x y : List UInt8, (#[Value.string ⟨#[97, 109, 112]⟩, .string ⟨#[108, 116]⟩, .string ⟨#[103, 116]⟩, .string ⟨#[113, 117, 111, 116]⟩] : Array Value)[k]? = some (.string ⟨x.toArray⟩) ∧
    E.tab.find? (fun p => p.1 == x) = some (x, y) ∧ x.length ≤ 4 ∧ E.short (38 :: t) (E.shorts.drop k) = if x.isPrefixOf t && E.ends (t.drop x.length) then (y, x.length + 1) else E.short (38 :: t) (E.shorts.drop (k + 1)) := by
  rcases (by omega : k = 0 ∨ k = 1 ∨ k = 2 ∨ k = 3) with rfl | rfl | rfl | rfl
  · exact ⟨[97, 109, 112], [38], rfl, by decide, by decide, short_step t _ _⟩
  · exact ⟨[108, 116], [60], rfl, by decide, by decide, short_step t _ _⟩
  · exact ⟨[103, 116], [62], rfl, by decide, by decide, short_step t _ _⟩
  · exact ⟨[113, 117, 111, 116], [34], rfl, by decide, by decide, short_step t _ _⟩

def NxRel (s : List UInt8) (u : Value) : Prop := ∃ k : Nat, u = .int .i64 k ∧ k ≤ 4 ∧ Hid (E.next s = E.short s (E.shorts.drop k))

set_option maxHeartbeats 1000000 in
theorem Next_named (t : List UInt8) (w : World) (hs : t.length ≤ 900000) (hM : T.HasMax w) (hE : EntTab w) (h : [38, 35].isPrefixOf (38 :: t) = false) :
    Calls Tryz.prog 110 #[.string ⟨(38 :: t).toArray⟩] w fun e w' => e = .returned (tup (E.next (38 :: t))) ∧ Below w.heap.size w w' := by
  have c1 := pre_trans (q := [38, 35, 120]) (by decide) h
  have c2 := pre_trans (q := [38, 35, 88]) (by decide) h
  have c4 : [38].isPrefixOf (38 :: t) = true := by simp [List.isPrefixOf]
  have P1 := Lib.hid (fun W => HasPrefixL (38 :: t) [38, 35, 120] false W c1)
  have P2 := Lib.hid (fun W => HasPrefixL (38 :: t) [38, 35, 88] false W c2)
  have P3 := Lib.hid (fun W => HasPrefixL (38 :: t) [38, 35] false W h)
  have P4 := Lib.hid (fun W => HasPrefixL (38 :: t) [38] true W c4)
  have HV0 : Hid (E.next (38 :: t) = match (match M.idx [59] t with | none => none | some i => E.tab.find? (fun (p : List UInt8 × List UInt8) => p.1 == t.take i)) with | some p => (p.2, p.1.length + 2) | none => E.short (38 :: t) E.shorts) := by
    refine Lib.hid ?_
    simp only [E.next, c1, c2, h, c4, Bool.or_self, Bool.false_eq_true, if_false, if_true, E.named_idx]
    rfl
  have hx := cutOf (38 :: t) (by simp)
  have e1 : (38 :: t).drop 1 = t := rfl
  rw [e1] at hx
  have hsl : (38 :: t).length = t.length + 1 := rfl
  have QC := Lib.hid (CutL t [59] w (by omega) hM)
  have HE := Lib.hid hE
  clear c1 c2 c4 h e1 hM hE
  have HS := Lib.hid (fun k hk => short_at t k hk)
  have hs1 : (1 : Int) ≤ ((38 :: t).length : Int) := by rw [hsl]; omega
  have hs2 : ((38 :: t).length : Int) ≤ 1000000 := by rw [hsl]; omega
  clear hsl
  generalize 38 :: t = s at *
  go_enter Tryz.func110, Tryz.ntmps110
  go_wp2_with fail
  refine (P1.out _).mono ?_
  rintro e w' ⟨rfl, rfl⟩
  go_wp2_with fail
  refine (P2.out _).mono ?_
  rintro e w' ⟨rfl, rfl⟩
  go_wp2_with fail
  refine (P3.out _).mono ?_
  rintro e w' ⟨rfl, rfl⟩
  go_wp2_with fail
  refine (P4.out _).mono ?_
  rintro e w' ⟨rfl, rfl⟩
  go_wp2_with fail
  refine QC.out.mono ?_
  rintro e w1 ⟨rfl, n, rfl⟩
  clear P1 P2 P3 P4 QC
  by_cases hfd : ∃ i p, M.idx [59] t = some i ∧ E.tab.find? (fun p => p.1 == t.take i) = some p
  · obtain ⟨i, p, hi, hp⟩ := hfd
    have hpe : t.take i = p.1 := by
      have h1 := List.find?_some hp
      have h2 : p.1 = t.take i := by simpa using h1
      exact h2.symm
    have HV : Hid (E.next s = (p.2, p.1.length + 2)) := Lib.hid (by rw [HV0.out, hi]; simp only [hp])
    have QL := Lib.hid (fun W hW => Lookup (t.take i) W hW)
    rw [hp, hpe] at QL
    rw [hi]
    dsimp only
    rw [hpe]
    have hl : p.1.length ≤ 900000 := by rw [← hpe, List.length_take]; omega
    clear HV0 hi hp hpe HS
    obtain ⟨x, y⟩ := p
    unfold lkV at QL
    dsimp only at *
    go_wp2_with fail
    refine (QL.out _ (EntTab_drewN HE.out n)).mono ?_
    rintro e w1 ⟨rfl, rfl⟩
    go_wp2_with fail
    go_ret2
    rw [HV.out]
    exact ⟨rfl, T.below_dr (Below.refl _ _) _⟩
  · have HV : Hid (E.next s = E.short s E.shorts) := Lib.hid (by
      rw [HV0.out]
      cases hi : M.idx [59] t with
      | none => rfl
      | some i =>
        cases hp : E.tab.find? (fun p => p.1 == t.take i) with
        | none => simp only [hp]
        | some p => exact absurd ⟨i, p, hi, hp⟩ hfd)
    have hway : M.idx [59] t = none ∨ ∃ i, M.idx [59] t = some i ∧ E.tab.find? (fun p => p.1 == t.take i) = none := by
      cases hi : M.idx [59] t with
      | none => exact Or.inl rfl
      | some i =>
        cases hp : E.tab.find? (fun p => p.1 == t.take i) with
        | none => exact Or.inr ⟨i, rfl, hp⟩
        | some p => exact absurd ⟨i, p, hi, hp⟩ hfd
    clear HV0 hfd
    rcases hway with hi | ⟨i, hi, hp⟩
    case' inl =>
      rw [hi]
      clear hi
      go_wp2_with fail
    case' inr =>
      have QL := Lib.hid (fun W hW => Lookup (t.take i) W hW)
      rw [hp] at QL
      rw [hi]
      dsimp only
      clear hi hp
      unfold lkV at QL
      dsimp only at *
      go_wp2_with fail
      refine (QL.out _ (EntTab_drewN HE.out n)).mono ?_
      rintro e w1 ⟨rfl, rfl⟩
      go_wp2_with fail
    all_goals
      go_loop [55] (fun u => NxRel s u) (fun u => 4 - (intOf u).toNat)
      case atStart => exact ⟨0, rfl, by omega, HV⟩
      case round =>
        obtain ⟨k, rfl, hk, HK⟩ := hrel
        by_cases hlt : k < 4
        · obtain ⟨x, y, hc, hf, hxl, hst⟩ := HS.out k hlt
          have hlt1 : (k : Int) < 4 := by omega
          have hcell : ((w.drewN n).alloc (.cells #[Value.string ⟨#[97, 109, 112]⟩, .string ⟨#[108, 116]⟩, .string ⟨#[103, 116]⟩, .string ⟨#[113, 117, 111, 116]⟩] 9)).cell? ⟨w.heap.size, k, none⟩ = some (.string ⟨x.toArray⟩) := by
            rw [World.cell?_alloc_at _ _ _ _ (by simp)]; exact hc
          clear hc
          have QL := Lib.hid (fun W hW => Lookup x W hW)
          rw [hf] at QL
          have hW := Lib.hid (EntTab_drewN HE.out n)
          cases hp : x.isPrefixOf t with
          | false =>
            have QP := Lib.hid (fun W => CutPrefixL t x false W hp)
            have HK' : Hid (E.next s = E.short s (E.shorts.drop (k + 1))) := Lib.hid (HK.out.trans (by rw [hst, hp]; rfl))
            clear hp hst hf HK QL
            go_wp2_with fail
            refine (QP.out _).mono ?_
            rintro e w1 ⟨rfl, rfl⟩
            go_wp2_with fail
            go_round
            case rel => exact ⟨k + 1, by go_num, by omega, HK'⟩
            case measure => simp [intOf]; omega
          | true =>
            have QP := Lib.hid (fun W => CutPrefixL t x true W hp)
            have hle := pre_len hp
            cases hd : t.drop x.length with
            | nil =>
              rw [hd] at QP
              have HV1 : Hid (E.next s = (y, x.length + 1)) := Lib.hid (HK.out.trans (by rw [hst, hp, hd]; rfl))
              clear hp hst hf HK hd
              go_wp2_with fail
              refine (QP.out _).mono ?_
              rintro e w1 ⟨rfl, rfl⟩
              go_wp2_with fail
              refine (QL.out _ (hW.out.below ((Below.refl _ _).alloc (Nat.le_refl _) _) HE.out.2)).mono ?_
              rintro e w1 ⟨rfl, rfl⟩
              unfold lkV
              go_wp2_with fail
              go_ret2
              rw [HV1.out]
              exact ⟨rfl, (T.below_dr (Below.refl _ _) _).alloc (Nat.le_refl _) _⟩
            | cons c r =>
              rw [hd] at QP
              have hem : (c :: r).isEmpty = false := rfl
              cases hg : E.goes c with
              | true =>
                have QG := Lib.hid (fun W => goes c W)
                rw [hg] at QG
                have HK' : Hid (E.next s = E.short s (E.shorts.drop (k + 1))) := Lib.hid (HK.out.trans (by rw [hst, hp, hd]; simp [E.ends, hg]))
                have hi0 := at_drop (s := c :: r) (i := 0) rfl (by rw [T.bytes_size]; simp)
                clear hp hst hf HK QL hd hg
                go_wp2_with fail
                refine (QP.out _).mono ?_
                rintro e w1 ⟨rfl, rfl⟩
                go_wp2_with fail
                refine (QG.out _).mono ?_
                rintro e w1 ⟨rfl, rfl⟩
                go_wp2_with fail
                go_round
                case rel => exact ⟨k + 1, by go_num, by omega, HK'⟩
                case measure => simp [intOf]; omega
              | false =>
                have QG := Lib.hid (fun W => goes c W)
                rw [hg] at QG
                have HV1 : Hid (E.next s = (y, x.length + 1)) := Lib.hid (HK.out.trans (by rw [hst, hp, hd]; simp [E.ends, hg]))
                have hi0 := at_drop (s := c :: r) (i := 0) rfl (by rw [T.bytes_size]; simp)
                clear hp hst hf HK hd hg
                go_wp2_with fail
                refine (QP.out _).mono ?_
                rintro e w1 ⟨rfl, rfl⟩
                go_wp2_with fail
                refine (QG.out _).mono ?_
                rintro e w1 ⟨rfl, rfl⟩
                go_wp2_with fail
                refine (QL.out _ (hW.out.below ((Below.refl _ _).alloc (Nat.le_refl _) _) HE.out.2)).mono ?_
                rintro e w1 ⟨rfl, rfl⟩
                unfold lkV
                go_wp2_with fail
                go_ret2
                rw [HV1.out]
                exact ⟨rfl, (T.below_dr (Below.refl _ _) _).alloc (Nat.le_refl _) _⟩
        · obtain rfl : k = 4 := by omega
          go_wp2_with fail
          go_ret2
          rw [HK.out]
          exact ⟨rfl, (T.below_dr (Below.refl _ _) _).alloc (Nat.le_refl _) _⟩

end K
end Go.Proofs.YtlnginciehjlnaaGreatDoor

/- What entity.numeric comes to. -/
import Derived.Test.YtlnginciehjlnaaGreatDoorEnt1
set_option linter.unusedVariables false
set_option linter.unusedSimpArgs false
namespace Go.Proofs.YtlnginciehjlnaaGreatDoor
open Go.RowKit
namespace K

theorem dig_le (base : Nat) (c : UInt8) : -1 ≤ E.dig base c ∧ (0 ≤ E.dig base c → E.dig base c < base) ∧ E.dig base c ≤ 255 := by
  have := c.toNat_lt
  unfold E.dig
  dsimp only
  repeat' split
  all_goals omega

def NumRel (s : List UInt8) (at_ base : Nat) (w1 : World) (u v : Value) (wr : World) : Prop :=
  ∃ k x : Nat, u = .int .i64 x ∧ v = .int .i64 k ∧ at_ ≤ k ∧ k ≤ s.length ∧ x ≤ 1114112 ∧ wr = w1 ∧
    Hid (k + ((s.drop k).takeWhile (E.isDig base)).length = at_ + ((s.drop at_).takeWhile (E.isDig base)).length ∧ E.valFrom base x ((s.drop k).takeWhile (E.isDig base)) = E.valFrom base 0 ((s.drop at_).takeWhile (E.isDig base)))

theorem semi_at {s r : List UInt8} {k : Nat} {c : UInt8} (h : s.drop k = c :: r) : E.semi (s.drop k) = (c == 59) := by
  rw [h]
  by_cases hc : c = 59
  · subst hc; rfl
  · unfold E.semi
    split
    · rename_i heq; simp at heq; exact absurd heq.1 hc
    · simpa using hc

def tup (p : List UInt8 × Nat) : Value := .tuple #[.string ⟨p.1.toArray⟩, .int .i64 p.2]

set_option maxHeartbeats 1000000 in
theorem numeric (s : List UInt8) (at_ base : Nat) (w : World) (hs : s.length ≤ 1000000) (ha : at_ ≤ s.length) (hb : base ≤ 16) (hT : T.Tabs w) :
    Calls Tryz.prog 129 #[.string ⟨s.toArray⟩, .int .i64 at_, .int .i64 base] w fun e w' => e = .returned (tup (E.numeric s at_ base)) ∧ Below w.heap.size w w' := by
  have HT := Lib.hid hT
  clear hT
  go_enter Tryz.func129, Tryz.ntmps129
  go_wp2_with fail
  go_loopw [8, 9] (fun u v wr => NumRel s at_ base w u v wr) (fun _ v _ => s.length - (intOf v).toNat)
  case atStart => exact ⟨at_, 0, rfl, rfl, Nat.le_refl _, ha, by omega, rfl, Lib.hid ⟨rfl, rfl⟩⟩
  case round =>
    obtain ⟨k, x, rfl, rfl, hk1, hk2, hx, rfl, HF⟩ := hrel
    by_cases hgo : ∃ c r, s.drop k = c :: r ∧ E.isDig base c = true
    · obtain ⟨c, r, hd, hc⟩ := hgo
      have hlt := lt_drop hd
      have hlt1 : (k : Int) < (s.length : Int) := by omega
      have hi := at_drop hd (by rw [T.bytes_size]; exact hlt)
      have hd2 := drop_more hd
      have hD : 0 ≤ E.dig base c := by simpa [E.isDig] using hc
      have hD2 := (dig_le base c).2.1 hD
      have Q := Lib.hid (fun W => digit c base W (by omega))
      have HR : Hid (k + 1 + ((s.drop (k + 1)).takeWhile (E.isDig base)).length = at_ + ((s.drop at_).takeWhile (E.isDig base)).length ∧ E.valFrom base (min (x * base + (E.dig base c).toNat) 1114112) ((s.drop (k + 1)).takeWhile (E.isDig base)) = E.valFrom base 0 ((s.drop at_).takeWhile (E.isDig base))) := by
        obtain ⟨h1, h2⟩ := HF.out
        rw [hd, List.takeWhile_cons_of_pos hc] at h1 h2
        rw [hd2]
        refine Lib.hid ⟨?_, h2⟩
        rw [List.length_cons] at h1
        omega
      generalize E.dig base c = D at *
      have hxb : (x : Int) * (base : Int) ≤ 17825792 := by
        have : x * base ≤ 1114112 * 16 := Nat.mul_le_mul hx hb
        have h3 : ((x * base : Nat) : Int) ≤ 17825792 := by omega
        rw [Int.natCast_mul] at h3
        exact h3
      have hxb0 : 0 ≤ (x : Int) * (base : Int) := Int.mul_nonneg (by omega) (by omega)
      clear hd hd2 hc
      go_wp2_with fail
      refine (Q.out _).mono ?_
      rintro e w' ⟨rfl, rfl⟩
      go_wp2_with fail
      refine (Q.out _).mono ?_
      rintro e w' ⟨rfl, rfl⟩
      go_wp2_with fail
      go_roundw
      case rel =>
        refine ⟨k + 1, min (x * base + D.toNat) 1114112, ?_, by go_num, by omega, by omega, by omega, rfl, HR⟩
        congr 1
        have h3 : ((x * base : Nat) : Int) = (x : Int) * (base : Int) := Int.natCast_mul x base
        omega
      case measure => simp [intOf]; omega
    · have hnil : (s.drop k).takeWhile (E.isDig base) = [] := by
        cases hd : s.drop k with
        | nil => rfl
        | cons c r =>
          refine List.takeWhile_cons_of_neg fun hc => hgo ⟨c, r, hd, hc⟩
      obtain ⟨h1, h2⟩ := HF.out
      rw [hnil] at h1 h2
      have h2' : x = E.valFrom base 0 ((s.drop at_).takeWhile (E.isDig base)) := h2
      have h1' : k = at_ + ((s.drop at_).takeWhile (E.isDig base)).length := h1
      clear h1 h2 hnil HF
      by_cases hka : k = at_
      · have hv : E.numeric s at_ base = ([], 0) := by
          have : (s.drop at_).takeWhile (E.isDig base) = [] := List.eq_nil_of_length_eq_zero (by omega)
          unfold E.numeric
          rw [this]; rfl
        have HV := Lib.hid hv
        have hkb : ((k : Int) == (at_ : Int)) = true := beq_iff_eq.2 (by omega)
        clear h1' h2' hv hka
        rcases Nat.lt_or_ge k s.length with hlt | hge
        · obtain ⟨c, r, hd⟩ := drop_cons hlt
          have hlt1 : (k : Int) < (s.length : Int) := by omega
          have hi := at_drop hd (by rw [T.bytes_size]; exact hlt)
          have hD : E.dig base c < 0 := by
            have : ¬ E.isDig base c = true := fun h => hgo ⟨c, r, hd, h⟩
            simpa [E.isDig] using this
          have Q := Lib.hid (fun W => digit c base W (by omega))
          generalize E.dig base c = D at *
          clear hd hgo
          go_wp2_with fail
          refine (Q.out _).mono ?_
          rintro e w' ⟨rfl, rfl⟩
          go_wp2_with fail
          go_ret2
          rw [HV.out]
          exact ⟨rfl, Below.refl _ _⟩
        · have hge1 : (s.length : Int) ≤ (k : Int) := by omega
          clear hgo
          go_wp2_with fail
          go_ret2
          rw [HV.out]
          exact ⟨rfl, Below.refl _ _⟩
      · have hkb : ((k : Int) == (at_ : Int)) = false := beq_eq_false_iff_ne.2 (by omega)
        have hv : E.numeric s at_ base = (E.number x, k + (if E.semi (s.drop k) then 1 else 0)) := by
          have : ¬ (s.drop at_).takeWhile (E.isDig base) = [] := fun h => by rw [h] at h1'; simp at h1'; omega
          unfold E.numeric
          dsimp only
          rw [if_neg this, ← h1', ← h2']
        have QN := Lib.hid (Number x wr hx HT.out)
        have HV0 := Lib.hid hv
        clear h1' h2' hv hka
        rcases Nat.lt_or_ge k s.length with hlt | hge
        · obtain ⟨c, r, hd⟩ := drop_cons hlt
          have hlt1 : (k : Int) < (s.length : Int) := by omega
          have hi := at_drop hd (by rw [T.bytes_size]; exact hlt)
          have hD : E.dig base c < 0 := by
            have : ¬ E.isDig base c = true := fun h => hgo ⟨c, r, hd, h⟩
            simpa [E.isDig] using this
          have Q := Lib.hid (fun W => digit c base W (by omega))
          have hsm := semi_at hd
          have HV1 := Lib.hid (HV0.out.trans (by rw [hsm]))
          generalize E.dig base c = D at *
          clear hd hgo hsm
          by_cases hc : c = 59
          · subst hc
            have HV : Hid (E.numeric s at_ base = (E.number x, k + 1)) := HV1.out
            go_wp2_with fail
            refine (Q.out _).mono ?_
            rintro e w' ⟨rfl, rfl⟩
            go_wp2_with fail
            refine QN.out.mono ?_
            rintro e w' ⟨rfl, b⟩
            go_wp2_with fail
            go_ret2
            rw [HV.out]
            exact ⟨rfl, b⟩
          · have hc1 : ((c.toNat : Int) == 59) = false := byte_ne (n := 59) hc (by omega)
            have hc2 : (c == 59) = false := by simpa using hc
            have HV : Hid (E.numeric s at_ base = (E.number x, k)) := Lib.hid (HV1.out.trans (by rw [hc2]; rfl))
            go_wp2_with fail
            refine (Q.out _).mono ?_
            rintro e w' ⟨rfl, rfl⟩
            go_wp2_with fail
            refine QN.out.mono ?_
            rintro e w' ⟨rfl, b⟩
            go_wp2_with fail
            go_ret2
            rw [HV.out]
            exact ⟨rfl, b⟩
        · have hge1 : (s.length : Int) ≤ (k : Int) := by omega
          have HV : Hid (E.numeric s at_ base = (E.number x, k)) := Lib.hid (HV0.out.trans (by rw [List.drop_eq_nil_of_le hge]; rfl))
          clear hgo
          go_wp2_with fail
          refine QN.out.mono ?_
          rintro e w' ⟨rfl, b⟩
          go_wp2_with fail
          go_ret2
          rw [HV.out]
          exact ⟨rfl, b⟩

end K
end Go.Proofs.YtlnginciehjlnaaGreatDoor

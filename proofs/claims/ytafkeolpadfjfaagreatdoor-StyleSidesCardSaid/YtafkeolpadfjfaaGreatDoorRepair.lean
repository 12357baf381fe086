/- What the reference's Repair and Points come to: the repaired form and its code points. -/
import Derived.Test.YtafkeolpadfjfaaGreatDoorSize
import Derived.Lib.AppendStr
import Derived.Lib.BufferRead
import Derived.Laws.IdiomStrings
import Derived.Maps.AppendAt
import Derived.WalkSpells
set_option linter.unusedVariables false
set_option linter.unusedSimpArgs false
namespace Go.Proofs.YtafkeolpadfjfaaGreatDoor
open Go.RowKit
namespace T

/-- 'string(b)' of a row that the call owns. -/
theorem string_own {W : World} {base : Nat} {v : Value} {l : List UInt8} (h : W.ownsRow base 5 1 v l.length (Lib.byteCells l)) :
    (convert 76 9 v).run Tryz.prog W = .ok (.string ⟨l.toArray⟩) W := by
  rcases h.2 with ⟨rfl, h0⟩ | ⟨g, cap, cur, rfl, hb, hg, _, _, hcs, htk⟩
  · have : l = [] := List.eq_nil_of_length_eq_zero h0
    subst this
    exact Lib.run_convert_nil_bytes W 76 9 5 0 Tryz.underlying76 Tryz.underlying5 Tryz.underlying9
  · refine run_convert_bytes_back W 76 9 5 ⟨g, 0, none⟩ cap l Tryz.underlying76 Tryz.underlying5 Tryz.underlying9 (Lib.bytes_of_row (l := l) hg (by simpa using htk))

theorem extract_list (s : ByteArray) (k n : Nat) (h : k + n ≤ s.size) : (s.extract k (k + n)).data.toList = (s.data.toList.drop k).take n := by
  rw [Lib.extract_data, Nat.add_sub_cancel_left]

def RepRel (s : ByteArray) (w : World) (v i : Value) (wr : World) : Prop :=
  ∃ (k : Nat) (acc : List UInt8), k ≤ s.size ∧ i = .int .i64 k ∧ wr.ownsRow w.heap.size 5 1 v acc.length (Lib.byteCells acc) ∧ Below w.heap.size w wr ∧ Hid (acc ++ U.rep (s.data.toList.drop k) = U.rep s.data.toList) ∧ acc.length ≤ 3 * k

set_option maxHeartbeats 1000000 in
set_option maxRecDepth 100000 in
theorem refRepair (s : ByteArray) (w : World) (hs : s.size ≤ 1000000) :
    Calls Tryz.prog 69 #[.string s] w fun e w' => e = .returned (.string ⟨(U.rep s.data.toList).toArray⟩) ∧ Below w.heap.size w w' := by
  obtain ⟨i0, hi, hz0, hz1, hz2⟩ := info_parts Bld.infoByte
  go_enter Tryz.func69, Tryz.ntmps69
  go_wp2_with fail
  go_loopw [3, 4] (fun v i wr => RepRel s w v i wr) (fun _ i _ => s.size - (intOf i).toNat)
  case atStart => exact ⟨0, [], Nat.zero_le _, rfl, World.ownsRow_nil _ _ _ _, Below.refl _ _, Lib.hid rfl, Nat.zero_le _⟩
  case round =>
    obtain ⟨k, acc, hk, rfl, hown, hB, HA, hal⟩ := hrel
    have hbs := hB.size
    by_cases hlt : k < s.size
    · have hne : s.data.toList.drop k ≠ [] := by rw [drop_cons s k hlt]; exact List.cons_ne_nil _ _
      have HN := Lib.hid (U.rep_cons _ hne)
      clear hne
      have hle := U.sz_le (s.data.toList.drop k)
      rw [List.length_drop, U.list_size] at hle
      by_cases h0 : U.sz (s.data.toList.drop k) = 0
      · have HZ := Lib.hid h0
        have hc : ∀ W, Calls Tryz.prog 111 #[.string s, .int .i64 k] W fun e w' => e = .returned (.int .i64 0) ∧ W = w' := fun W => by
          have := refSize s (k : Int) W (by omega) (by omega) (by omega)
          rw [Int.toNat_natCast, h0] at this
          exact this
        have HC := Lib.hid hc
        clear h0 hle hc
        go_wp2_with (first | (go_at_call 111; refine (HC.out _).mono ?_; rintro e w' ⟨rfl, rfl⟩) | (at_builtin; refine wpList_append_own _ rfl _ _ 76 rfl w.heap.size 5 i0 (.int .u8 0) 1 1 Tryz.underlying76 hi hz0 hz1 hz2 rfl (by decide) _ _ _ rfl (hown.alloc _) ⟨wr.heap.size, 0, none⟩ 3 3 [.int .u8 239, .int .u8 191, .int .u8 189] rfl rfl ?c1 ?c2 ?c3 ?c4 ?c5 ?_))
        case c1 =>
          intro j u hj
          match j, hj with
          | 0, hj => simp at hj; subst hj; simp [Addr.add]
          | 1, hj => simp at hj; subst hj; simp [Addr.add]
          | 2, hj => simp at hj; subst hj; simp [Addr.add]
        case c2 => intro u hu; simp at hu; rcases hu with rfl | rfl | rfl <;> rfl
        case c3 => unfold maxLen; omega
        case c4 => omega
        case c5 => simp; omega
        intro v' w2 hown' hgrow _
        have hB2 := (hB.alloc hbs (.cells #[.int .u8 239, .int .u8 191, .int .u8 189] 5)).grown hgrow (by simp; omega) (fun q hq => (hown.lt q hq).1)
        go_wp2_with fail
        go_roundw
        case rel =>
          refine ⟨k + 1, acc ++ [239, 191, 189], by omega, by go_num, ?_, hB2, Lib.hid ?_, by simp; omega⟩
          · rw [Lib.byteCells_append, show Lib.byteCells [239, 191, 189] = [.int .u8 239, .int .u8 191, .int .u8 189] from rfl]; simpa using hown'
          · have h3 := HA.out
            rw [HN.out] at h3
            unfold U.chunk U.adv at h3
            rw [if_pos HZ.out, if_pos HZ.out, List.drop_drop, ← List.append_assoc] at h3
            exact h3
        case measure => simp [intOf]; omega
      · have HZ := Lib.hid h0
        have hc : ∀ W, Calls Tryz.prog 111 #[.string s, .int .i64 k] W fun e w' => e = .returned (.int .i64 (U.sz (s.data.toList.drop k))) ∧ W = w' := fun W => by
          have := refSize s (k : Int) W (by omega) (by omega) (by omega)
          rw [Int.toNat_natCast] at this
          exact this
        have h4 := U.sz_le4 (s.data.toList.drop k)
        generalize hm : U.sz (s.data.toList.drop k) = m at *
        have HM := Lib.hid hm
        have HC := Lib.hid hc
        have hpos : 0 < m := by omega
        have t0 : ((m : Int) == 0) = false := beq_eq_false_iff_ne.2 (by omega)
        clear hc hm h0
        have hse : (s.extract k (k + m)).size = m := by rw [← U.list_size, extract_list s k m (by omega)]; simp; omega
        have HS := Lib.hid hse
        clear hse
        have hkm : k + m ≤ s.size := by omega
        have hkm' : (k : Int) + (m : Int) ≤ (s.size : Int) := by omega
        go_wp2_with (first | (go_at_call 111; refine (HC.out _).mono ?_; rintro e w' ⟨rfl, rfl⟩) | (at_builtin; refine Lib.wpList_append_own_string _ rfl _ _ 76 9 rfl w.heap.size 5 i0 Tryz.underlying76 Tryz.underlying9 hi hz0 hz1 hz2 _ _ _ rfl hown (s.extract k (k + m)) rfl ?c3 ?c4 ?c5 ?_))
        case c3 => rw [HS.out]; unfold maxLen; omega
        case c4 => rw [HS.out]; omega
        case c5 => omega
        intro v' w2 hown' hgrow _
        have hB2 := hB.grown hgrow hbs (fun q hq => (hown.lt q hq).1)
        rw [Lib.strCells_eq, extract_list s k m (by omega)] at hown'
        go_wp2_with fail
        go_roundw
        case rel =>
          refine ⟨k + m, acc ++ (s.data.toList.drop k).take m, by omega, by go_num, ?_, hB2, Lib.hid ?_, by simp; omega⟩
          · rw [Lib.byteCells_append]
            have : (acc ++ (s.data.toList.drop k).take m).length = acc.length + m := by simp; omega
            rw [this]; exact hown'
          · have h3 := HA.out
            rw [HN.out] at h3
            unfold U.chunk U.adv at h3
            rw [HM.out, if_neg HZ.out, if_neg HZ.out, List.drop_drop, ← List.append_assoc] at h3
            exact h3
        case measure => simp [intOf]; omega
    · have hback := string_own hown
      have h3 := HA.out
      rw [drop_end s k hlt, U.rep_nil, List.append_nil] at h3
      rw [h3] at hback
      have HBk := Lib.hid hback
      clear h3
      go_wp2_with fail
      go_ret
      exact ⟨rfl, hB⟩

end T
end Go.Proofs.YtafkeolpadfjfaaGreatDoor

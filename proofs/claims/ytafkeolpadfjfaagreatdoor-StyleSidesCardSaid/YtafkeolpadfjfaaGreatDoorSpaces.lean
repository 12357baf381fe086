/- What the functions on white space come to, in the program and in the reference. -/
import Derived.Test.YtafkeolpadfjfaaGreatDoorFieldsPlain
import Derived.Test.YtafkeolpadfjfaaGreatDoorSlicesLaw
import Derived.Test.YtafkeolpadfjfaaGreatDoorTrimLay
import Derived.Shelf.Strings.FieldsFuncGrows
import Derived.BigQuiet
import Derived.Deep.QuietTactic
set_option linter.unusedVariables false
set_option linter.unusedSimpArgs false
namespace Go.Proofs.YtafkeolpadfjfaaGreatDoor
open Go.RowKit
namespace T

theorem byte_eq' (b : UInt8) (n : Nat) (h : n < 256) : ((b.toNat : Int) == (n : Int)) = (b == UInt8.ofNat n) := by
  rw [Bool.eq_iff_iff]
  simp only [beq_iff_eq]
  constructor
  · intro e
    have e' : b.toNat = n := by omega
    rw [← e']; simp
  · intro e; subst e; simp; omega

set_option maxHeartbeats 1000000 in
theorem refSpace (b : UInt8) (w : World) :
    Calls Tryz.prog 36 #[.int .u8 b.toNat] w fun e w' => e = .returned (.bool (sp b)) ∧ w = w' := by
  have e1 := byte_eq' b 9 (by omega)
  have e2 := byte_eq' b 10 (by omega)
  have e3 := byte_eq' b 12 (by omega)
  have e4 := byte_eq' b 13 (by omega)
  have e5 := byte_eq' b 32 (by omega)
  have hsp : sp b = ((b == 9) || (b == 10) || (b == 12) || (b == 13) || (b == 32)) := rfl
  rw [hsp]
  clear hsp
  cases h1 : (b == 9) with
  | true =>
    have t1 : ((b.toNat : Int) == 9) = true := e1.trans h1
    clear e1 e2 e3 e4 e5 h1
    go_enter Tryz.func36, Tryz.ntmps36
    go_wp2
    go_ret
    exact ⟨rfl, rfl⟩
  | false =>
  have t1 : ((b.toNat : Int) == 9) = false := e1.trans h1
  cases h2 : (b == 10) with
  | true =>
    have t2 : ((b.toNat : Int) == 10) = true := e2.trans h2
    clear e1 e2 e3 e4 e5 h1 h2
    go_enter Tryz.func36, Tryz.ntmps36
    go_wp2
    go_ret
    exact ⟨rfl, rfl⟩
  | false =>
  have t2 : ((b.toNat : Int) == 10) = false := e2.trans h2
  cases h3 : (b == 12) with
  | true =>
    have t3 : ((b.toNat : Int) == 12) = true := e3.trans h3
    clear e1 e2 e3 e4 e5 h1 h2 h3
    go_enter Tryz.func36, Tryz.ntmps36
    go_wp2
    go_ret
    exact ⟨rfl, rfl⟩
  | false =>
  have t3 : ((b.toNat : Int) == 12) = false := e3.trans h3
  cases h4 : (b == 13) with
  | true =>
    have t4 : ((b.toNat : Int) == 13) = true := e4.trans h4
    clear e1 e2 e3 e4 e5 h1 h2 h3 h4
    go_enter Tryz.func36, Tryz.ntmps36
    go_wp2
    go_ret
    exact ⟨rfl, rfl⟩
  | false =>
  have t4 : ((b.toNat : Int) == 13) = false := e4.trans h4
  cases h5 : (b == 32) with
  | true =>
    have t5 : ((b.toNat : Int) == 32) = true := e5.trans h5
    clear e1 e2 e3 e4 e5 h1 h2 h3 h4 h5
    go_enter Tryz.func36, Tryz.ntmps36
    go_wp2
    go_ret
    exact ⟨rfl, rfl⟩
  | false =>
    have t5 : ((b.toNat : Int) == 32) = false := e5.trans h5
    clear e1 e2 e3 e4 e5 h1 h2 h3 h4 h5
    go_enter Tryz.func36, Tryz.ntmps36
    go_wp2
    go_ret
    exact ⟨rfl, rfl⟩

set_option maxHeartbeats 1000000 in
set_option maxRecDepth 100000 in
theorem FieldsFn (x : Nat) (w : World) (hx : x ≤ 1114111) :
    Calls Tryz.prog 141 #[.int .i32 (x : Int)] w fun e w' => e = .returned (.bool (spR x)) ∧ w = w' := by
  unfold spR
  clear hx
  by_cases h : x < 128
  · rw [decide_eq_true h, Bool.true_and]
    have hb : ((UInt8.ofNat x).toNat : Int) = (x : Int) := by simp; omega
    have hc := fun W => IsSpace (UInt8.ofNat x) W
    rw [hb] at hc
    have HC := Lib.hid hc
    clear hc hb
    generalize sp (UInt8.ofNat x) = B at *
    go_enter Tryz.func141, Tryz.ntmps141
    go_wp2_with (go_at_call 49; refine (HC.out _).mono ?_; rintro e w' ⟨rfl, rfl⟩)
    go_ret
    exact ⟨rfl, rfl⟩
  · rw [decide_eq_false h, Bool.false_and]
    have h' : 128 ≤ x := by omega
    clear h
    go_enter Tryz.func141, Tryz.ntmps141
    go_wp2
    go_ret
    exact ⟨rfl, rfl⟩

theorem fn_enters : ∀ args w, (callFunc 141 args).run Tryz.prog w = .ok (.enter 141 args) w := enters_of Tryz.func141 (by kernel_rfl) rfl

set_option maxHeartbeats 1000000 in
theorem Fields (s : ByteArray) (w : World) (hs : s.size ≤ 1000000) :
    Calls Tryz.prog 101 #[.string s] w fun e w' => ∃ ao cap, e = .returned (.slice ao (flds [] s.data.toList).length cap) ∧ StrRow w' ao (flds [] s.data.toList) ∧ Below w.heap.size w w' := by
  have hp : PredGrows Tryz.prog 141 #[] spR w := fun W x hx hb => (FieldsFn x W hx).mono fun e w' ⟨he, hw⟩ => ⟨he, by subst hw; exact Below.refl _ _⟩
  have hc := Tryz.strings_FieldsFunc_grows 141 #[] fn_enters spR s w (by omega) hp
  rw [fields_eq, fields_length] at hc
  have HC := Lib.hid hc
  clear hc hp
  generalize flds [] s.data.toList = L at *
  go_enter Tryz.func101, Tryz.ntmps101
  go_wp2_with (go_at_call 116; refine HC.out.mono ?_)
  rintro e w1 ⟨A, rfl, hA, hown, hb⟩
  have HO := Lib.hid hown
  clear hown
  go_wp2_with fail
  go_ret
  refine ⟨_, _, rfl, fun hl => ⟨A, rfl, ?_, fun j hj => ?_⟩, hb⟩
  · have h := HO.out
    rcases h.2 with ⟨h0, _⟩ | ⟨g, cap, cur, hv, _, hg, _⟩
    · simp at h0
    · simp at hv; rw [hv.1]; exact (Array.getElem?_eq_some_iff.1 hg).1
  · have h := HO.out.cellAt j (by omega)
    rw [h]
    simp [strs, List.getD, hj]

def FdRel (s : ByteArray) (w : World) (v p i : Value) (wr : World) : Prop :=
  ∃ (k : Nat) (acc : List (List UInt8)) (cur : List UInt8), k ≤ s.size ∧ i = .int .i64 k ∧ p = .string ⟨cur.toArray⟩ ∧ wr.ownsRow w.heap.size 9 1 v acc.length (strs acc) ∧ Below w.heap.size w wr ∧ Hid (acc ++ flds cur (s.data.toList.drop k) = flds [] s.data.toList) ∧ acc.length ≤ k ∧ cur.length ≤ k

theorem isEmpty_bytes (l : List UInt8) : (⟨l.toArray⟩ : ByteArray).toList = l := by rw [Lib.toList_data]

set_option maxHeartbeats 2000000 in
set_option maxRecDepth 100000 in
theorem refFields (s : ByteArray) (w : World) (hs : s.size ≤ 100000) :
    Calls Tryz.prog 15 #[.string s] w fun e w' => ∃ ao cap, e = .returned (.slice ao (flds [] s.data.toList).length cap) ∧ StrRow w' ao (flds [] s.data.toList) ∧ Below w.heap.size w w' := by
  obtain ⟨i0, hi, hz0, hz1, hz2⟩ := info_parts infoString
  go_enter Tryz.func15, Tryz.ntmps15
  go_wp2_with fail
  go_loopw [3, 4, 5] (fun v p i wr => FdRel s w v p i wr) (fun _ _ i _ => s.size - (intOf i).toNat)
  case atStart => exact ⟨0, [], [], Nat.zero_le _, rfl, rfl, World.ownsRow_nil _ _ _ _, Below.refl _ _, Lib.hid rfl, Nat.zero_le _, Nat.zero_le _⟩
  case round =>
    obtain ⟨k, acc, cur, hk, rfl, rfl, hown, hB, HA, hal, hcl⟩ := hrel
    have hbs := hB.size
    by_cases hlt : k < s.size
    · have HD := Lib.hid (drop_cons s k hlt)
      have hkm : k + 1 ≤ s.size := by omega
      have hkm' : (k : Int) + 1 ≤ (s.size : Int) := by omega
      cases hsp : sp s[k] with
      | false =>
        have hex : s.extract k (k + 1) = ⟨[s[k]].toArray⟩ := by rw [extract_eq s k 1 hkm, HD.out]; rfl
        have hexs : (s.extract k (k + 1)).size = 1 := by rw [hex]; rfl
        have zz : ((⟨cur.toArray⟩ : ByteArray).size : Int) + ((s.extract k (k + 1)).size : Int) ≤ 1000000 := by rw [bytes_size, hexs]; omega
        have HAB := Lib.hid (show (⟨cur.toArray⟩ : ByteArray) ++ s.extract k (k + 1) = ⟨(cur ++ [s[k]]).toArray⟩ by rw [hex, append_bytes])
        have hc := fun W => refSpace s[k] W
        rw [hsp] at hc
        have HC := Lib.hid hc
        have HSP := Lib.hid hsp
        clear hex hexs hc hsp
        go_wp2_with (go_at_call 36; refine (HC.out _).mono ?_; rintro e w' ⟨rfl, rfl⟩)
        go_roundw
        case rel =>
          refine ⟨k + 1, acc, cur ++ [s[k]], by omega, by go_num, congrArg Value.string HAB.out, hown, hB, Lib.hid ?_, by omega, by simp; omega⟩
          have h3 := HA.out
          rw [HD.out, flds, if_neg (by rw [HSP.out]; decide)] at h3
          exact h3
        case measure => simp [intOf]; omega
      | true =>
        have hc := fun W => refSpace s[k] W
        rw [hsp] at hc
        have HC := Lib.hid hc
        have HSP := Lib.hid hsp
        clear hc hsp
        by_cases hcur : cur = []
        · subst hcur
          go_wp2_with (go_at_call 36; refine (HC.out _).mono ?_; rintro e w' ⟨rfl, rfl⟩)
          go_roundw
          case rel =>
            refine ⟨k + 1, acc, [], by omega, by go_num, rfl, hown, hB, Lib.hid ?_, by omega, by simp⟩
            have h3 := HA.out
            rw [HD.out, flds, if_pos HSP.out, if_pos rfl] at h3
            exact h3
          case measure => simp [intOf]; omega
        · have HCU := Lib.hid hcur
          have te : (⟨cur.toArray⟩ : ByteArray).toList.isEmpty = false := by rw [isEmpty_bytes]; cases cur with | nil => exact absurd rfl hcur | cons a b => rfl
          have te2 : cur.isEmpty = false := by cases cur with | nil => exact absurd rfl hcur | cons a b => rfl
          go_wp2_with (first | (go_at_call 36; refine (HC.out _).mono ?_; rintro e w' ⟨rfl, rfl⟩) | (at_builtin; refine wpList_append_own _ rfl _ _ 29 rfl w.heap.size 9 i0 (.string ByteArray.empty) 1 16 Tryz.underlying29 hi hz0 hz1 hz2 rfl (by decide) _ _ _ rfl (hown.alloc _) ⟨wr.heap.size, 0, none⟩ 1 1 [.string ⟨cur.toArray⟩] rfl rfl ?c1 ?c2 ?c3 ?c4 ?c5 ?_))
          case c1 => exact cell_one_new _ _ _
          case c2 => intro u hu; simp at hu; subst hu; rfl
          case c3 => unfold maxLen; omega
          case c4 => omega
          case c5 => simp; omega
          intro v' w2 hown' hgrow _
          have hB2 := (hB.alloc hbs (.cells #[.string ⟨cur.toArray⟩] 9)).grown hgrow (by simp; omega) (fun q hq => (hown.lt q hq).1)
          go_wp2_with fail
          go_roundw
          case rel =>
            refine ⟨k + 1, acc ++ [cur], [], by omega, by go_num, rfl, ?_, hB2, Lib.hid ?_, by simp; omega, by simp⟩
            · rw [strs_snoc]; simpa using hown'
            · have h3 := HA.out
              rw [HD.out, flds_cut _ _ _ HCU.out HSP.out] at h3
              rw [← h3]; simp
          case measure => simp [intOf]; omega
    · have h3 := HA.out
      rw [drop_end s k hlt] at h3
      by_cases hcur : cur = []
      · subst hcur
        have h4 : acc = flds [] s.data.toList := by simpa [flds] using h3
        rw [h4] at hown
        obtain ⟨ao, cap, rfl, hrow⟩ := str_form hown
        have HR := Lib.hid hrow
        clear h3 h4 hown hrow
        go_wp2_with fail
        go_ret
        exact ⟨_, _, rfl, HR.out, hB⟩
      · rw [flds_end _ hcur] at h3
        have H3 := Lib.hid h3
        have te : (⟨cur.toArray⟩ : ByteArray).toList.isEmpty = false := by rw [isEmpty_bytes]; cases cur with | nil => exact absurd rfl hcur | cons a b => rfl
        have te2 : cur.isEmpty = false := by cases cur with | nil => exact absurd rfl hcur | cons a b => rfl
        clear h3
        go_wp2_with (at_builtin; refine wpList_append_own _ rfl _ _ 29 rfl w.heap.size 9 i0 (.string ByteArray.empty) 1 16 Tryz.underlying29 hi hz0 hz1 hz2 rfl (by decide) _ _ _ rfl (hown.alloc _) ⟨wr.heap.size, 0, none⟩ 1 1 [.string ⟨cur.toArray⟩] rfl rfl ?c1 ?c2 ?c3 ?c4 ?c5 ?_)
        case c1 => exact cell_one_new _ _ _
        case c2 => intro u hu; simp at hu; subst hu; rfl
        case c3 => unfold maxLen; omega
        case c4 => omega
        case c5 => simp; omega
        intro v' w2 hown' hgrow _
        have hB2 := (hB.alloc hbs (.cells #[.string ⟨cur.toArray⟩] 9)).grown hgrow (by simp; omega) (fun q hq => (hown.lt q hq).1)
        have ho2 : w2.ownsRow w.heap.size 9 1 v' (flds [] s.data.toList).length (strs (flds [] s.data.toList)) := by
          rw [← H3.out, strs_snoc]; simpa using hown'
        obtain ⟨ao, cap, rfl, hrow⟩ := str_form ho2
        have HR := Lib.hid hrow
        clear hrow ho2 hown'
        go_wp2_with fail
        go_ret
        exact ⟨_, _, rfl, HR.out, hB2⟩

end T
end Go.Proofs.YtafkeolpadfjfaaGreatDoor

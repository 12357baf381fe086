/- Trimming: what text.Trim, text.Blank and the reference's Trim and Collapse come to. -/
import Derived.Test.YtafkeolpadfjfaaGreatDoorSpaces
set_option linter.unusedVariables false
set_option linter.unusedSimpArgs false
namespace Go.Proofs.YtafkeolpadfjfaaGreatDoor
open Go.RowKit
namespace T

/-- White space cut off at the head; at the end. -/
def lt : List UInt8 → List UInt8
  | [] => []
  | b :: r => if sp b then lt r else b :: r
def rt : List UInt8 → List UInt8
  | [] => []
  | b :: r => if rt r = [] ∧ sp b = true then [] else b :: rt r

theorem contains_sp (b : UInt8) : [9, 10, 12, 13, 32].contains b = sp b := by
  unfold sp
  simp only [List.contains, List.elem]
  cases (b == 9) <;> cases (b == 10) <;> cases (b == 12) <;> cases (b == 13) <;> cases (b == 32) <;> rfl

theorem lt_eq : ∀ l : List UInt8, Lib.trimLeftS l [9, 10, 12, 13, 32] = lt l
  | [] => rfl
  | b :: r => by
    have ih := lt_eq r
    unfold Lib.trimLeftS at *
    rw [List.dropWhile_cons, contains_sp]
    unfold lt
    cases h : sp b
    · simp
    · simp only [if_true]; exact ih

theorem rt_eq : ∀ l : List UInt8, Lib.trimRightS l [9, 10, 12, 13, 32] = rt l
  | [] => rfl
  | b :: r => by
    have ih := rt_eq r
    unfold Lib.trimRightS at *
    rw [List.reverse_cons, List.dropWhile_append]
    unfold rt
    by_cases h : (List.dropWhile (fun x => [9, 10, 12, 13, 32].contains x) r.reverse).isEmpty = true
    · rw [if_pos h]
      have e : rt r = [] := by rw [← ih]; simp only [List.isEmpty_iff] at h; rw [h]; rfl
      rw [List.dropWhile_cons, contains_sp, List.dropWhile_nil]
      cases hb : sp b <;> simp [e]
    · rw [if_neg h]
      have e : rt r ≠ [] := by
        rw [← ih]; intro e; apply h
        simp only [List.isEmpty_iff]
        simpa using e
      rw [if_neg (fun x => e x.1), List.reverse_append, ← ih]
      rfl

theorem lt_rt : ∀ l : List UInt8, lt (rt l) = rt (lt l)
  | [] => rfl
  | b :: r => by
    have ih := lt_rt r
    cases hb : sp b with
    | false =>
      have e1 : rt (b :: r) = b :: rt r := by
        conv => lhs; unfold rt
        rw [if_neg (by rw [hb]; simp)]
      have e2 : lt (b :: r) = b :: r := by simp [lt, hb]
      rw [e1, e2, e1]
      simp [lt, hb]
    | true =>
      have e2 : lt (b :: r) = lt r := by simp [lt, hb]
      rw [e2, ← ih]
      by_cases hr : rt r = []
      · have e1 : rt (b :: r) = [] := by
          conv => lhs; unfold rt
          rw [if_pos ⟨hr, hb⟩]
        rw [e1, hr]
      · have e1 : rt (b :: r) = b :: rt r := by
          conv => lhs; unfold rt
          rw [if_neg (fun x => hr x.1)]
        rw [e1]; simp [lt, hb]

theorem trim_eq (l : List UInt8) : Lib.trimS l [9, 10, 12, 13, 32] = rt (lt l) := by
  unfold Lib.trimS
  rw [rt_eq, lt_eq, lt_rt]

theorem rt_nil : ∀ l : List UInt8, rt l = [] ↔ l.all sp = true
  | [] => by simp [rt]
  | b :: r => by
    have ih := rt_nil r
    unfold rt
    by_cases h : rt r = [] ∧ sp b = true
    · rw [if_pos h]; simp only [List.all_cons, h.2, Bool.true_and]; simp [ih.1 h.1]
    · rw [if_neg h]
      simp only [List.all_cons, Bool.and_eq_true]
      constructor
      · intro e; simp at e
      · intro e; exact absurd ⟨ih.2 e.2, e.1⟩ h
theorem lt_all : ∀ l : List UInt8, (lt l).all sp = l.all sp
  | [] => rfl
  | b :: r => by
    unfold lt
    cases h : sp b
    · simp
    · simp [h, lt_all r]

theorem flds_nil : ∀ (l cur : List UInt8), flds cur l = [] ↔ (cur = [] ∧ l.all sp = true)
  | [], cur => by
    by_cases h : cur = []
    · subst h; simp [flds]
    · simp [flds, h]
  | b :: r, cur => by
    unfold flds
    cases hb : sp b with
    | true =>
      by_cases h : cur = []
      · subst h
        have := flds_nil r []
        simp only [if_true, List.all_cons, hb, Bool.true_and]
        simpa using this
      · simp [h]
    | false =>
      have := flds_nil r (cur ++ [b])
      rw [if_neg (by simp), this]
      simp [hb]

theorem blank_iff (l : List UInt8) : rt (lt l) = [] ↔ flds [] l = [] := by
  rw [rt_nil, lt_all, flds_nil]
  simp

set_option maxHeartbeats 1000000 in
theorem Trim (s : ByteArray) (w : World) (hs : s.size ≤ 1000000) :
    Calls Tryz.prog 37 #[.string s] w fun e w' => e = .returned (.string ⟨(rt (lt s.data.toList)).toArray⟩) ∧ Below w.heap.size w w' := by
  have hc : Calls Tryz.prog 71 #[.string s, .string ⟨#[9, 10, 12, 13, 32]⟩] w fun e w' => e = .returned (.string ⟨(Lib.trimS s.data.toList [9, 10, 12, 13, 32]).toArray⟩) ∧ Below w.heap.size w w' := Any.strings_Trim_laid Tryz.hand160 (by kernel_rfl) s ⟨#[9, 10, 12, 13, 32]⟩ w (by omega) (by decide) (ascii_of_all (by decide))
  have HC := Lib.hid hc
  clear hc
  rw [← trim_eq]
  go_enter Tryz.func37, Tryz.ntmps37
  go_wp2_with (go_at_call 71; refine HC.out.mono ?_)
  rintro e w1 ⟨rfl, hb⟩
  go_wp2_with fail
  go_ret
  exact ⟨rfl, hb⟩

theorem bytes_ext {s : ByteArray} {l : List UInt8} (h : s.data.toList = l) : s = ⟨l.toArray⟩ := by
  subst h; cases s; simp

theorem list_cons {s : ByteArray} (h : 0 < s.size) : s.data.toList = s[0] :: s.data.toList.drop 1 := by
  have := drop_cons s 0 h
  simpa using this

theorem list_snoc {s : ByteArray} {n : Nat} (h : s.size = n + 1) : s.data.toList = s.data.toList.take n ++ [s[n]] := by
  have hl : n < s.data.toList.length := by rw [U.list_size]; omega
  have e : s.data.toList.take (n + 1) = s.data.toList := List.take_of_length_le (by rw [U.list_size]; omega)
  rw [List.take_succ_eq_append_getElem hl] at e
  exact e.symm

theorem rt_snoc : ∀ (l : List UInt8) (b : UInt8), rt (l ++ [b]) = if sp b then rt l else l ++ [b]
  | [], b => by cases h : sp b <;> simp [rt, h]
  | a :: l, b => by
    have ih := rt_snoc l b
    rw [List.cons_append]
    conv => lhs; unfold rt
    rw [ih]
    cases h : sp b with
    | true =>
      simp only [if_true]
      conv => rhs; unfold rt
    | false =>
      simp

def szOf : Value → Nat | .string t => t.size | _ => 0

theorem extract_tail (t : ByteArray) : (t.extract 1 t.size).data.toList = t.data.toList.drop 1 := by
  rw [extract_any]
  simp only [List.toList_toArray]
  rw [List.take_of_length_le]
  rw [List.length_drop, U.list_size]
  omega

theorem extract_init (t : ByteArray) (n : Nat) : (t.extract 0 n).data.toList = t.data.toList.take n := by
  rw [extract_any]
  simp

theorem size_of (t : ByteArray) : t.size = t.data.toList.length := (U.list_size t).symm

set_option maxHeartbeats 2000000 in
set_option maxRecDepth 100000 in
theorem refTrim (s : ByteArray) (w : World) (hs : s.size ≤ 1000000) :
    Calls Tryz.prog 19 #[.string s] w fun e w' => e = .returned (.string ⟨(rt (lt s.data.toList)).toArray⟩) ∧ w = w' := by
  go_enter Tryz.func19, Tryz.ntmps19
  go_wp2_with fail
  go_loop [0] (fun v => ∃ t : ByteArray, t.size ≤ 1000000 ∧ v = .string t ∧ Hid (lt t.data.toList = lt s.data.toList)) (fun v => szOf v)
  case atStart => exact ⟨s, hs, rfl, Lib.hid rfl⟩
  case round =>
    obtain ⟨t, ht, rfl, HT⟩ := hrel
    by_cases h0 : 0 < t.size
    · have h0z : (0 : Int) < (t.size : Int) := by omega
      have h1 : 1 ≤ t.size := by omega
      have HL := Lib.hid (list_cons h0)
      cases hsp : sp t[0] with
      | true =>
        have hc := fun W => refSpace t[0] W
        rw [hsp] at hc
        have HC := Lib.hid hc
        have HSP := Lib.hid hsp
        clear hc hsp
        go_wp2_with (go_at_call 36; refine (HC.out _).mono ?_; rintro e w' ⟨rfl, rfl⟩)
        go_round
        case rel =>
          refine ⟨t.extract 1 t.size, ?_, rfl, Lib.hid ?_⟩
          · rw [size_of, extract_tail, List.length_drop, U.list_size]; omega
          · rw [← HT.out, extract_tail]
            conv => rhs; rw [HL.out]; unfold lt
            rw [if_pos HSP.out]
        case measure =>
          show (t.extract 1 t.size).size < t.size
          rw [size_of (t.extract 1 t.size), extract_tail, List.length_drop, U.list_size]; omega
      | false =>
        have hc := fun W => refSpace t[0] W
        rw [hsp] at hc
        have HC := Lib.hid hc
        have HE : Hid (t.data.toList = lt s.data.toList) := Lib.hid (by rw [← HT.out]; conv => rhs; rw [HL.out]; unfold lt
                                                                        rw [if_neg (by rw [hsp]; decide)]; exact HL.out)
        clear hc hsp
        go_wp2_with (go_at_call 36; refine (HC.out _).mono ?_; rintro e w' ⟨rfl, rfl⟩)
        go_loop [0] (fun v => ∃ u : ByteArray, u.size ≤ 1000000 ∧ v = .string u ∧ Hid (rt u.data.toList = rt (lt s.data.toList))) (fun v => szOf v)
        case atStart => exact ⟨t, ht, rfl, Lib.hid (by rw [HE.out])⟩
        case round =>
          clear HT ht
          obtain ⟨u, hu, rfl, HU⟩ := hrel
          by_cases hu0 : 0 < u.size
          · obtain ⟨n, hn⟩ : ∃ n, u.size = n + 1 := ⟨u.size - 1, by omega⟩
            have HS := Lib.hid (list_snoc hn)
            have hnu : n < u.size := by omega
            have HN := Lib.hid hn
            cases hsp2 : sp u[n] with
            | true =>
              have hc2 := fun W => refSpace u[n] W
              rw [hsp2] at hc2
              have HC2 := Lib.hid hc2
              have HSP2 := Lib.hid hsp2
              clear hc2 hsp2 hu0
              go_wp2_with (go_at_call 36; refine (HC2.out _).mono ?_; rintro e w' ⟨rfl, rfl⟩)
              go_round
              case rel =>
                refine ⟨u.extract 0 n, ?_, rfl, Lib.hid ?_⟩
                · rw [size_of, extract_init, List.length_take, U.list_size]; omega
                · rw [← HU.out, extract_init]
                  conv => rhs; rw [HS.out]
                  rw [rt_snoc, if_pos HSP2.out]
              case measure =>
                show (u.extract 0 n).size < u.size
                rw [size_of (u.extract 0 n), extract_init, List.length_take, U.list_size, HN.out]; omega
            | false =>
              have hc2 := fun W => refSpace u[n] W
              rw [hsp2] at hc2
              have HC2 := Lib.hid hc2
              have HF : Hid (u.data.toList = rt (lt s.data.toList)) := Lib.hid (by
                rw [← HU.out]
                conv => rhs; rw [HS.out]
                rw [rt_snoc, if_neg (by rw [hsp2]; decide)]
                exact HS.out)
              clear hc2 hsp2 hu0
              go_wp2_with (go_at_call 36; refine (HC2.out _).mono ?_; rintro e w' ⟨rfl, rfl⟩)
              go_ret
              exact ⟨ret_str (bytes_ext HF.out), rfl⟩
          · have HF : Hid (u.data.toList = rt (lt s.data.toList)) := Lib.hid (by
              have e : u.data.toList = [] := List.eq_nil_of_length_eq_zero (by rw [U.list_size]; omega)
              rw [← HU.out, e]; rfl)
            go_wp2_with fail
            go_ret
            exact ⟨ret_str (bytes_ext HF.out), rfl⟩
    · have HE : Hid (t.data.toList = lt s.data.toList) := Lib.hid (by
        have e : t.data.toList = [] := List.eq_nil_of_length_eq_zero (by rw [U.list_size]; omega)
        rw [← HT.out, e]; rfl)
      go_wp2_with fail
      go_loop [0] (fun v => ∃ u : ByteArray, u.size ≤ 1000000 ∧ v = .string u ∧ Hid (rt u.data.toList = rt (lt s.data.toList))) (fun v => szOf v)
      case atStart => exact ⟨t, ht, rfl, Lib.hid (by rw [HE.out])⟩
      case round =>
        clear HT ht
        obtain ⟨u, hu, rfl, HU⟩ := hrel
        by_cases hu0 : 0 < u.size
        · obtain ⟨n, hn⟩ : ∃ n, u.size = n + 1 := ⟨u.size - 1, by omega⟩
          have HS := Lib.hid (list_snoc hn)
          have hnu : n < u.size := by omega
          have HN := Lib.hid hn
          cases hsp2 : sp u[n] with
          | true =>
            have hc2 := fun W => refSpace u[n] W
            rw [hsp2] at hc2
            have HC2 := Lib.hid hc2
            have HSP2 := Lib.hid hsp2
            clear hc2 hsp2 hu0
            go_wp2_with (go_at_call 36; refine (HC2.out _).mono ?_; rintro e w' ⟨rfl, rfl⟩)
            go_round
            case rel =>
              refine ⟨u.extract 0 n, ?_, rfl, Lib.hid ?_⟩
              · rw [size_of, extract_init, List.length_take, U.list_size]; omega
              · rw [← HU.out, extract_init]
                conv => rhs; rw [HS.out]
                rw [rt_snoc, if_pos HSP2.out]
            case measure =>
              show (u.extract 0 n).size < u.size
              rw [size_of (u.extract 0 n), extract_init, List.length_take, U.list_size, HN.out]; omega
          | false =>
            have hc2 := fun W => refSpace u[n] W
            rw [hsp2] at hc2
            have HC2 := Lib.hid hc2
            have HF : Hid (u.data.toList = rt (lt s.data.toList)) := Lib.hid (by
              rw [← HU.out]
              conv => rhs; rw [HS.out]
              rw [rt_snoc, if_neg (by rw [hsp2]; decide)]
              exact HS.out)
            clear hc2 hsp2 hu0
            go_wp2_with (go_at_call 36; refine (HC2.out _).mono ?_; rintro e w' ⟨rfl, rfl⟩)
            go_ret
            exact ⟨ret_str (bytes_ext HF.out), rfl⟩
        · have HF : Hid (u.data.toList = rt (lt s.data.toList)) := Lib.hid (by
            have e : u.data.toList = [] := List.eq_nil_of_length_eq_zero (by rw [U.list_size]; omega)
            rw [← HU.out, e]; rfl)
          go_wp2_with fail
          go_ret
          exact ⟨ret_str (bytes_ext HF.out), rfl⟩

end T
end Go.Proofs.YtafkeolpadfjfaaGreatDoor

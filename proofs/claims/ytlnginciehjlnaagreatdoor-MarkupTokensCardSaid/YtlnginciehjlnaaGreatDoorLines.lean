/- Line ends: what text.Newlines (two replacements) and the reference's Newlines come to; the statement TextLines. -/
import Derived.Test.YtlnginciehjlnaaGreatDoorTRepair
import Derived.Test.YtlnginciehjlnaaGreatDoorJoin
import Derived.Lib.ReplaceLaws
import Derived.Shelf.Vars
set_option linter.unusedVariables false
set_option linter.unusedSimpArgs false
namespace Go.Proofs.YtlnginciehjlnaaGreatDoor
open Go.RowKit
namespace U

/-- All instances of old replaced, from the left. -/
def scan (old new : List UInt8) : Nat → List UInt8 → List UInt8
  | 0, s => s
  | _ + 1, [] => []
  | n + 1, b :: r => if old.isPrefixOf (b :: r) then new ++ scan old new n ((b :: r).drop old.length) else b :: scan old new n r

theorem scan_eq (old new : List UInt8) (ho : old ≠ []) : ∀ (n : Nat) (s : List UInt8), s.length ≤ n → Lib.replaceK old new (Lib.count s old) s = scan old new n s
  | 0, s, h => by
    have : s = [] := List.eq_nil_of_length_eq_zero (by omega)
    subst this
    have hi : Lib.index [] old = -1 := by cases old with | nil => exact absurd rfl ho | cons a t => rfl
    rw [Lib.count_miss hi]; rfl
  | n + 1, [], h => by
    have hi : Lib.index [] old = -1 := by cases old with | nil => exact absurd rfl ho | cons a t => rfl
    rw [Lib.count_miss hi]; rfl
  | n + 1, b :: r, h => by
    have hol : 0 < old.length := List.length_pos_iff.2 ho
    have hr : r.length ≤ n := by simpa using h
    unfold scan
    by_cases hp : old.isPrefixOf (b :: r) = true
    · have hi : Lib.index (b :: r) old = ((0 : Nat) : Int) := by simp [Lib.index, hp]
      rw [if_pos hp, Lib.count_hit ho hi, Nat.add_comm, Lib.replaceK_hit old new _ _ 0 hi, Nat.zero_add, scan_eq old new ho n _ (by simp; omega)]
      simp
    · rw [if_neg hp]
      by_cases hm : Lib.index r old = -1
      · have hi : Lib.index (b :: r) old = -1 := by simp [Lib.index, hp, hm]
        rw [Lib.count_miss hi]
        have ih := scan_eq old new ho n r hr
        rw [Lib.count_miss hm] at ih
        rw [← ih]; rfl
      · have hge := Lib.index_ge r old
        obtain ⟨i, hi⟩ : ∃ i : Nat, Lib.index r old = i := ⟨(Lib.index r old).toNat, by omega⟩
        have hi' : Lib.index (b :: r) old = ((i + 1 : Nat) : Int) := by
          have : ¬ ((i : Int) = -1) := by omega
          simp [Lib.index, hp, hi, this]
        have ih := scan_eq old new ho n r hr
        rw [Lib.count_hit ho hi, Nat.add_comm, Lib.replaceK_hit old new _ _ i hi] at ih
        rw [Lib.count_hit ho hi', Nat.add_comm 1, Lib.replaceK_hit old new _ _ (i + 1) hi', ← ih]
        have e : (b :: r).drop (i + 1 + old.length) = r.drop (i + old.length) := by
          rw [show i + 1 + old.length = (i + old.length) + 1 by omega, List.drop_succ_cons]
        rw [e, List.take_succ_cons]
        simp

theorem replaceAll_eq (s old new : List UInt8) (ho : old ≠ []) (hne : old ≠ new) : Lib.replaceAll s old new = scan old new s.length s := by
  unfold Lib.replaceAll Lib.replace
  have h : ¬ (old == new) = true := by simpa using hne
  rw [if_neg h]
  have e : Lib.replaceNum s old (-1) = Lib.count s old := by unfold Lib.replaceNum; rw [if_pos (.inl (by decide))]
  rw [e, scan_eq old new ho s.length s (Nat.le_refl _)]

/-- Line ends made plain; p: the byte before was a carriage return. -/
def nlr : Bool → List UInt8 → List UInt8
  | _, [] => []
  | p, b :: r => if b = 10 ∧ p = true then nlr false r else (if b = 13 then 10 else b) :: nlr (b == 13) r

theorem nlr_true (r : List UInt8) : nlr true r = match r with | 10 :: t => nlr false t | r => nlr false r := by
  cases r with
  | nil => rfl
  | cons b t =>
    by_cases h : b = 10
    · subst h; simp [nlr]
    · simp [nlr, h]

theorem nlr_scan : ∀ (n : Nat) (l : List UInt8), l.length ≤ n → ∀ m k, l.length ≤ m → (scan [13, 10] [10] m l).length ≤ k → scan [13] [10] k (scan [13, 10] [10] m l) = nlr false l
  | 0, l, h, m, k, hm, hk => by
    have : l = [] := List.eq_nil_of_length_eq_zero (by omega)
    subst this
    cases m <;> cases k <;> rfl
  | n + 1, [], h, m, k, hm, hk => by cases m <;> cases k <;> rfl
  | n + 1, b :: r, h, m, k, hm, hk => by
    obtain ⟨m, rfl⟩ : ∃ m', m = m' + 1 := ⟨m - 1, by simp at hm; omega⟩
    have hr : r.length ≤ n := by simpa using h
    have hrm : r.length ≤ m := by simpa using hm
    by_cases hp : [13, 10].isPrefixOf (b :: r) = true
    · obtain ⟨t, rfl, rfl⟩ : ∃ t, b = 13 ∧ r = 10 :: t := by
        cases r with
        | nil => simp [List.isPrefixOf] at hp
        | cons c t => simp [List.isPrefixOf] at hp; exact ⟨t, hp.1.symm, by rw [hp.2]⟩
      have ht : t.length ≤ n := by simp at hr; omega
      have e1 : scan [13, 10] [10] (m + 1) (13 :: 10 :: t) = 10 :: scan [13, 10] [10] m t := by
        conv => lhs; unfold scan
        rw [if_pos hp]; rfl
      rw [e1] at hk ⊢
      obtain ⟨k, rfl⟩ : ∃ k', k = k' + 1 := ⟨k - 1, by simp at hk; omega⟩
      have e2 : scan [13] [10] (k + 1) (10 :: scan [13, 10] [10] m t) = 10 :: scan [13] [10] k (scan [13, 10] [10] m t) := by
        conv => lhs; unfold scan
        rw [if_neg (by simp [List.isPrefixOf])]
      rw [e2, nlr_scan n t ht m k (by simp at hrm; omega) (by simp at hk; omega)]
      simp [nlr]
    · have e1 : scan [13, 10] [10] (m + 1) (b :: r) = b :: scan [13, 10] [10] m r := by
        conv => lhs; unfold scan
        rw [if_neg hp]
      rw [e1] at hk ⊢
      obtain ⟨k, rfl⟩ : ∃ k', k = k' + 1 := ⟨k - 1, by simp at hk; omega⟩
      have ih := nlr_scan n r hr m k hrm (by simp at hk; omega)
      by_cases hb : b = 13
      · subst hb
        have e2 : scan [13] [10] (k + 1) (13 :: scan [13, 10] [10] m r) = 10 :: scan [13] [10] k (scan [13, 10] [10] m r) := by
          conv => lhs; unfold scan
          rw [if_pos (by simp [List.isPrefixOf])]; rfl
        rw [e2, ih]
        have hn : nlr true r = nlr false r := by
          rw [nlr_true]
          cases r with
          | nil => rfl
          | cons c t =>
            have : c ≠ 10 := fun e => hp (by subst e; simp [List.isPrefixOf])
            split
            · rename_i heq; simp at heq; exact absurd heq.1 this
            · rfl
        simp [nlr, hn]
      · have e2 : scan [13] [10] (k + 1) (b :: scan [13, 10] [10] m r) = b :: scan [13] [10] k (scan [13, 10] [10] m r) := by
          conv => lhs; unfold scan
          rw [if_neg (by simp [List.isPrefixOf]; exact fun e => hb e.symm)]
        rw [e2, ih]
        have hb' : (b == 13) = false := by simpa using hb
        simp [nlr, hb, hb']

theorem newlines_eq (l : List UInt8) : Lib.replaceAll (Lib.replaceAll l [13, 10] [10]) [13] [10] = nlr false l := by
  rw [replaceAll_eq l _ _ (by simp) (by decide), replaceAll_eq _ [13] [10] (by simp) (by decide)]
  exact nlr_scan l.length l (Nat.le_refl _) _ _ (Nat.le_refl _) (Nat.le_refl _)

theorem nlr_no13 : ∀ (l : List UInt8) (p : Bool), 13 ∉ nlr p l
  | [], _ => by simp [nlr]
  | b :: r, p => by
    unfold nlr
    split
    · exact nlr_no13 r false
    · have := nlr_no13 r (b == 13)
      intro h
      rcases List.mem_cons.1 h with h | h
      · split at h
        · simp at h
        · rename_i hb; exact hb h.symm
      · exact this h

theorem nlr_id : ∀ (l : List UInt8), 13 ∉ l → nlr false l = l
  | [], _ => rfl
  | b :: r, h => by
    have hb : b ≠ 13 := fun e => h (by rw [e]; exact List.mem_cons_self ..)
    have hr : 13 ∉ r := fun e => h (List.mem_cons_of_mem _ e)
    have hb' : (b == 13) = false := by simpa using hb
    unfold nlr
    rw [if_neg (by simp), if_neg hb, hb', nlr_id r hr]

theorem nlr_length : ∀ (l : List UInt8) (p : Bool), (nlr p l).length ≤ l.length
  | [], _ => by simp [nlr]
  | b :: r, p => by
    unfold nlr
    split
    · have := nlr_length r false; simp; omega
    · have := nlr_length r (b == 13); simp; omega

theorem scan_length (old new : List UInt8) (h : new.length ≤ old.length) : ∀ (n : Nat) (s : List UInt8), (scan old new n s).length ≤ s.length
  | 0, s => by simp [scan]
  | n + 1, [] => by simp [scan]
  | n + 1, b :: r => by
    unfold scan
    split
    · rename_i hp
      have ih := scan_length old new h n ((b :: r).drop old.length)
      have hl := (List.isPrefixOf_iff_prefix.1 hp).length_le
      rw [List.length_drop] at ih
      rw [List.length_append]
      omega
    · have ih := scan_length old new h n r
      simp; omega

end U
namespace T

/-- internal/bytealg.MaxLen holds some number. -/
def HasMax (w : World) : Prop := (∃ m, w.cell? ⟨4, 0, none⟩ = some (.int .i64 m)) ∧ 4 < w.heap.size

theorem HasMax.below {w w' : World} (h : HasMax w) (b : Below w.heap.size w w') : HasMax w' := by
  obtain ⟨⟨m, hm⟩, hz⟩ := h
  exact ⟨⟨m, (b.cell (p := ⟨4, 0, none⟩) hz).trans hm⟩, Nat.lt_of_lt_of_le hz b.size⟩

theorem ReplaceAll (s old new : ByteArray) (w : World) (hs : s.size ≤ 1000000) (h1 : 1 ≤ old.size) (hn : new.size ≤ 1) (hM : HasMax w) :
    Calls Tryz.prog 69 #[.string s, .string old, .string new] w fun e w' => e = .returned (.string ⟨(Lib.replaceAll s.data.toList old.data.toList new.data.toList).toArray⟩) ∧ Below w.heap.size w w' := by
  obtain ⟨⟨m, hm⟩, _⟩ := hM
  have hc := Lib.countB_le old h1 s.size s (Nat.le_refl _)
  refine Tryz.strings_ReplaceAll s old new m w (by omega) hm h1 ?_
  have : Lib.countB s old * new.size ≤ Lib.countB s old * 1 := Nat.mul_le_mul_left _ hn
  omega

set_option maxHeartbeats 1000000 in
theorem Newlines (s : ByteArray) (w : World) (hs : s.size ≤ 100000) (hM : HasMax w) :
    Calls Tryz.prog 60 #[.string s] w fun e w' => e = .returned (.string ⟨(U.nlr false s.data.toList).toArray⟩) ∧ Below w.heap.size w w' := by
  have c1 := Lib.hid (ReplaceAll s ⟨#[13, 10]⟩ ⟨#[10]⟩ w (by omega) (by decide) (by decide) hM)
  rw [← U.newlines_eq]
  have hl : (Lib.replaceAll s.data.toList [13, 10] [10]).length ≤ s.size := by
    rw [U.replaceAll_eq _ _ _ (by simp) (by decide), ← U.list_size]
    exact U.scan_length _ _ (by decide) _ _
  have c2 := fun W hW => ReplaceAll ⟨(Lib.replaceAll s.data.toList [13, 10] [10]).toArray⟩ ⟨#[13]⟩ ⟨#[10]⟩ W (by rw [bytes_size]; omega) (by decide) (by decide) hW
  simp only [List.toList_toArray] at c2
  have HM := Lib.hid hM
  have C2 := Lib.hid c2
  clear c2 hM
  go_enter Tryz.func60, Tryz.ntmps60
  go_wp2_with fail
  refine c1.out.mono ?_
  rintro e w1 ⟨rfl, b1⟩
  go_wp2_with fail
  refine (C2.out _ (HM.out.below b1)).mono ?_
  rintro e w2 ⟨rfl, b2⟩
  go_wp2_with fail
  go_ret
  exact ⟨rfl, b1.trans (b2.mono b1.size)⟩

/-- Was the byte before place k a carriage return? -/
def prev13 (s : ByteArray) : Nat → Bool
  | 0 => false
  | k + 1 => s.data.toList.getD k 0 == 13

theorem prev13_at (s : ByteArray) (k : Nat) (h : k < s.size) : prev13 s (k + 1) = (s[k] == 13) := by
  have e : s.data.toList.getD k 0 = s[k] := by
    have h' : k < s.data.toList.length := by simpa using h
    rw [List.getD, List.getElem?_eq_getElem h']; rfl
  show (s.data.toList.getD k 0 == 13) = (s[k] == 13)
  rw [e]

def NlRel (s : ByteArray) (o i : Value) : Prop :=
  ∃ (k : Nat) (acc : List UInt8), k ≤ s.size ∧ i = .int .i64 k ∧ o = .string ⟨acc.toArray⟩ ∧ Hid (acc ++ U.nlr (prev13 s k) (s.data.toList.drop k) = U.nlr false s.data.toList) ∧ acc.length ≤ k

theorem byte_eq (b : UInt8) (n : Nat) (h : n < 256) : ((b.toNat : Int) == (n : Int)) = (b == UInt8.ofNat n) := by
  rw [Bool.eq_iff_iff]
  simp only [beq_iff_eq]
  constructor
  · intro e
    have e' : b.toNat = n := by omega
    rw [← e']; simp
  · intro e; subst e; simp; omega

set_option maxHeartbeats 1000000 in
set_option maxRecDepth 100000 in
theorem refNewlines (s : ByteArray) (w : World) (hs : s.size ≤ 100000) :
    Calls Tryz.prog 16 #[.string s] w fun e w' => e = .returned (.string ⟨(U.nlr false s.data.toList).toArray⟩) ∧ w = w' := by
  go_enter Tryz.func16, Tryz.ntmps16
  go_wp2_with fail
  go_loop [3, 4] (fun o i => NlRel s o i) (fun _ i => s.size - (intOf i).toNat)
  case atStart => exact ⟨0, [], Nat.zero_le _, rfl, rfl, Lib.hid rfl, Nat.zero_le _⟩
  case round =>
    obtain ⟨k, acc, hk, rfl, rfl, HA, hal⟩ := hrel
    by_cases hlt : k < s.size
    · have HD := Lib.hid (drop_cons s k hlt)
      have HP := Lib.hid (prev13_at s k hlt)
      have hkm : k + 1 ≤ s.size := by omega
      have hkm' : (k : Int) + 1 ≤ (s.size : Int) := by omega
      have HX := Lib.hid (extract_eq s k 1 hkm)
      by_cases h13 : s[k] = 13
      · have t1 : ((s[k].toNat : Int) == 10) = false := by rw [h13]; decide
        have t2 : ((s[k].toNat : Int) == 13) = true := by rw [h13]; decide
        have H13 := Lib.hid h13
        clear h13
        have HAB := Lib.hid (append_bytes acc [10])
        have zz : ((⟨acc.toArray⟩ : ByteArray).size : Int) + 1 ≤ 1000000 := by rw [bytes_size]; omega
        go_wp2_with fail
        go_round
        case rel =>
          refine ⟨k + 1, acc ++ [10], by omega, by go_num, congrArg Value.string HAB.out, Lib.hid ?_, by simp; omega⟩
          have h3 := HA.out
          rw [HD.out, H13.out] at h3
          rw [← h3, HP.out, H13.out]
          simp [U.nlr]
        case measure => simp [intOf]; omega
      · have t2 : ((s[k].toNat : Int) == 13) = false := by rw [show (13 : Int) = ((13 : Nat) : Int) from rfl, byte_eq _ _ (by omega)]; simpa using h13
        have H13 := Lib.hid h13
        clear h13
        have hx1 : (⟨((s.data.toList.drop k).take 1).toArray⟩ : ByteArray) = ⟨[s[k]].toArray⟩ := by rw [HD.out]; rfl
        rw [hx1] at HX
        have hsz1 : (⟨[s[k]].toArray⟩ : ByteArray).size = 1 := rfl
        have hex : s.extract k (k + 1) = ⟨[s[k]].toArray⟩ := HX.out
        have hexs : (s.extract k (k + 1)).size = 1 := by rw [hex]; rfl
        have HES := Lib.hid hexs
        have zz : ((⟨acc.toArray⟩ : ByteArray).size : Int) + ((s.extract k (k + 1)).size : Int) ≤ 1000000 := by rw [bytes_size, hexs]; omega
        have hab : (⟨acc.toArray⟩ : ByteArray) ++ s.extract k (k + 1) = ⟨(acc ++ [s[k]]).toArray⟩ := by rw [hex, append_bytes]
        have HAB := Lib.hid hab
        clear hab hexs hex hsz1 hx1
        by_cases h10 : s[k] = 10
        · have t1 : ((s[k].toNat : Int) == 10) = true := by rw [h10]; decide
          have H10 := Lib.hid h10
          clear h10
          cases k with
          | zero =>
            have HAL := Lib.hid hal
            go_wp2_with fail
            go_round
            case rel =>
              refine ⟨0 + 1, acc ++ [s[0]], by omega, by go_num, congrArg Value.string HAB.out, Lib.hid ?_, by have := HAL.out; simp only [List.length_append, List.length_singleton]; omega⟩
              have h3 := HA.out
              rw [HD.out] at h3
              rw [← h3, HP.out, H10.out]
              simp [U.nlr, prev13]
            case measure => simp [intOf]; omega
          | succ j =>
            have hj : j < s.size := by omega
            have HPj := Lib.hid (prev13_at s j hj)
            by_cases hp : s[j] = 13
            · have t3 : ((s[j].toNat : Int) == 13) = true := by rw [hp]; decide
              have HPP := Lib.hid hp
              clear hp
              go_wp2_with fail
              go_round
              case rel =>
                refine ⟨j + 1 + 1, acc, by omega, by go_num, rfl, Lib.hid ?_, by omega⟩
                have h3 := HA.out
                rw [HD.out, HPj.out, HPP.out, H10.out] at h3
                rw [← h3, HP.out, H10.out]
                simp [U.nlr]
              case measure => simp [intOf]; omega
            · have t3 : ((s[j].toNat : Int) == 13) = false := by rw [show (13 : Int) = ((13 : Nat) : Int) from rfl, byte_eq _ _ (by omega)]; simpa using hp
              have HPP := Lib.hid (show (s[j] == 13) = false by simpa using hp)
              clear hp
              go_wp2_with fail
              go_round
              case rel =>
                refine ⟨j + 1 + 1, acc ++ [s[j + 1]], by omega, by go_num, congrArg Value.string HAB.out, Lib.hid ?_, by simp; omega⟩
                have h3 := HA.out
                rw [HD.out, HPj.out, HPP.out, H10.out] at h3
                rw [← h3, HP.out, H10.out]
                simp [U.nlr]
              case measure => simp [intOf]; omega
        · have t1 : ((s[k].toNat : Int) == 10) = false := by rw [show (10 : Int) = ((10 : Nat) : Int) from rfl, byte_eq _ _ (by omega)]; simpa using h10
          have H10 := Lib.hid h10
          clear h10
          go_wp2_with fail
          go_round
          case rel =>
            refine ⟨k + 1, acc ++ [s[k]], by omega, by go_num, congrArg Value.string HAB.out, Lib.hid ?_, by simp; omega⟩
            have h3 := HA.out
            rw [HD.out] at h3
            have hb' : (s[k] == 13) = false := by simpa using H13.out
            rw [← h3, HP.out, hb']
            simp [U.nlr, H10.out, H13.out, hb']
          case measure => simp [intOf]; omega
    · have h3 := HA.out
      rw [drop_end s k hlt] at h3
      have h4 : acc = U.nlr false s.data.toList := by simpa [U.nlr] using h3
      have H4 := Lib.hid h4
      clear h3 h4
      go_wp2_with fail
      go_ret
      exact ⟨ret_str (congrArg (fun l : List UInt8 => (⟨l.toArray⟩ : ByteArray)) H4.out), rfl⟩

theorem getElem_ne13 (l : List UInt8) (k : Nat) (h : k < (⟨l.toArray⟩ : ByteArray).size) (hn : 13 ∉ l) : (((⟨l.toArray⟩ : ByteArray)[k].toNat : Int) == 13) = false := by
  rw [show (13 : Int) = ((13 : Nat) : Int) from rfl, byte_eq _ _ (by omega)]
  have hm : (⟨l.toArray⟩ : ByteArray)[k] ∈ l := by
    have h' : k < l.length := by rw [bytes_size] at h; exact h
    have : (⟨l.toArray⟩ : ByteArray)[k] = l[k] := by
      show l.toArray[k] = l[k]
      simp
    rw [this]; exact List.getElem_mem h'
  have : (⟨l.toArray⟩ : ByteArray)[k] ≠ 13 := fun e => hn (by rw [← e]; exact hm)
  simpa using this

theorem hasMax_of_shaped {w : World} (h : w.ShapedOpen Tryz.prog) : HasMax w := by
  obtain ⟨m, hm⟩ := cell_of_shapedOpen_int (zero := #[.int .i64 0]) (t := 3) (g := 4) (k := .i64) h (of_decide_eq_true (by kernel_rfl)) (by kernel_rfl) rfl (by kernel_rfl) (by kernel_rfl) Tryz.underlying3
  refine ⟨⟨m, hm⟩, ?_⟩
  rcases Nat.lt_or_ge 4 w.heap.size with h' | h'
  · exact h'
  · simp [World.cell?, Array.getElem?_eq_none h'] at hm

end T
end Go.Proofs.YtlnginciehjlnaaGreatDoor

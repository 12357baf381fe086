/- What the references for character references, and the small functions at and Find of that for markup, come to. -/
import Derived.Test.YtlnginciehjlnaaGreatDoorPlain
import Derived.Test.YtlnginciehjlnaaGreatDoorEnt2
import Derived.Deep.QuietTactic
import Derived.BigQuiet
set_option linter.unusedVariables false
set_option linter.unusedSimpArgs false
namespace Go.Proofs.YtlnginciehjlnaaGreatDoor
open Go.RowKit
namespace K

set_option maxHeartbeats 400000 in
theorem rword (c : UInt8) (w : World) :
    Calls Tryz.prog 58 #[.int .u8 c.toNat] w fun e w' => e = .returned (.bool (E.goes c)) ∧ w = w' := by
  have hc := c.toNat_lt
  have hv : E.goes c = decide (c.toNat = 61 ∨ (48 ≤ c.toNat ∧ c.toNat ≤ 57) ∨ (97 ≤ c.toNat ∧ c.toNat ≤ 122) ∨ (65 ≤ c.toNat ∧ c.toNat ≤ 90)) := by
    have e1 : (c == 61) = decide (c.toNat = 61) := by
      rw [Bool.eq_iff_iff]; simp [← UInt8.toNat_inj]
    unfold E.goes
    rw [e1, Bool.eq_iff_iff]
    simp
    omega
  rw [hv]
  clear hv
  go_enter Tryz.func58, Tryz.ntmps58
  go_wp2
  all_goals
    go_ret
    refine ⟨ret_bool ?_, rfl⟩
    rw [Bool.eq_iff_iff]
    simp
    omega

set_option maxHeartbeats 1000000 in
theorem rdigit (c : UInt8) (base : Nat) (w : World) (hb : base = 10 ∨ base = 16) :
    Calls Tryz.prog 66 #[.int .u8 c.toNat, .int .i64 base] w fun e w' => e = .returned (.int .i64 (E.dig base c)) ∧ w = w' := by
  have hc := c.toNat_lt
  rcases hb with rfl | rfl
  all_goals
    go_enter Tryz.func66, Tryz.ntmps66
    go_wp2
    all_goals
      go_ret
      refine ⟨ret_int ?_, rfl⟩
      unfold E.dig
      dsimp only
      repeat' split
      all_goals omega

set_option maxHeartbeats 400000 in
theorem rbegins (s p : List UInt8) (w : World) (hs : s.length ≤ 1000000) (hp : p.length ≤ 1000000) :
    Calls Tryz.prog 55 #[.string ⟨s.toArray⟩, .string ⟨p.toArray⟩] w fun e w' => e = .returned (.bool (p.isPrefixOf s)) ∧ w = w' := by
  have hpre : p.isPrefixOf s = (decide (p.length ≤ s.length) && (s.take p.length == p)) := by
    rw [Bool.eq_iff_iff, List.isPrefixOf_iff_prefix, Bool.and_eq_true, decide_eq_true_eq, beq_iff_eq]
    constructor
    · intro h
      exact ⟨h.length_le, (List.prefix_iff_eq_take.1 h).symm⟩
    · rintro ⟨_, h⟩
      exact List.prefix_iff_eq_take.2 h.symm
  by_cases hl : p.length ≤ s.length
  · have hl1 : (p.length : Int) ≤ (s.length : Int) := by omega
    have hx := T.slice_str s 0 p.length (Nat.zero_le _) hl
    rw [List.drop_zero, Nat.sub_zero] at hx
    rw [decide_eq_true hl, Bool.true_and] at hpre
    rw [hpre]
    clear hpre
    go_enter Tryz.func55, Tryz.ntmps55
    go_wp2_with fail
    go_ret
    exact ⟨rfl, rfl⟩
  · have hl1 : (s.length : Int) < (p.length : Int) := by omega
    rw [decide_eq_false hl, Bool.false_and] at hpre
    rw [hpre]
    clear hpre hl
    go_enter Tryz.func55, Tryz.ntmps55
    go_wp2_with fail
    go_ret
    exact ⟨rfl, rfl⟩

def EscRel (attr : Bool) (s : List UInt8) (w : World) (u v : Value) (wr : World) : Prop :=
  ∃ k : Nat, u = .string ⟨(E.escape attr (s.take k)).toArray⟩ ∧ v = .int .i64 k ∧ k ≤ s.length ∧ wr = w

theorem escape_more (attr : Bool) {s r : List UInt8} {k : Nat} {c : UInt8} (h : s.drop k = c :: r) : E.escape attr (s.take (k + 1)) = E.escape attr (s.take k) ++ E.esc attr c := by
  have h1 : (s.drop k)[0]? = some c := by rw [h]; rfl
  rw [List.getElem?_drop, Nat.add_zero] at h1
  have : s.take (k + 1) = s.take k ++ [c] := by
    rw [List.take_add_one, h1]; rfl
  rw [this]
  simp [E.escape]

set_option maxHeartbeats 2000000 in
theorem refEscape (attr : Bool) (s : List UInt8) (w : World) (hs : s.length ≤ 100000) :
    Calls Tryz.prog 17 #[.string ⟨s.toArray⟩, .bool attr] w fun e w' => e = .returned (.string ⟨(E.escape attr s).toArray⟩) ∧ w = w' := by
  go_enter Tryz.func17, Tryz.ntmps17
  go_wp2_with fail
  go_loopw [5, 6] (fun u v wr => EscRel attr s w u v wr) (fun _ v _ => s.length - (intOf v).toNat)
  case atStart => exact ⟨0, rfl, rfl, Nat.zero_le _, rfl⟩
  case round =>
    obtain ⟨k, rfl, rfl, hk, rfl⟩ := hrel
    by_cases hlt : k < s.length
    · obtain ⟨c, r, hd⟩ := drop_cons hlt
      have hlt1 : (k : Int) < (s.length : Int) := by omega
      have hex := T.slice_str s k (k + 1) (by omega) (by omega)
      have htk : (s.drop k).take (k + 1 - k) = [c] := by rw [hd, show k + 1 - k = 1 by omega]; rfl
      rw [htk] at hex
      have HM := Lib.hid (escape_more attr hd)
      have hl1 := E.escape_len attr (s.take k)
      have hl2 : (s.take k).length ≤ k := by rw [List.length_take]; omega
      have hl3 : (E.escape attr (s.take k)).length ≤ 6 * s.length := by omega
      clear hd htk hl1 hl2
      generalize E.escape attr (s.take k) = acc at *
      have fin : ∀ (t : List UInt8), E.esc attr c = t → Hid (E.escape attr (s.take (k + 1)) = acc ++ t) ∧ (⟨acc.toArray⟩ : ByteArray) ++ ⟨t.toArray⟩ = ⟨(acc ++ t).toArray⟩ := fun t ht => ⟨Lib.hid (by rw [HM.out, ht]), T.append_bytes _ _⟩
      cases attr with
      | true =>
        by_cases h1 : c = 38
        · subst h1
          obtain ⟨HF, hab⟩ := fin [38, 97, 109, 112, 59] rfl
          clear fin HM
          go_wp2_with fail
          go_roundw
          case rel => exact ⟨k + 1, by rw [HF.out], by go_num, by omega, rfl⟩
          case measure => simp [intOf]; omega
        by_cases h2 : c = 13
        · subst h2
          obtain ⟨HF, hab⟩ := fin [38, 35, 49, 51, 59] rfl
          clear fin HM
          go_wp2_with fail
          go_roundw
          case rel => exact ⟨k + 1, by rw [HF.out], by go_num, by omega, rfl⟩
          case measure => simp [intOf]; omega
        by_cases h5 : c = 34
        · subst h5
          obtain ⟨HF, hab⟩ := fin [38, 113, 117, 111, 116, 59] rfl
          clear fin HM
          go_wp2_with fail
          go_roundw
          case rel => exact ⟨k + 1, by rw [HF.out], by go_num, by omega, rfl⟩
          case measure => simp [intOf]; omega
        by_cases h6 : c = 60
        · subst h6
          obtain ⟨HF, hab⟩ := fin [60] rfl
          clear fin HM
          go_wp2_with fail
          go_roundw
          case rel => exact ⟨k + 1, by rw [HF.out], by go_num, by omega, rfl⟩
          case measure => simp [intOf]; omega
        by_cases h7 : c = 62
        · subst h7
          obtain ⟨HF, hab⟩ := fin [62] rfl
          clear fin HM
          go_wp2_with fail
          go_roundw
          case rel => exact ⟨k + 1, by rw [HF.out], by go_num, by omega, rfl⟩
          case measure => simp [intOf]; omega
        · obtain ⟨HF, hab⟩ := fin [c] (by unfold E.esc; rw [if_neg h1, if_neg h2, if_neg (fun h => by cases h.2), if_neg (fun h => by cases h.2), if_neg (fun h => h5 h.1)])
          clear fin HM
          have g1 : (c == 38) = false := by simpa using h1
          have g2 : (c == 13) = false := by simpa using h2
          have g5 : (c == 34) = false := by simpa using h5
          have g6 : (c == 60) = false := by simpa using h6
          have g7 : (c == 62) = false := by simpa using h7
          go_wp2_with fail
          go_roundw
          case rel => exact ⟨k + 1, by rw [HF.out], by go_num, by omega, rfl⟩
          case measure => simp [intOf]; omega
      | false =>
        by_cases h1 : c = 38
        · subst h1
          obtain ⟨HF, hab⟩ := fin [38, 97, 109, 112, 59] rfl
          clear fin HM
          go_wp2_with fail
          go_roundw
          case rel => exact ⟨k + 1, by rw [HF.out], by go_num, by omega, rfl⟩
          case measure => simp [intOf]; omega
        by_cases h2 : c = 13
        · subst h2
          obtain ⟨HF, hab⟩ := fin [38, 35, 49, 51, 59] rfl
          clear fin HM
          go_wp2_with fail
          go_roundw
          case rel => exact ⟨k + 1, by rw [HF.out], by go_num, by omega, rfl⟩
          case measure => simp [intOf]; omega
        by_cases h3 : c = 60
        · subst h3
          obtain ⟨HF, hab⟩ := fin [38, 108, 116, 59] rfl
          clear fin HM
          go_wp2_with fail
          go_roundw
          case rel => exact ⟨k + 1, by rw [HF.out], by go_num, by omega, rfl⟩
          case measure => simp [intOf]; omega
        by_cases h4 : c = 62
        · subst h4
          obtain ⟨HF, hab⟩ := fin [38, 103, 116, 59] rfl
          clear fin HM
          go_wp2_with fail
          go_roundw
          case rel => exact ⟨k + 1, by rw [HF.out], by go_num, by omega, rfl⟩
          case measure => simp [intOf]; omega
        by_cases h5 : c = 34
        · subst h5
          obtain ⟨HF, hab⟩ := fin [34] rfl
          clear fin HM
          go_wp2_with fail
          go_roundw
          case rel => exact ⟨k + 1, by rw [HF.out], by go_num, by omega, rfl⟩
          case measure => simp [intOf]; omega
        · obtain ⟨HF, hab⟩ := fin [c] (by unfold E.esc; rw [if_neg h1, if_neg h2, if_neg (fun h => h3 h.1), if_neg (fun h => h4 h.1), if_neg (fun h => by cases h.2)])
          clear fin HM
          have g1 : (c == 38) = false := by simpa using h1
          have g2 : (c == 13) = false := by simpa using h2
          have g3 : (c == 60) = false := by simpa using h3
          have g4 : (c == 62) = false := by simpa using h4
          have g5 : (c == 34) = false := by simpa using h5
          go_wp2_with fail
          go_roundw
          case rel => exact ⟨k + 1, by rw [HF.out], by go_num, by omega, rfl⟩
          case measure => simp [intOf]; omega
    · have hge : (s.length : Int) ≤ (k : Int) := by omega
      have htk : s.take k = s := List.take_of_length_le (by omega)
      rw [htk]
      go_wp2_with fail
      go_ret
      exact ⟨rfl, rfl⟩

end K
end Go.Proofs.YtlnginciehjlnaaGreatDoor

namespace Go.Proofs.YtlnginciehjlnaaGreatDoor
open Go.RowKit
namespace K

/-- What 'string([]byte{..})' gives. -/
theorem string_row (W : World) (xs : List Nat) (l : List Value) (hl : l = xs.map fun x : Nat => Value.int .u8 (x : Int)) (h : ∀ x ∈ xs, x < 256) :
    (convert 53 9 (.slice (some ⟨W.heap.size, 0, none⟩) xs.length xs.length)).run Tryz.prog (W.alloc (.cells l.toArray 5)) = .ok (.string ⟨(xs.map UInt8.ofNat).toArray⟩) (W.alloc (.cells l.toArray 5)) := by
  subst hl
  have hr : (W.alloc (.cells (xs.map fun x : Nat => Value.int .u8 (x : Int)).toArray 5)).heap[W.heap.size]? = some (.cells (xs.map fun x : Nat => Value.int .u8 (x : Int)).toArray 5 (0, 0)) := heap_alloc_new _ _
  obtain ⟨hc, hf⟩ := cells_of hr
  have := T.string_of (W.alloc (.cells (xs.map fun x : Nat => Value.int .u8 (x : Int)).toArray 5)) W.heap.size xs.length xs.length (xs.map UInt8.ofNat) ⟨fun j hj => ?_, fun j hj => hf j (by simpa using hj)⟩ (by simp)
  · exact this
  · rw [hc j]
    have hj' : j < xs.length := by simpa using hj
    have hx := h xs[j] (List.getElem_mem hj')
    simp [hj', Nat.mod_eq_of_lt hx]

set_option maxHeartbeats 1000000 in
set_option maxRecDepth 100000 in
theorem rNumber (n : Nat) (w : World) (hn : n ≤ 1114112) :
    Calls Tryz.prog 67 #[.int .i64 n] w fun e w' => e = .returned (.string ⟨(E.number n).toArray⟩) ∧ Below w.heap.size w w' := by
  obtain ⟨z, hz⟩ : ∃ z : Int, z = (n : Int) := ⟨_, rfl⟩
  rw [← hz]
  have hB : ∀ o, Below w.heap.size w (w.alloc o) := fun o => (Below.refl _ _).alloc (Nat.le_refl _) _
  by_cases h0 : n < 1 ∨ 1114111 < n ∨ (55296 ≤ n ∧ n ≤ 57343)
  · have hv : E.number n = [239, 191, 189] := by unfold E.number; rw [if_pos h0]
    rw [hv]
    have h1 : z < 1 ∨ 1114111 < z ∨ (55296 ≤ z ∧ z ≤ 57343) := by omega
    clear hv h0 hz hn
    rcases h1 with h1 | h1 | ⟨h1, h2⟩
    all_goals
      go_enter Tryz.func67, Tryz.ntmps67
      go_wp2_with fail
      go_ret
      exact ⟨rfl, Below.refl _ _⟩
  · have a0 : 1 ≤ z := by omega
    have a1 : z ≤ 1114111 := by omega
    have a2 : z < 55296 ∨ 57343 < z := by omega
    by_cases h1 : n < 128
    · have b1 : z < 128 := by omega
      obtain ⟨R, hR⟩ : ∃ R, R = [n].map UInt8.ofNat := ⟨_, rfl⟩
      have hv : E.number n = R := by unfold E.number; rw [if_neg h0, if_pos h1, hR]; rfl
      have hs : (convert 53 9 (.slice (some ⟨w.heap.size, 0, none⟩) 1 1)).run Tryz.prog (w.alloc (.cells #[.int .u8 z] 5)) = .ok (.string ⟨R.toArray⟩) (w.alloc (.cells #[.int .u8 z] 5)) := by rw [hR]; exact string_row w [n] [.int .u8 z] (by rw [hz]; simp) (by simp; omega)
      rw [hv]
      clear hv hR hz h0 hn
      clear a2 h1
      go_enter Tryz.func67, Tryz.ntmps67
      go_wp2_with fail
      go_ret
      exact ⟨rfl, hB _⟩
    · by_cases h2 : n < 2048
      · have b1 : 128 ≤ z := by omega
        have b2 : z < 2048 := by omega
        obtain ⟨R, hR⟩ : ∃ R, R = [192 + n / 64, 128 + n % 64].map UInt8.ofNat := ⟨_, rfl⟩
        have hv : E.number n = R := by unfold E.number; rw [if_neg h0, if_neg h1, if_pos h2, hR]; rfl
        have hs : (convert 53 9 (.slice (some ⟨w.heap.size, 0, none⟩) 2 2)).run Tryz.prog (w.alloc (.cells #[.int .u8 (192 + z / 64), .int .u8 (128 + z % 64)] 5)) = .ok (.string ⟨R.toArray⟩) (w.alloc (.cells #[.int .u8 (192 + z / 64), .int .u8 (128 + z % 64)] 5)) := by rw [hR]; exact string_row w [192 + n / 64, 128 + n % 64] [.int .u8 (192 + z / 64), .int .u8 (128 + z % 64)] (by rw [hz]; simp) (by simp; omega)
        rw [hv]
        clear hv hR hz h0 hn
        clear a2 h1 h2
        go_enter Tryz.func67, Tryz.ntmps67
        go_wp2_with fail
        go_ret
        exact ⟨rfl, hB _⟩
      · by_cases h3 : n < 65536
        · have b1 : 2048 ≤ z := by omega
          have b2 : z < 65536 := by omega
          obtain ⟨R, hR⟩ : ∃ R, R = [224 + n / 4096, 128 + n / 64 % 64, 128 + n % 64].map UInt8.ofNat := ⟨_, rfl⟩
          have hv : E.number n = R := by unfold E.number; rw [if_neg h0, if_neg h1, if_neg h2, if_pos h3, hR]; rfl
          have hs : (convert 53 9 (.slice (some ⟨w.heap.size, 0, none⟩) 3 3)).run Tryz.prog (w.alloc (.cells #[.int .u8 (224 + z / 4096), .int .u8 (128 + z / 64 % 64), .int .u8 (128 + z % 64)] 5)) = .ok (.string ⟨R.toArray⟩) (w.alloc (.cells #[.int .u8 (224 + z / 4096), .int .u8 (128 + z / 64 % 64), .int .u8 (128 + z % 64)] 5)) := by rw [hR]; exact string_row w [224 + n / 4096, 128 + n / 64 % 64, 128 + n % 64] [.int .u8 (224 + z / 4096), .int .u8 (128 + z / 64 % 64), .int .u8 (128 + z % 64)] (by rw [hz]; simp) (by simp; omega)
          rw [hv]
          clear hv hR hz h0 hn
          clear h1 h2 h3
          rcases a2 with a2 | a2
          all_goals
            go_enter Tryz.func67, Tryz.ntmps67
            go_wp2_with fail
            go_ret
            exact ⟨rfl, hB _⟩
        · have b1 : 65536 ≤ z := by omega
          obtain ⟨R, hR⟩ : ∃ R, R = [240 + n / 262144, 128 + n / 4096 % 64, 128 + n / 64 % 64, 128 + n % 64].map UInt8.ofNat := ⟨_, rfl⟩
          have hv : E.number n = R := by unfold E.number; rw [if_neg h0, if_neg h1, if_neg h2, if_neg h3, hR]; rfl
          have hs : (convert 53 9 (.slice (some ⟨w.heap.size, 0, none⟩) 4 4)).run Tryz.prog (w.alloc (.cells #[.int .u8 (240 + z / 262144), .int .u8 (128 + z / 4096 % 64), .int .u8 (128 + z / 64 % 64), .int .u8 (128 + z % 64)] 5)) = .ok (.string ⟨R.toArray⟩) (w.alloc (.cells #[.int .u8 (240 + z / 262144), .int .u8 (128 + z / 4096 % 64), .int .u8 (128 + z / 64 % 64), .int .u8 (128 + z % 64)] 5)) := by rw [hR]; exact string_row w [240 + n / 262144, 128 + n / 4096 % 64, 128 + n / 64 % 64, 128 + n % 64] [.int .u8 (240 + z / 262144), .int .u8 (128 + z / 4096 % 64), .int .u8 (128 + z / 64 % 64), .int .u8 (128 + z % 64)] (by rw [hz]; simp) (by simp; omega)
          rw [hv]
          clear hv hR hz h0 hn
          clear a2 h1 h2 h3
          go_enter Tryz.func67, Tryz.ntmps67
          go_wp2_with fail
          go_ret
          exact ⟨rfl, hB _⟩

set_option maxHeartbeats 1000000 in
theorem rnumber (s : List UInt8) (at_ base : Nat) (w : World) (hs : s.length ≤ 1000000) (ha : at_ ≤ s.length) (hb : base = 10 ∨ base = 16) :
    Calls Tryz.prog 56 #[.string ⟨s.toArray⟩, .int .i64 at_, .int .i64 base] w fun e w' => e = .returned (tup (E.numeric s at_ base)) ∧ Below w.heap.size w w' := by
  have hb16 : base ≤ 16 := by omega
  go_enter Tryz.func56, Tryz.ntmps56
  go_wp2_with fail
  go_loopw [8, 9] (fun u v wr => NumRel s at_ base w u v wr) (fun _ v _ => s.length - (intOf v).toNat)
  case atStart => exact ⟨at_, 0, rfl, rfl, Nat.le_refl _, ha, by omega, rfl, Lib.hid ⟨rfl, rfl⟩⟩
  case round =>
    obtain ⟨k, x, rfl, rfl, hk1, hk2, hx, rfl, HF⟩ := hrel
    by_cases hgo : ∃ c r, s.drop k = c :: r ∧ E.isDig base c = true
    · obtain ⟨c, r, hd, hc⟩ := hgo
      have hlt := lt_drop hd
      have hlt1 : (k : Int) < (s.length : Int) := by omega
      have hi := at_drop hd (by rw [T.bytes_size]; exact hlt)
      have hd2 := drop_more hd
      have hD : 0 ≤ E.dig base c := by simpa [E.isDig] using hc
      have hD2 := (dig_le base c).2.1 hD
      have Q := Lib.hid (fun W => rdigit c base W hb)
      have HR : Hid (k + 1 + ((s.drop (k + 1)).takeWhile (E.isDig base)).length = at_ + ((s.drop at_).takeWhile (E.isDig base)).length ∧ E.valFrom base (min (x * base + (E.dig base c).toNat) 1114112) ((s.drop (k + 1)).takeWhile (E.isDig base)) = E.valFrom base 0 ((s.drop at_).takeWhile (E.isDig base))) := by
        obtain ⟨h1, h2⟩ := HF.out
        rw [hd, List.takeWhile_cons_of_pos hc] at h1 h2
        rw [hd2]
        refine Lib.hid ⟨?_, h2⟩
        rw [List.length_cons] at h1
        omega
      generalize E.dig base c = D at *
      have hxb : (x : Int) * (base : Int) ≤ 17825792 := by
        have : x * base ≤ 1114112 * 16 := Nat.mul_le_mul hx hb16
        have h3 : ((x * base : Nat) : Int) ≤ 17825792 := by omega
        rw [Int.natCast_mul] at h3
        exact h3
      have hxb0 : 0 ≤ (x : Int) * (base : Int) := Int.mul_nonneg (by omega) (by omega)
      clear hd hd2 hc
      go_wp2_with fail
      refine (Q.out _).mono ?_
      rintro e w' ⟨rfl, rfl⟩
      go_wp2_with fail
      refine (Q.out _).mono ?_
      rintro e w' ⟨rfl, rfl⟩
      go_wp2_with fail
      go_roundw
      case rel =>
        refine ⟨k + 1, min (x * base + D.toNat) 1114112, ?_, by go_num, by omega, by omega, by omega, rfl, HR⟩
        congr 1
        have h3 : ((x * base : Nat) : Int) = (x : Int) * (base : Int) := Int.natCast_mul x base
        omega
      case measure => simp [intOf]; omega
    · have hnil : (s.drop k).takeWhile (E.isDig base) = [] := by
        cases hd : s.drop k with
        | nil => rfl
        | cons c r =>
          refine List.takeWhile_cons_of_neg fun hc => hgo ⟨c, r, hd, hc⟩
      obtain ⟨h1, h2⟩ := HF.out
      rw [hnil] at h1 h2
      have h2' : x = E.valFrom base 0 ((s.drop at_).takeWhile (E.isDig base)) := h2
      have h1' : k = at_ + ((s.drop at_).takeWhile (E.isDig base)).length := h1
      clear h1 h2 hnil HF
      by_cases hka : k = at_
      · have hv : E.numeric s at_ base = ([], 0) := by
          have : (s.drop at_).takeWhile (E.isDig base) = [] := List.eq_nil_of_length_eq_zero (by omega)
          unfold E.numeric
          rw [this]; rfl
        have HV := Lib.hid hv
        have hkb : ((k : Int) == (at_ : Int)) = true := beq_iff_eq.2 (by omega)
        clear h1' h2' hv hka
        rcases Nat.lt_or_ge k s.length with hlt | hge
        · obtain ⟨c, r, hd⟩ := drop_cons hlt
          have hlt1 : (k : Int) < (s.length : Int) := by omega
          have hi := at_drop hd (by rw [T.bytes_size]; exact hlt)
          have hD : E.dig base c < 0 := by
            have : ¬ E.isDig base c = true := fun h => hgo ⟨c, r, hd, h⟩
            simpa [E.isDig] using this
          have Q := Lib.hid (fun W => rdigit c base W hb)
          generalize E.dig base c = D at *
          clear hd hgo
          go_wp2_with fail
          refine (Q.out _).mono ?_
          rintro e w' ⟨rfl, rfl⟩
          go_wp2_with fail
          go_ret2
          rw [HV.out]
          exact ⟨rfl, Below.refl _ _⟩
        · have hge1 : (s.length : Int) ≤ (k : Int) := by omega
          clear hgo
          go_wp2_with fail
          go_ret2
          rw [HV.out]
          exact ⟨rfl, Below.refl _ _⟩
      · have hkb : ((k : Int) == (at_ : Int)) = false := beq_eq_false_iff_ne.2 (by omega)
        have hv : E.numeric s at_ base = (E.number x, k + (if E.semi (s.drop k) then 1 else 0)) := by
          have : ¬ (s.drop at_).takeWhile (E.isDig base) = [] := fun h => by rw [h] at h1'; simp at h1'; omega
          unfold E.numeric
          dsimp only
          rw [if_neg this, ← h1', ← h2']
        have QN := Lib.hid (rNumber x wr hx)
        have HV0 := Lib.hid hv
        clear h1' h2' hv hka
        rcases Nat.lt_or_ge k s.length with hlt | hge
        · obtain ⟨c, r, hd⟩ := drop_cons hlt
          have hlt1 : (k : Int) < (s.length : Int) := by omega
          have hi := at_drop hd (by rw [T.bytes_size]; exact hlt)
          have hD : E.dig base c < 0 := by
            have : ¬ E.isDig base c = true := fun h => hgo ⟨c, r, hd, h⟩
            simpa [E.isDig] using this
          have Q := Lib.hid (fun W => rdigit c base W hb)
          have hsm := semi_at hd
          have HV1 := Lib.hid (HV0.out.trans (by rw [hsm]))
          generalize E.dig base c = D at *
          clear hd hgo hsm
          by_cases hc : c = 59
          · subst hc
            have HV : Hid (E.numeric s at_ base = (E.number x, k + 1)) := HV1.out
            go_wp2_with fail
            refine (Q.out _).mono ?_
            rintro e w' ⟨rfl, rfl⟩
            go_wp2_with fail
            refine QN.out.mono ?_
            rintro e w' ⟨rfl, b⟩
            go_wp2_with fail
            go_ret2
            rw [HV.out]
            exact ⟨rfl, b⟩
          · have hc1 : ((c.toNat : Int) == 59) = false := byte_ne (n := 59) hc (by omega)
            have hc2 : (c == 59) = false := by simpa using hc
            have HV : Hid (E.numeric s at_ base = (E.number x, k)) := Lib.hid (HV1.out.trans (by rw [hc2]; rfl))
            go_wp2_with fail
            refine (Q.out _).mono ?_
            rintro e w' ⟨rfl, rfl⟩
            go_wp2_with fail
            refine QN.out.mono ?_
            rintro e w' ⟨rfl, b⟩
            go_wp2_with fail
            go_ret2
            rw [HV.out]
            exact ⟨rfl, b⟩
        · have hge1 : (s.length : Int) ≤ (k : Int) := by omega
          have HV : Hid (E.numeric s at_ base = (E.number x, k)) := Lib.hid (HV0.out.trans (by rw [List.drop_eq_nil_of_le hge]; rfl))
          clear hgo
          go_wp2_with fail
          refine QN.out.mono ?_
          rintro e w' ⟨rfl, b⟩
          go_wp2_with fail
          go_ret2
          rw [HV.out]
          exact ⟨rfl, b⟩


/- The table: a row of thirty pairs in memory. -/
def pcells (l : List (List UInt8 × List UInt8)) : List Value := l.flatMap fun p => [.string ⟨p.1.toArray⟩, .string ⟨p.2.toArray⟩]

def IsTab (g : Nat) (w : World) : Prop := w.heap[g]? = some (.cells (pcells E.rtab).toArray 80 (0, 0))

set_option maxHeartbeats 1000000 in
theorem rTable (w : World) :
    Calls Tryz.prog 57 #[] w fun e w' => e = .returned (.slice (some ⟨w.heap.size, 0, none⟩) 30 30) ∧ IsTab w.heap.size w' ∧ Below w.heap.size w w' := by
  go_enter Tryz.func57, Tryz.ntmps57
  go_wp2_with fail
  go_ret
  exact ⟨rfl, heap_alloc_new _ _, (Below.refl _ _).alloc (Nat.le_refl _) _⟩

end K
end Go.Proofs.YtlnginciehjlnaaGreatDoor

namespace Go.Proofs.YtlnginciehjlnaaGreatDoor
open Go.RowKit
namespace K

theorem rtab_cells {g : Nat} {w : World} (h : IsTab g w) {k : Nat} (hk : k < 30) : ∃ a b : List UInt8, E.rtab[k]? = some (a, b) ∧ w.cell? ⟨g, k * 2, none⟩ = some (.string ⟨a.toArray⟩) ∧ w.cell? ⟨g, k * 2 + 1, none⟩ = some (.string ⟨b.toArray⟩) := by
  have hl : E.rtab.length = 30 := rfl
  obtain ⟨a, b, hab⟩ : ∃ a b, E.rtab[k]'(by omega) = (a, b) := ⟨(E.rtab[k]'(by omega)).1, (E.rtab[k]'(by omega)).2, rfl⟩
  have hc := (cells_of h).1
  have hat : ∀ o, o < 2 → (pcells E.rtab)[k * 2 + o]? = some (if o = 0 then .string ⟨a.toArray⟩ else .string ⟨b.toArray⟩) := fun o ho => acells_at E.rtab k (by omega) hab o ho
  refine ⟨a, b, by rw [List.getElem?_eq_getElem (by omega), hab], ?_, ?_⟩
  · rw [hc (k * 2)]
    have := hat 0 (by omega)
    simpa using this
  · rw [hc (k * 2 + 1)]
    have := hat 1 (by omega)
    simpa using this

theorem rtab_short {a b : List UInt8} {k : Nat} (h : E.rtab[k]? = some (a, b)) : a.length ≤ 10 ∧ b.length ≤ 10 := by
  have : ∀ p ∈ E.rtab, p.1.length ≤ 10 ∧ p.2.length ≤ 10 := by decide +kernel
  exact this (a, b) (List.mem_of_getElem? h)

/-- The search for a name: what is found from a place of the table on. -/
def rfind (s : List UInt8) (k : Nat) : List UInt8 × Nat := match (E.rtab.drop k).find? (fun p => (38 :: (p.1 ++ [59])).isPrefixOf s) with | some p => (p.2, p.1.length + 2) | none => E.short s E.shorts
theorem rfind_next {s a b : List UInt8} {k : Nat} (h : E.rtab[k]? = some (a, b)) : rfind s k = if (38 :: (a ++ [59])).isPrefixOf s then (b, a.length + 2) else rfind s (k + 1) := by
  have hd : E.rtab.drop k = (a, b) :: E.rtab.drop (k + 1) := by
    have hk : k < E.rtab.length := (List.getElem?_eq_some_iff.1 h).1
    rw [List.drop_eq_getElem_cons hk]
    congr 1
    exact (List.getElem?_eq_some_iff.1 h).2
  unfold rfind
  rw [hd, List.find?_cons]
  cases hp : (38 :: (a ++ [59])).isPrefixOf s with
  | true => simp [hp]
  | false => simp [hp]
theorem rfind_end (s : List UInt8) : rfind s 30 = E.short s E.shorts := rfl

theorem rnext_num {s : List UInt8} (h1 : [38, 35, 120].isPrefixOf s = true ∨ [38, 35, 88].isPrefixOf s = true) : E.next s = E.numeric s 3 16 := by
  unfold E.next
  rw [if_pos (by rcases h1 with h | h <;> simp [h])]
theorem rnext_dec {s : List UInt8} (h1 : [38, 35, 120].isPrefixOf s = false) (h2 : [38, 35, 88].isPrefixOf s = false) (h3 : [38, 35].isPrefixOf s = true) : E.next s = E.numeric s 2 10 := by
  unfold E.next
  rw [if_neg (by simp [h1, h2]), if_pos h3]
theorem rnext_name {s : List UInt8} (h1 : [38, 35, 120].isPrefixOf s = false) (h2 : [38, 35, 88].isPrefixOf s = false) (h3 : [38, 35].isPrefixOf s = false) : E.next s = rfind s 0 := by
  unfold E.next
  rw [if_neg (by simp [h1, h2]), if_neg (by simp [h3])]
  exact E.rnext_eq s

/-- The names that need no semicolon, from a place on. -/
def sfind (s : List UInt8) (k : Nat) : List UInt8 × Nat := E.short s (E.shorts.drop k)
theorem shorts_at : ∀ k, k < 4 → E.shorts[k]? = E.rtab[k]? := by decide +kernel
theorem sfind_next {s a b : List UInt8} {k : Nat} (hk : k < 4) (h : E.rtab[k]? = some (a, b)) : sfind s k = if (38 :: a).isPrefixOf s && E.ends (s.drop (a.length + 1)) then (b, a.length + 1) else sfind s (k + 1) := by
  rw [← shorts_at k hk] at h
  have hd : E.shorts.drop k = (a, b) :: E.shorts.drop (k + 1) := by
    have hk : k < E.shorts.length := (List.getElem?_eq_some_iff.1 h).1
    rw [List.drop_eq_getElem_cons hk]
    congr 1
    exact (List.getElem?_eq_some_iff.1 h).2
  unfold sfind
  rw [hd]
  conv => lhs; unfold E.short
theorem sfind_end (s : List UInt8) : sfind s 4 = ([], 0) := rfl

set_option maxHeartbeats 4000000 in
set_option maxRecDepth 100000 in
theorem rNext (s : List UInt8) (w : World) (hs : s.length ≤ 100000) :
    Calls Tryz.prog 41 #[.string ⟨s.toArray⟩] w fun e w' => e = .returned (tup (E.next s)) ∧ Below w.heap.size w w' := by
  have B1 := Lib.hid (fun W => rbegins s [38, 35, 120] W (by omega) (by decide))
  have B2 := Lib.hid (fun W => rbegins s [38, 35, 88] W (by omega) (by decide))
  have B3 := Lib.hid (fun W => rbegins s [38, 35] W (by omega) (by decide))
  cases h1 : [38, 35, 120].isPrefixOf s with
  | true =>
    have hl := List.IsPrefix.length_le (List.isPrefixOf_iff_prefix.1 h1)
    have Q := Lib.hid (fun W => rnumber s 3 16 W (by omega) hl (by omega))
    have HV := Lib.hid (rnext_num (Or.inl h1))
    rw [h1] at B1
    clear h1 B2 B3
    go_enter Tryz.func41, Tryz.ntmps41
    go_wp2_with fail
    refine (B1.out _).mono ?_
    rintro e w' ⟨rfl, rfl⟩
    go_wp2_with fail
    refine (Q.out _).mono ?_
    rintro e w' ⟨rfl, b⟩
    unfold tup
    go_wp2_with fail
    go_ret2
    rw [HV.out]
    exact ⟨rfl, b⟩
  | false =>
    rw [h1] at B1
    cases h2 : [38, 35, 88].isPrefixOf s with
    | true =>
      have hl := List.IsPrefix.length_le (List.isPrefixOf_iff_prefix.1 h2)
      have Q := Lib.hid (fun W => rnumber s 3 16 W (by omega) hl (by omega))
      have HV := Lib.hid (rnext_num (Or.inr h2))
      rw [h2] at B2
      clear h1 h2 B3
      go_enter Tryz.func41, Tryz.ntmps41
      go_wp2_with fail
      refine (B1.out _).mono ?_
      rintro e w' ⟨rfl, rfl⟩
      go_wp2_with fail
      refine (B2.out _).mono ?_
      rintro e w' ⟨rfl, rfl⟩
      go_wp2_with fail
      refine (Q.out _).mono ?_
      rintro e w' ⟨rfl, b⟩
      unfold tup
      go_wp2_with fail
      go_ret2
      rw [HV.out]
      exact ⟨rfl, b⟩
    | false =>
      rw [h2] at B2
      cases h3 : [38, 35].isPrefixOf s with
      | true =>
        have hl := List.IsPrefix.length_le (List.isPrefixOf_iff_prefix.1 h3)
        have Q := Lib.hid (fun W => rnumber s 2 10 W (by omega) hl (by omega))
        have HV := Lib.hid (rnext_dec h1 h2 h3)
        rw [h3] at B3
        clear h1 h2 h3
        go_enter Tryz.func41, Tryz.ntmps41
        go_wp2_with fail
        refine (B1.out _).mono ?_
        rintro e w' ⟨rfl, rfl⟩
        go_wp2_with fail
        refine (B2.out _).mono ?_
        rintro e w' ⟨rfl, rfl⟩
        go_wp2_with fail
        refine (B3.out _).mono ?_
        rintro e w' ⟨rfl, rfl⟩
        go_wp2_with fail
        refine (Q.out _).mono ?_
        rintro e w' ⟨rfl, b⟩
        unfold tup
        go_wp2_with fail
        go_ret2
        rw [HV.out]
        exact ⟨rfl, b⟩
      | false =>
        obtain ⟨X, hX⟩ : ∃ X, E.next s = X := ⟨_, rfl⟩
        have HV := Lib.hid ((rnext_name h1 h2 h3).symm.trans hX)
        rw [hX]
        rw [h3] at B3
        clear h1 h2 h3 hX
        go_enter Tryz.func41, Tryz.ntmps41
        go_wp2_with fail
        refine (B1.out _).mono ?_
        rintro e w' ⟨rfl, rfl⟩
        go_wp2_with fail
        refine (B2.out _).mono ?_
        rintro e w' ⟨rfl, rfl⟩
        go_wp2_with fail
        refine (B3.out _).mono ?_
        rintro e w' ⟨rfl, rfl⟩
        go_wp2_with fail
        refine (rTable _).mono ?_
        rintro e w1 ⟨rfl, ht, b1⟩
        have HT := Lib.hid ht
        have htl := lt_of_block ht
        clear ht
        go_wp2_with fail
        go_loopw [5] (fun u wr => ∃ k : Nat, u = .int .i64 k ∧ k ≤ 30 ∧ Hid (rfind s k = X) ∧ Below w1.heap.size w1 wr) (fun u _ => 30 - (intOf u).toNat)
        case atStart => exact ⟨0, rfl, by omega, HV, Below.refl _ _⟩
        case round =>
          obtain ⟨k, rfl, hk, HK, hB⟩ := hrel
          by_cases hlt : k < 30
          · have hlt1 : (k : Int) < 30 := by omega
            obtain ⟨a, b, hab, c0, c1⟩ := rtab_cells (g := w.heap.size) ((hB.block _ htl).trans HT.out) hlt
            have hsh := rtab_short hab
            have hn := rfind_next (s := s) hab
            have ap1 : (⟨#[38]⟩ : ByteArray) ++ ⟨a.toArray⟩ = ⟨(38 :: a).toArray⟩ := T.append_bytes [38] a
            have ap2 : (⟨(38 :: a).toArray⟩ : ByteArray) ++ ⟨#[59]⟩ = ⟨(38 :: (a ++ [59])).toArray⟩ := T.append_bytes (38 :: a) [59]
            have za := T.bytes_size a
            have za2 := T.bytes_size (38 :: a)
            have hl2 : (38 :: a).length ≤ 11 := by simp; omega
            have qb := fun W => rbegins s (38 :: (a ++ [59])) W (by omega) (by simp; omega)
            cases hp : (38 :: (a ++ [59])).isPrefixOf s with
            | true =>
              rw [hp] at qb
              rw [hp, if_pos rfl] at hn
              have QB := Lib.hid qb
              have HN := Lib.hid (hn.symm.trans HK.out)
              clear hn qb hp hab HK
              generalize 38 :: (a ++ [59]) = p2 at *
              generalize 38 :: a = p1 at *
              go_wp2_with fail
              refine (QB.out _).mono ?_
              rintro e w' ⟨rfl, rfl⟩
              go_wp2_with fail
              go_quiet (fail)
              go_wp2_with fail
              go_ret2
              rw [← HN.out]
              exact ⟨by unfold tup; simp, b1.trans (Below.trans (hB.mono b1.size) ⟨rfl, rfl, rfl, Nat.le_refl _, fun _ _ => rfl⟩)⟩
            | false =>
              rw [hp] at qb
              rw [hp, if_neg (by simp)] at hn
              have QB := Lib.hid qb
              have HN := Lib.hid (hn.symm.trans HK.out)
              clear hn qb hp hab HK
              generalize 38 :: (a ++ [59]) = p2 at *
              generalize 38 :: a = p1 at *
              go_wp2_with fail
              refine (QB.out _).mono ?_
              rintro e w' ⟨rfl, rfl⟩
              go_wp2_with fail
              go_roundw
              case rel => exact ⟨k + 1, by go_num, by omega, HN, hB⟩
              case measure => simp [intOf]; omega
          · obtain rfl : k = 30 := by omega
            have HS : Hid (sfind s 0 = X) := Lib.hid ((rfind_end s).symm.trans HK.out)
            clear HK hlt
            obtain ⟨wo, rfl⟩ : ∃ wo : World, wo = wr := ⟨_, rfl⟩
            go_wp2_with fail
            go_loopw [6] (fun u wr => ∃ k : Nat, u = .int .i64 k ∧ k ≤ 4 ∧ Hid (sfind s k = X) ∧ Below w1.heap.size w1 wr) (fun u _ => 4 - (intOf u).toNat)
            case atStart => exact ⟨0, rfl, by omega, HS, hB⟩
            case round =>
              obtain ⟨k, rfl, hk4, HK, hB2⟩ := hrel
              by_cases hlt : k < 4
              · have hlt1 : (k : Int) < 4 := by omega
                obtain ⟨a, b, hab, c0, c1⟩ := rtab_cells (g := w.heap.size) ((hB2.block _ htl).trans HT.out) (show k < 30 by omega)
                have hsh := rtab_short hab
                have hn := sfind_next (s := s) hlt hab
                have ap1 : (⟨#[38]⟩ : ByteArray) ++ ⟨a.toArray⟩ = ⟨(38 :: a).toArray⟩ := T.append_bytes [38] a
                have za := T.bytes_size a
                have hl2 : (38 :: a).length = a.length + 1 := by simp
                have qb := fun W => rbegins s (38 :: a) W (by omega) (by omega)
                have hk30 : (k : Int) < 30 := by omega
                cases hp : (38 :: a).isPrefixOf s with
                | false =>
                  rw [hp] at qb
                  rw [hp, Bool.false_and, if_neg (by simp)] at hn
                  have QB := Lib.hid qb
                  have HN := Lib.hid (hn.symm.trans HK.out)
                  clear hn qb hp hab HK hl2
                  generalize 38 :: a = p1 at *
                  go_wp2_with fail
                  refine (QB.out _).mono ?_
                  rintro e w' ⟨rfl, rfl⟩
                  go_wp2_with fail
                  go_roundw
                  case rel =>
                    repeat apply Exists.intro
                    refine And.intro ?_ rfl
                    exact ⟨k + 1, by go_num, by omega, HN, hB2⟩
                  case measure => simp [intOf]; omega
                | true =>
                  have hle := List.IsPrefix.length_le (List.isPrefixOf_iff_prefix.1 hp)
                  rw [hp] at qb
                  rw [hp, Bool.true_and] at hn
                  have QB := Lib.hid qb
                  have hbb := b1.trans (hB2.mono b1.size)
                  by_cases heq : s.length = a.length + 1
                  · rw [List.drop_eq_nil_of_le (by omega), if_pos (show E.ends [] = true from rfl)] at hn
                    have HN := Lib.hid (hn.symm.trans HK.out)
                    have heq1 : ((s.length : Int) == (a.length : Int) + 1) = true := by rw [beq_iff_eq]; omega
                    clear hn qb hp hab HK heq hle
                    generalize 38 :: a = p1 at *
                    go_wp2_with fail
                    refine (QB.out _).mono ?_
                    rintro e w' ⟨rfl, rfl⟩
                    go_wp2_with fail
                    go_ret2
                    rw [← HN.out]
                    exact ⟨by unfold tup; simp, hbb⟩
                  · obtain ⟨c, r, hd⟩ := drop_cons (s := s) (i := a.length + 1) (by omega)
                    have hlt3 : a.length + 1 < s.length := by omega
                    have hsz3 : a.length + 1 < (⟨s.toArray⟩ : ByteArray).size := by rw [T.bytes_size]; exact hlt3
                    have hi := at_drop hd hsz3
                    rw [hd] at hn
                    have hn : sfind s k = if (!E.goes c) = true then (b, a.length + 1) else sfind s (k + 1) := hn
                    have heq1 : ((s.length : Int) == (a.length : Int) + 1) = false := by rw [beq_eq_false_iff_ne]; omega
                    have hlt2 : (a.length : Int) + 1 < (s.length : Int) := by omega
                    have QW := Lib.hid (fun W => rword c W)
                    cases hg : E.goes c with
                    | true =>
                      rw [hg] at hn QW
                      have HN := Lib.hid (hn.symm.trans HK.out)
                      clear hn qb hp hab HK hd hg
                      generalize 38 :: a = p1 at *
                      go_wp2_with fail
                      refine (QB.out _).mono ?_
                      rintro e w' ⟨rfl, rfl⟩
                      go_wp2_with fail
                      refine (QW.out _).mono ?_
                      rintro e w' ⟨rfl, rfl⟩
                      go_wp2_with fail
                      go_roundw
                      case rel =>
                        repeat apply Exists.intro
                        refine And.intro ?_ rfl
                        exact ⟨k + 1, by go_num, by omega, HN, hB2⟩
                      case measure => simp [intOf]; omega
                    | false =>
                      rw [hg] at hn QW
                      have HN := Lib.hid (hn.symm.trans HK.out)
                      clear hn qb hp hab HK hd hg
                      generalize 38 :: a = p1 at *
                      go_wp2_with fail
                      refine (QB.out _).mono ?_
                      rintro e w' ⟨rfl, rfl⟩
                      go_wp2_with fail
                      refine (QW.out _).mono ?_
                      rintro e w' ⟨rfl, rfl⟩
                      go_wp2_with fail
                      go_ret2
                      rw [← HN.out]
                      exact ⟨by unfold tup; simp, hbb⟩
              · obtain rfl : k = 4 := by omega
                have HN := Lib.hid ((sfind_end s).symm.trans HK.out)
                clear HK hlt
                go_wp2_with fail
                go_ret2
                rw [← HN.out]
                exact ⟨rfl, b1.trans (hB2.mono b1.size)⟩

def RdRel (s : List UInt8) (w : World) (u v : Value) (wr : World) : Prop :=
  ∃ (t acc : List UInt8), u = .string ⟨t.toArray⟩ ∧ v = .string ⟨acc.toArray⟩ ∧ t.length ≤ s.length ∧ acc.length + 4 * t.length ≤ 4 * s.length ∧ Hid (acc ++ E.decode t = E.decode s) ∧ Below w.heap.size w wr

theorem szOf_str (t : List UInt8) : T.szOf (.string ⟨t.toArray⟩) = t.length := T.bytes_size t

set_option maxHeartbeats 2000000 in
theorem refDecode (s : List UInt8) (w : World) (hs : s.length ≤ 100000) :
    Calls Tryz.prog 19 #[.string ⟨s.toArray⟩] w fun e w' => e = .returned (.string ⟨(E.decode s).toArray⟩) ∧ Below w.heap.size w w' := by
  obtain ⟨X, hX⟩ : ∃ X, E.decode s = X := ⟨_, rfl⟩
  rw [hX]
  have HX := Lib.hid hX
  go_enter Tryz.func19, Tryz.ntmps19
  go_wp2_with fail
  go_loopw [0, 3] (fun u v wr => RdRel s w u v wr) (fun u _ _ => T.szOf u)
  case atStart => exact ⟨s, [], rfl, rfl, Nat.le_refl _, by simp, Lib.hid rfl, Below.refl _ _⟩
  case round =>
    obtain ⟨t, acc, rfl, rfl, htl, hal, HA, hB⟩ := hrel
    by_cases hne : t = []
    · subst hne
      have HR : Hid (acc = X) := Lib.hid (by rw [← HX.out, ← HA.out, E.decode_nil, List.append_nil])
      clear HA hX
      go_wp2_with fail
      go_ret
      rw [HR.out]
      exact ⟨rfl, hB⟩
    · have hpos : 0 < t.length := List.length_pos_iff.2 hne
      have hpos1 : (0 : Int) < (t.length : Int) := by omega
      have QN := Lib.hid (fun W => rNext t W (by omega))
      have hnl := next_len t
      have zt := T.bytes_size t
      have za := T.bytes_size acc
      by_cases h0 : (E.next t).2 = 0
      · obtain ⟨c, r, rfl⟩ : ∃ c r, t = c :: r := by cases t with | nil => exact absurd rfl hne | cons c r => exact ⟨c, r, rfl⟩
        have hd := E.decode_skip c r h0
        have he : E.next (c :: r) = ([], 0) := Prod.ext (hnl.2.2 h0) h0
        have HA2 : Hid ((acc ++ [c]) ++ E.decode r = E.decode s) := Lib.hid (by rw [← HA.out, hd]; simp)
        have hx1 := T.slice_str (c :: r) 0 1 (by omega) (by simp)
        have hx2 := T.slice_str (c :: r) 1 (c :: r).length (by simp) (Nat.le_refl _)
        have e1 : ((c :: r).drop 0).take (1 - 0) = [c] := rfl
        have e2 : ((c :: r).drop 1).take ((c :: r).length - 1) = r := by simp
        rw [e1] at hx1
        rw [e2] at hx2
        have hab := T.append_bytes acc [c]
        have hlr : (c :: r).length = r.length + 1 := rfl
        rw [hlr] at hx2
        rw [he] at QN
        unfold tup at QN
        have hlen : r.length + 1 ≤ s.length := by rw [← hlr]; exact htl
        clear HA hd he hnl h0 e1 e2
        generalize hT : c :: r = t at *
        have HT := Lib.hid hT
        clear hT
        go_wp2_with fail
        refine (QN.out _).mono ?_
        rintro e w1 ⟨rfl, b1⟩
        go_wp2_with fail
        go_roundw
        case rel =>
          refine ⟨r, acc ++ [c], rfl, rfl, by omega, by simp; omega, HA2, hB.trans (b1.mono hB.size)⟩
        case measure => rw [szOf_str, szOf_str]; omega
      · have hd := E.decode_ref t h0 hne
        obtain ⟨x, nn, hxn⟩ : ∃ x nn, E.next t = (x, nn) := ⟨_, _, rfl⟩
        rw [hxn] at hd h0 hnl QN
        dsimp only at hd h0 hnl
        unfold tup at QN
        dsimp only at QN
        have HA2 : Hid ((acc ++ x) ++ E.decode (t.drop nn) = E.decode s) := Lib.hid (by rw [← HA.out, hd]; simp)
        have hx2 := T.slice_str t nn t.length hnl.1 (Nat.le_refl _)
        have e2 : (t.drop nn).take (t.length - nn) = t.drop nn := List.take_of_length_le (by rw [List.length_drop]; omega)
        rw [e2] at hx2
        have hab := T.append_bytes acc x
        have hln : (t.drop nn).length = t.length - nn := List.length_drop
        have h01 : ((nn : Int) == 0) = false := by rw [beq_eq_false_iff_ne]; omega
        have hn1 : (nn : Int) ≤ (t.length : Int) := by omega
        have hx4 := hnl.2.1
        have hnn := hnl.1
        have zx := T.bytes_size x
        clear HA hd hnl e2 hxn
        generalize t.drop nn = t2 at *
        go_wp2_with fail
        refine (QN.out _).mono ?_
        rintro e w1 ⟨rfl, b1⟩
        go_wp2_with fail
        go_roundw
        case rel =>
          refine ⟨t2, acc ++ x, rfl, rfl, by omega, by rw [List.length_append]; omega, HA2, hB.trans (b1.mono hB.size)⟩
        case measure => rw [szOf_str, szOf_str]; omega

end K
end Go.Proofs.YtlnginciehjlnaaGreatDoor

namespace Go.Proofs.YtlnginciehjlnaaGreatDoor
open Go.RowKit
namespace K

theorem prefix_take (p s : List UInt8) : p.isPrefixOf s = (decide (p.length ≤ s.length) && (s.take p.length == p)) := by
  rw [Bool.eq_iff_iff, List.isPrefixOf_iff_prefix, Bool.and_eq_true, decide_eq_true_eq, beq_iff_eq]
  constructor
  · intro h
    exact ⟨h.length_le, (List.prefix_iff_eq_take.1 h).symm⟩
  · rintro ⟨_, h⟩
    exact List.prefix_iff_eq_take.2 h.symm

set_option maxHeartbeats 400000 in
theorem rat (s p : List UInt8) (i : Nat) (w : World) (hs : s.length ≤ 1000000) (h1 : 1 ≤ p.length) (hp : p.length ≤ 1000000) (hi : i ≤ 2000000) :
    Calls Tryz.prog 32 #[.string ⟨s.toArray⟩, .int .i64 i, .string ⟨p.toArray⟩] w fun e w' => e = .returned (.bool (p.isPrefixOf (s.drop i))) ∧ w = w' := by
  have hpre := prefix_take p (s.drop i)
  by_cases hl : i + p.length ≤ s.length
  · have hl1 : (i : Int) + (p.length : Int) ≤ (s.length : Int) := by omega
    have hx := T.slice_str s i (i + p.length) (by omega) hl
    rw [show i + p.length - i = p.length by omega] at hx
    rw [decide_eq_true (by rw [List.length_drop]; omega), Bool.true_and] at hpre
    rw [hpre]
    clear hpre
    go_enter Tryz.func32, Tryz.ntmps32
    go_wp2_with fail
    go_ret
    exact ⟨rfl, rfl⟩
  · have hl1 : (s.length : Int) < (i : Int) + (p.length : Int) := by omega
    have hv : p.isPrefixOf (s.drop i) = false := by
      rw [hpre, decide_eq_false (by rw [List.length_drop]; omega)]; rfl
    rw [hv]
    clear hpre hl hv
    go_enter Tryz.func32, Tryz.ntmps32
    go_wp2_with fail
    go_ret
    exact ⟨rfl, rfl⟩

/-- The place of p from an index on, -1 if there is none. -/
def findI (p s : List UInt8) (k : Nat) : Int := match M.idx p (s.drop k) with | none => -1 | some j => ((k + j : Nat) : Int)

theorem find_at {p s : List UInt8} {k : Nat} (hk : k + p.length ≤ s.length) (h1 : 1 ≤ p.length) (h : p.isPrefixOf (s.drop k) = true) : findI p s k = k := by
  obtain ⟨c, r, hd⟩ := drop_cons (s := s) (i := k) (by omega)
  unfold findI
  have : M.idx p (s.drop k) = some 0 := by
    rw [hd] at h ⊢
    unfold M.idx
    rw [if_pos h]
  rw [this]
  rfl
theorem find_next {p s : List UInt8} {k : Nat} (hk : k + p.length ≤ s.length) (h1 : 1 ≤ p.length) (h : p.isPrefixOf (s.drop k) = false) : findI p s k = findI p s (k + 1) := by
  obtain ⟨c, r, hd⟩ := drop_cons (s := s) (i := k) (by omega)
  have hd2 := drop_more hd
  unfold findI
  have : M.idx p (s.drop k) = (M.idx p r).map (· + 1) := by
    rw [hd] at h ⊢
    conv => lhs; unfold M.idx
    rw [if_neg (by rw [h]; simp)]
  rw [this, hd2]
  cases M.idx p r with
  | none => rfl
  | some j => simp only [Option.map_some]; congr 1; omega
theorem find_end {p s : List UInt8} {k : Nat} (hk : s.length < k + p.length) (hk2 : k ≤ s.length) : findI p s k = -1 := by
  unfold findI
  cases hi : M.idx p (s.drop k) with
  | none => rfl
  | some j =>
    have := idx_le p _ j hi
    rw [List.length_drop] at this
    omega

set_option maxHeartbeats 1000000 in
theorem rFind (s p : List UInt8) (from_ : Nat) (w : World) (hs : s.length ≤ 1000000) (h1 : 1 ≤ p.length) (hp : p.length ≤ 1000000) (hf : from_ ≤ s.length) :
    Calls Tryz.prog 18 #[.string ⟨s.toArray⟩, .int .i64 from_, .string ⟨p.toArray⟩] w fun e w' => e = .returned (.int .i64 (findI p s from_)) ∧ w = w' := by
  obtain ⟨R, hR⟩ : ∃ R, findI p s from_ = R := ⟨_, rfl⟩
  have HR := Lib.hid hR
  rw [hR]
  clear hR
  go_enter Tryz.func18, Tryz.ntmps18
  go_wp2_with fail
  go_loopw [7] (fun u wr => ∃ k : Nat, u = .int .i64 k ∧ k ≤ s.length ∧ Hid (findI p s k = R) ∧ w = wr) (fun u _ => s.length - (intOf u).toNat)
  case atStart => exact ⟨from_, rfl, hf, HR, rfl⟩
  case round =>
    obtain ⟨k, rfl, hk, HK, rfl⟩ := hrel
    by_cases hlt : k + p.length ≤ s.length
    · have hlt1 : (k : Int) + (p.length : Int) ≤ (s.length : Int) := by omega
      cases hb : p.isPrefixOf (s.drop k) with
      | true =>
        have q := fun W => rat s p k W hs h1 hp (by omega)
        rw [hb] at q
        have Q := Lib.hid q
        have HV := Lib.hid ((find_at hlt h1 hb).symm.trans HK.out)
        clear q hb HK HR
        go_wp2_with fail
        refine (Q.out _).mono ?_
        rintro e w' ⟨rfl, rfl⟩
        go_wp2_with fail
        go_ret
        rw [← HV.out]
        exact ⟨rfl, rfl⟩
      | false =>
        have q := fun W => rat s p k W hs h1 hp (by omega)
        rw [hb] at q
        have Q := Lib.hid q
        have HV := Lib.hid ((find_next hlt h1 hb).symm.trans HK.out)
        clear q hb HK HR
        go_wp2_with fail
        refine (Q.out _).mono ?_
        rintro e w' ⟨rfl, rfl⟩
        go_wp2_with fail
        go_roundw
        case rel => exact ⟨k + 1, by go_num, by omega, HV, trivial⟩
        case measure => simp [intOf]; omega
    · have hlt1 : (s.length : Int) < (k : Int) + (p.length : Int) := by omega
      have HV := Lib.hid ((find_end (by omega) hk).symm.trans HK.out)
      clear HK HR
      go_wp2_with fail
      go_ret
      rw [← HV.out]
      exact ⟨rfl, rfl⟩

end K
end Go.Proofs.YtlnginciehjlnaaGreatDoor

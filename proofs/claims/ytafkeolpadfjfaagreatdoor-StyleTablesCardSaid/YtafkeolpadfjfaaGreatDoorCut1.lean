/- What text.Fields comes to, owned; sides. Going over strings and parts in brackets: in one pass with a depth, or part by part. No program in sight. strings.Cut at a mark of one byte: no table is read. -/
import Derived.Test.YtafkeolpadfjfaaGreatDoorSty10
import Derived.Test.YtafkeolpadfjfaaGreatDoorSty1
set_option linter.unusedVariables false
set_option linter.unusedSimpArgs false
namespace Go.Proofs.YtafkeolpadfjfaaGreatDoor
open Go.RowKit Go.Sort
namespace Y
open H
def sCells (l : List (List UInt8)) : List Value := l.map fun x => .string ⟨x.toArray⟩
theorem flat_s : ∀ l : List (List UInt8), l.flatMap (fun a => cStr a (.bool false)) = sCells l
 | [] => rfl
 | a :: r => by rw [List.flatMap_cons, flat_s r]; rfl
theorem strs_own {base : Nat} {w : World} {v : Value} {l : List (List UInt8)} {T : TypeId} (h : w.ownsRow base T 1 v l.length (sCells l)) (hn : l.length = 0 → v = .slice none 0 0) : StrsAt (base ≤ ·) w v l := by
 refine ⟨l.map (fun d => (d, .bool false)), by rw [List.map_map]; exact List.map_id l, ?_, fun _ _ => trivial⟩
 have := RowAt.of_own (S := (base ≤ ·)) h hn (fun g _ hb => hb)
 rw [List.flatMap_map]
 rw [show l.flatMap (fun a => cStr a (.bool false)) = sCells l from flat_s l]
 exact this
theorem strs_lit (w : World) (l : List (List UInt8)) (T : TypeId) (hne : 0 < l.length) (hl : l.length ≤ 1000) : StrsAt (w.heap.size ≤ ·) (w.alloc (.cells (sCells l).toArray T)) (.slice (some ⟨w.heap.size, 0, none⟩) l.length l.length) l :=
 strs_own (by
  have := World.ownsRow_lit (e := T) (base := w.heap.size) (size := 1) w (sCells l).toArray l.length (Nat.le_refl _) (by unfold maxLen; omega) (by simp [sCells])
  simpa using this) (fun h => by omega)
/-- Words, in a row of the call's own. -/
def WordsPost (l : List (List UInt8)) (w : World) (e : Ending) (w' : World) : Prop :=
 ∃ A, e = .returned (.slice (some ⟨A, 0, none⟩) l.length l.length) ∧ w'.ownsRow w.heap.size 9 1 (.slice (some ⟨A, 0, none⟩) l.length l.length) l.length (sCells l) ∧ Below w.heap.size w w'
set_option maxHeartbeats 1000000 in
theorem fields (s : List UInt8) (w : World) (hs : s.length ≤ 1000000) :
  Calls Tryz.prog 101 #[.string ⟨s.toArray⟩] w (WordsPost (S.words s) w) := by
 have hp : PredGrows Tryz.prog 141 #[] T.spR w := fun W x hx hb => (T.FieldsFn x W hx).mono fun e w' ⟨he, hw⟩ => ⟨he, by subst hw; exact Below.refl _ _⟩
 have hc := Tryz.strings_FieldsFunc_grows 141 #[] T.fn_enters T.spR ⟨s.toArray⟩ w (by rw [bytes_size]; omega) hp
 rw [T.fields_eq, T.fields_length, bytes_toList] at hc
 have HC := Lib.hid hc
 clear hc hp
 unfold S.words
 generalize T.flds [] s = L at *
 go_enter Tryz.func101, Tryz.ntmps101
 go_wp2_with (go_at_call 116; refine HC.out.mono ?_)
 rintro e w1 ⟨A, rfl, hA, hown, hb⟩
 have HO := Lib.hid hown
 clear hown
 go_wp2_with fail
 go_ret
 exact ⟨A, rfl, HO.out, hb⟩
def SidesPost (o : Option (List (List UInt8))) (w : World) (e : Ending) (w' : World) : Prop :=
 Below w.heap.size w w' ∧ ((∃ l g, o = some l ∧ l.length = 4 ∧ e = .returned (.slice (some ⟨g, 0, none⟩) 4 4) ∧ StrsAt (w.heap.size ≤ ·) w' (.slice (some ⟨g, 0, none⟩) 4 4) l) ∨ (o = none ∧ e = .returned (.slice none 0 0)))
set_option maxHeartbeats 4000000 in
set_option maxRecDepth 100000 in
theorem sides (nm : List UInt8) (w : World) (hm : nm.length ≤ 1000000) : Calls Tryz.prog 103 #[.string ⟨nm.toArray⟩] w (SidesPost (S.sidesOf nm) w) := by
 have zn := bytes_size nm
 have hB : ∀ cs T, Below w.heap.size w (w.alloc (.cells cs T)) := fun cs T => (Below.refl _ w).alloc (Nat.le_refl _) _
 have HBl := Lib.hid hB
 clear hB
 by_cases hmp : nm = [109, 97, 114, 103, 105, 110] ∨ nm = [112, 97, 100, 100, 105, 110, 103]
 ·have HO : Hid (S.sidesOf nm = some [nm ++ [45, 116, 111, 112], nm ++ [45, 114, 105, 103, 104, 116], nm ++ [45, 98, 111, 116, 116, 111, 109], nm ++ [45, 108, 101, 102, 116]]) := Lib.hid (by unfold S.sidesOf; rw [if_pos hmp])
  have a0 : (⟨nm.toArray⟩ : ByteArray) ++ ⟨#[45, 116, 111, 112]⟩ = ⟨(nm ++ [45, 116, 111, 112]).toArray⟩ := append_bytes nm [45, 116, 111, 112]
  have a1 : (⟨nm.toArray⟩ : ByteArray) ++ ⟨#[45, 114, 105, 103, 104, 116]⟩ = ⟨(nm ++ [45, 114, 105, 103, 104, 116]).toArray⟩ := append_bytes nm [45, 114, 105, 103, 104, 116]
  have a2 : (⟨nm.toArray⟩ : ByteArray) ++ ⟨#[45, 98, 111, 116, 116, 111, 109]⟩ = ⟨(nm ++ [45, 98, 111, 116, 116, 111, 109]).toArray⟩ := append_bytes nm [45, 98, 111, 116, 116, 111, 109]
  have a3 : (⟨nm.toArray⟩ : ByteArray) ++ ⟨#[45, 108, 101, 102, 116]⟩ = ⟨(nm ++ [45, 108, 101, 102, 116]).toArray⟩ := append_bytes nm [45, 108, 101, 102, 116]
  have hl : nm.length ≤ 20 := by rcases hmp with h | h <;> (rw [h]; decide)
  have hst := Lib.hid (strs_lit w [nm ++ [45, 116, 111, 112], nm ++ [45, 114, 105, 103, 104, 116], nm ++ [45, 98, 111, 116, 116, 111, 109], nm ++ [45, 108, 101, 102, 116]] 9 (by simp) (by simp))
  have hcs : ((nm == [109, 97, 114, 103, 105, 110]) = true) ∨ ((nm == [109, 97, 114, 103, 105, 110]) = false ∧ (nm == [112, 97, 100, 100, 105, 110, 103]) = true) := by
   by_cases h : nm = [109, 97, 114, 103, 105, 110]
   ·exact Or.inl (by simpa using h)
   ·exact Or.inr ⟨by simpa using h, by simpa using hmp.resolve_left h⟩
  clear hmp
  rcases hcs with h1 | ⟨h1, h2⟩
  all_goals
   go_enter Tryz.func103, Tryz.ntmps103
   go_wp2_with fail
   go_ret
   exact ⟨HBl.out _ _, Or.inl ⟨_, _, HO.out, rfl, rfl, hst.out⟩⟩
 ·have g1 : (nm == [109, 97, 114, 103, 105, 110]) = false := by simpa using fun h => hmp (Or.inl h)
  have g2 : (nm == [112, 97, 100, 100, 105, 110, 103]) = false := by simpa using fun h => hmp (Or.inr h)
  by_cases hw : nm = [98, 111, 114, 100, 101, 114, 45, 119, 105, 100, 116, 104]
  ·have HO : Hid (S.sidesOf nm = some [[98, 111, 114, 100, 101, 114, 45, 116, 111, 112, 45, 119, 105, 100, 116, 104], [98, 111, 114, 100, 101, 114, 45, 114, 105, 103, 104, 116, 45, 119, 105, 100, 116, 104], [98, 111, 114, 100, 101, 114, 45, 98, 111, 116, 116, 111, 109, 45, 119, 105, 100, 116, 104], [98, 111, 114, 100, 101, 114, 45, 108, 101, 102, 116, 45, 119, 105, 100, 116, 104]]) := Lib.hid (by unfold S.sidesOf; rw [if_neg hmp, if_pos hw])
   have g3 : (nm == [98, 111, 114, 100, 101, 114, 45, 119, 105, 100, 116, 104]) = true := by simpa using hw
   have hst := Lib.hid (strs_lit w [[98, 111, 114, 100, 101, 114, 45, 116, 111, 112, 45, 119, 105, 100, 116, 104], [98, 111, 114, 100, 101, 114, 45, 114, 105, 103, 104, 116, 45, 119, 105, 100, 116, 104], [98, 111, 114, 100, 101, 114, 45, 98, 111, 116, 116, 111, 109, 45, 119, 105, 100, 116, 104], [98, 111, 114, 100, 101, 114, 45, 108, 101, 102, 116, 45, 119, 105, 100, 116, 104]] 9 (by simp) (by simp))
   clear hmp hw
   go_enter Tryz.func103, Tryz.ntmps103
   go_wp2_with fail
   go_ret
   exact ⟨HBl.out _ _, Or.inl ⟨_, _, HO.out, rfl, rfl, hst.out⟩⟩
  ·have HO : Hid (S.sidesOf nm = none) := Lib.hid (by unfold S.sidesOf; rw [if_neg hmp, if_neg hw])
   have g3 : (nm == [98, 111, 114, 100, 101, 114, 45, 119, 105, 100, 116, 104]) = false := by simpa using hw
   clear hmp hw
   go_enter Tryz.func103, Tryz.ntmps103
   go_wp2_with fail
   go_ret
   exact ⟨Below.refl _ _, Or.inr ⟨HO.out, rfl⟩⟩
end Y
end Go.Proofs.YtafkeolpadfjfaaGreatDoor
namespace Go.Proofs.YtafkeolpadfjfaaGreatDoor
namespace S
def closers : List UInt8 := [41, 93, 125]
/-- How long a string is, behind its first sign. -/
def strLen (q : UInt8) (t : List UInt8) : Nat := min ((t.takeWhile (· ≠ q)).length + 1) t.length
/-- How long the character, the string, or the part at the head is. -/
def nx : List UInt8 → Nat
 | [] => 0
 | c :: t => if c = 34 ∨ c = 39 then 1 + strLen c t else if c = 40 ∨ c = 91 ∨ c = 123 then 1 + min (scan closers 0 0 t + 1) t.length else 1
theorem scan_le (stops : List UInt8) : ∀ (t : List UInt8) (d : Nat) (q : UInt8), scan stops d q t ≤ t.length
 | [], _, _ => by simp [scan]
 | c :: t, d, q => by
  have h1 := fun d q => scan_le stops t d q
  rw [scan]
  repeat' split
  all_goals first
   | (rw [List.length_cons]; omega)
   | (rw [List.length_cons]; have := h1 d (if c = q then 0 else q); omega)
   | (rw [List.length_cons]; have := h1 d c; omega)
   | (rw [List.length_cons]; have := h1 (d + 1) 0; omega)
   | (rw [List.length_cons]; have := h1 (d - 1) 0; omega)
   | (rw [List.length_cons]; have := h1 d 0; have := h1 d q; omega)
theorem nx_pos {c : UInt8} {t : List UInt8} : 1 ≤ nx (c :: t) := by rw [nx]; (repeat' split) <;> omega
theorem nx_le : ∀ s : List UInt8, nx s ≤ s.length
 | [] => Nat.le_refl _
 | c :: t => by
  rw [nx]
  unfold strLen
  repeat' split
  all_goals (rw [List.length_cons]; omega)
/-- Within a string: on to its end. -/
theorem scan_str (stops : List UInt8) (d : Nat) {q : UInt8} (hq : q ≠ 0) : ∀ t : List UInt8, scan stops d q t = strLen q t + scan stops d 0 (t.drop (strLen q t))
 | [] => by simp [scan, strLen]
 | c :: t => by
  have ih := scan_str stops d hq t
  rw [show scan stops d q (c :: t) = 1 + scan stops d (if c = q then 0 else q) t by rw [scan]; rw [if_pos hq]]
  by_cases h : c = q
  ·rw [if_pos h]
   have e : strLen q (c :: t) = 1 := by
    unfold strLen
    rw [List.takeWhile_cons_of_neg (by simp [h])]
    simp
   rw [e]; rfl
  ·rw [if_neg h, ih]
   have e : strLen q (c :: t) = strLen q t + 1 := by
    unfold strLen
    rw [List.takeWhile_cons_of_pos (by simp [h]), List.length_cons, List.length_cons]
    omega
   rw [e, List.drop_succ_cons]
   omega
/-- Behind an opening sign: on to what closes it. -/
theorem scan_part (stops : List UInt8) (d : Nat) : ∀ (t : List UInt8) (e : Nat) (q : UInt8), scan stops (d + e + 1) q t = min (scan closers e q t + 1) t.length + scan stops d 0 (t.drop (scan closers e q t + 1))
 | [], _, _ => by simp [scan]
 | c :: t, e, q => by
  have ih := fun e q => scan_part stops d t e q
  have hle := fun e q => scan_le closers t e q
  by_cases hq : q ≠ 0
  ·rw [show scan stops (d + e + 1) q (c :: t) = 1 + scan stops (d + e + 1) (if c = q then 0 else q) t by rw [scan]; rw [if_pos hq],
    show scan closers e q (c :: t) = 1 + scan closers e (if c = q then 0 else q) t by rw [scan]; rw [if_pos hq], ih]
   generalize (if c = q then (0 : UInt8) else q) = q2
   have := hle e q2
   rw [show 1 + scan closers e q2 t + 1 = (scan closers e q2 t + 1) + 1 by omega, List.drop_succ_cons, List.length_cons]
   omega
  ·have hq0 : q = 0 := by simpa using hq
   subst hq0
   have hd : ¬ (d + e + 1 = 0 ∧ c ∈ stops) := fun h => by omega
   by_cases hc : e = 0 ∧ c ∈ closers
   ·obtain ⟨rfl, hcl⟩ := hc
    have e0 : scan closers 0 0 (c :: t) = 0 := by rw [scan]; rw [if_neg (by simp), if_pos ⟨rfl, hcl⟩]
    have h3 : c = 41 ∨ c = 93 ∨ c = 125 := by simpa [closers] using hcl
    have n1 : ¬ (c = 34 ∨ c = 39) := by rcases h3 with rfl | rfl | rfl <;> decide
    have n2 : ¬ (c = 40 ∨ c = 91 ∨ c = 123) := by rcases h3 with rfl | rfl | rfl <;> decide
    rw [e0, show scan stops (d + 0 + 1) 0 (c :: t) = 1 + scan stops (d + 0 + 1 - 1) 0 t by rw [scan]; rw [if_neg (by simp), if_neg hd, if_neg n1, if_neg n2, if_pos h3]]
    rw [List.length_cons]
    have : min (0 + 1) (t.length + 1) = 1 := by omega
    rw [this]
    rfl
   ·by_cases h1 : c = 34 ∨ c = 39
    ·rw [show scan stops (d + e + 1) 0 (c :: t) = 1 + scan stops (d + e + 1) c t by rw [scan]; rw [if_neg (by simp), if_neg hd, if_pos h1],
      show scan closers e 0 (c :: t) = 1 + scan closers e c t by rw [scan]; rw [if_neg (by simp), if_neg hc, if_pos h1], ih]
     have := hle e c
     rw [show 1 + scan closers e c t + 1 = (scan closers e c t + 1) + 1 by omega, List.drop_succ_cons, List.length_cons]
     omega
    ·by_cases h2 : c = 40 ∨ c = 91 ∨ c = 123
     ·rw [show scan stops (d + e + 1) 0 (c :: t) = 1 + scan stops (d + (e + 1) + 1) 0 t by rw [scan]; rw [if_neg (by simp), if_neg hd, if_neg h1, if_pos h2, show d + e + 1 + 1 = d + (e + 1) + 1 by omega],
       show scan closers e 0 (c :: t) = 1 + scan closers (e + 1) 0 t by rw [scan]; rw [if_neg (by simp), if_neg hc, if_neg h1, if_pos h2], ih]
      have := hle (e + 1) 0
      rw [show 1 + scan closers (e + 1) 0 t + 1 = (scan closers (e + 1) 0 t + 1) + 1 by omega, List.drop_succ_cons, List.length_cons]
      omega
     ·by_cases h3 : c = 41 ∨ c = 93 ∨ c = 125
      ·have he : e ≠ 0 := fun h0 => hc ⟨h0, by simpa [closers] using h3⟩
       rw [show scan stops (d + e + 1) 0 (c :: t) = 1 + scan stops (d + (e - 1) + 1) 0 t by rw [scan]; rw [if_neg (by simp), if_neg hd, if_neg h1, if_neg h2, if_pos h3, show d + e + 1 - 1 = d + (e - 1) + 1 by omega],
        show scan closers e 0 (c :: t) = 1 + scan closers (e - 1) 0 t by rw [scan]; rw [if_neg (by simp), if_neg hc, if_neg h1, if_neg h2, if_pos h3], ih]
       have := hle (e - 1) 0
       rw [show 1 + scan closers (e - 1) 0 t + 1 = (scan closers (e - 1) 0 t + 1) + 1 by omega, List.drop_succ_cons, List.length_cons]
       omega
      ·rw [show scan stops (d + e + 1) 0 (c :: t) = 1 + scan stops (d + e + 1) 0 t by rw [scan]; rw [if_neg (by simp), if_neg hd, if_neg h1, if_neg h2, if_neg h3],
        show scan closers e 0 (c :: t) = 1 + scan closers e 0 t by rw [scan]; rw [if_neg (by simp), if_neg hc, if_neg h1, if_neg h2, if_neg h3], ih]
       have := hle e 0
       rw [show 1 + scan closers e 0 t + 1 = (scan closers e 0 t + 1) + 1 by omega, List.drop_succ_cons, List.length_cons]
       omega
/-- Ahead of the first stop outside of strings and parts: part by part. -/
theorem scan_next {stops : List UInt8} {c : UInt8} {t : List UInt8} (hc : c ∉ stops) : scan stops 0 0 (c :: t) = nx (c :: t) + scan stops 0 0 ((c :: t).drop (nx (c :: t))) := by
 have hd : ¬ ((0 : Nat) = 0 ∧ c ∈ stops) := fun h => hc h.2
 by_cases h1 : c = 34 ∨ c = 39
 ·have hn : nx (c :: t) = 1 + strLen c t := by rw [nx]; rw [if_pos h1]
  have hc0 : c ≠ 0 := by rcases h1 with rfl | rfl <;> decide
  rw [show scan stops 0 0 (c :: t) = 1 + scan stops 0 c t by rw [scan]; rw [if_neg (by simp), if_neg hd, if_pos h1], scan_str stops 0 hc0, hn,
   show 1 + strLen c t = strLen c t + 1 by omega, List.drop_succ_cons]
  omega
 ·by_cases h2 : c = 40 ∨ c = 91 ∨ c = 123
  ·have hn : nx (c :: t) = 1 + min (scan closers 0 0 t + 1) t.length := by rw [nx]; rw [if_neg h1, if_pos h2]
   have hp := scan_part stops 0 t 0 0
   rw [show scan stops 0 0 (c :: t) = 1 + scan stops (0 + 0 + 1) 0 t by rw [scan]; rw [if_neg (by simp), if_neg hd, if_neg h1, if_pos h2], hp, hn,
    show 1 + min (scan closers 0 0 t + 1) t.length = min (scan closers 0 0 t + 1) t.length + 1 by omega, List.drop_succ_cons]
   have e : t.drop (min (scan closers 0 0 t + 1) t.length) = t.drop (scan closers 0 0 t + 1) := by
    rcases Nat.le_total (scan closers 0 0 t + 1) t.length with h | h
    ·rw [Nat.min_eq_left h]
    ·rw [Nat.min_eq_right h, List.drop_length, List.drop_eq_nil_of_le h]
   rw [e]
   omega
  ·have hn : nx (c :: t) = 1 := by rw [nx]; rw [if_neg h1, if_neg h2]
   rw [hn]
   by_cases h3 : c = 41 ∨ c = 93 ∨ c = 125
   ·rw [show scan stops 0 0 (c :: t) = 1 + scan stops (0 - 1) 0 t by rw [scan]; rw [if_neg (by simp), if_neg hd, if_neg h1, if_neg h2, if_pos h3]]
    rfl
   ·rw [show scan stops 0 0 (c :: t) = 1 + scan stops 0 0 t by rw [scan]; rw [if_neg (by simp), if_neg hd, if_neg h1, if_neg h2, if_neg h3]]
    rfl
theorem scan_stop {stops : List UInt8} {c : UInt8} {t : List UInt8} (hc : c ∈ stops) : scan stops 0 0 (c :: t) = 0 := by
 rw [scan]; rw [if_neg (by simp), if_pos ⟨rfl, hc⟩]
end S
end Go.Proofs.YtafkeolpadfjfaaGreatDoor
namespace Go.Proofs.YtafkeolpadfjfaaGreatDoor
open Go.RowKit
namespace H
theorem index_none {c : UInt8} : ∀ {s : List UInt8}, s.dropWhile (· != c) = [] → Lib.indexByte s c = -1
 | [], _ => rfl
 | b :: l, h => by
  unfold Lib.indexByte
  by_cases hb : b = c
  ·subst hb; simp at h
  ·have h1 : (b == c) = false := by simpa using hb
   have h2 : l.dropWhile (· != c) = [] := by simpa [List.dropWhile_cons, bne, h1] using h
   rw [h1, index_none h2]
   rfl
theorem index_some {c q : UInt8} : ∀ {s u : List UInt8}, s.dropWhile (· != c) = q :: u → Lib.indexByte s c = ((s.takeWhile (· != c)).length : Int)
 | [], _, h => by cases h
 | b :: l, u, h => by
  unfold Lib.indexByte
  by_cases hb : b = c
  ·subst hb; simp
  ·have h1 : (b == c) = false := by simpa using hb
   have h2 : l.dropWhile (· != c) = q :: u := by simpa [List.dropWhile_cons, bne, h1] using h
   rw [h1, index_some h2]
   have h3 : (b :: l).takeWhile (· != c) = b :: l.takeWhile (· != c) := by simp [List.takeWhile_cons, bne, h1]
   rw [h3]
   have h4 : (((l.takeWhile (· != c)).length : Int) == -1) = false := by
    rw [beq_eq_false_iff_ne]; omega
   rw [h4]
   simp
set_option maxHeartbeats 1000000 in
theorem liteCut_none (s : List UInt8) (c : UInt8) (w : World) (hs : s.length ≤ 1000000) (h : s.dropWhile (· != c) = []) :
  Calls Tryz.prog 99 #[.string ⟨s.toArray⟩, .string ⟨#[c]⟩] w fun e w' => e = .returned (.tuple #[.string ⟨s.toArray⟩, .string ⟨#[]⟩, .bool false]) ∧ ∃ n, w' = w.drewN n := by
 have q := Tryz.stringslite_Index_one ⟨s.toArray⟩ c w
 rw [bytes_toList, index_none h] at q
 have Q := Lib.hid q
 clear q h
 go_enter Tryz.func99, Tryz.ntmps99
 go_wp2_with fail
 refine (Q.out).mono ?_
 rintro en w1 ⟨rfl, rfl⟩
 go_wp2_with fail
 refine bodyPost_ret (v := .tuple #[.string ⟨s.toArray⟩, .string ⟨#[]⟩, .bool false]) (by simp [results, Tryz.results99, go_sem]) rfl ⟨rfl, 0, rfl⟩
set_option maxHeartbeats 1000000 in
theorem liteCut_some (s u : List UInt8) (c q : UInt8) (w : World) (hs : s.length ≤ 1000000) (h : s.dropWhile (· != c) = q :: u) :
  Calls Tryz.prog 99 #[.string ⟨s.toArray⟩, .string ⟨#[c]⟩] w fun e w' => e = .returned (.tuple #[.string ⟨(s.takeWhile (· != c)).toArray⟩, .string ⟨u.toArray⟩, .bool true]) ∧ ∃ n, w' = w.drewN n := by
 have qq := Tryz.stringslite_Index_one ⟨s.toArray⟩ c w
 rw [bytes_toList, index_some h] at qq
 have hdw := drop_tw (· != c) s
 rw [h] at hdw
 have htk : s.take (s.takeWhile (· != c)).length = s.takeWhile (· != c) := by
  have := List.takeWhile_append_dropWhile (p := (· != c)) (l := s)
  exact (congrArg (List.take (s.takeWhile (· != c)).length) this).symm.trans List.take_left
 have hlt : (s.takeWhile (· != c)).length < s.length := by
  have := congrArg List.length hdw
  rw [List.length_drop] at this
  simp at this
  omega
 generalize (s.takeWhile (· != c)) = t at *
 have hx1 := slice_str s 0 t.length (Nat.zero_le _) (by omega)
 have hx2 := slice_str s (t.length + 1) s.length (by omega) (Nat.le_refl _)
 rw [List.drop_zero, Nat.sub_zero, htk] at hx1
 rw [List.take_of_length_le (by rw [List.length_drop]; omega), drop_more hdw] at hx2
 have zs := bytes_size s
 have g1 : IntKind.i64.wrap ((t.length : Int) + 1) = (t.length : Int) + 1 := IntWalk.i64_in _ (by omega)
 have g2 : ((t.length : Int) + 1).toNat = t.length + 1 := by omega
 have g3 : (0 : Int) ≤ (t.length : Int) := by omega
 have g4 : (0 : Int) ≤ (t.length : Int) + 1 := by omega
 have g5 : (t.length : Int) ≤ (s.length : Int) := by omega
 have g6 : (t.length : Int) + 1 ≤ (s.length : Int) := by omega
 have Q := Lib.hid qq
 clear qq h hdw htk hlt
 go_enter Tryz.func99, Tryz.ntmps99
 go_wp2_with fail
 refine (Q.out).mono ?_
 rintro en w1 ⟨rfl, rfl⟩
 go_wp2_with fail
 go_quiet (fail)
 go_wp2_with fail
 refine bodyPost_ret (v := .tuple #[.string ⟨t.toArray⟩, .string ⟨u.toArray⟩, .bool true]) (by simp [results, Tryz.results99, go_sem]) rfl ⟨rfl, _, rfl⟩
set_option maxHeartbeats 1000000 in
theorem Cut_none (s : List UInt8) (c : UInt8) (w : World) (hs : s.length ≤ 1000000) (h : s.dropWhile (· != c) = []) :
  Calls Tryz.prog 62 #[.string ⟨s.toArray⟩, .string ⟨#[c]⟩] w fun e w' => e = .returned (.tuple #[.string ⟨s.toArray⟩, .string ⟨#[]⟩, .bool false]) ∧ ∃ n, w' = w.drewN n := by
 have Q := Lib.hid (liteCut_none s c w hs h)
 clear h
 go_enter Tryz.func62, Tryz.ntmps62
 go_wp2_with fail
 refine (Q.out).mono ?_
 rintro en w1 ⟨rfl, n, rfl⟩
 go_wp2_with fail
 refine bodyPost_ret (v := .tuple #[.string ⟨s.toArray⟩, .string ⟨#[]⟩, .bool false]) (by simp [results, Tryz.results62, go_sem]) rfl ⟨rfl, _, rfl⟩
set_option maxHeartbeats 1000000 in
theorem Cut_some (s u : List UInt8) (c q : UInt8) (w : World) (hs : s.length ≤ 1000000) (h : s.dropWhile (· != c) = q :: u) :
  Calls Tryz.prog 62 #[.string ⟨s.toArray⟩, .string ⟨#[c]⟩] w fun e w' => e = .returned (.tuple #[.string ⟨(s.takeWhile (· != c)).toArray⟩, .string ⟨u.toArray⟩, .bool true]) ∧ ∃ n, w' = w.drewN n := by
 have Q := Lib.hid (liteCut_some s u c q w hs h)
 clear h
 generalize (s.takeWhile (· != c)) = t at *
 go_enter Tryz.func62, Tryz.ntmps62
 go_wp2_with fail
 refine (Q.out).mono ?_
 rintro en w1 ⟨rfl, n, rfl⟩
 go_wp2_with fail
 refine bodyPost_ret (v := .tuple #[.string ⟨t.toArray⟩, .string ⟨u.toArray⟩, .bool true]) (by simp [results, Tryz.results62, go_sem]) rfl ⟨rfl, _, rfl⟩
end H
end Go.Proofs.YtafkeolpadfjfaaGreatDoor

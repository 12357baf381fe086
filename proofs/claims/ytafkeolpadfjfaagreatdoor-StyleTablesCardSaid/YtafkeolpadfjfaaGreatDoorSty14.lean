/- What until comes to. What FormatValue comes to. What expand comes to, at a name that is no shorthand. -/
import Derived.Test.YtafkeolpadfjfaaGreatDoorCut1
import Derived.IntWalk
import Derived.StillTailTactics
import Derived.BigQuiet
import Derived.Deep.QuietTactic
import Derived.Lib.ItoaMem
import Derived.Lib.ItoaLen
import Derived.Lib.TrimByte
import Derived.Lib.SliceRun
set_option linter.unusedVariables false
set_option linter.unusedSimpArgs false
namespace Go.Proofs.YtafkeolpadfjfaaGreatDoor
open Go.RowKit Go.Sort
namespace Y
open H
def IsSc (b : Nat) (s : List UInt8) (i : Nat) (w : World) : Prop := Blk b #[.string ⟨s.toArray⟩, .int .i64 (i : Nat)] 85 w
/-- The sign at which until stands still. -/
def atC (s : List UInt8) (j : Nat) : Nat := match s.drop j with | [] => 0 | c :: _ => c.toNat
def UnPost (b : Nat) (s : List UInt8) (E : Nat) (w : World) (e : Ending) (w' : World) : Prop :=
 e = .returned (.int .u8 (atC s E : Nat)) ∧ IsSc b s E w' ∧ But b w w'
theorem idx_mem : ∀ (l : List UInt8) (c : UInt8), decide (0 ≤ Lib.indexByte l c) = decide (c ∈ l)
 | [], c => by simp [Lib.indexByte]
 | b :: l, c => by
  have ih := idx_mem l c
  have hg := Lib.indexByte_ge l c
  unfold Lib.indexByte
  rw [decide_eq_decide] at ih ⊢
  by_cases h : b = c
  ·subst h; simp
  ·have h2 : (b == c) = false := by simpa using h
   rw [h2]
   have h3 : ¬ c = b := fun e => h e.symm
   simp only [Bool.false_eq_true, if_false, List.mem_cons, h3, false_or]
   rw [← ih]
   by_cases hm : Lib.indexByte l c = -1
   ·rw [hm]; simp
   ·have h4 : (Lib.indexByte l c == -1) = false := by simpa using hm
    rw [h4]
    simp only [Bool.false_eq_true, if_false]
    omega
theorem quietDrewZ {P : Program} {f : FuncId} {args : Array Value} {w : World} {n x : Nat} {v : Value}
  (h : Calls P f args (w.drewN (n + x)) fun e w' => e = .returned v ∧ ∃ m, w' = (w.drewN (n + x)).drewN m) : Calls P f args (w.drewN (n + x)) fun e w'' => e = .returned v ∧ ∃ m, w'' = w.drewN (n + m) :=
 h.mono fun _ _ hh => ⟨hh.1, by obtain ⟨m, e⟩ := hh.2; exact ⟨x + m, e.trans ((World.drewN_drewN _ _ _).trans (by rw [Nat.add_assoc]))⟩⟩
theorem enc34 : Utf8.encode 34 = ⟨#[34]⟩ := by rfl
theorem enc39 : Utf8.encode 39 = ⟨#[39]⟩ := by rfl
theorem drop_len {s t : List UInt8} {j : Nat} {c : UInt8} (h : s.drop j = c :: t) : s.length = j + 1 + t.length := by
 have h2 := congrArg List.length h
 rw [List.length_drop, List.length_cons] at h2
 omega
theorem cut_q2 (t : List UInt8) (q : UInt8) (ht : t.length ≤ 1000000) : ∃ u fa, ∀ W, Calls Tryz.prog 62 #[.string ⟨t.toArray⟩, .string ⟨#[q]⟩] W fun e w' => e = .returned (.tuple #[.string ⟨(t.takeWhile (· != q)).toArray⟩, .string u, .bool fa]) ∧ ∃ n, w' = W.drewN n := by
 cases h : t.dropWhile (· != q) with
 | nil =>
  refine ⟨⟨#[]⟩, false, fun W => ?_⟩
  have e : t.takeWhile (· != q) = t := by
   have := List.takeWhile_append_dropWhile (p := (· != q)) (l := t)
   rw [h, List.append_nil] at this
   exact this
  rw [e]
  exact Cut_none t q W ht h
 | cons c u => exact ⟨⟨u.toArray⟩, true, fun W => Cut_some t u q c W ht h⟩
theorem bne_fun (c : UInt8) : (fun x : UInt8 => x != c) = (fun x => decide (x ≠ c)) := by
 funext x
 cases h : x == c <;> simp_all
section
variable {stops t : List UInt8} {c : UInt8} {d : Nat} (hst : ¬ (d = 0 ∧ c ∈ stops))
include hst
theorem scan_open (hc : (c == 40 || c == 91 || c == 123) = true) : S.scan stops d 0 (c :: t) = 1 + S.scan stops (d + 1) 0 t := by
 have h3 : c = 40 ∨ c = 91 ∨ c = 123 := by simpa [or_assoc] using hc
 have n1 : ¬ (c = 34 ∨ c = 39) := by rcases h3 with rfl | rfl | rfl <;> decide
 rw [S.scan]; rw [if_neg (by simp), if_neg hst, if_neg n1, if_pos h3]
theorem scan_close (hc : (c == 41 || c == 93 || c == 125) = true) : S.scan stops d 0 (c :: t) = 1 + S.scan stops (d - 1) 0 t := by
 have h3 : c = 41 ∨ c = 93 ∨ c = 125 := by simpa [or_assoc] using hc
 have n1 : ¬ (c = 34 ∨ c = 39) := by rcases h3 with rfl | rfl | rfl <;> decide
 have n2 : ¬ (c = 40 ∨ c = 91 ∨ c = 123) := by rcases h3 with rfl | rfl | rfl <;> decide
 rw [S.scan]; rw [if_neg (by simp), if_neg hst, if_neg n1, if_neg n2, if_pos h3]
theorem scan_quote (hc : (c == 34 || c == 39) = true) : S.scan stops d 0 (c :: t) = 1 + (S.strLen c t + S.scan stops d 0 (t.drop (S.strLen c t))) := by
 have h3 : c = 34 ∨ c = 39 := by simpa using hc
 have n0 : c ≠ 0 := by rcases h3 with rfl | rfl <;> decide
 rw [S.scan]; rw [if_neg (by simp), if_neg hst, if_pos h3, S.scan_str stops d n0]
theorem scan_other (a1 : ¬ c = 34) (a2 : ¬ c = 39) (a3 : ¬ c = 40) (a4 : ¬ c = 91) (a5 : ¬ c = 123) (a6 : ¬ c = 41) (a7 : ¬ c = 93) (a8 : ¬ c = 125) : S.scan stops d 0 (c :: t) = 1 + S.scan stops d 0 t := by
 rw [S.scan]; rw [if_neg (by simp), if_neg hst, if_neg (by simp [a1, a2]), if_neg (by simp [a3, a4, a5]), if_neg (by simp [a6, a7, a8])]
end
theorem sc_set {b j : Nat} {s : List UInt8} {W : World} {z : Int} (h : IsSc b s j W) (hz : z = ((j + 1 : Nat) : Int) := by omega) : IsSc b s (j + 1) (W.setCell ⟨b, 1, none⟩ (.int .i64 z)) := by
 subst hz
 exact H.Blk.set h 1 _
theorem sc_set2 {b j j2 : Nat} {s : List UInt8} {W : World} {z1 z2 : Int} (h : IsSc b s j W) (hz : z2 = ((j2 : Nat) : Int)) : IsSc b s j2 ((W.setCell ⟨b, 1, none⟩ (.int .i64 z1)).setCell ⟨b, 1, none⟩ (.int .i64 z2)) := by
 subst hz
 exact H.Blk.set (H.Blk.set h 1 _) 1 _
theorem sc_measure2 {b j j2 : Nat} {s : List UInt8} {W wr : World} (h : IsSc b s j2 W) (h1 : wr.cell? ⟨b, 1, none⟩ = some (.int .i64 (j : Nat))) (hj : j < s.length) (hjj : j < j2) :
  s.length - (match W.cell? ⟨b, 1, none⟩ with | some (.int _ q) => q.toNat | _ => 0) < s.length - (match wr.cell? ⟨b, 1, none⟩ with | some (.int _ q) => q.toNat | _ => 0) := by
 have h3 := (cells_of h).1 1
 rw [h3, h1]
 show s.length - ((((j2 : Nat) : Int)).toNat) < s.length - (((j : Nat) : Int)).toNat
 omega
theorem sc_measure {b j : Nat} {s : List UInt8} {W wr : World} {z : Int} (h : IsSc b s j W) (h1 : wr.cell? ⟨b, 1, none⟩ = some (.int .i64 (j : Nat))) (hj : j < s.length) (hz : z = ((j + 1 : Nat) : Int) := by omega) :
  s.length - (match (W.setCell ⟨b, 1, none⟩ (.int .i64 z)).cell? ⟨b, 1, none⟩ with | some (.int _ q) => q.toNat | _ => 0) < s.length - (match wr.cell? ⟨b, 1, none⟩ with | some (.int _ q) => q.toNat | _ => 0) := by
 have h2 : IsSc b s (j + 1) (W.setCell ⟨b, 1, none⟩ (.int .i64 z)) := sc_set h hz
 have h3 := (cells_of h2).1 1
 rw [h3, h1]
 show s.length - ((((j + 1 : Nat) : Int)).toNat) < s.length - (((j : Nat) : Int)).toNat
 omega
set_option maxHeartbeats 16000000 in
set_option maxRecDepth 100000 in
theorem untilC (b : Nat) (s stops : List UInt8) (i : Nat) (w : World) (hs : s.length ≤ 1000000) (hi : i ≤ s.length) (hR : IsSc b s i w) :
  Calls Tryz.prog 50 #[.pointer (some ⟨b, 0, none⟩), .string ⟨stops.toArray⟩] w (UnPost b s (i + S.scan stops 0 0 (s.drop i)) w) := by
 have HR := Lib.hid hR
 have HE0 : Hid (i + S.scan stops 0 0 (s.drop i) = i + S.scan stops 0 0 (s.drop i)) := Lib.hid rfl
 obtain ⟨E, hE⟩ : ∃ E, E = i + S.scan stops 0 0 (s.drop i) := ⟨_, rfl⟩
 rw [← hE]
 have HE := Lib.hid hE
 clear HE0 hE hR
 have zs := bytes_size s
 go_enter Tryz.func50, Tryz.ntmps50
 go_wp2_with fail
 go_loopw [5] (fun v5 wr => ∃ d j : Nat, v5 = .int .i64 d ∧ Hid (IsSc b s j wr) ∧ But b w wr ∧ i ≤ j ∧ j ≤ s.length ∧ d ≤ j ∧ Hid (E = j + S.scan stops d 0 (s.drop j))) (fun _ wr => s.length - (match wr.cell? ⟨b, 1, none⟩ with | some (.int _ q) => q.toNat | _ => 0))
 case atStart => exact ⟨0, i, rfl, HR, But.refl _ _, Nat.le_refl _, hi, Nat.zero_le _, HE⟩
 case round =>
  obtain ⟨d, j, rfl, HJ, hb, hij, hj, hdj, HE⟩ := hrel
  clear HR
  obtain ⟨hc, hf⟩ := cells_of HJ.out
  have hlb := HJ.out.lt
  have c0 : wr.cell? ⟨b, 0, none⟩ = some (.string ⟨s.toArray⟩) := hc 0
  have c1 : wr.cell? ⟨b, 1, none⟩ = some (.int .i64 j) := hc 1
  have f1 : wr.frozen? ⟨b, 1, none⟩ = false := hf 1 (by show 1 < 2; omega)
  clear hc hf
  have hj0 : (0 : Int) ≤ (j : Int) := by omega
  by_cases hlt : j < s.length
  ·have hlt1 : (j : Int) < (s.length : Int) := by omega
   obtain ⟨c, t, hd⟩ := drop_cons hlt
   have hix := at_drop hd (by rw [bytes_size]; exact hlt)
   have hmore := drop_more hd
   have QI := fun W => Tryz.strings_IndexByte ⟨stops.toArray⟩ (c.toNat : Int) W
   have hlen := drop_len hd
   go_wp2_with fail
   go_quiet (fail)
   go_wp2_with fail
   go_quiet (fail)
   go_upto_region 4 with fail
   go_cut [36] (fun v36 wx => v36 = .bool (decide (d = 0 ∧ c ∈ stops)) ∧ ∃ n, wx = wr.drewN n)
   case first =>
    by_cases hd0 : d = 0
    ·subst hd0
     go_wp2_with fail
     refine (QI _).mono ?_
     rintro e w' ⟨rfl, rfl⟩
     go_wp2_with fail
     go_meet
     refine ⟨congrArg Value.bool ?_, _, rfl⟩
     rw [show decide (True ∧ c ∈ stops) = decide (c ∈ stops) by simp]
     exact idx_mem stops c
    ·have e0 : ((d : Int) == 0) = false := by rw [beq_eq_false_iff_ne]; omega
     have n0 : ¬ (d : Int) = 0 := by omega
     have nd : ¬ d = 0 := hd0
     go_wp2_with fail
     go_meet
     exact ⟨by simp [nd], _, rfl⟩
   case rest =>
    obtain ⟨rfl, n1, rfl⟩ := hcut
    have HJ1 : Hid (IsSc b s j (wr.drewN n1)) := Lib.hid (HJ.out.drewN n1)
    have hb1 : But b w (wr.drewN n1) := hb.drewN n1
    by_cases hst : d = 0 ∧ c ∈ stops
    ·obtain ⟨rfl, hcs⟩ := hst
     have HEj : Hid (E = j) := Lib.hid (by rw [HE.out, hd, S.scan_stop hcs]; rfl)
     have eB : decide ((0 : Nat) = 0 ∧ c ∈ stops) = true := decide_eq_true ⟨rfl, hcs⟩
     rw [eB]
     clear hcs eB HE
     go_wp2_with fail
     go_ret
     exact ⟨ret_int (by rw [HEj.out]; unfold atC; rw [hd]), by rw [HEj.out]; exact HJ1.out, hb1⟩
    ·have eB : decide (d = 0 ∧ c ∈ stops) = false := decide_eq_false hst
     rw [eB]
     have hstep : ∀ m : Nat, S.scan stops d 0 (c :: t) = 1 + m → True := fun _ _ => trivial
     clear QI eB hix
     by_cases hc : c = 34
     ·have hsl : S.strLen c t ≤ t.length := by unfold S.strLen; omega
      have HE2 : Hid (E = (j + 1 + S.strLen c t) + S.scan stops d 0 (s.drop (j + 1 + S.strLen c t))) := Lib.hid (by
       rw [HE.out, hd, scan_quote hst (by rw [hc]; decide)]
       rw [show s.drop (j + 1 + S.strLen c t) = t.drop (S.strLen c t) by rw [← List.drop_drop, hmore]]
       omega)
      obtain ⟨u, fa, QC⟩ : ∃ u fa, ∀ W, Calls Tryz.prog 62 #[.string ⟨t.toArray⟩, .string ⟨#[34]⟩] W fun e w' => e = .returned (.tuple #[.string ⟨(t.takeWhile (· != c)).toArray⟩, .string u, .bool fa]) ∧ ∃ n, w' = W.drewN n := by
       rw [hc]; exact cut_q2 t 34 (by omega)
      have hsv : S.strLen c t = min ((t.takeWhile (· != c)).length + 1) t.length := by rw [bne_fun]; rfl
      have hxt : (⟨s.toArray⟩ : ByteArray).extract (j + 1) (j + 1 + t.length) = ⟨t.toArray⟩ := by
       have := slice_str s (j + 1) (j + 1 + t.length) (by omega) (by omega)
       rw [this, hmore, List.take_of_length_le (by omega)]
      have zv := bytes_size (t.takeWhile (· != c))
      have hvl := S.tw_le (· != c) t
      have q34 : ((c.toNat : Int) == 34) = true := byte_is (c := c) (n := 34) (by rw [hc]; rfl) (by decide)
      have m34 : (c.toNat : Int) = 34 := by simpa using q34
      generalize S.strLen c t = sl at *
      generalize t.takeWhile (· != c) = v at *
      have wj : IntKind.i64.wrap ((j : Int) + 1) = (j : Int) + 1 := IntWalk.i64_in _ (by omega)
      have tj : ((j : Int) + 1).toNat = j + 1 := by omega
      have gj : (0 : Int) ≤ (j : Int) + 1 := by omega
      have lj : (j : Int) + 1 ≤ (s.length : Int) := by omega
      clear HE hst hc hd hmore
      go_upto_region 9 with fail
      go_quiet ((go_at_call 62; (first | rw [enc34, hxt] | rw [enc34]); exact quietDrewZ (QC _)))
      clear QC hxt wj tj gj lj
      have w1 : IntKind.i64.wrap ((j : Int) + (v.length : Int)) = (j : Int) + (v.length : Int) := IntWalk.i64_in _ (by omega)
      have w2 : IntKind.i64.wrap ((j : Int) + (v.length : Int) + 1) = (j : Int) + (v.length : Int) + 1 := IntWalk.i64_in _ (by omega)
      have w3 : IntKind.i64.wrap ((s.length : Int) - 1) = (s.length : Int) - 1 := IntWalk.i64_in _ (by omega)
      have hmin : min ((j : Int) + (v.length : Int) + 1) ((s.length : Int) - 1) = ((j + sl : Nat) : Int) := by omega
      go_upto_region 10 with fail
      go_region
      go_wp2_with fail
      go_roundw
      case rel =>
       exact ⟨d, j + 1 + sl, rfl, Lib.hid (sc_set2 (HJ.out.drewN _) (by omega)), (hb.drewN _).trans ((But.set _ _ _).trans (But.set _ _ _)), by omega, by omega, by omega, HE2⟩
      case measure => exact sc_measure2 (sc_set2 (j2 := j + 1 + sl) (HJ.out.drewN _) (by omega)) c1 hlt (by omega)
     by_cases hc : c = 39
     ·have hsl : S.strLen c t ≤ t.length := by unfold S.strLen; omega
      have HE2 : Hid (E = (j + 1 + S.strLen c t) + S.scan stops d 0 (s.drop (j + 1 + S.strLen c t))) := Lib.hid (by
       rw [HE.out, hd, scan_quote hst (by rw [hc]; decide)]
       rw [show s.drop (j + 1 + S.strLen c t) = t.drop (S.strLen c t) by rw [← List.drop_drop, hmore]]
       omega)
      obtain ⟨u, fa, QC⟩ : ∃ u fa, ∀ W, Calls Tryz.prog 62 #[.string ⟨t.toArray⟩, .string ⟨#[39]⟩] W fun e w' => e = .returned (.tuple #[.string ⟨(t.takeWhile (· != c)).toArray⟩, .string u, .bool fa]) ∧ ∃ n, w' = W.drewN n := by
       rw [hc]; exact cut_q2 t 39 (by omega)
      have hsv : S.strLen c t = min ((t.takeWhile (· != c)).length + 1) t.length := by rw [bne_fun]; rfl
      have hxt : (⟨s.toArray⟩ : ByteArray).extract (j + 1) (j + 1 + t.length) = ⟨t.toArray⟩ := by
       have := slice_str s (j + 1) (j + 1 + t.length) (by omega) (by omega)
       rw [this, hmore, List.take_of_length_le (by omega)]
      have zv := bytes_size (t.takeWhile (· != c))
      have hvl := S.tw_le (· != c) t
      have q34 : ((c.toNat : Int) == 34) = false := byte_ne (c := c) (n := 34) (by rw [hc]; decide) (by decide)
      have m34 : ¬ (c.toNat : Int) = 34 := by simpa using q34
      have q39 : ((c.toNat : Int) == 39) = true := byte_is (c := c) (n := 39) (by rw [hc]; rfl) (by decide)
      have m39 : (c.toNat : Int) = 39 := by simpa using q39
      generalize S.strLen c t = sl at *
      generalize t.takeWhile (· != c) = v at *
      have wj : IntKind.i64.wrap ((j : Int) + 1) = (j : Int) + 1 := IntWalk.i64_in _ (by omega)
      have tj : ((j : Int) + 1).toNat = j + 1 := by omega
      have gj : (0 : Int) ≤ (j : Int) + 1 := by omega
      have lj : (j : Int) + 1 ≤ (s.length : Int) := by omega
      clear HE hst hc hd hmore
      go_upto_region 9 with fail
      go_quiet ((go_at_call 62; (first | rw [enc39, hxt] | rw [enc39]); exact quietDrewZ (QC _)))
      clear QC hxt wj tj gj lj
      have w1 : IntKind.i64.wrap ((j : Int) + (v.length : Int)) = (j : Int) + (v.length : Int) := IntWalk.i64_in _ (by omega)
      have w2 : IntKind.i64.wrap ((j : Int) + (v.length : Int) + 1) = (j : Int) + (v.length : Int) + 1 := IntWalk.i64_in _ (by omega)
      have w3 : IntKind.i64.wrap ((s.length : Int) - 1) = (s.length : Int) - 1 := IntWalk.i64_in _ (by omega)
      have hmin : min ((j : Int) + (v.length : Int) + 1) ((s.length : Int) - 1) = ((j + sl : Nat) : Int) := by omega
      go_upto_region 10 with fail
      go_region
      go_wp2_with fail
      go_roundw
      case rel =>
       exact ⟨d, j + 1 + sl, rfl, Lib.hid (sc_set2 (HJ.out.drewN _) (by omega)), (hb.drewN _).trans ((But.set _ _ _).trans (But.set _ _ _)), by omega, by omega, by omega, HE2⟩
      case measure => exact sc_measure2 (sc_set2 (j2 := j + 1 + sl) (HJ.out.drewN _) (by omega)) c1 hlt (by omega)
     by_cases hc : c = 40
     ·have HE2 : Hid (E = (j + 1) + S.scan stops (d + 1) 0 (s.drop (j + 1))) := Lib.hid (by rw [HE.out, hd, scan_open hst (by rw [hc]; decide), hmore]; omega)
      have q34 : ((c.toNat : Int) == 34) = false := byte_ne (c := c) (n := 34) (by rw [hc]; decide) (by decide)
      have m34 : ¬ (c.toNat : Int) = 34 := by simpa using q34
      have q39 : ((c.toNat : Int) == 39) = false := byte_ne (c := c) (n := 39) (by rw [hc]; decide) (by decide)
      have m39 : ¬ (c.toNat : Int) = 39 := by simpa using q39
      have q40 : ((c.toNat : Int) == 40) = true := byte_is (c := c) (n := 40) (by rw [hc]; rfl) (by decide)
      have m40 : (c.toNat : Int) = 40 := by simpa using q40
      clear HE hst hc hd hmore
      go_wp2_with fail
      go_roundw
      case rel => exact ⟨d + 1, j + 1, by go_num, Lib.hid (sc_set HJ1.out), hb1.trans (But.set _ _ _), by omega, by omega, by omega, HE2⟩
      case measure => exact sc_measure HJ1.out c1 hlt
     by_cases hc : c = 91
     ·have HE2 : Hid (E = (j + 1) + S.scan stops (d + 1) 0 (s.drop (j + 1))) := Lib.hid (by rw [HE.out, hd, scan_open hst (by rw [hc]; decide), hmore]; omega)
      have q34 : ((c.toNat : Int) == 34) = false := byte_ne (c := c) (n := 34) (by rw [hc]; decide) (by decide)
      have m34 : ¬ (c.toNat : Int) = 34 := by simpa using q34
      have q39 : ((c.toNat : Int) == 39) = false := byte_ne (c := c) (n := 39) (by rw [hc]; decide) (by decide)
      have m39 : ¬ (c.toNat : Int) = 39 := by simpa using q39
      have q40 : ((c.toNat : Int) == 40) = false := byte_ne (c := c) (n := 40) (by rw [hc]; decide) (by decide)
      have m40 : ¬ (c.toNat : Int) = 40 := by simpa using q40
      have q91 : ((c.toNat : Int) == 91) = true := byte_is (c := c) (n := 91) (by rw [hc]; rfl) (by decide)
      have m91 : (c.toNat : Int) = 91 := by simpa using q91
      clear HE hst hc hd hmore
      go_wp2_with fail
      go_roundw
      case rel => exact ⟨d + 1, j + 1, by go_num, Lib.hid (sc_set HJ1.out), hb1.trans (But.set _ _ _), by omega, by omega, by omega, HE2⟩
      case measure => exact sc_measure HJ1.out c1 hlt
     by_cases hc : c = 123
     ·have HE2 : Hid (E = (j + 1) + S.scan stops (d + 1) 0 (s.drop (j + 1))) := Lib.hid (by rw [HE.out, hd, scan_open hst (by rw [hc]; decide), hmore]; omega)
      have q34 : ((c.toNat : Int) == 34) = false := byte_ne (c := c) (n := 34) (by rw [hc]; decide) (by decide)
      have m34 : ¬ (c.toNat : Int) = 34 := by simpa using q34
      have q39 : ((c.toNat : Int) == 39) = false := byte_ne (c := c) (n := 39) (by rw [hc]; decide) (by decide)
      have m39 : ¬ (c.toNat : Int) = 39 := by simpa using q39
      have q40 : ((c.toNat : Int) == 40) = false := byte_ne (c := c) (n := 40) (by rw [hc]; decide) (by decide)
      have m40 : ¬ (c.toNat : Int) = 40 := by simpa using q40
      have q91 : ((c.toNat : Int) == 91) = false := byte_ne (c := c) (n := 91) (by rw [hc]; decide) (by decide)
      have m91 : ¬ (c.toNat : Int) = 91 := by simpa using q91
      have q123 : ((c.toNat : Int) == 123) = true := byte_is (c := c) (n := 123) (by rw [hc]; rfl) (by decide)
      have m123 : (c.toNat : Int) = 123 := by simpa using q123
      clear HE hst hc hd hmore
      go_wp2_with fail
      go_roundw
      case rel => exact ⟨d + 1, j + 1, by go_num, Lib.hid (sc_set HJ1.out), hb1.trans (But.set _ _ _), by omega, by omega, by omega, HE2⟩
      case measure => exact sc_measure HJ1.out c1 hlt
     by_cases hc : c = 41
     ·have HE2 : Hid (E = (j + 1) + S.scan stops (d - 1) 0 (s.drop (j + 1))) := Lib.hid (by rw [HE.out, hd, scan_close hst (by rw [hc]; decide), hmore]; omega)
      have q34 : ((c.toNat : Int) == 34) = false := byte_ne (c := c) (n := 34) (by rw [hc]; decide) (by decide)
      have m34 : ¬ (c.toNat : Int) = 34 := by simpa using q34
      have q39 : ((c.toNat : Int) == 39) = false := byte_ne (c := c) (n := 39) (by rw [hc]; decide) (by decide)
      have m39 : ¬ (c.toNat : Int) = 39 := by simpa using q39
      have q40 : ((c.toNat : Int) == 40) = false := byte_ne (c := c) (n := 40) (by rw [hc]; decide) (by decide)
      have m40 : ¬ (c.toNat : Int) = 40 := by simpa using q40
      have q91 : ((c.toNat : Int) == 91) = false := byte_ne (c := c) (n := 91) (by rw [hc]; decide) (by decide)
      have m91 : ¬ (c.toNat : Int) = 91 := by simpa using q91
      have q123 : ((c.toNat : Int) == 123) = false := byte_ne (c := c) (n := 123) (by rw [hc]; decide) (by decide)
      have m123 : ¬ (c.toNat : Int) = 123 := by simpa using q123
      have q41 : ((c.toNat : Int) == 41) = true := byte_is (c := c) (n := 41) (by rw [hc]; rfl) (by decide)
      have m41 : (c.toNat : Int) = 41 := by simpa using q41
      clear HE hst hc hd hmore
      rcases (by omega : d = 0 ∨ 1 ≤ d) with hd0 | hd1
      ·subst hd0
       go_wp2_with fail
       go_roundw
       case rel => exact ⟨0, j + 1, by first | rfl | go_num, Lib.hid (sc_set HJ1.out), hb1.trans (But.set _ _ _), by omega, by omega, by omega, HE2⟩
       case measure => exact sc_measure HJ1.out c1 hlt
      ·have hm : max (0 : Int) ((d : Int) - 1) = ((d - 1 : Nat) : Int) := by omega
       go_wp2_with fail
       go_roundw
       case rel => exact ⟨d - 1, j + 1, by first | (rw [hm]) | (congr 1; omega) | go_num, Lib.hid (sc_set HJ1.out), hb1.trans (But.set _ _ _), by omega, by omega, by omega, HE2⟩
       case measure => exact sc_measure HJ1.out c1 hlt
     by_cases hc : c = 93
     ·have HE2 : Hid (E = (j + 1) + S.scan stops (d - 1) 0 (s.drop (j + 1))) := Lib.hid (by rw [HE.out, hd, scan_close hst (by rw [hc]; decide), hmore]; omega)
      have q34 : ((c.toNat : Int) == 34) = false := byte_ne (c := c) (n := 34) (by rw [hc]; decide) (by decide)
      have m34 : ¬ (c.toNat : Int) = 34 := by simpa using q34
      have q39 : ((c.toNat : Int) == 39) = false := byte_ne (c := c) (n := 39) (by rw [hc]; decide) (by decide)
      have m39 : ¬ (c.toNat : Int) = 39 := by simpa using q39
      have q40 : ((c.toNat : Int) == 40) = false := byte_ne (c := c) (n := 40) (by rw [hc]; decide) (by decide)
      have m40 : ¬ (c.toNat : Int) = 40 := by simpa using q40
      have q91 : ((c.toNat : Int) == 91) = false := byte_ne (c := c) (n := 91) (by rw [hc]; decide) (by decide)
      have m91 : ¬ (c.toNat : Int) = 91 := by simpa using q91
      have q123 : ((c.toNat : Int) == 123) = false := byte_ne (c := c) (n := 123) (by rw [hc]; decide) (by decide)
      have m123 : ¬ (c.toNat : Int) = 123 := by simpa using q123
      have q41 : ((c.toNat : Int) == 41) = false := byte_ne (c := c) (n := 41) (by rw [hc]; decide) (by decide)
      have m41 : ¬ (c.toNat : Int) = 41 := by simpa using q41
      have q93 : ((c.toNat : Int) == 93) = true := byte_is (c := c) (n := 93) (by rw [hc]; rfl) (by decide)
      have m93 : (c.toNat : Int) = 93 := by simpa using q93
      clear HE hst hc hd hmore
      rcases (by omega : d = 0 ∨ 1 ≤ d) with hd0 | hd1
      ·subst hd0
       go_wp2_with fail
       go_roundw
       case rel => exact ⟨0, j + 1, by first | rfl | go_num, Lib.hid (sc_set HJ1.out), hb1.trans (But.set _ _ _), by omega, by omega, by omega, HE2⟩
       case measure => exact sc_measure HJ1.out c1 hlt
      ·have hm : max (0 : Int) ((d : Int) - 1) = ((d - 1 : Nat) : Int) := by omega
       go_wp2_with fail
       go_roundw
       case rel => exact ⟨d - 1, j + 1, by first | (rw [hm]) | (congr 1; omega) | go_num, Lib.hid (sc_set HJ1.out), hb1.trans (But.set _ _ _), by omega, by omega, by omega, HE2⟩
       case measure => exact sc_measure HJ1.out c1 hlt
     by_cases hc : c = 125
     ·have HE2 : Hid (E = (j + 1) + S.scan stops (d - 1) 0 (s.drop (j + 1))) := Lib.hid (by rw [HE.out, hd, scan_close hst (by rw [hc]; decide), hmore]; omega)
      have q34 : ((c.toNat : Int) == 34) = false := byte_ne (c := c) (n := 34) (by rw [hc]; decide) (by decide)
      have m34 : ¬ (c.toNat : Int) = 34 := by simpa using q34
      have q39 : ((c.toNat : Int) == 39) = false := byte_ne (c := c) (n := 39) (by rw [hc]; decide) (by decide)
      have m39 : ¬ (c.toNat : Int) = 39 := by simpa using q39
      have q40 : ((c.toNat : Int) == 40) = false := byte_ne (c := c) (n := 40) (by rw [hc]; decide) (by decide)
      have m40 : ¬ (c.toNat : Int) = 40 := by simpa using q40
      have q91 : ((c.toNat : Int) == 91) = false := byte_ne (c := c) (n := 91) (by rw [hc]; decide) (by decide)
      have m91 : ¬ (c.toNat : Int) = 91 := by simpa using q91
      have q123 : ((c.toNat : Int) == 123) = false := byte_ne (c := c) (n := 123) (by rw [hc]; decide) (by decide)
      have m123 : ¬ (c.toNat : Int) = 123 := by simpa using q123
      have q41 : ((c.toNat : Int) == 41) = false := byte_ne (c := c) (n := 41) (by rw [hc]; decide) (by decide)
      have m41 : ¬ (c.toNat : Int) = 41 := by simpa using q41
      have q93 : ((c.toNat : Int) == 93) = false := byte_ne (c := c) (n := 93) (by rw [hc]; decide) (by decide)
      have m93 : ¬ (c.toNat : Int) = 93 := by simpa using q93
      have q125 : ((c.toNat : Int) == 125) = true := byte_is (c := c) (n := 125) (by rw [hc]; rfl) (by decide)
      have m125 : (c.toNat : Int) = 125 := by simpa using q125
      clear HE hst hc hd hmore
      rcases (by omega : d = 0 ∨ 1 ≤ d) with hd0 | hd1
      ·subst hd0
       go_wp2_with fail
       go_roundw
       case rel => exact ⟨0, j + 1, by first | rfl | go_num, Lib.hid (sc_set HJ1.out), hb1.trans (But.set _ _ _), by omega, by omega, by omega, HE2⟩
       case measure => exact sc_measure HJ1.out c1 hlt
      ·have hm : max (0 : Int) ((d : Int) - 1) = ((d - 1 : Nat) : Int) := by omega
       go_wp2_with fail
       go_roundw
       case rel => exact ⟨d - 1, j + 1, by first | (rw [hm]) | (congr 1; omega) | go_num, Lib.hid (sc_set HJ1.out), hb1.trans (But.set _ _ _), by omega, by omega, by omega, HE2⟩
       case measure => exact sc_measure HJ1.out c1 hlt
     have HE2 : Hid (E = (j + 1) + S.scan stops d 0 (s.drop (j + 1))) := Lib.hid (by rw [HE.out, hd, scan_other hst (by assumption) (by assumption) (by assumption) (by assumption) (by assumption) (by assumption) (by assumption) (by assumption), hmore]; omega)
     have q34 : ((c.toNat : Int) == 34) = false := byte_ne (c := c) (n := 34) (by assumption) (by decide)
     have m34 : ¬ (c.toNat : Int) = 34 := by simpa using q34
     have q39 : ((c.toNat : Int) == 39) = false := byte_ne (c := c) (n := 39) (by assumption) (by decide)
     have m39 : ¬ (c.toNat : Int) = 39 := by simpa using q39
     have q40 : ((c.toNat : Int) == 40) = false := byte_ne (c := c) (n := 40) (by assumption) (by decide)
     have m40 : ¬ (c.toNat : Int) = 40 := by simpa using q40
     have q91 : ((c.toNat : Int) == 91) = false := byte_ne (c := c) (n := 91) (by assumption) (by decide)
     have m91 : ¬ (c.toNat : Int) = 91 := by simpa using q91
     have q123 : ((c.toNat : Int) == 123) = false := byte_ne (c := c) (n := 123) (by assumption) (by decide)
     have m123 : ¬ (c.toNat : Int) = 123 := by simpa using q123
     have q41 : ((c.toNat : Int) == 41) = false := byte_ne (c := c) (n := 41) (by assumption) (by decide)
     have m41 : ¬ (c.toNat : Int) = 41 := by simpa using q41
     have q93 : ((c.toNat : Int) == 93) = false := byte_ne (c := c) (n := 93) (by assumption) (by decide)
     have m93 : ¬ (c.toNat : Int) = 93 := by simpa using q93
     have q125 : ((c.toNat : Int) == 125) = false := byte_ne (c := c) (n := 125) (by assumption) (by decide)
     have m125 : ¬ (c.toNat : Int) = 125 := by simpa using q125
     clear HE hst hd hmore
     go_wp2_with fail
     go_roundw
     case rel => exact ⟨d, j + 1, rfl, Lib.hid (sc_set HJ1.out), hb1.trans (But.set _ _ _), by omega, by omega, by omega, HE2⟩
     case measure => exact sc_measure HJ1.out c1 hlt
  ·obtain rfl : j = s.length := by omega
   have hdn : s.drop s.length = [] := List.drop_length
   have HEj : Hid (E = s.length) := Lib.hid (by rw [HE.out, hdn]; simp [S.scan])
   have e1 : ¬ (s.length : Int) < (s.length : Int) := by omega
   clear HE
   go_wp2_with fail
   go_quiet (fail)
   go_wp2_with fail
   go_ret
   exact ⟨ret_int (by rw [HEj.out]; unfold atC; rw [hdn]; rfl), by rw [HEj.out]; exact HJ.out.drewN _, hb.drewN _⟩
end Y
end Go.Proofs.YtafkeolpadfjfaaGreatDoor
namespace Go.Proofs.YtafkeolpadfjfaaGreatDoor
open Go.RowKit Go.Sort
namespace S
end S
namespace Y
open H
theorem ret_strY {a b : ByteArray} (h : a = b) : Ending.returned (.string a) = .returned (.string b) := by rw [h]
end Y
end Go.Proofs.YtafkeolpadfjfaaGreatDoor
namespace Go.Proofs.YtafkeolpadfjfaaGreatDoor
open Go.RowKit Go.Sort
namespace Y
open H
theorem OwnD.base {B B' : Nat} {w : World} {v : Value} {l : List S.Decl} (h : OwnD B w v l) (hB : B' ≤ B) : OwnD B' w v l := by
 refine ⟨⟨h.1.1, ?_⟩, h.2⟩
 rcases h.1.2 with hn | ⟨g, cap, cur, hv, hb, rest⟩
 ·exact Or.inl hn
 ·exact Or.inr ⟨g, cap, cur, hv, Nat.le_trans hB hb, rest⟩
theorem nil_nil (w : World) : (binOp .eql 29 (.slice none 0 0) (.slice none 0 0)).run Tryz.prog w = .ok (.bool true) w := Lib.run_eql_slice_nil w 29 9 none 0 0 0 0 Tryz.underlying29
set_option maxHeartbeats 8000000 in
set_option maxRecDepth 100000 in
theorem expand_one (nm s : List UInt8) (w : World) (hn : nm.length ≤ 1000000) (hs : s.length ≤ 90000) (hE : YEnv w) (hf : nm ≠ [102, 108, 101, 120]) (hsd : S.sidesOf nm = none) :
  Calls Tryz.prog 64 #[.string ⟨nm.toArray⟩, .string ⟨s.toArray⟩] w (EachPost (S.expand nm s) w) := by
 have HQ : Hid (S.expand nm s = S.each [(nm, s)]) := Lib.hid (by unfold S.expand; rw [if_neg hf, hsd])
 generalize S.expand nm s = q at *
 have HE := Lib.hid hE
 have hg1 := hE.big
 have hg2 := hE.big2
 have g0 : (nm == [102, 108, 101, 120]) = false := by simpa using hf
 have QF := Lib.hid (fun W => fields s W (by omega))
 have QS := Lib.hid (fun W => sides nm W hn)
 rw [hsd] at QS
 clear hE hf hsd
 go_enter Tryz.func64, Tryz.ntmps64
 go_wp2_with fail
 refine (QF.out _).mono ?_
 rintro e w1 ⟨A, rfl, hown, hb⟩
 have HU1 := Lib.hid hb
 clear hb hown QF
 generalize (S.words s).length = nw at *
 go_wp2_with fail
 refine (QS.out _).mono ?_
 rintro e w2 ⟨hb, (⟨l, g, h, _, _⟩ | ⟨_, rfl⟩)⟩
 ·cases h
 ·have HU2 := Lib.hid (HU1.out.trans (hb.mono HU1.out.size))
  have hz2 := HU2.out.size
  clear hb QS HU1
  have s1 := strs_lit w2 [nm] 9 (by simp) (by simp)
  have b1 : Below w2.heap.size w2 (w2.alloc (.cells (sCells [nm]).toArray 9)) := (Below.refl _ _).alloc (Nat.le_refl _) _
  have s2 := strs_lit (w2.alloc (.cells (sCells [nm]).toArray 9)) [s] 9 (by simp) (by simp)
  have b2 : Below (w2.alloc (.cells (sCells [nm]).toArray 9)).heap.size (w2.alloc (.cells (sCells [nm]).toArray 9)) ((w2.alloc (.cells (sCells [nm]).toArray 9)).alloc (.cells (sCells [s]).toArray 9)) := (Below.refl _ _).alloc (Nat.le_refl _) _
  have s1' := keeps_strs s1 (Kept.below b2)
  have HU3 := Lib.hid ((HU2.out.trans (b1.mono HU2.out.size)).trans (b2.mono (Nat.le_trans HU2.out.size b1.size)))
  have hsz : (w2.alloc (.cells (sCells [nm]).toArray 9)).heap.size = w2.heap.size + 1 := by simp
  rw [hsz] at s2
  have QE := Lib.hid (each _ _ [nm] [s] _ _ _ s1' s2 (by simp) (by simp) (fun x hx => by rw [List.mem_singleton.1 hx]; exact hs) (HE.out.below HU3.out hg1 hg2))
  unfold sCells at QE HU3
  simp only [List.map_cons, List.map_nil, List.length_cons, List.length_nil, Nat.zero_add] at QE HU3
  clear s1 s2 s1' b1 b2 hsz
  go_wp2_with fail
  rw [nil_nil]
  simp only [Result.andThen]
  rw [Oper.upon_value]
  go_wp2_with fail
  refine QE.out.mono ?_
  rintro e w3 ⟨hb, hcase⟩
  have HU4 := Lib.hid (HU3.out.trans (hb.mono HU3.out.size))
  have HQ2 : Hid (q = S.each ([nm].zip [s])) := Lib.hid HQ.out
  have hz3 := HU3.out.size
  clear hb QE HU3 HQ HU2
  rcases hcase with ⟨l, v, hl, rfl, hown⟩ | ⟨hl, rfl⟩
  ·have HO := Lib.hid (hown.base hz3)
   have HL := Lib.hid (HQ2.out.trans hl)
   obtain ⟨ao, cap, hv⟩ := hown.form
   generalize (l.map plainD).length = n at hv
   subst hv
   clear hown hl HQ2
   go_wp2_with fail
   go_ret2
   exact ⟨HU4.out, Or.inl ⟨l, _, HL.out, rfl, HO.out⟩⟩
  ·have HL := Lib.hid (HQ2.out.trans hl)
   clear hl HQ2
   go_wp2_with fail
   go_ret2
   exact ⟨HU4.out, Or.inr ⟨HL.out, rfl⟩⟩
end Y
end Go.Proofs.YtafkeolpadfjfaaGreatDoor

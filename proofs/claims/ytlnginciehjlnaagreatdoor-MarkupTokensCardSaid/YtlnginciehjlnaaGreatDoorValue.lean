/- What the closures of package markup, and value, come to. -/
import Derived.Test.YtlnginciehjlnaaGreatDoorOver
set_option linter.unusedVariables false
set_option linter.unusedSimpArgs false
namespace Go.Proofs.YtlnginciehjlnaaGreatDoor
open Go.RowKit
namespace K

theorem quietAdd {P : Program} {f : FuncId} {args : Array Value} {w : World} {a n : Nat} {v : Value}
    (h : Calls P f args (w.drewN (a + n)) fun e w' => e = .returned v ∧ ∃ m, w' = (w.drewN (a + n)).drewN m) :
    Calls P f args (w.drewN (a + n)) fun e w'' => e = .returned v ∧ ∃ m, w'' = w.drewN (a + m) :=
  h.mono fun _ _ hh => ⟨hh.1, by obtain ⟨m, hm⟩ := hh.2; exact ⟨n + m, by rw [hm, World.drewN_drewN, Nat.add_assoc]⟩⟩

theorem isSpaceP (x : UInt8) (W : World) : Calls Tryz.prog 92 #[.int .u8 x.toNat] W fun e w' => e = .returned (.bool (T.sp x)) ∧ w' = W :=
  (T.IsSpace x W).mono fun _ _ h => ⟨h.1, h.2.symm⟩

set_option maxHeartbeats 400000 in
theorem goesOnP (x : UInt8) (W : World) : Calls Tryz.prog 98 #[.int .u8 x.toNat] W fun e w' => e = .returned (.bool (M.goesOn x)) ∧ w' = W := by
  have hx := x.toNat_lt
  go_enter Tryz.func98, Tryz.ntmps98
  go_wp2_with fail
  refine (stops x _).mono ?_
  rintro e w' ⟨rfl, rfl⟩
  go_wp2_with fail
  go_ret
  exact ⟨rfl, rfl⟩

set_option maxHeartbeats 400000 in
theorem skipsP (x : UInt8) (W : World) : Calls Tryz.prog 99 #[.int .u8 x.toNat] W fun e w' => e = .returned (.bool (M.skips x)) ∧ w' = W := by
  have hx := x.toNat_lt
  by_cases h : x = 47
  · subst h
    go_enter Tryz.func99, Tryz.ntmps99
    go_wp2_with fail
    go_ret
    exact ⟨rfl, rfl⟩
  · have h1 : ((x.toNat : Int) == 47) = false := byte_ne (n := 47) h (by omega)
    have h2 : (x == 47) = false := by simpa using h
    have hv : M.skips x = T.sp x := by simp [M.skips, h2]
    rw [hv]
    clear hv h2 h
    go_enter Tryz.func99, Tryz.ntmps99
    go_wp2_with fail
    refine (T.IsSpace x _).mono ?_
    rintro e w' ⟨rfl, rfl⟩
    go_wp2_with fail
    go_ret
    exact ⟨rfl, rfl⟩

set_option maxHeartbeats 400000 in
theorem inNameP (x : UInt8) (W : World) : Calls Tryz.prog 120 #[.int .u8 x.toNat] W fun e w' => e = .returned (.bool (M.inName x)) ∧ w' = W := by
  have hx := x.toNat_lt
  by_cases h : x = 61
  · subst h
    go_enter Tryz.func120, Tryz.ntmps120
    go_wp2_with fail
    go_ret
    exact ⟨rfl, rfl⟩
  · have h1 : ((x.toNat : Int) == 61) = false := byte_ne (n := 61) h (by omega)
    have h1' : ((x.toNat : Int) != 61) = true := by rw [bne, h1]; rfl
    have h2 : (x != 61) = true := by simpa using h
    have hv : M.inName x = !M.stops x := by simp [M.inName, h2]
    rw [hv]
    clear hv h2 h
    go_enter Tryz.func120, Tryz.ntmps120
    go_wp2_with fail
    refine (stops x _).mono ?_
    rintro e w' ⟨rfl, rfl⟩
    go_wp2_with fail
    go_ret
    exact ⟨rfl, rfl⟩

set_option maxHeartbeats 400000 in
theorem inValueP (x : UInt8) (W : World) : Calls Tryz.prog 137 #[.int .u8 x.toNat] W fun e w' => e = .returned (.bool (M.inValue x)) ∧ w' = W := by
  have hx := x.toNat_lt
  by_cases h : x = 62
  · subst h
    go_enter Tryz.func137, Tryz.ntmps137
    go_wp2_with fail
    go_ret
    exact ⟨rfl, rfl⟩
  · have h1 : ((x.toNat : Int) == 62) = false := byte_ne (n := 62) h (by omega)
    have h1' : ((x.toNat : Int) != 62) = true := by rw [bne, h1]; rfl
    have h2 : (x != 62) = true := by simpa using h
    have hv : M.inValue x = !T.sp x := by simp [M.inValue, h2]
    rw [hv]
    clear hv h2 h
    go_enter Tryz.func137, Tryz.ntmps137
    go_wp2_with fail
    refine (T.IsSpace x _).mono ?_
    rintro e w' ⟨rfl, rfl⟩
    go_wp2_with fail
    go_ret
    exact ⟨rfl, rfl⟩

theorem lastSl_no (p : UInt8 → Bool) (hp : p 47 = false) : ∀ (l : List UInt8) (i : Nat) (d : Int), lastSl i (l.takeWhile p) d = d
  | [], _, _ => rfl
  | c :: r, i, d => by
    by_cases h : p c = true
    · rw [List.takeWhile_cons_of_pos h]
      have hc : (c == 47) = false := by
        cases hh : c == 47 with
        | false => rfl
        | true =>
          have : c = 47 := by simpa using hh
          rw [this, hp] at h; cases h
      show lastSl (i + 1) (r.takeWhile p) (if c == 47 then (i : Int) else d) = d
      rw [hc]
      exact lastSl_no p hp r (i + 1) d
    · rw [List.takeWhile_cons_of_neg h]; rfl

theorem drop_tw (p : UInt8 → Bool) : ∀ l : List UInt8, l.drop (l.takeWhile p).length = l.dropWhile p
  | [] => rfl
  | c :: r => by
    by_cases h : p c = true
    · rw [List.takeWhile_cons_of_pos h, List.dropWhile_cons_of_pos h, List.length_cons, List.drop_succ_cons, drop_tw p r]
    · rw [List.takeWhile_cons_of_neg h, List.dropWhile_cons_of_neg h]; rfl

theorem enters_sp : ∀ args w, (callFunc 92 args).run Tryz.prog w = .ok (.enter 92 args) w := enters_of Tryz.func92 (by kernel_rfl) rfl
theorem enters_goesOn : ∀ args w, (callFunc 98 args).run Tryz.prog w = .ok (.enter 98 args) w := enters_of Tryz.func98 (by kernel_rfl) rfl
theorem enters_skips : ∀ args w, (callFunc 99 args).run Tryz.prog w = .ok (.enter 99 args) w := enters_of Tryz.func99 (by kernel_rfl) rfl
theorem enters_inName : ∀ args w, (callFunc 120 args).run Tryz.prog w = .ok (.enter 120 args) w := enters_of Tryz.func120 (by kernel_rfl) rfl
theorem enters_inValue : ∀ args w, (callFunc 137 args).run Tryz.prog w = .ok (.enter 137 args) w := enters_of Tryz.func137 (by kernel_rfl) rfl

/-- The five uses of over: how far, what is left, whether something is left. -/
def OvP (b : Nat) (s : List UInt8) (i : Nat) (k n a c t : Value) (sl : Int) (p : UInt8 → Bool) (w : World) (e : Ending) (w' : World) : Prop :=
  ∃ j : Nat, e = .returned (.bool (decide (j < s.length))) ∧ i ≤ j ∧ j ≤ s.length ∧ Hid (s.drop j = (s.drop i).dropWhile p ∧ j = i + ((s.drop i).takeWhile p).length) ∧ IsRd b s j k n a c t sl w' ∧ But b w w'

theorem OvP_of {b : Nat} {s : List UInt8} {i : Nat} {k n a c t : Value} {sl : Int} {p : UInt8 → Bool} {w w' : World} {e : Ending} (hi : i ≤ s.length) (hp : p 47 = false) (h : OverPost b s i k n a c t sl p w e w') : OvP b s i k n a c t sl p w e w' := by
  obtain ⟨h1, h2, h3⟩ := h
  rw [lastSl_no p hp] at h2
  have hle := tw_le p (s.drop i)
  rw [List.length_drop] at hle
  refine ⟨_, h1, by omega, by omega, Lib.hid ⟨?_, rfl⟩, h2, h3⟩
  rw [← List.drop_drop, drop_tw]

theorem overSp (b : Nat) (s : List UInt8) (i : Nat) (k n a c t : Value) (sl : Int) (w : World) (hs : s.length ≤ 800000) (hi : i ≤ s.length) (hsl : -1 ≤ sl ∧ sl ≤ s.length) (hR : IsRd b s i k n a c t sl w) :
    Calls Tryz.prog 97 #[.pointer (some ⟨b, 0, none⟩), .func (.func 92) #[] #[]] w (OvP b s i k n a c t sl T.sp w) :=
  (over _ b s i k n a c t sl T.sp w hs hi hsl enters_sp isSpaceP hR).mono fun _ _ h => OvP_of hi (by decide) h
theorem overVal (b : Nat) (s : List UInt8) (i : Nat) (k n a c t : Value) (sl : Int) (w : World) (hs : s.length ≤ 800000) (hi : i ≤ s.length) (hsl : -1 ≤ sl ∧ sl ≤ s.length) (hR : IsRd b s i k n a c t sl w) :
    Calls Tryz.prog 97 #[.pointer (some ⟨b, 0, none⟩), .func (.func 137) #[] #[]] w (OverPost b s i k n a c t sl M.inValue w) :=
  over _ b s i k n a c t sl M.inValue w hs hi hsl enters_inValue inValueP hR
theorem overName (b : Nat) (s : List UInt8) (i : Nat) (k n a c t : Value) (sl : Int) (w : World) (hs : s.length ≤ 800000) (hi : i ≤ s.length) (hsl : -1 ≤ sl ∧ sl ≤ s.length) (hR : IsRd b s i k n a c t sl w) :
    Calls Tryz.prog 97 #[.pointer (some ⟨b, 0, none⟩), .func (.func 120) #[] #[]] w (OvP b s i k n a c t sl M.inName w) :=
  (over _ b s i k n a c t sl M.inName w hs hi hsl enters_inName inNameP hR).mono fun _ _ h => OvP_of hi (by decide) h
theorem overTag (b : Nat) (s : List UInt8) (i : Nat) (k n a c t : Value) (sl : Int) (w : World) (hs : s.length ≤ 800000) (hi : i ≤ s.length) (hsl : -1 ≤ sl ∧ sl ≤ s.length) (hR : IsRd b s i k n a c t sl w) :
    Calls Tryz.prog 97 #[.pointer (some ⟨b, 0, none⟩), .func (.func 98) #[] #[]] w (OvP b s i k n a c t sl M.goesOn w) :=
  (over _ b s i k n a c t sl M.goesOn w hs hi hsl enters_goesOn goesOnP hR).mono fun _ _ h => OvP_of hi (by decide) h
theorem overSkip (b : Nat) (s : List UInt8) (i : Nat) (k n a c t : Value) (sl : Int) (w : World) (hs : s.length ≤ 800000) (hi : i ≤ s.length) (hsl : -1 ≤ sl ∧ sl ≤ s.length) (hR : IsRd b s i k n a c t sl w) :
    Calls Tryz.prog 97 #[.pointer (some ⟨b, 0, none⟩), .func (.func 99) #[] #[]] w (OverPost b s i k n a c t sl M.skips w) :=
  over _ b s i k n a c t sl M.skips w hs hi hsl enters_skips skipsP hR

end K
end Go.Proofs.YtlnginciehjlnaaGreatDoor

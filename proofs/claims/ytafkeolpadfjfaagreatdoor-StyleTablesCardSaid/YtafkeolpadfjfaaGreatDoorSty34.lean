/- What Decls comes to; awake. What the shorthand flex comes to. -/
import Derived.Test.YtafkeolpadfjfaaGreatDoorSty21
import Derived.Test.YtafkeolpadfjfaaGreatDoorSty5
set_option linter.unusedVariables false
set_option linter.unusedSimpArgs false
namespace Go.Proofs.YtafkeolpadfjfaaGreatDoor
open Go.RowKit Go.Sort
namespace Y
open H
def TruePost (w : World) (e : Ending) (w' : World) : Prop := e = .returned (.bool true) ∧ Below w.heap.size w w'
/-- What a text's repaired form is, as the program gets it. -/
def Repairs (s0 s : List UInt8) : Prop := ∀ w, Calls Tryz.prog 65 #[.string ⟨s0.toArray⟩] w fun e w' => e = .returned (.string ⟨s.toArray⟩) ∧ Below w.heap.size w w'
set_option maxHeartbeats 4000000 in
set_option maxRecDepth 100000 in
theorem Decls (s0 s : List UInt8) (w : World) (hs : s.length ≤ 90000) (hR : Calls Tryz.prog 65 #[.string ⟨s0.toArray⟩] w fun e w' => e = .returned (.string ⟨s.toArray⟩) ∧ Below w.heap.size w w') (hM : HasMax w) (hE : YEnv w)
  (hX : ∀ i v W, i < (S.clean 0 s).length → v.length ≤ 90000 → YEnv W → Calls Tryz.prog 64 #[.string ⟨(nameAt (S.clean 0 s) i).toArray⟩, .string ⟨v.toArray⟩] W (EachPost (S.expand (nameAt (S.clean 0 s) i) v) W)) :
  Calls Tryz.prog 13 #[.string ⟨s0.toArray⟩] w fun e w' => ∃ v, e = .returned v ∧ Below w.heap.size w w' ∧ OwnD w.heap.size w' v (S.decls (S.clean 0 s)) := by
 have QC := Lib.hid (clean s0 s w (by omega) hR hM)
 have hcl := S.clean_le s.length 0 s (Nat.le_refl _)
 have HE := Lib.hid hE
 have hg1 := hE.big
 have hg2 := hE.big2
 have QD := Lib.hid (fun W hW => decls (S.clean 0 s) W (by omega) hW hX)
 generalize S.clean 0 s = cs at *
 clear hR hM hE hX
 go_enter Tryz.func13, Tryz.ntmps13
 go_wp2_with (go_at_call 33; refine QC.out.mono ?_)
 rintro e w1 ⟨rfl, hb⟩
 have HB := Lib.hid hb
 have hz := hb.size
 have Q2 := Lib.hid (QD.out w1 (HE.out.below hb hg1 hg2))
 clear hb QC QD
 go_wp2_with (go_at_call 32; refine Q2.out.mono ?_)
 rintro e w2 ⟨v, rfl, hb, ho⟩
 have HB2 := Lib.hid (HB.out.trans (hb.mono hz))
 have HO := Lib.hid (ho.base hz)
 obtain ⟨ao, cap, hv⟩ := ho.form
 generalize (S.decls cs).length = n at hv
 subst hv
 clear hb ho Q2
 go_wp2_with fail
 go_ret
 exact ⟨_, rfl, HB2.out, HO.out⟩
def redText : List UInt8 := [99, 111, 108, 111, 114, 58, 32, 114, 101, 100]
theorem red_decls : S.decls (S.clean 0 redText) = [⟨[99, 111, 108, 111, 114], ⟨6, 0, [35, 102, 102, 48, 48, 48, 48]⟩, false⟩] := by rfl
theorem red_names : ∀ i : Fin 10, nameAt (S.clean 0 redText) i.1 ≠ [102, 108, 101, 120] ∧ S.sidesOf (nameAt (S.clean 0 redText) i.1) = none ∧ (nameAt (S.clean 0 redText) i.1).length ≤ 1000000 := by decide +kernel
set_option maxHeartbeats 4000000 in
set_option maxRecDepth 100000 in
theorem awake (w : World) (hR : Repairs redText redText) (hM : HasMax w) (hE : YEnv w) : Calls Tryz.prog 11 #[] w (TruePost w) := by
 have QD := Lib.hid (Decls redText redText w (by decide) (hR w) hM hE (fun i v W hi hv hW => by
  have hi' : i < 10 := hi
  obtain ⟨h1, h2, h3⟩ := red_names ⟨i, hi'⟩
  exact expand_one _ v W h3 hv hW h1 h2))
 rw [red_decls] at QD
 clear hR hM hE
 go_enter Tryz.func11, Tryz.ntmps11
 go_wp2_with (go_at_call 13; refine QD.out.mono ?_)
 rintro e w1 ⟨v, rfl, hb, ho⟩
 have HB := Lib.hid hb
 obtain ⟨ao, cap, hv⟩ := ho.form
 subst hv
 obtain ⟨g, hg⟩ := lsl ho.list (by simp)
 subst hg
 obtain ⟨hglt, hnl, hgS, vk, hc, hp⟩ := ListAt.at_ (k := 0) cDecl_len ho.list (by simp)
 have c0 : w1.cell? ⟨g, 0, none⟩ = some (.string ⟨#[99, 111, 108, 111, 114]⟩) := hc 0 (by omega)
 have c1 : w1.cell? ⟨g, 1, none⟩ = some (.int .i64 (6 : Nat)) := hc 1 (by omega)
 have c2 : w1.cell? ⟨g, 2, none⟩ = some (.int .i64 0) := hc 2 (by omega)
 have c3 : w1.cell? ⟨g, 3, none⟩ = some (.string ⟨#[35, 102, 102, 48, 48, 48, 48]⟩) := hc 3 (by omega)
 clear hb ho hc hp hnl hgS QD
 go_wp2_with fail
 go_ret
 exact ⟨rfl, HB.out⟩
end Y
end Go.Proofs.YtafkeolpadfjfaaGreatDoor
namespace Go.Proofs.YtafkeolpadfjfaaGreatDoor
open Go.RowKit Go.Sort
namespace Y
open H
/-- What is left of the words of a row at g. -/
def TailV (g : Nat) (l rest : List (List UInt8)) (v : Value) : Prop := ∃ o ao, o + rest.length = l.length ∧ rest = l.drop o ∧ v = .slice ao rest.length rest.length ∧ (0 < rest.length → ao = some ⟨g, o, none⟩)
def flexOf (s : List UInt8) (l : List (List UInt8)) : Option (List (List UInt8 × S.Val)) := match S.flexVals s l with | some vs => S.each (S.flexNames.zip vs) | none => none
/-- A call of each with names and values written out. -/
theorem each_flex (Nb Vb : Nat) (a b c : List UInt8) (w W : World) (hU : Below w.heap.size w W) (hN : Blk Nb #[.string ⟨#[102, 108, 101, 120, 45, 103, 114, 111, 119]⟩, .string ⟨#[102, 108, 101, 120, 45, 115, 104, 114, 105, 110, 107]⟩, .string ⟨#[102, 108, 101, 120, 45, 98, 97, 115, 105, 115]⟩] 9 W) (hV : Blk Vb #[.string ⟨a.toArray⟩, .string ⟨b.toArray⟩, .string ⟨c.toArray⟩] 9 W)
  (hla : a.length ≤ 90000) (hlb : b.length ≤ 90000) (hlc : c.length ≤ 90000) (hE : YEnv W) :
  Calls Tryz.prog 104 #[.slice (some ⟨Nb, 0, none⟩) 3 3, .slice (some ⟨Vb, 0, none⟩) 3 3] W (EachPost (S.each (S.flexNames.zip [a, b, c])) W) := by
 have st : ∀ (g : Nat) (x y z : List UInt8), Blk g #[.string ⟨x.toArray⟩, .string ⟨y.toArray⟩, .string ⟨z.toArray⟩] 9 W → StrsAt (fun _ => True) W (.slice (some ⟨g, 0, none⟩) 3 3) [x, y, z] := by
  intro g x y z h
  refine ⟨[(x, .bool false), (y, .bool false), (z, .bool false)], rfl, Or.inr ⟨g, 3, rfl, by simp, trivial, h.lt, fun o ho => ?_⟩, fun p hp => trivial⟩
  have := (cells_of h).1 o
  rw [this]
  simp [cStr]
 exact each _ _ S.flexNames [a, b, c] W _ _ (st Nb _ _ _ hN) (st Vb _ _ _ hV) (by simp [S.flexNames]) (by simp [S.flexNames]) (fun x hx => by
  simp at hx
  rcases hx with rfl | rfl | rfl <;> assumption) hE
set_option maxHeartbeats 8000000 in
set_option maxRecDepth 100000 in
theorem flex_word (s : List UInt8) (v : Value) (l : List (List UInt8)) (w : World) (hs : s = [110, 111, 110, 101] ∨ s = [97, 117, 116, 111] ∨ s = [105, 110, 104, 101, 114, 105, 116] ∨ s = [105, 110, 105, 116, 105, 97, 108]) (hE : YEnv w) :
  Calls Tryz.prog 102 #[.string ⟨s.toArray⟩, v] w (EachPost (flexOf s l) w) := by
 have HE := Lib.hid hE
 have hg1 := hE.big
 have hg2 := hE.big2
 have hls : s.length ≤ 90000 := by rcases hs with rfl | rfl | rfl | rfl <;> decide
 have hW1 : Below w.heap.size w (w.alloc (.cells #[.string ⟨#[102, 108, 101, 120, 45, 103, 114, 111, 119]⟩, .string ⟨#[102, 108, 101, 120, 45, 115, 104, 114, 105, 110, 107]⟩, .string ⟨#[102, 108, 101, 120, 45, 98, 97, 115, 105, 115]⟩] 9)) := (Below.refl _ w).alloc (Nat.le_refl _) _
 have hN1 := Blk.new w #[.string ⟨#[102, 108, 101, 120, 45, 103, 114, 111, 119]⟩, .string ⟨#[102, 108, 101, 120, 45, 115, 104, 114, 105, 110, 107]⟩, .string ⟨#[102, 108, 101, 120, 45, 98, 97, 115, 105, 115]⟩] 9
 have HX : Hid (∀ a b c : List UInt8, a.length ≤ 90000 → b.length ≤ 90000 → c.length ≤ 90000 → flexOf s l = S.each (S.flexNames.zip [a, b, c]) → Calls Tryz.prog 104 #[.slice (some ⟨w.heap.size, 0, none⟩) 3 3, .slice (some ⟨w.heap.size + 1, 0, none⟩) 3 3] ((w.alloc (.cells #[.string ⟨#[102, 108, 101, 120, 45, 103, 114, 111, 119]⟩, .string ⟨#[102, 108, 101, 120, 45, 115, 104, 114, 105, 110, 107]⟩, .string ⟨#[102, 108, 101, 120, 45, 98, 97, 115, 105, 115]⟩] 9)).alloc (.cells #[.string ⟨a.toArray⟩, .string ⟨b.toArray⟩, .string ⟨c.toArray⟩] 9)) (EachPost (flexOf s l) w)) := Lib.hid (fun a b c ha hb hc he => by
  have hW2 := hW1.alloc hW1.size (.cells #[.string ⟨a.toArray⟩, .string ⟨b.toArray⟩, .string ⟨c.toArray⟩] 9)
  have hsz : (w.alloc (.cells #[.string ⟨#[102, 108, 101, 120, 45, 103, 114, 111, 119]⟩, .string ⟨#[102, 108, 101, 120, 45, 115, 104, 114, 105, 110, 107]⟩, .string ⟨#[102, 108, 101, 120, 45, 98, 97, 115, 105, 115]⟩] 9)).heap.size = w.heap.size + 1 := by simp
  have hV := Blk.new (w.alloc (.cells #[.string ⟨#[102, 108, 101, 120, 45, 103, 114, 111, 119]⟩, .string ⟨#[102, 108, 101, 120, 45, 115, 104, 114, 105, 110, 107]⟩, .string ⟨#[102, 108, 101, 120, 45, 98, 97, 115, 105, 115]⟩] 9)) #[.string ⟨a.toArray⟩, .string ⟨b.toArray⟩, .string ⟨c.toArray⟩] 9
  rw [hsz] at hV
  refine (each_flex _ _ a b c w _ hW2 (hN1.alloc _) hV ha hb hc (HE.out.below hW2 hg1 hg2)).mono ?_
  rintro e w' ⟨hb, hcase⟩
  rw [he]
  refine ⟨hW2.trans (hb.mono hW2.size), ?_⟩
  rcases hcase with ⟨q, u, h1, h2, h3⟩ | h
  ·exact Or.inl ⟨q, u, h1, h2, h3.base hW2.size⟩
  ·exact Or.inr h)
 clear hE hW1 hN1
 rcases hs with hs | hs | hs | hs
 ·have QX := Lib.hid (HX.out [48] [48] [97, 117, 116, 111] (by first | decide | exact hls) (by first | decide | exact hls) (by first | decide | exact hls) (by rw [hs]; rfl))
  have g0 : (s == [110, 111, 110, 101]) = true := by rw [hs]; rfl
  generalize flexOf s l = q at *
  clear HX hs
  go_enter Tryz.func102, Tryz.ntmps102
  go_wp2_with fail
  refine QX.out.mono ?_
  rintro e w5 ⟨hb, hcase⟩
  have HB := Lib.hid hb
  clear hb QX
  rcases hcase with ⟨r, u, hr, rfl, hown⟩ | ⟨hr, rfl⟩
  ·have HO := Lib.hid hown
   have HQ := Lib.hid hr
   obtain ⟨ao, cap, hv⟩ := hown.form
   generalize (r.map plainD).length = n at hv
   subst hv
   clear hown hr
   go_wp2_with fail
   go_ret2
   exact ⟨HB.out, Or.inl ⟨r, _, HQ.out, rfl, HO.out⟩⟩
  ·have HQ := Lib.hid hr
   clear hr
   go_wp2_with fail
   go_ret2
   exact ⟨HB.out, Or.inr ⟨HQ.out, rfl⟩⟩
 ·have QX := Lib.hid (HX.out [49] [49] [97, 117, 116, 111] (by first | decide | exact hls) (by first | decide | exact hls) (by first | decide | exact hls) (by rw [hs]; rfl))
  have g0 : (s == [110, 111, 110, 101]) = false := by rw [hs]; rfl
  have g1 : (s == [97, 117, 116, 111]) = true := by rw [hs]; rfl
  generalize flexOf s l = q at *
  clear HX hs
  go_enter Tryz.func102, Tryz.ntmps102
  go_wp2_with fail
  refine QX.out.mono ?_
  rintro e w5 ⟨hb, hcase⟩
  have HB := Lib.hid hb
  clear hb QX
  rcases hcase with ⟨r, u, hr, rfl, hown⟩ | ⟨hr, rfl⟩
  ·have HO := Lib.hid hown
   have HQ := Lib.hid hr
   obtain ⟨ao, cap, hv⟩ := hown.form
   generalize (r.map plainD).length = n at hv
   subst hv
   clear hown hr
   go_wp2_with fail
   go_ret2
   exact ⟨HB.out, Or.inl ⟨r, _, HQ.out, rfl, HO.out⟩⟩
  ·have HQ := Lib.hid hr
   clear hr
   go_wp2_with fail
   go_ret2
   exact ⟨HB.out, Or.inr ⟨HQ.out, rfl⟩⟩
 ·have QX := Lib.hid (HX.out s s s (by first | decide | exact hls) (by first | decide | exact hls) (by first | decide | exact hls) (by rw [hs]; rfl))
  have g0 : (s == [110, 111, 110, 101]) = false := by rw [hs]; rfl
  have g1 : (s == [97, 117, 116, 111]) = false := by rw [hs]; rfl
  have g2 : (s == [105, 110, 104, 101, 114, 105, 116]) = true := by rw [hs]; rfl
  generalize flexOf s l = q at *
  clear HX hs
  go_enter Tryz.func102, Tryz.ntmps102
  go_wp2_with fail
  refine QX.out.mono ?_
  rintro e w5 ⟨hb, hcase⟩
  have HB := Lib.hid hb
  clear hb QX
  rcases hcase with ⟨r, u, hr, rfl, hown⟩ | ⟨hr, rfl⟩
  ·have HO := Lib.hid hown
   have HQ := Lib.hid hr
   obtain ⟨ao, cap, hv⟩ := hown.form
   generalize (r.map plainD).length = n at hv
   subst hv
   clear hown hr
   go_wp2_with fail
   go_ret2
   exact ⟨HB.out, Or.inl ⟨r, _, HQ.out, rfl, HO.out⟩⟩
  ·have HQ := Lib.hid hr
   clear hr
   go_wp2_with fail
   go_ret2
   exact ⟨HB.out, Or.inr ⟨HQ.out, rfl⟩⟩
 ·have QX := Lib.hid (HX.out s s s (by first | decide | exact hls) (by first | decide | exact hls) (by first | decide | exact hls) (by rw [hs]; rfl))
  have g0 : (s == [110, 111, 110, 101]) = false := by rw [hs]; rfl
  have g1 : (s == [97, 117, 116, 111]) = false := by rw [hs]; rfl
  have g2 : (s == [105, 110, 104, 101, 114, 105, 116]) = false := by rw [hs]; rfl
  have g3 : (s == [105, 110, 105, 116, 105, 97, 108]) = true := by rw [hs]; rfl
  generalize flexOf s l = q at *
  clear HX hs
  go_enter Tryz.func102, Tryz.ntmps102
  go_wp2_with fail
  refine QX.out.mono ?_
  rintro e w5 ⟨hb, hcase⟩
  have HB := Lib.hid hb
  clear hb QX
  rcases hcase with ⟨r, u, hr, rfl, hown⟩ | ⟨hr, rfl⟩
  ·have HO := Lib.hid hown
   have HQ := Lib.hid hr
   obtain ⟨ao, cap, hv⟩ := hown.form
   generalize (r.map plainD).length = n at hv
   subst hv
   clear hown hr
   go_wp2_with fail
   go_ret2
   exact ⟨HB.out, Or.inl ⟨r, _, HQ.out, rfl, HO.out⟩⟩
  ·have HQ := Lib.hid hr
   clear hr
   go_wp2_with fail
   go_ret2
   exact ⟨HB.out, Or.inr ⟨HQ.out, rfl⟩⟩
/-- The state of flex: what is left of the words, and the three values so far. -/
structure Fx (w : World) (g : Nat) (l rest : List (List UInt8)) (a b c : List UInt8) (v : Value) (W : World) : Prop where
 below : Below w.heap.size w W
 names : Blk w.heap.size #[.string ⟨#[102, 108, 101, 120, 45, 103, 114, 111, 119]⟩, .string ⟨#[102, 108, 101, 120, 45, 115, 104, 114, 105, 110, 107]⟩, .string ⟨#[102, 108, 101, 120, 45, 98, 97, 115, 105, 115]⟩] 9 W
 vals : Blk (w.heap.size + 1) #[.string ⟨a.toArray⟩, .string ⟨b.toArray⟩, .string ⟨c.toArray⟩] 9 W
 tail : TailV g l rest v
section
variable {w W W' : World} {g : Nat} {l rest : List (List UInt8)} {a b c : List UInt8} {v : Value}
theorem Fx.later (h : Fx w g l rest a b c v W) (k : Below W.heap.size W W') : Fx w g l rest a b c v W' := ⟨h.below.trans (k.mono h.below.size), h.names.below k, h.vals.below k, h.tail⟩
theorem Fx.set0 (h : Fx w g l rest a b c v W) (x : List UInt8) : Fx w g l rest x b c v (W.setCell ⟨w.heap.size + 1, 0, none⟩ (.string ⟨x.toArray⟩)) := ⟨h.below.setCell (by show w.heap.size ≤ w.heap.size + 1; omega) _, h.names.far (by omega) _ _, h.vals.set 0 _, h.tail⟩
theorem Fx.set1 (h : Fx w g l rest a b c v W) (x : List UInt8) : Fx w g l rest a x c v (W.setCell ⟨w.heap.size + 1, 1, none⟩ (.string ⟨x.toArray⟩)) := ⟨h.below.setCell (by show w.heap.size ≤ w.heap.size + 1; omega) _, h.names.far (by omega) _ _, h.vals.set 1 _, h.tail⟩
theorem Fx.set2 (h : Fx w g l rest a b c v W) (x : List UInt8) : Fx w g l rest a b x v (W.setCell ⟨w.heap.size + 1, 2, none⟩ (.string ⟨x.toArray⟩)) := ⟨h.below.setCell (by show w.heap.size ≤ w.heap.size + 1; omega) _, h.names.far (by omega) _ _, h.vals.set 2 _, h.tail⟩
theorem Fx.with_ (h : Fx w g l rest a b c v W) {rest' : List (List UInt8)} {v' : Value} (k : TailV g l rest' v') : Fx w g l rest' a b c v' W := ⟨h.below, h.names, h.vals, k⟩
theorem Fx.name (h : Fx w g l rest a b c v W) {k : Nat} {x : Value} (hx : (#[.string ⟨#[102, 108, 101, 120, 45, 103, 114, 111, 119]⟩, .string ⟨#[102, 108, 101, 120, 45, 115, 104, 114, 105, 110, 107]⟩, .string ⟨#[102, 108, 101, 120, 45, 98, 97, 115, 105, 115]⟩] : Array Value)[k]? = some x) : W.cell? ⟨w.heap.size, k, none⟩ = some x := ((cells_of h.names).1 k).trans hx
theorem Fx.val (h : Fx w g l rest a b c v W) {k : Nat} {x : Value} (hx : (#[.string ⟨a.toArray⟩, .string ⟨b.toArray⟩, .string ⟨c.toArray⟩] : Array Value)[k]? = some x) : W.cell? ⟨w.heap.size + 1, k, none⟩ = some x := ((cells_of h.vals).1 k).trans hx
theorem Fx.soft (h : Fx w g l rest a b c v W) {k : Nat} (hk : k < 3) : W.frozen? ⟨w.heap.size + 1, k, none⟩ = false := (cells_of h.vals).2 k hk
end
theorem tail_next {g : Nat} {l rest : List (List UInt8)} {x : List UInt8} {o : Nat} (h1 : o + (rest.length + 1) = l.length) (h2 : x :: rest = l.drop o) : TailV g l rest (.slice (if rest.length = 0 then some ⟨g, o, none⟩ else some ⟨g, o + 1, none⟩) rest.length rest.length) := by
 refine ⟨o + 1, _, by omega, ?_, rfl, fun h => if_neg (by omega)⟩
 rw [← List.drop_drop, ← h2]; rfl
set_option maxHeartbeats 16000000 in
set_option maxRecDepth 100000 in
theorem flex_rest (s a : List UInt8) (r : List (List UInt8)) (g : Nat) (w : World) (hg : g < w.heap.size)
  (hc : ∀ k x, (a :: r)[k]? = some x → w.cell? ⟨g, k, none⟩ = some (.string ⟨x.toArray⟩)) (hl : ∀ x ∈ a :: r, x.length ≤ 90000) (hn : r.length ≤ 1000000)
  (h0 : s ≠ [110, 111, 110, 101]) (h1 : s ≠ [97, 117, 116, 111]) (h2 : s ≠ [105, 110, 104, 101, 114, 105, 116]) (h3 : s ≠ [105, 110, 105, 116, 105, 97, 108]) (hE : YEnv w) :
  Calls Tryz.prog 102 #[.string ⟨s.toArray⟩, .slice (some ⟨g, 0, none⟩) (r.length + 1) (r.length + 1)] w (EachPost (flexOf s (a :: r)) w) := by
 have HE := Lib.hid hE
 have hg1 := hE.big
 have hg2 := hE.big2
 have HC := Lib.hid hc
 have HL := Lib.hid hl
 have g0 : (s == [110, 111, 110, 101]) = false := by simpa using h0
 have g1 : (s == [97, 117, 116, 111]) = false := by simpa using h1
 have g2 : (s == [105, 110, 104, 101, 114, 105, 116]) = false := by simpa using h2
 have g3 : (s == [105, 110, 105, 116, 105, 97, 108]) = false := by simpa using h3
 have HQ : Hid (flexOf s (a :: r) = if S.part [102, 108, 101, 120, 45, 103, 114, 111, 119] a then (if (S.flexOne [102, 108, 101, 120, 45, 98, 97, 115, 105, 115] [48, 112, 120] (S.flexOne [102, 108, 101, 120, 45, 115, 104, 114, 105, 110, 107] [49] r).2).2 = [] then S.each (S.flexNames.zip [a, (S.flexOne [102, 108, 101, 120, 45, 115, 104, 114, 105, 110, 107] [49] r).1, (S.flexOne [102, 108, 101, 120, 45, 98, 97, 115, 105, 115] [48, 112, 120] (S.flexOne [102, 108, 101, 120, 45, 115, 104, 114, 105, 110, 107] [49] r).2).1]) else none) else none) := Lib.hid (by
  have hgl : S.globals.contains s = false := by
   rw [Bool.eq_false_iff]
   intro h
   have := List.contains_iff_mem.1 h
   simp [S.globals] at this
   rcases this with h | h
   ·exact h2 h
   ·exact h3 h
  unfold flexOf
  rw [S.flexVals_cons h0 h1 hgl]
  split <;> rename_i h
  ·split at h
   ·split at h
    ·injection h with h; subst h; rw [if_pos ‹_›, if_pos ‹_›]; rfl
    ·cases h
   ·cases h
  ·split at h
   ·split at h
    ·cases h
    ·rw [if_pos ‹_›, if_neg ‹_›]
   ·rw [if_neg ‹_›])
 generalize flexOf s (a :: r) = q at *
 have QP0 := Lib.hid (fun (U : World) (hU : YEnv U) => show Calls Tryz.prog 142 #[.string ⟨#[102, 108, 101, 120, 45, 103, 114, 111, 119]⟩, .string ⟨a.toArray⟩] U _ from part [102, 108, 101, 120, 45, 103, 114, 111, 119] a U (hl a (List.mem_cons_self ..)) hU)
 generalize hP : S.part [102, 108, 101, 120, 45, 103, 114, 111, 119] a = P at *
 have c0 : w.cell? ⟨g, 0, none⟩ = some (.string ⟨a.toArray⟩) := hc 0 a rfl
 have hrl := hn
 generalize hR : r.length + 1 = R at *
 have HR := Lib.hid hR
 have hR0 : 0 < R := by omega
 have hRI : (0 : Int) < (R : Int) := by omega
 have hRz : ((R : Int) == 0) = false := by rw [beq_eq_false_iff_ne]; omega
 have hRn : ¬ (R : Int) = 0 := by omega
 clear hE hc hl h0 h1 h2 h3 hP hR hn hrl
 go_enter Tryz.func102, Tryz.ntmps102
 go_upto_region 11 with fail
 have HF0 : Hid (Fx w g (a :: r) (a :: r) [] [49] [48, 112, 120] (.slice (some ⟨g, 0, none⟩) (a :: r).length (a :: r).length) ((w.alloc (.cells #[.string ⟨#[102, 108, 101, 120, 45, 103, 114, 111, 119]⟩, .string ⟨#[102, 108, 101, 120, 45, 115, 104, 114, 105, 110, 107]⟩, .string ⟨#[102, 108, 101, 120, 45, 98, 97, 115, 105, 115]⟩] 9)).alloc (.cells #[.string ⟨#[]⟩, .string ⟨#[49]⟩, .string ⟨#[48, 112, 120]⟩] 9))) := Lib.hid (by
  have b1 : Below w.heap.size w (w.alloc (.cells #[.string ⟨#[102, 108, 101, 120, 45, 103, 114, 111, 119]⟩, .string ⟨#[102, 108, 101, 120, 45, 115, 104, 114, 105, 110, 107]⟩, .string ⟨#[102, 108, 101, 120, 45, 98, 97, 115, 105, 115]⟩] 9)) := (Below.refl _ w).alloc (Nat.le_refl _) _
  refine ⟨b1.alloc b1.size _, (Blk.new w #[.string ⟨#[102, 108, 101, 120, 45, 103, 114, 111, 119]⟩, .string ⟨#[102, 108, 101, 120, 45, 115, 104, 114, 105, 110, 107]⟩, .string ⟨#[102, 108, 101, 120, 45, 98, 97, 115, 105, 115]⟩] 9).alloc _, ?_, 0, _, by omega, rfl, rfl, fun _ => rfl⟩
  have := Blk.new (w.alloc (.cells #[.string ⟨#[102, 108, 101, 120, 45, 103, 114, 111, 119]⟩, .string ⟨#[102, 108, 101, 120, 45, 115, 104, 114, 105, 110, 107]⟩, .string ⟨#[102, 108, 101, 120, 45, 98, 97, 115, 105, 115]⟩] 9)) #[.string ⟨#[]⟩, .string ⟨#[49]⟩, .string ⟨#[48, 112, 120]⟩] 9
  rw [show (w.alloc (.cells #[.string ⟨#[102, 108, 101, 120, 45, 103, 114, 111, 119]⟩, .string ⟨#[102, 108, 101, 120, 45, 115, 104, 114, 105, 110, 107]⟩, .string ⟨#[102, 108, 101, 120, 45, 98, 97, 115, 105, 115]⟩] 9)).heap.size = w.heap.size + 1 by simp] at this
  exact this)
 generalize ((w.alloc (.cells #[.string ⟨#[102, 108, 101, 120, 45, 103, 114, 111, 119]⟩, .string ⟨#[102, 108, 101, 120, 45, 115, 104, 114, 105, 110, 107]⟩, .string ⟨#[102, 108, 101, 120, 45, 98, 97, 115, 105, 115]⟩] 9)).alloc (.cells #[.string ⟨#[]⟩, .string ⟨#[49]⟩, .string ⟨#[48, 112, 120]⟩] 9)) = W0 at *
 have hb0 := HF0.out.below
 have hW0 := hb0.size
 have n0 := HF0.out.name (k := 0) rfl
 have d0 : W0.cell? ⟨g, 0, none⟩ = some (.string ⟨a.toArray⟩) := (hb0.cell (p := ⟨g, 0, none⟩) hg).trans c0
 have hl0 := HF0.out.names.lt
 have hgl0 := Nat.lt_of_lt_of_le hg hW0
 have D0 := fun d : Later W0.heap.size W0 => Later.cell n0 hl0 d
 have D1 := fun d : Later W0.heap.size W0 => Later.cell d0 hgl0 d
 have QPP := Lib.hid (fun (U : World) (hU : Below W0.heap.size W0 U) => QP0.out U (HE.out.below (hb0.trans (hU.mono hW0)) hg1 hg2))
 clear hb0 n0 d0 QP0 c0
 refine wp_region_later (by kernel_rfl) (by kernel_rfl) ?_
 repeat (go_big_quiet_step ((go_at_call 142; exact Calls.later (QPP.out _ (Later.h _)))))
 refine wpQuiet_nil ?_
 intro _ hw'
 obtain ⟨dq, hw''⟩ := hw'
 subst hw''
 have HF1 := Lib.hid (HF0.out.later dq.h)
 have hb1 := HF1.out.below
 generalize dq.w = W1 at *
 clear D0 D1 QPP HF0 dq hW0 hl0 hgl0
 cases P with
 | false =>
  have HQ2 : Hid (q = none) := Lib.hid (by rw [HQ.out]; rfl)
  go_wp2_with fail
  go_ret2
  exact ⟨hb1, Or.inr ⟨HQ2.out, rfl⟩⟩
 | true =>
  have HQ2 := Lib.hid (HQ.out.trans (if_pos rfl))
  have d0 : W1.cell? ⟨g, 0, none⟩ = some (.string ⟨a.toArray⟩) := (hb1.cell (p := ⟨g, 0, none⟩) hg).trans (HC.out 0 a rfl)
  have f0 := HF1.out.soft (k := 0) (by omega)
  have HF2 := Lib.hid (HF1.out.set0 a)
  have v0 := HF1.out.val (k := 0) rfl
  clear HQ HF1 hb1
  go_upto_region 14 with fail
  go_cut [1] (fun v1 wx => Hid (Fx w g (a :: r) r a [49] [48, 112, 120] v1 wx))
  case first =>
   rcases (by omega : R = 1 ∨ 1 < R) with hR1 | hR1
   ·have hr0 : r.length = 0 := by have := HR.out; omega
    subst hR1
    go_wp2_with fail
    go_meet
    refine Lib.hid (HF2.out.with_ ?_)
    have := tail_next (g := g) (l := a :: r) (rest := r) (x := a) (o := 0) (by simp) rfl
    rw [if_pos hr0, hr0] at this
    exact this
   ·have hr0 : ¬ r.length = 0 := by have := HR.out; omega
    have hRI1 : (1 : Int) ≤ (R : Int) := by omega
    have hRI2 : ¬ (R : Int) = 1 := by omega
    have hRn1 : ¬ R = 1 := by omega
    go_wp2_with fail
    go_meet
    refine Lib.hid (HF2.out.with_ ?_)
    have := tail_next (g := g) (l := a :: r) (rest := r) (x := a) (o := 0) (by simp) rfl
    rw [if_neg hr0] at this
    rw [show R - 1 = r.length by have := HR.out; omega]
    exact this
  case rest =>
  have HF1 := hcut
  have HLa := Lib.hid (HL.out a (List.mem_cons_self ..))
  clear hcut HF2 v0 f0 d0
  generalize a :: r = L at *
  rename_i KK1 hKK1
  refine hKK1 _ _ ?_
  go_step
  go_cut [1] (fun v1 wx => ∃ (y : List UInt8) (z : List (List UInt8)), Hid (S.flexOne [102, 108, 101, 120, 45, 115, 104, 114, 105, 110, 107] [49] r = (y, z)) ∧ Hid (y.length ≤ 90000) ∧ Hid (Fx w g L z a y [48, 112, 120] v1 wx))
  case first =>
   have hb := HF1.out.below
   have HQP := Lib.hid (fun (x : List UInt8) (hx : x.length ≤ 90000) (U : World) (hU : Below wc.heap.size wc U) => show Calls Tryz.prog 142 #[.string ⟨#[102, 108, 101, 120, 45, 115, 104, 114, 105, 110, 107]⟩, .string ⟨x.toArray⟩] U _ from part [102, 108, 101, 120, 45, 115, 104, 114, 105, 110, 107] x U hx (HE.out.below (hb.trans (hU.mono hb.size)) hg1 hg2))
   have n0 := HF1.out.name (k := 1) rfl
   have hl0 := HF1.out.names.lt
   have hgl0 := Nat.lt_of_lt_of_le hg hb.size
   obtain ⟨o, ao, ho, hdr, hv, hao⟩ := HF1.out.tail
   subst hv
   go_step
   cases r with
   | nil =>
    have HF3 := Lib.hid HF1.out
    clear HF1 HQP hdr hao n0
    simp only [List.length_nil] at HF3 ⊢
    refine wp_region_later (by kernel_rfl) (by kernel_rfl) ?_
    repeat (go_big_quiet_step (fail))
    refine wpQuiet_nil ?_
    intro _ hw'
    obtain ⟨dq, hw''⟩ := hw'
    subst hw''
    go_wp2_with fail
    go_meet
    exact ⟨_, _, Lib.hid rfl, Lib.hid (by decide), Lib.hid (HF3.out.later dq.h)⟩
   | cons x s2 =>
    obtain rfl := hao (by simp)
    have hgo : L[o]? = some x := by
     have := congrArg (fun l => l[0]?) hdr
     simpa using this.symm
    have d0 : wc.cell? ⟨g, o, none⟩ = some (.string ⟨x.toArray⟩) := (hb.cell (p := ⟨g, o, none⟩) hg).trans (HC.out o x hgo)
    have hxl : x.length ≤ 90000 := HL.out x (List.mem_of_getElem? hgo)
    have QPP := Lib.hid (fun U hU => HQP.out x hxl U hU)
    have HFO : Hid (S.flexOne [102, 108, 101, 120, 45, 115, 104, 114, 105, 110, 107] [49] (x :: s2) = if S.part [102, 108, 101, 120, 45, 115, 104, 114, 105, 110, 107] x then (x, s2) else ([49], x :: s2)) := Lib.hid rfl
    generalize S.part [102, 108, 101, 120, 45, 115, 104, 114, 105, 110, 107] x = B at *
    have D0 := fun d : Later wc.heap.size wc => Later.cell n0 hl0 d
    have D1 := fun d : Later wc.heap.size wc => Later.cell d0 hgl0 d
    have HT := Lib.hid (fun (h1 : o + (s2.length + 1) = L.length) => tail_next (g := g) (l := L) (rest := s2) (x := x) (o := o) h1 hdr)
    have HO := Lib.hid ho
    have HF3 := Lib.hid HF1.out
    have HXL := Lib.hid hxl
    have HLs : Hid ((x :: s2).length = s2.length + 1) := Lib.hid (List.length_cons ..)
    generalize hM : (x :: s2).length = M at *
    have HM := Lib.hid hM
    have hM0 : 0 < M := by have := HLs.out; omega
    have hMI : (0 : Int) < (M : Int) := by omega
    have hMd : decide ((0 : Int) < (M : Int)) = true := decide_eq_true hMI
    clear HF1 HQP hdr hao n0 d0 hxl hgo ho hM hb
    refine wp_region_later (by kernel_rfl) (by kernel_rfl) ?_
    repeat (go_big_quiet_step ((go_at_call 142; exact Calls.later (QPP.out _ (Later.h _)))))
    refine wpQuiet_nil ?_
    intro _ hw'
    obtain ⟨dq, hw''⟩ := hw'
    subst hw''
    have HF4 := Lib.hid (HF3.out.later dq.h)
    have hb1 := HF4.out.below
    have hgo : L[o]? = some x := by
     obtain ⟨o2, ao2, ho2, hdr2, hv2, hao2⟩ := HF4.out.tail
     have h1 := HO.out
     have h2 := HM.out
     have : o2 = o := by omega
     subst this
     have := congrArg (fun l => l[0]?) hdr2
     simpa using this.symm
    have d0 : dq.w.cell? ⟨g, o, none⟩ = some (.string ⟨x.toArray⟩) := (hb1.cell (p := ⟨g, o, none⟩) hg).trans (HC.out o x hgo)
    generalize dq.w = W1 at *
    clear D0 D1 QPP HF3 dq hgo hl0 hgl0
    cases B with
    | false =>
     have HFO2 := Lib.hid (HFO.out.trans (if_neg Bool.false_ne_true))
     have HF5 := Lib.hid HF4.out
     clear HFO HF4 d0
     go_wp2_with fail
     go_meet
     exact ⟨_, _, HFO2, Lib.hid (by decide), HF5⟩
    | true =>
     have HFO2 := Lib.hid (HFO.out.trans (if_pos rfl))
     have f0 := HF4.out.soft (k := 1) (by omega)
     have v0 := HF4.out.val (k := 1) rfl
     have HF5 := Lib.hid (HF4.out.set1 x)
     clear HFO HF4 hb1
     rcases (by omega : M = 1 ∨ 1 < M) with hR1 | hR1
     ·have hr0 : s2.length = 0 := by have := HLs.out; omega
      have HT2 := Lib.hid (HT.out (by have := HO.out; have := HLs.out; omega))
      rw [if_pos hr0, hr0] at HT2
      clear HT HO HLs HM
      subst hR1
      go_wp2_with fail
      go_meet
      exact ⟨_, _, HFO2, HXL, Lib.hid (HF5.out.with_ HT2.out)⟩
     ·have hr0 : ¬ s2.length = 0 := by have := HLs.out; omega
      have HT2 := Lib.hid (HT.out (by have := HO.out; have := HLs.out; omega))
      rw [if_neg hr0] at HT2
      have hs2 : s2.length = M - 1 := by have := HLs.out; omega
      rw [hs2] at HT2
      have hRI1 : (1 : Int) ≤ (M : Int) := by omega
      have hRI2 : ¬ (M : Int) = 1 := by omega
      have hRn1 : ¬ M = 1 := by omega
      clear HT HO HLs HM hs2 hr0
      go_wp2_with fail
      go_meet
      exact ⟨_, _, HFO2, HXL, Lib.hid (HF5.out.with_ HT2.out)⟩
  case rest =>
  obtain ⟨x1, r1, HR1, HY1, HF2⟩ := hcut
  clear HF1
  rename_i KK2 hKK2
  refine hKK2 _ _ ?_
  go_step
  go_cut [1] (fun v1 wx => ∃ (y : List UInt8) (z : List (List UInt8)), Hid (S.flexOne [102, 108, 101, 120, 45, 98, 97, 115, 105, 115] [48, 112, 120] r1 = (y, z)) ∧ Hid (y.length ≤ 90000) ∧ Hid (Fx w g L z a x1 y v1 wx))
  case first =>
   have hb := HF2.out.below
   have HQP := Lib.hid (fun (x : List UInt8) (hx : x.length ≤ 90000) (U : World) (hU : Below wc.heap.size wc U) => show Calls Tryz.prog 142 #[.string ⟨#[102, 108, 101, 120, 45, 98, 97, 115, 105, 115]⟩, .string ⟨x.toArray⟩] U _ from part [102, 108, 101, 120, 45, 98, 97, 115, 105, 115] x U hx (HE.out.below (hb.trans (hU.mono hb.size)) hg1 hg2))
   have n0 := HF2.out.name (k := 2) rfl
   have hl0 := HF2.out.names.lt
   have hgl0 := Nat.lt_of_lt_of_le hg hb.size
   obtain ⟨o, ao, ho, hdr, hv, hao⟩ := HF2.out.tail
   subst hv
   go_step
   cases r1 with
   | nil =>
    have HF3 := Lib.hid HF2.out
    clear HF2 HQP hdr hao n0
    simp only [List.length_nil] at HF3 ⊢
    refine wp_region_later (by kernel_rfl) (by kernel_rfl) ?_
    repeat (go_big_quiet_step (fail))
    refine wpQuiet_nil ?_
    intro _ hw'
    obtain ⟨dq, hw''⟩ := hw'
    subst hw''
    go_wp2_with fail
    go_meet
    exact ⟨_, _, Lib.hid rfl, Lib.hid (by decide), Lib.hid (HF3.out.later dq.h)⟩
   | cons x s2 =>
    obtain rfl := hao (by simp)
    have hgo : L[o]? = some x := by
     have := congrArg (fun l => l[0]?) hdr
     simpa using this.symm
    have d0 : wc.cell? ⟨g, o, none⟩ = some (.string ⟨x.toArray⟩) := (hb.cell (p := ⟨g, o, none⟩) hg).trans (HC.out o x hgo)
    have hxl : x.length ≤ 90000 := HL.out x (List.mem_of_getElem? hgo)
    have QPP := Lib.hid (fun U hU => HQP.out x hxl U hU)
    have HFO : Hid (S.flexOne [102, 108, 101, 120, 45, 98, 97, 115, 105, 115] [48, 112, 120] (x :: s2) = if S.part [102, 108, 101, 120, 45, 98, 97, 115, 105, 115] x then (x, s2) else ([48, 112, 120], x :: s2)) := Lib.hid rfl
    generalize S.part [102, 108, 101, 120, 45, 98, 97, 115, 105, 115] x = B at *
    have D0 := fun d : Later wc.heap.size wc => Later.cell n0 hl0 d
    have D1 := fun d : Later wc.heap.size wc => Later.cell d0 hgl0 d
    have HT := Lib.hid (fun (h1 : o + (s2.length + 1) = L.length) => tail_next (g := g) (l := L) (rest := s2) (x := x) (o := o) h1 hdr)
    have HO := Lib.hid ho
    have HF3 := Lib.hid HF2.out
    have HXL := Lib.hid hxl
    have HLs : Hid ((x :: s2).length = s2.length + 1) := Lib.hid (List.length_cons ..)
    generalize hM : (x :: s2).length = M at *
    have HM := Lib.hid hM
    have hM0 : 0 < M := by have := HLs.out; omega
    have hMI : (0 : Int) < (M : Int) := by omega
    have hMd : decide ((0 : Int) < (M : Int)) = true := decide_eq_true hMI
    clear HF2 HQP hdr hao n0 d0 hxl hgo ho hM hb
    refine wp_region_later (by kernel_rfl) (by kernel_rfl) ?_
    repeat (go_big_quiet_step ((go_at_call 142; exact Calls.later (QPP.out _ (Later.h _)))))
    refine wpQuiet_nil ?_
    intro _ hw'
    obtain ⟨dq, hw''⟩ := hw'
    subst hw''
    have HF4 := Lib.hid (HF3.out.later dq.h)
    have hb1 := HF4.out.below
    have hgo : L[o]? = some x := by
     obtain ⟨o2, ao2, ho2, hdr2, hv2, hao2⟩ := HF4.out.tail
     have h1 := HO.out
     have h2 := HM.out
     have : o2 = o := by omega
     subst this
     have := congrArg (fun l => l[0]?) hdr2
     simpa using this.symm
    have d0 : dq.w.cell? ⟨g, o, none⟩ = some (.string ⟨x.toArray⟩) := (hb1.cell (p := ⟨g, o, none⟩) hg).trans (HC.out o x hgo)
    generalize dq.w = W1 at *
    clear D0 D1 QPP HF3 dq hgo hl0 hgl0
    cases B with
    | false =>
     have HFO2 := Lib.hid (HFO.out.trans (if_neg Bool.false_ne_true))
     have HF5 := Lib.hid HF4.out
     clear HFO HF4 d0
     go_wp2_with fail
     go_meet
     exact ⟨_, _, HFO2, Lib.hid (by decide), HF5⟩
    | true =>
     have HFO2 := Lib.hid (HFO.out.trans (if_pos rfl))
     have f0 := HF4.out.soft (k := 2) (by omega)
     have v0 := HF4.out.val (k := 2) rfl
     have HF5 := Lib.hid (HF4.out.set2 x)
     clear HFO HF4 hb1
     rcases (by omega : M = 1 ∨ 1 < M) with hR1 | hR1
     ·have hr0 : s2.length = 0 := by have := HLs.out; omega
      have HT2 := Lib.hid (HT.out (by have := HO.out; have := HLs.out; omega))
      rw [if_pos hr0, hr0] at HT2
      clear HT HO HLs HM
      subst hR1
      go_wp2_with fail
      go_meet
      exact ⟨_, _, HFO2, HXL, Lib.hid (HF5.out.with_ HT2.out)⟩
     ·have hr0 : ¬ s2.length = 0 := by have := HLs.out; omega
      have HT2 := Lib.hid (HT.out (by have := HO.out; have := HLs.out; omega))
      rw [if_neg hr0] at HT2
      have hs2 : s2.length = M - 1 := by have := HLs.out; omega
      rw [hs2] at HT2
      have hRI1 : (1 : Int) ≤ (M : Int) := by omega
      have hRI2 : ¬ (M : Int) = 1 := by omega
      have hRn1 : ¬ M = 1 := by omega
      clear HT HO HLs HM hs2 hr0
      go_wp2_with fail
      go_meet
      exact ⟨_, _, HFO2, HXL, Lib.hid (HF5.out.with_ HT2.out)⟩
  case rest =>
  obtain ⟨x2, r2, HR2, HY2, HF3⟩ := hcut
  clear HF2
  have hz := HF3.out.below
  rename_i KK3 hKK3
  refine hKK3 _ _ ?_
  obtain ⟨o, ao, ho, hdr, hv, hao⟩ := HF3.out.tail
  subst hv
  have HQ3 : Hid (q = if r2 = [] then S.each (S.flexNames.zip [a, x1, x2]) else none) := Lib.hid (by
   have h1 := HR1.out
   have h2 := HR2.out
   rw [HQ2.out, h1]
   dsimp only
   rw [h2])
  have QE := Lib.hid (each_flex w.heap.size (w.heap.size + 1) a x1 x2 w wc hz HF3.out.names HF3.out.vals (HLa.out) HY1.out HY2.out (HE.out.below hz hg1 hg2))
  have HB := Lib.hid hz
  clear HQ2 HR1 HR2 ho hdr hao HF3 hz HY1 HY2 HL HC
  cases r2 with
  | nil =>
   have HQ4 := Lib.hid (HQ3.out.trans (if_pos rfl))
   clear HQ3
   simp only [List.length_nil]
   go_wp2_with fail
   refine QE.out.mono ?_
   rintro e w5 ⟨hb, hcase⟩
   have HB5 := Lib.hid (HB.out.trans (hb.mono HB.out.size))
   have hsz := HB.out.size
   clear hb QE
   rcases hcase with ⟨l, u, hr, rfl, hown⟩ | ⟨hr, rfl⟩
   ·have HO := Lib.hid (hown.base hsz)
    have HQ5 := Lib.hid (HQ4.out.trans hr)
    obtain ⟨ao, cap, hv⟩ := hown.form
    generalize (l.map plainD).length = n at hv
    subst hv
    clear hown hr HQ4
    go_wp2_with fail
    go_ret2
    exact ⟨HB5.out, Or.inl ⟨l, _, HQ5.out, rfl, HO.out⟩⟩
   ·have HQ5 := Lib.hid (HQ4.out.trans hr)
    clear hr HQ4
    go_wp2_with fail
    go_ret2
    exact ⟨HB5.out, Or.inr ⟨HQ5.out, rfl⟩⟩
  | cons x s2 =>
   have HQ4 := Lib.hid (HQ3.out.trans (if_neg (by simp)))
   have hM0 : 0 < (x :: s2).length := by simp
   generalize (x :: s2).length = M at *
   have hMI : (0 : Int) < (M : Int) := by omega
   have hMd : decide ((0 : Int) < (M : Int)) = true := decide_eq_true hMI
   clear HQ3 QE
   go_wp2_with fail
   go_ret2
   exact ⟨HB.out, Or.inr ⟨HQ4.out, rfl⟩⟩
end Y
end Go.Proofs.YtafkeolpadfjfaaGreatDoor

/- The reader of selectors: what a selector is made of. The reader of selectors: selector. -/
import Derived.Test.YtafkeolpadfjfaaGreatDoorOwn
import Derived.Test.YtafkeolpadfjfaaGreatDoorSel15
set_option linter.unusedVariables false
set_option linter.unusedSimpArgs false
namespace Go.Proofs.YtafkeolpadfjfaaGreatDoor
namespace L
/-- What has been read of the parts, and what is to come. -/
def SInv (s : List UInt8) (j : Nat) (bad : Bool) (done : List Part) (full : Option (List Part × List UInt8)) : Prop :=
 (bad = true ∧ full = none) ∨ (bad = false ∧ ∃ n, s.length - j < n ∧ full = (parts n (s.drop j)).map (fun q => (done ++ q.1, q.2)))
theorem SInv.start {s : List UInt8} {i j : Nat} {bad : Bool} {ty : List UInt8} {ts : List Test} (h : K.Got bad (outer (s.drop i)) ((ty, ts), s.drop j)) : SInv s j bad [⟨0, ty, ts⟩] (selector (s.drop i)) := by
 unfold selector
 rcases h with ⟨rfl, h⟩ | ⟨rfl, h⟩
 ·exact Or.inl ⟨rfl, by rw [h]⟩
 ·rw [h]
  refine Or.inr ⟨rfl, (s.drop j).length + 1, by rw [List.length_drop]; omega, ?_⟩
  dsimp only
  cases parts ((s.drop j).length + 1) (s.drop j) <;> simp
theorem SInv.more {s : List UInt8} {j k j' m : Nat} {bad' : Bool} {done : List Part} {ty : List UInt8} {ts : List Test} {full : Option (List Part × List UInt8)}
  (h : SInv s j false done full) (hj : join (s.drop j) = some (some (m, s.drop k))) (hg : K.Got bad' (outer (s.drop k)) ((ty, ts), s.drop j')) (hlt : j < j') (hl : j' ≤ s.length) : SInv s j' bad' (done ++ [⟨m, ty, ts⟩]) full := by
 rcases h with ⟨h, _⟩ | ⟨_, n, hn, hf⟩
 ·cases h
 ·obtain ⟨q, rfl⟩ : ∃ q, n = q + 1 := ⟨n - 1, by omega⟩
  unfold parts at hf
  rw [hj] at hf
  dsimp only at hf
  rcases hg with ⟨rfl, h⟩ | ⟨rfl, h⟩
  ·exact Or.inl ⟨rfl, by rw [hf, h]; rfl⟩
  ·rw [h] at hf
   dsimp only at hf
   refine Or.inr ⟨rfl, q, by omega, ?_⟩
   rw [hf]
   cases parts q (s.drop j') with
   | none => rfl
   | some q => simp
theorem SInv.last {s : List UInt8} {j : Nat} {done : List Part} {full : Option (List Part × List UInt8)} (h : SInv s j false done full) (hj : join (s.drop j) = some none) : full = some (done, space (s.drop j)) := by
 rcases h with ⟨h, _⟩ | ⟨_, n, hn, hf⟩
 ·cases h
 ·obtain ⟨q, rfl⟩ : ∃ q, n = q + 1 := ⟨n - 1, by omega⟩
  unfold parts at hf
  rw [hj] at hf
  simpa using hf
theorem SInv.fall {s : List UInt8} {j : Nat} {done : List Part} {full : Option (List Part × List UInt8)} (h : SInv s j false done full) (hj : join (s.drop j) = none) : full = none := by
 rcases h with ⟨h, _⟩ | ⟨_, n, hn, hf⟩
 ·cases h
 ·obtain ⟨q, rfl⟩ : ∃ q, n = q + 1 := ⟨n - 1, by omega⟩
  unfold parts at hf
  rw [hj] at hf
  simpa using hf
/-- The place of a combinator in the list. -/
def jx (c : UInt8) : Int := if c = 32 then 0 else if c = 62 then 1 else if c = 43 then 2 else if c = 126 then 3 else -1
theorem join_nil {r : List UInt8} (h : space r = []) : join r = some none := by unfold join; rw [h]
theorem join_comma {r u : List UInt8} (h : space r = 44 :: u) : join r = some none := by unfold join; rw [h]; rfl
theorem join_mark {r u : List UInt8} {c : UInt8} (h : space r = c :: u) (hc : 0 < jx c) : join r = some (some ((jx c + 1).toNat, space u)) := by
 unfold join; rw [h]
 unfold jx at hc ⊢
 by_cases h1 : c = 32
 ·rw [if_pos h1] at hc; omega
 ·rw [if_neg h1] at hc ⊢
  by_cases h2 : c = 62
  ·subst h2; rfl
  ·rw [if_neg h2] at hc ⊢
   by_cases h3 : c = 43
   ·subst h3; rfl
   ·rw [if_neg h3] at hc ⊢
    by_cases h4 : c = 126
    ·subst h4; rfl
    ·rw [if_neg h4] at hc; omega
theorem join_other {r u : List UInt8} {c : UInt8} (h : space r = c :: u) (hc : ¬ 0 < jx c) (h44 : c ≠ 44) : join r = if (space r).length < r.length then some (some (1, space r)) else none := by
 have e1 : (c == 44) = false := by simpa using h44
 have e2 : (c == 62) = false := by
  rw [beq_eq_false_iff_ne]; rintro rfl; exact hc (by decide)
 have e3 : (c == 43) = false := by
  rw [beq_eq_false_iff_ne]; rintro rfl; exact hc (by decide)
 have e4 : (c == 126) = false := by
  rw [beq_eq_false_iff_ne]; rintro rfl; exact hc (by decide)
 unfold join
 rw [h]
 simp [e1, e2, e3, e4]
end L
open Go.RowKit
namespace K
open H
set_option maxRecDepth 1000000 in
theorem indexJoin (c : UInt8) : Lib.indexByte (⟨#[32, 62, 43, 126]⟩ : ByteArray).data.toList c = L.jx c := by
 have h : ∀ n : Fin 256, Lib.indexByte (⟨#[32, 62, 43, 126]⟩ : ByteArray).data.toList (UInt8.ofNat n.val) = L.jx (UInt8.ofNat n.val) := by decide
 have := h ⟨c.toNat, c.toNat_lt⟩
 simpa using this
def SelPost (b : Nat) (s : List UInt8) (i : Nat) (o : Option (List L.Part × List UInt8)) (w : World) (e : Ending) (w' : World) : Prop :=
 ∃ (v : Value) (ps : List L.Part) (j : Nat) (bad' : Bool), e = .returned (.agg #[v]) ∧ Hid (PartsAt (w.heap.size ≤ ·) w' v ps) ∧ IsRdr b s j bad' w' ∧ But b w w' ∧ i ≤ j ∧ j ≤ s.length ∧ Hid (ps.length ≤ j - i + 1) ∧ Hid (Got bad' o (ps, s.drop j))
/-- The reader, the block of the result, and the parts so far (X holds their slice). -/
structure SelSt (b : Nat) (s : List UInt8) (j : Nat) (bad : Bool) (R X : Nat) (v : Value) (ps : List L.Part) (w0 w : World) : Prop where
 st : RdSt b s j bad R #[.slice none 0 0] 98 w0 w
 x : Blk X #[v] 98 w
 row : OwnIn cPart IPart (fun k => R + 1 ≤ k ∧ k ≠ X) (R + 1) 101 3 w v ps
 hX : R < X
section
variable {b : Nat} {s : List UInt8} {j j' : Nat} {bad bad' : Bool} {R X : Nat} {v : Value} {ps : List L.Part} {w0 w w' : World}
theorem SelSt.step (h : SelSt b s j bad R X v ps w0 w) (hr : IsRdr b s j' bad' w') (hB : But b w w') : SelSt b s j' bad' R X v ps w0 w' :=
 have h1 := h.st.hb
 have h2 := h.st.hR
 have h3 := h.hX
 ⟨h.st.step hr hB, h.x.but hB (by omega), h.row.keep keeps_part ⟨hB.size, fun g hg hlt => ⟨hg, hB.block g hlt (by omega)⟩⟩, h.hX⟩
theorem SelSt.drewN (h : SelSt b s j bad R X v ps w0 w) (n : Nat) : SelSt b s j bad R X v ps w0 (w.drewN n) :=
 ⟨h.st.drewN n, h.x, h.row.keep keeps_part ⟨Nat.le_refl _, fun g hg _ => ⟨hg, rfl⟩⟩, h.hX⟩
theorem SelSt.alloc (h : SelSt b s j bad R X v ps w0 w) (o : Obj) : SelSt b s j bad R X v ps w0 (w.alloc o) :=
 ⟨h.st.alloc o, h.x.alloc o, h.row.keep keeps_part ((Kept.refl w).alloc o), h.hX⟩
theorem SelSt.fail_ (h : SelSt b s j bad R X v ps w0 w) {B : Bool} : SelSt b s j B R X v ps w0 (w.setCell ⟨b, 2, none⟩ (.bool B)) :=
 have h1 := h.st.hb
 have h2 := h.st.hR
 have h3 := h.hX
 ⟨⟨block_set (o := 2) h.st.rdr, h.st.res.far (by omega) 2 _, h.st.but.trans (But.set _ _ _), h1, h2⟩, h.x.far (by omega) 2 _, h.row.keep keeps_part ((Kept.refl w).set (by omega) 2 _), h3⟩
theorem SelSt.place (h : SelSt b s j bad R X v ps w0 w) {z : Int} (k : Nat) (hz : z = (k : Int)) : SelSt b s k bad R X v ps w0 (w.setCell ⟨b, 1, none⟩ (.int .i64 z)) :=
 have h1 := h.st.hb
 have h2 := h.st.hR
 have h3 := h.hX
 ⟨⟨h.st.rdr.place k hz, h.st.res.far (by omega) 1 _, h.st.but.trans (But.set _ _ _), h1, h2⟩, h.x.far (by omega) 1 _, h.row.keep keeps_part ((Kept.refl w).set (by omega) 1 _), h3⟩
/-- The parts into the result. -/
theorem SelSt.give (h : SelSt b s j bad R X v ps w0 w) : IsRdr b s j bad (w.setCell ⟨R, 0, none⟩ v) ∧ But b w0 (w.setCell ⟨R, 0, none⟩ v) ∧ PartsAt (w0.heap.size ≤ ·) (w.setCell ⟨R, 0, none⟩ v) v ps := by
 have h1 := h.st.set 0 v
 have h2 := h.st.hR
 refine ⟨h1.rdr, h1.but, ?_⟩
 have k1 : Kept (fun k => R + 1 ≤ k ∧ k ≠ X) (fun k => R + 1 ≤ k ∧ k ≠ X) w (w.setCell ⟨R, 0, none⟩ v) := (Kept.refl w).set (by omega) 0 v
 exact ListAt.keep keeps_part (OwnIn.list keeps_part h.row) (k1.trans (Kept.wide (fun g hg => (by show w0.heap.size ≤ g; omega))))
theorem SelSt.fresh (h : SelSt b s j bad R X v ps w0 w) {g : Nat} (hg : w.heap.size ≤ g) : (R + 1 ≤ g ∧ g ≠ X) ∧ v.ownBlock ≠ some g := by
 have h1 := h.x.lt
 have h3 := h.hX
 refine ⟨⟨by omega, by omega⟩, fun he => ?_⟩
 have := (h.row.lt he).2.2
 omega
/-- One more part, behind the append. -/
theorem SelSt.app (h : SelSt b s j bad R X v ps w0 w) {w5 : World} {g cap : Nat} {p : L.Part} {nv : Value} {qs : List (L.Part × Value)}
  (hqs : qs.map (·.1) = ps) (hI : ∀ q ∈ qs, IPart (fun k => (R + 1 ≤ k ∧ k ≠ X) ∧ v.ownBlock ≠ some k) w q.2 q.1)
  (hown : w5.ownsRow (R + 1) 101 3 (.slice (some ⟨g, 0, none⟩) (ps.length + 1) cap) (ps.length + 1) ((qs.flatMap fun p => cPart p.1 p.2) ++ cPart p nv))
  (hgrow : w.grownBy w5 v.ownBlock) (hat : v.ownBlock = some g ∨ g = w.heap.size) (hx : TestsAt (fun k => (R + 1 ≤ k ∧ k ≠ X) ∧ v.ownBlock ≠ some k) w nv p.tests) :
  SelSt b s j bad R X (.slice (some ⟨g, 0, none⟩) (ps.length + 1) cap) (ps ++ [p]) w0 (w5.setCell ⟨X, 0, none⟩ (.slice (some ⟨g, 0, none⟩) (ps.length + 1) cap)) := by
 have hv : ∀ k, v.ownBlock = some k → R + 1 ≤ k ∧ k ≠ X := fun k hk => (h.row.lt hk).1
 have hb := h.st.hb
 have hR := h.st.hR
 have hX := h.hX
 have e1 : ∀ k, k < w.heap.size → (k < R + 1 ∨ k = X) → w5.heap[k]? = w.heap[k]? := fun k h1 h2 =>
  hgrow.block k h1 (fun he => by have := hv k he.symm; omega)
 have r5 : IsRdr b s j bad w5 := (e1 b h.st.lt (by omega)).trans h.st.rdr
 have x5 : Blk X #[v] 98 w5 := (e1 X h.x.lt (Or.inr rfl)).trans h.x
 have R5 : Blk R #[.slice none 0 0] 98 w5 := (e1 R h.st.res.lt (by omega)).trans h.st.res
 have b5 : But b w0 w5 := ⟨hgrow.os.trans h.st.but.os, hgrow.tape.trans h.st.but.tape, hgrow.output.trans h.st.but.output, by have := hgrow.size; have := h.st.but.size; omega, fun k hk hne =>
  (e1 k (by have := h.st.but.size; omega) (by omega)).trans (h.st.but.block k hk hne)⟩
 have s5 : RdSt b s j bad R #[.slice none 0 0] 98 w0 w5 := ⟨r5, R5, b5, hb, hR⟩
 refine ⟨s5.far (by omega) (by omega) 0 _, H.Blk.set x5 0 _, OwnIn.keep keeps_part (w := w5) ?_ ((Kept.refl w5).set (by omega) 0 _), hX⟩
 refine OwnIn.append (I := IPart) (c := cPart) (x := p) (vx := nv) keeps_part (w := w) (v := v) hqs hown hI hgrow ?_ hx
 rcases hat with h1 | h1
 ·exact Or.inl ⟨h1, hv g h1⟩
 ·exact Or.inr ⟨by omega, by rw [h1]; have := h.x.lt; omega⟩
theorem SelSt.x5 (h : SelSt b s j bad R X v ps w0 w) {w5 : World} (hgrow : w.grownBy w5 v.ownBlock) : Blk X #[v] 98 w5 :=
 (hgrow.block X h.x.lt (fun he => by have := (h.row.lt he.symm).1; omega)).trans h.x
end
end K
end Go.Proofs.YtafkeolpadfjfaaGreatDoor
namespace Go.Proofs.YtafkeolpadfjfaaGreatDoor
open Go.RowKit
namespace K
open H
theorem infoPart : (Tryz.prog.info? 101).map (fun i => (i.zero, i.size, i.bytes)) = some (some (.agg pzero), 3, 48) := by kernel_rfl
theorem SelSt.of_drewN {b : Nat} {s : List UInt8} {j : Nat} {bad : Bool} {R X : Nat} {v : Value} {ps : List L.Part} {w0 w w' : World} {n : Nat} (h : SelSt b s j bad R X v ps w0 w) (hb : But b (w.drewN n) w') : SelSt b s j bad R X v ps w0 (w.drewN n) := h.drewN n
/-- Behind the first part. -/
theorem SelSt.start {b : Nat} {s : List UInt8} {j : Nat} {bad : Bool} {w w1 : World} {ty : List UInt8} {V : Value} {ts : List L.Test} (h : RdSt b s j bad w.heap.size #[.slice none 0 0] 98 w w1)
  (hT : TestsAt (w.heap.size + 1 ≤ ·) w1 V ts) :
  SelSt b s j bad w.heap.size (w1.heap.size + 1) (.slice (some ⟨w1.heap.size, 0, none⟩) 1 1) [⟨0, ty, ts⟩] w
   ((w1.alloc (.cells #[.int .i64 0, .string ⟨ty.toArray⟩, V] 101)).alloc (.cells #[.slice (some ⟨w1.heap.size, 0, none⟩) 1 1] 98)) := by
 have h1 := h.res.lt
 refine ⟨(h.alloc _).alloc _, ?_, ?_, by omega⟩
 ·have := Blk.new (w1.alloc (.cells #[.int .i64 0, .string ⟨ty.toArray⟩, V] 101)) #[.slice (some ⟨w1.heap.size, 0, none⟩) 1 1] 98
  have e : (w1.alloc (.cells #[.int .i64 0, .string ⟨ty.toArray⟩, V] 101)).heap.size = w1.heap.size + 1 := by simp
  rw [e] at this
  exact this
 ·refine OwnIn.keep keeps_part (w := w1.alloc (.cells #[.int .i64 0, .string ⟨ty.toArray⟩, V] 101)) ?_ ((Kept.refl _).alloc _)
  exact OwnIn.one (c := cPart) (I := IPart) (x := ⟨0, ty, ts⟩) (vx := V) w1 (by omega) rfl ⟨by omega, by omega⟩ keeps_part (keeps_tests hT ⟨Nat.le_refl _, fun g hg hlt => ⟨⟨⟨hg, by omega⟩, hlt⟩, rfl⟩⟩)
def SelRel (b : Nat) (s : List UInt8) (i R X : Nat) (full : Option (List L.Part × List UInt8)) (w wr : World) (j : Nat) (bad : Bool) : Prop :=
 ∃ v ps, SelSt b s j bad R X v ps w wr ∧ ps.length ≤ j - i + 1 ∧ L.SInv s j bad ps full
theorem jx_range (c : UInt8) : -1 ≤ L.jx c ∧ L.jx c ≤ 3 := by
 unfold L.jx
 repeat' split
 all_goals omega
theorem joinAt (c : UInt8) (w : World) : Calls Tryz.prog 85 #[.string ⟨#[32, 62, 43, 126]⟩, .int .u8 c.toNat] w fun e w' => e = .returned (.int .i64 (L.jx c)) ∧ w' = w := by
 refine (Tryz.strings_IndexByte ⟨#[32, 62, 43, 126]⟩ c.toNat w).mono ?_
 rintro e w' ⟨rfl, rfl⟩
 have h : ((c.toNat : Int).toNat.toUInt8) = c := by simp
 rw [h, indexJoin]
 exact ⟨rfl, rfl⟩
set_option maxHeartbeats 4000000 in
set_option maxRecDepth 100000 in
theorem selector_gen (E : World → Prop) (b : Nat) (hEb : ∀ {w w' : World}, E w → But b w w' → E w') (s : List UInt8) (i : Nat) (w : World) (hs : s.length ≤ 1000000) (hi : i ≤ s.length) (hR : IsRdr b s i false w) (hE : E w)
  (hPt : ∀ i w, i ≤ s.length → IsRdr b s i false w → E w → Calls Tryz.prog 128 #[.pointer (some ⟨b, 0, none⟩), .bool false] w (PartPost b s i false (L.outer (s.drop i)) w)) :
  Calls Tryz.prog 89 #[.pointer (some ⟨b, 0, none⟩)] w (SelPost b s i (L.selector (s.drop i)) w) := by
 have HR := Lib.hid hR
 have HE := Lib.hid hE
 have HPt := Lib.hid hPt
 have hlb := lt_of_block hR
 clear hR hE hPt
 go_enter Tryz.func89, Tryz.ntmps89
 go_wp2_with fail
 have st0 := RdSt.new HR.out #[.slice none 0 0] 98
 refine (HPt.out i _ hi st0.rdr (hEb HE.out st0.but)).mono ?_
 rintro e w1 ⟨ty, V, ts, j0, bad0, rfl, HTS, hr1, hb1, hij, hjl0, hty, htl, HNo, HG⟩
 have HTS1 : Hid (TestsAt (w.heap.size + 1 ≤ ·) w1 V ts) := Lib.hid (by have := HTS.out; simpa using this)
 have HS := Lib.hid (SelSt.start (ty := ty) (st0.step hr1 hb1) HTS1.out)
 have HI := Lib.hid (L.SInv.start HG.out)
 obtain ⟨ao, cap, hV⟩ := HTS.out.form
 clear st0 hr1 hb1 HTS HTS1 HNo HG
 generalize hnn : ts.length = nn at hV
 clear hnn
 subst hV
 go_wp2_with fail
 have HF : Hid (SelRel b s i w.heap.size (w1.heap.size + 1) (L.selector (s.drop i)) w ((w1.alloc (.cells #[.int .i64 0, .string ⟨ty.toArray⟩, .slice ao nn cap] 101)).alloc (.cells #[.slice (some ⟨w1.heap.size, 0, none⟩) 1 1] 98)) j0 bad0) :=
  Lib.hid ⟨_, _, HS.out, by show 1 ≤ _; omega, HI.out⟩
 clear HS HI htl
 generalize L.selector (s.drop i) = full at *
 generalize w1.heap.size + 1 = X at *
 generalize hRR : w.heap.size = R at *
 go_loopw [] (fun wr => ∃ (j : Nat) (bad : Bool), Hid (SelRel b s i R X full w wr j bad) ∧ j0 ≤ j ∧ j ≤ s.length) (fun wr => s.length - (match wr.cell? ⟨b, 1, none⟩ with | some (.int _ q) => q.toNat | _ => 0))
 case atStart => exact ⟨j0, bad0, HF, Nat.le_refl _, hjl0⟩
 case round =>
  obtain ⟨j, bad, HRel, hj0, hjl⟩ := hrel
  clear HF
  obtain ⟨v, ps, hst, hpl, hinv⟩ := HRel.out
  obtain ⟨av, cv, hv⟩ := hst.row.form
  have hbR : b < R := by have := hst.st.hb; have := hst.st.hR; omega
  have hRX := hst.hX
  have hlbr := hst.st.lt
  have hlXr := hst.x.lt
  have hlRr := hst.st.res.lt
  obtain ⟨hcb, hfb⟩ := cells_of hst.st.rdr
  obtain ⟨hcx, hfx⟩ := cells_of hst.x
  obtain ⟨hcr, hfr⟩ := cells_of hst.st.res
  have HInv := Lib.hid hinv
  have ST := Lib.hid hst
  generalize hLL : ps.length = LL at hv
  subst hv
  have HLL := Lib.hid hLL
  rw [hLL] at hpl
  clear hst hinv hLL HRel
  have n1 : b ≠ X := by omega
  have n2 : X ≠ b := by omega
  have n3 : R ≠ X := by omega
  have n4 : X ≠ R := by omega
  have n5 : b ≠ R := by omega
  have n6 : R ≠ b := by omega
  cases bad with
  | true =>
   have c2 : wr.cell? ⟨b, 2, none⟩ = some (.bool true) := hcb 2
   clear hcb hfb
   have HG : Hid (Got true full (ps, s.drop j)) := Lib.hid (Got.no (by
    rcases HInv.out with ⟨_, h⟩ | ⟨h, _⟩
    ·exact h
    ·cases h))
   go_wp2_with fail
   refine bodyPost_ret (v := .agg #[.slice av LL cv]) (by simp [results, Tryz.results89, go_sem, hcr, hcx, n3, n4]) rfl ⟨_, ps, j, true, rfl, Lib.hid ?_, ?_, ?_, by omega, hjl, Lib.hid (by rw [HLL.out]; exact hpl), HG⟩
   ·exact ST.out.give.2.2
   ·exact ST.out.give.1
   ·exact ST.out.give.2.1
  | false =>
   have c2 : wr.cell? ⟨b, 2, none⟩ = some (.bool false) := hcb 2
   have c1 : wr.cell? ⟨b, 1, none⟩ = some (.int .i64 j) := hcb 1
   have HC1 := Lib.hid c1
   clear hcb hfb hcx hfx hcr hfr c1
   go_wp2_with fail
   clear c2
   refine (space_any b s j false _ hs hjl ST.out.st.rdr).mono ?_
   rintro e w2 ⟨j2, rfl, hr2, hb2, hj2, hjl2, HJ2⟩
   have ST2 := Lib.hid (ST.out.step hr2 hb2)
   clear ST hr2 hb2
   obtain ⟨spc, hspc⟩ : ∃ q : Bool, q = decide (j < j2) := ⟨_, rfl⟩
   rw [← hspc]
   have HSp := Lib.hid hspc
   clear hspc
   go_wp2_with fail
   refine (peek b s j2 false _ hs hjl2 ST2.out.st.rdr).mono ?_
   rintro e w3 ⟨rfl, nn3, hw3⟩
   have ST3 : Hid (SelSt b s j2 false R X (.slice av LL cv) ps w w3) := Lib.hid (by rw [hw3]; exact ST2.out.drewN nn3)
   clear hw3 ST2
   go_wp2_with fail
   refine (joinAt (s.getD j2 0) _).mono ?_
   rintro e w4 ⟨rfl, rfl⟩
   have hjx := jx_range (s.getD j2 0)
   obtain ⟨hcb, hfb⟩ := cells_of ST3.out.st.rdr
   have c0 : w4.cell? ⟨b, 0, none⟩ = some (.string ⟨s.toArray⟩) := hcb 0
   have c1 : w4.cell? ⟨b, 1, none⟩ = some (.int .i64 j2) := hcb 1
   have f1 : w4.frozen? ⟨b, 1, none⟩ = false := hfb 1 (by show 1 < 3; omega)
   have f2 : w4.frozen? ⟨b, 2, none⟩ = false := hfb 2 (by show 2 < 3; omega)
   have c2 : w4.cell? ⟨b, 2, none⟩ = some (.bool false) := hcb 2
   obtain ⟨hcx, hfx⟩ := cells_of ST3.out.x
   obtain ⟨hcr, hfr⟩ := cells_of ST3.out.st.res
   have hlb4 := ST3.out.st.lt
   have hlx4 := ST3.out.x.lt
   have hlr4 := ST3.out.st.res.lt
   have zs := bytes_size s
   clear hcb hfb
   have PK := Lib.hid (fun n => peek b s j2 false (w4.drewN n) hs hjl2 (ST3.out.st.rdr.drewN n))
   by_cases hlen : j2 = s.length
   ·have HSpN : Hid (L.space (s.drop j) = []) := Lib.hid (by rw [← HJ2.out]; exact List.drop_eq_nil_of_le (by omega))
    have HG : Hid (Got false full (ps, s.drop j2)) := Lib.hid (Got.yes (by rw [HInv.out.last (L.join_nil HSpN.out), HJ2.out]))
    have e1 : ((j2 : Int) == (s.length : Int)) = true := by rw [hlen]; simp
    have e2 : (j2 == s.length) = true := by rw [hlen]; simp
    have e3 : decide (j2 = s.length) = true := decide_eq_true hlen
    clear HJ2 HSpN PK
    go_wp2_with fail
    go_quiet (fail)
    go_wp2_with fail
    refine bodyPost_ret (v := .agg #[.slice av LL cv]) (by simp [results, Tryz.results89, go_sem, hcr, hcx, n3, n4]) rfl ⟨_, ps, j2, false, rfl, Lib.hid ?_, ?_, ?_, by omega, hjl2, Lib.hid (by rw [HLL.out]; omega), HG⟩
    ·exact (ST3.out.drewN _).give.2.2
    ·exact (ST3.out.drewN _).give.1
    ·exact (ST3.out.drewN _).give.2.1
   ·have hlt2 : j2 < s.length := by omega
    obtain ⟨c, rest, hd⟩ := drop_cons hlt2
    have HD := Lib.hid hd
    have HSpC : Hid (L.space (s.drop j) = c :: rest) := Lib.hid (by rw [← HJ2.out]; exact hd)
    have e1 : ((j2 : Int) == (s.length : Int)) = false := by rw [beq_eq_false_iff_ne]; omega
    have e2 : (j2 == s.length) = false := by simpa using hlen
    have e3 : decide (j2 = s.length) = false := decide_eq_false hlen
    rw [getD_drop hd] at PK hjx ⊢
    clear hd
    by_cases h44 : c = 44
    ·have HG : Hid (Got false full (ps, s.drop j2)) := Lib.hid (Got.yes (by rw [HInv.out.last (L.join_comma (u := rest) (by rw [HSpC.out, h44])), HJ2.out]))
     have d1 : ((c.toNat : Int) == 44) = true := byte_is (n := 44) h44 (by decide)
     have d2 : (c.toNat == 44) = true := by rw [h44]; rfl
     have d3 : (c == 44) = true := by rw [h44]; rfl
     clear HJ2 HSpC h44
     go_wp2_with fail
     go_quiet ((go_at_call 129; exact quietDrew (PK.out _)))
     go_wp2_with fail
     refine bodyPost_ret (v := .agg #[.slice av LL cv]) (by simp [results, Tryz.results89, go_sem, hcr, hcx, n3, n4]) rfl ⟨_, ps, j2, false, rfl, Lib.hid ?_, ?_, ?_, by omega, hjl2, Lib.hid (by rw [HLL.out]; omega), HG⟩
     ·exact (ST3.out.drewN _).give.2.2
     ·exact (ST3.out.drewN _).give.1
     ·exact (ST3.out.drewN _).give.2.1
    ·have d1 : ((c.toNat : Int) == 44) = false := byte_ne (n := 44) h44 (by decide)
     have d2 : (c.toNat == 44) = false := by
      rw [beq_eq_false_iff_ne]; intro h; exact h44 (UInt8.toNat_inj.1 h)
     have d3 : (c == 44) = false := by simpa using h44
     have HJo := Lib.hid (fun hc => L.join_mark (u := rest) HSpC.out hc)
     have HJr := Lib.hid (fun hc => L.join_other (u := rest) HSpC.out hc h44)
     clear h44
     generalize hJJ : L.jx c = J at *
     have hJb : decide (0 < J) = decide (0 < J) := rfl
     by_cases hJ : 0 < J
     ·have hJd : decide (0 < J) = true := decide_eq_true hJ
      have HJN1 := Lib.hid (HJo.out hJ)
      clear HJo HJr HJ2
      go_wp2_with fail
      go_quiet ((go_at_call 129; exact quietDrew (PK.out _)))
      go_wp2_with fail
      refine (space_any b s (j2 + 1) false _ hs hlt2 ((ST3.out.drewN _).place (j2 + 1) (by omega)).st.rdr).mono ?_
      rintro e w5 ⟨k3, rfl, hr5, hb5, hk3', hk3, HJ5⟩
      have STc := Lib.hid (SelSt.step (SelSt.place (SelSt.drewN ST3.out _) (j2 + 1) (by omega)) hr5 hb5)
      have HJN0 : Hid (L.join (s.drop j) = some (some ((J + 1).toNat, s.drop k3))) := Lib.hid (by rw [HJN1.out, HJ5.out, drop_more HD.out])
      clear hr5 hb5 HJN1 HJ5 ST3 PK c0 c1 c2 f1 f2 hcx hfx hcr hfr hlb4 hlx4 hlr4 d1 d2 d3 e1 e2 e3
      obtain ⟨JJ, hJJ0⟩ : ∃ q : Int, q = J := ⟨_, rfl⟩
      rw [← hJJ0] at HJN0 ⊢
      have hJJ1 : 0 ≤ JJ := by omega
      have hJJ2 : JJ ≤ 3 := by omega
      clear hJJ hJd hJ hJJ0
      go_wp2_with fail
      have hj34 : j < k3 := by omega
      obtain ⟨m, hm⟩ : ∃ m : Nat, (m : Int) = JJ + 1 := ⟨(JJ + 1).toNat, by omega⟩
      have g1 : IntKind.i64.wrap (1 + JJ) = (m : Int) := by rw [hm, Int.add_comm]; exact IntWalk.i64_in _ (by omega)
      have HJN : Hid (L.join (s.drop j) = some (some (m, s.drop k3))) := Lib.hid (by rw [show m = (JJ + 1).toNat by omega]; exact HJN0.out)
      clear HJN0 hm
      refine (HPt.out k3 _ hk3 STc.out.st.rdr (hEb HE.out STc.out.st.but)).mono ?_
      rintro e w6 ⟨ty6, V6, ts6, j6, bad6, rfl, HT6, hr6, hb6, hj6, hjl6, hty6, htl6, HNo6, HG6⟩
      obtain ⟨a6, c6, hV6⟩ := HT6.out.form
      have HF6 := Lib.hid (keeps_tests HT6.out (Kept.wide (fun g hg => STc.out.fresh hg)))
      have ST6 := Lib.hid (STc.out.step hr6 hb6)
      clear hr6 hb6 HT6 HNo6 htl6
      generalize ts6.length = n6' at hV6
      subst hV6
      have hlx6 := ST6.out.x.lt
      have hlb6 := ST6.out.st.lt
      obtain ⟨hcx6, hfx6⟩ := cells_of ST6.out.x
      have ST7 := Lib.hid ((ST6.out.alloc (.cells #[.int .i64 (m : Int), .string ⟨ty6.toArray⟩, .slice a6 n6' c6] 101)).alloc (.cells #[.int .i64 (m : Int), .string ⟨ty6.toArray⟩, .slice a6 n6' c6] 101))
      have HF7 : Hid (TestsAt (fun k => (R + 1 ≤ k ∧ k ≠ X) ∧ (Value.slice av LL cv).ownBlock ≠ some k) ((w6.alloc (.cells #[.int .i64 (m : Int), .string ⟨ty6.toArray⟩, .slice a6 n6' c6] 101)).alloc (.cells #[.int .i64 (m : Int), .string ⟨ty6.toArray⟩, .slice a6 n6' c6] 101)) (.slice a6 n6' c6) ts6) := Lib.hid (keeps_tests HF6.out (((Kept.refl w6).alloc _).alloc _))
      clear HF6
      obtain ⟨qs, hqs, hown0, hI, hnil, _⟩ := ST7.out.row
      rw [HLL.out] at hown0
      have HOwn := Lib.hid hown0
      have HQ := Lib.hid hqs
      have HI := Lib.hid hI
      clear hqs hown0 hI hnil
      obtain ⟨i0, hi0, hz0, hz1, hz2⟩ := info_parts infoPart
      go_wp2_with (at_builtin; refine wpList_append_lies _ rfl _ _ 96 rfl (R + 1) 101 i0 _ 3 48 Tryz.underlying96 hi0 hz0 hz1 hz2 rfl (by decide) (.slice av LL cv) LL (qs.flatMap fun p => cPart p.1 p.2) rfl HOwn.out ⟨w6.heap.size + 1, 0, none⟩ 1 1 [.int .i64 (m : Int), .string ⟨ty6.toArray⟩, .slice a6 n6' c6] rfl rfl ?c1 ?c2 ?c3 ?c4 ?c5 ?c6 (w6.heap.size + 2) ?c7 ?_)
      case c1 =>
       have hb := heap_alloc_new (w6.alloc (.cells #[.int .i64 (m : Int), .string ⟨ty6.toArray⟩, .slice a6 n6' c6] 101)) (.cells #[.int .i64 (m : Int), .string ⟨ty6.toArray⟩, .slice a6 n6' c6] 101)
       have e : (w6.alloc (.cells #[.int .i64 (m : Int), .string ⟨ty6.toArray⟩, .slice a6 n6' c6] 101)).heap.size = w6.heap.size + 1 := by simp
       rw [e] at hb
       exact World.news_of_block hb
      case c2 => simp [Value.oneCell']
      case c3 => omega
      case c4 => unfold maxLen; omega
      case c5 => omega
      case c6 => simp; omega
      case c7 => simp
      intro gg cap2 w8 hown8 hgrow hat hlt8
      have hx := SelSt.app ST7.out (p := ⟨m, ty6, ts6⟩) (nv := .slice a6 n6' c6) HQ.out HI.out (by rw [HLL.out]; exact hown8) hgrow (by simpa using hat) HF7.out
      rw [HLL.out] at hx
      have hbX := ST7.out.x5 hgrow
      obtain ⟨hcx8, hfx8⟩ := cells_of hbX
      have hlx8 := hbX.lt
      have HN : Hid (SelRel b s i R X full w (w8.setCell ⟨X, 0, none⟩ (.slice (some ⟨gg, 0, none⟩) (LL + 1) cap2)) j6 bad6) := Lib.hid ⟨_, ps ++ [⟨m, ty6, ts6⟩], hx, by rw [List.length_append, HLL.out]; show LL + 1 ≤ _; omega, HInv.out.more HJN.out HG6.out (by omega) hjl6⟩
      have HM : Hid ((w8.setCell ⟨X, 0, none⟩ (.slice (some ⟨gg, 0, none⟩) (LL + 1) cap2)).cell? ⟨b, 1, none⟩ = some (.int .i64 j6)) := Lib.hid ((cells_of hx.st.rdr).1 1)
      clear hx hbX
      go_wp2_with fail
      go_roundw
      case rel => exact ⟨j6, bad6, HN, by omega, hjl6⟩
      case measure =>
       rw [HM.out, HC1.out]
       show s.length - ((j6 : Nat) : Int).toNat < s.length - ((j : Nat) : Int).toNat
       omega
     ·have hJd : decide (0 < J) = false := decide_eq_false hJ
      cases hsp : spc with
      | true =>
       clear HJo
       go_wp2_with fail
       go_quiet ((go_at_call 129; exact quietDrew (PK.out _)))
       go_wp2_with fail
       have HJN0 : Hid (L.join (s.drop j) = some (some (((0 : Int) + 1).toNat, s.drop j2))) := Lib.hid (by
        rw [HJr.out hJ, if_pos, ← HJ2.out]
        ·rfl
        ·rw [← HJ2.out, List.length_drop, List.length_drop]
         have h := HSp.out
         rw [hsp] at h
         have h2 : j < j2 := of_decide_eq_true h.symm
         omega)
       have hjlt : j < j2 := by
        have h := HSp.out
        rw [hsp] at h
        exact of_decide_eq_true h.symm
       clear HJr HJ2 HSp PK c0 c1 c2 f1 f2 hcx hfx hcr hfr hlb4 hlx4 hlr4 d1 d2 d3 e1 e2 e3
       have HJN : Hid (L.join (s.drop j) = some (some (1, s.drop j2))) := HJN0
       clear HJN0
       refine (HPt.out j2 _ hjl2 (ST3.out.drewN _).st.rdr (hEb HE.out (ST3.out.drewN _).st.but)).mono ?_
       rintro e w6 ⟨ty6, V6, ts6, j6, bad6, rfl, HT6, hr6, hb6, hj6, hjl6, hty6, htl6, HNo6, HG6⟩
       have STc := Lib.hid (SelSt.of_drewN ST3.out hb6)
       clear ST3
       obtain ⟨a6, c6, hV6⟩ := HT6.out.form
       have HF6 := Lib.hid (keeps_tests HT6.out (Kept.wide (fun g hg => STc.out.fresh hg)))
       have ST6 := Lib.hid (STc.out.step hr6 hb6)
       clear hr6 hb6 HT6 HNo6 htl6
       generalize ts6.length = n6' at hV6
       subst hV6
       have hlx6 := ST6.out.x.lt
       have hlb6 := ST6.out.st.lt
       obtain ⟨hcx6, hfx6⟩ := cells_of ST6.out.x
       have ST7 := Lib.hid ((ST6.out.alloc (.cells #[.int .i64 1, .string ⟨ty6.toArray⟩, .slice a6 n6' c6] 101)).alloc (.cells #[.int .i64 1, .string ⟨ty6.toArray⟩, .slice a6 n6' c6] 101))
       have HF7 : Hid (TestsAt (fun k => (R + 1 ≤ k ∧ k ≠ X) ∧ (Value.slice av LL cv).ownBlock ≠ some k) ((w6.alloc (.cells #[.int .i64 1, .string ⟨ty6.toArray⟩, .slice a6 n6' c6] 101)).alloc (.cells #[.int .i64 1, .string ⟨ty6.toArray⟩, .slice a6 n6' c6] 101)) (.slice a6 n6' c6) ts6) := Lib.hid (keeps_tests HF6.out (((Kept.refl w6).alloc _).alloc _))
       clear HF6
       obtain ⟨qs, hqs, hown0, hI, hnil, _⟩ := ST7.out.row
       rw [HLL.out] at hown0
       have HOwn := Lib.hid hown0
       have HQ := Lib.hid hqs
       have HI := Lib.hid hI
       clear hqs hown0 hI hnil
       obtain ⟨i0, hi0, hz0, hz1, hz2⟩ := info_parts infoPart
       go_wp2_with (at_builtin; refine wpList_append_lies _ rfl _ _ 96 rfl (R + 1) 101 i0 _ 3 48 Tryz.underlying96 hi0 hz0 hz1 hz2 rfl (by decide) (.slice av LL cv) LL (qs.flatMap fun p => cPart p.1 p.2) rfl HOwn.out ⟨w6.heap.size + 1, 0, none⟩ 1 1 [.int .i64 1, .string ⟨ty6.toArray⟩, .slice a6 n6' c6] rfl rfl ?c1 ?c2 ?c3 ?c4 ?c5 ?c6 (w6.heap.size + 2) ?c7 ?_)
       case c1 =>
        have hb := heap_alloc_new (w6.alloc (.cells #[.int .i64 1, .string ⟨ty6.toArray⟩, .slice a6 n6' c6] 101)) (.cells #[.int .i64 1, .string ⟨ty6.toArray⟩, .slice a6 n6' c6] 101)
        have e : (w6.alloc (.cells #[.int .i64 1, .string ⟨ty6.toArray⟩, .slice a6 n6' c6] 101)).heap.size = w6.heap.size + 1 := by simp
        rw [e] at hb
        exact World.news_of_block hb
       case c2 => simp [Value.oneCell']
       case c3 => omega
       case c4 => unfold maxLen; omega
       case c5 => omega
       case c6 => simp; omega
       case c7 => simp
       intro gg cap2 w8 hown8 hgrow hat hlt8
       have hx := SelSt.app ST7.out (p := ⟨1, ty6, ts6⟩) (nv := .slice a6 n6' c6) HQ.out HI.out (by rw [HLL.out]; exact hown8) hgrow (by simpa using hat) HF7.out
       rw [HLL.out] at hx
       have hbX := ST7.out.x5 hgrow
       obtain ⟨hcx8, hfx8⟩ := cells_of hbX
       have hlx8 := hbX.lt
       have HN : Hid (SelRel b s i R X full w (w8.setCell ⟨X, 0, none⟩ (.slice (some ⟨gg, 0, none⟩) (LL + 1) cap2)) j6 bad6) := Lib.hid ⟨_, ps ++ [⟨1, ty6, ts6⟩], hx, by rw [List.length_append, HLL.out]; show LL + 1 ≤ _; omega, HInv.out.more HJN.out HG6.out (by omega) hjl6⟩
       have HM : Hid ((w8.setCell ⟨X, 0, none⟩ (.slice (some ⟨gg, 0, none⟩) (LL + 1) cap2)).cell? ⟨b, 1, none⟩ = some (.int .i64 j6)) := Lib.hid ((cells_of hx.st.rdr).1 1)
       clear hx hbX
       go_wp2_with fail
       go_roundw
       case rel => exact ⟨j6, bad6, HN, by omega, hjl6⟩
       case measure =>
        rw [HM.out, HC1.out]
        show s.length - ((j6 : Nat) : Int).toNat < s.length - ((j : Nat) : Int).toNat
        omega
      | false =>
       clear HJo
       go_wp2_with fail
       go_quiet ((go_at_call 129; exact quietDrew (PK.out _)))
       go_wp2_with fail
       have HG : Hid (Got true full (ps, s.drop j2)) := Lib.hid (Got.no (HInv.out.fall (by
        rw [HJr.out hJ, if_neg]
        rw [← HJ2.out, List.length_drop, List.length_drop]
        have h := HSp.out
        rw [hsp] at h
        have h2 : ¬ j < j2 := of_decide_eq_false h.symm
        omega)))
       refine bodyPost_ret (v := .agg #[.slice av LL cv]) (by simp [results, Tryz.results89, go_sem, hcr, hcx, n1, n2, n3, n4, n5, n6]) rfl ⟨_, ps, j2, true, rfl, Lib.hid ?_, ?_, ?_, by omega, hjl2, Lib.hid (by rw [HLL.out]; omega), HG⟩
       ·exact (ST3.out.drewN _).fail_.give.2.2
       ·exact (ST3.out.drewN _).fail_.give.1
       ·exact (ST3.out.drewN _).fail_.give.2.1
end K
end Go.Proofs.YtafkeolpadfjfaaGreatDoor

/- What attr, the reading of an attribute, comes to: its name. -/
import Derived.Test.YtlnginciehjlnaaGreatDoorValue2
import Derived.Deep.RegionHeld3
import Derived.Deep.DeepCutAuto
import Derived.Deep.RegionLaw
import Derived.Deep.AppendLies
import Derived.OwnWalk
set_option linter.unusedVariables false
set_option linter.unusedSimpArgs false
namespace Go.Proofs.YtlnginciehjlnaaGreatDoor
open Go.RowKit
namespace K

/-- An attribute's block. -/
def IsAttr (A : Nat) (n v : List UInt8) (w : World) : Prop := w.heap[A]? = some (.cells #[.string ⟨n.toArray⟩, .string ⟨v.toArray⟩] 39 (0, 0))

/-- Attributes as cells. -/
def acells (l : List (List UInt8 × List UInt8)) : List Value := l.flatMap fun p => [.string ⟨p.1.toArray⟩, .string ⟨p.2.toArray⟩]

/-- The blocks below B but b are as they were. -/
structure Fr (B b : Nat) (w w' : World) : Prop where
  os : w'.os = w.os
  tape : w'.tape = w.tape
  output : w'.output = w.output
  size : w.heap.size ≤ w'.heap.size
  block : ∀ k, k < B → k ≠ b → w'.heap[k]? = w.heap[k]?

theorem Fr.refl (B b : Nat) (w : World) : Fr B b w w := ⟨rfl, rfl, rfl, Nat.le_refl _, fun _ _ _ => rfl⟩
theorem Fr.trans {B b : Nat} {u v w : World} (h : Fr B b u v) (k : Fr B b v w) : Fr B b u w :=
  ⟨k.os.trans h.os, k.tape.trans h.tape, k.output.trans h.output, Nat.le_trans h.size k.size, fun i hi hn => (k.block i hi hn).trans (h.block i hi hn)⟩
theorem But.fr {B b : Nat} {w w' : World} (h : But b w w') (hB : B ≤ w.heap.size) : Fr B b w w' := ⟨h.os, h.tape, h.output, h.size, fun k hk hn => h.block k (Nat.lt_of_lt_of_le hk hB) hn⟩
theorem fr_of {B b C : Nat} {w w' : World} (h : Below C w w') (hB : B ≤ C) : Fr B b w w' := ⟨h.os, h.tape, h.output, h.size, fun k hk _ => h.block k (Nat.lt_of_lt_of_le hk hB)⟩
theorem Fr.below {B b : Nat} {w w' : World} (h : Fr B b w w') (hb : b ≤ B) : Below b w w' := ⟨h.os, h.tape, h.output, h.size, fun k hk => h.block k (Nat.lt_of_lt_of_le hk hb) (Nat.ne_of_lt hk)⟩

/-- What the call owns stays owned where its row's block lies as it did. -/
theorem own_same {w w' : World} {base : Nat} {e : TypeId} {size : Nat} {v : Value} {n : Nat} {xs : List Value} (h : w.ownsRow base e size v n xs) (hk : ∀ g, base ≤ g → g < w.heap.size → w'.heap[g]? = w.heap[g]?) : w'.ownsRow base e size v n xs := by
  obtain ⟨h1, h2⟩ := h
  refine ⟨h1, ?_⟩
  rcases h2 with h2 | ⟨g, cap, cur, hv, hg, hh, r⟩
  · exact Or.inl h2
  · exact Or.inr ⟨g, cap, cur, hv, hg, by rw [hk g hg (lt_of_block hh)]; exact hh, r⟩

theorem own_below {w w' : World} {base : Nat} {e : TypeId} {size : Nat} {v : Value} {n : Nat} {xs : List Value} (b : Below w.heap.size w w') (h : w.ownsRow base e size v n xs) : w'.ownsRow base e size v n xs := own_same h fun g _ hg => b.block g hg
theorem But.own {w w' : World} {b base : Nat} {e : TypeId} {size : Nat} {v : Value} {n : Nat} {xs : List Value} (hb : But b w w') (hlt : b < base) (h : w.ownsRow base e size v n xs) : w'.ownsRow base e size v n xs := own_same h fun g h1 h2 => hb.block g h2 (by omega)

theorem IsAttr.below {A : Nat} {n v : List UInt8} {w w' : World} (h : IsAttr A n v w) (b : Below w.heap.size w w') : IsAttr A n v w' := (b.block A (lt_of_block h)).trans h
theorem IsAttr.but {A b : Nat} {n v : List UInt8} {w w' : World} (h : IsAttr A n v w) (hb : But b w w') (hne : A ≠ b) : IsAttr A n v w' := (hb.block A (lt_of_block h) hne).trans h
theorem IsRd.below {b : Nat} {s : List UInt8} {i : Nat} {k n a c t : Value} {sl : Int} {w w' : World} (h : IsRd b s i k n a c t sl w) (hb : Below w.heap.size w w') : IsRd b s i k n a c t sl w' := (hb.block b (lt_of_block h)).trans h

/-- The state of attr ahead of its search for the name: the reader, the attribute, and the attributes so far. -/
def AtC (b : Nat) (s : List UInt8) (j : Nat) (k n a c t : Value) (sl : Int) (A : Nat) (nm v : List UInt8) (l : List (List UInt8 × List UInt8)) (w W : World) : Prop :=
  IsRd b s j k n a c t sl W ∧ IsAttr A nm v W ∧ b + 2 ≤ A ∧ W.ownsRow (b + 2) 39 2 a l.length (acells l) ∧ Fr (b + 2) b w W

theorem attr_eq {c : UInt8} {r : List UInt8} {d : UInt8} {t : List UInt8} (h1 : r.dropWhile M.inName ≠ []) (h2 : (r.dropWhile M.inName).dropWhile T.sp = d :: t) :
    M.attr c r = if d == 61 then (match M.value t with | none => none | some (v, u) => some ((M.lower (c :: r.takeWhile M.inName), E.decode v), u)) else some ((M.lower (c :: r.takeWhile M.inName), []), d :: t) := by
  unfold M.attr
  split
  · rename_i h; exact absurd h h1
  · rw [h2]; rfl
theorem attr_none1 {c : UInt8} {r : List UInt8} (h1 : r.dropWhile M.inName = []) : M.attr c r = none := by
  unfold M.attr; rw [h1]
theorem attr_none2 {c : UInt8} {r : List UInt8} (h1 : r.dropWhile M.inName ≠ []) (h2 : (r.dropWhile M.inName).dropWhile T.sp = []) : M.attr c r = none := by
  unfold M.attr
  split
  · rfl
  · rw [h2]

def AttrPost (b : Nat) (s : List UInt8) (i : Nat) (k n c t : Value) (sl : Int) (l : List (List UInt8 × List UInt8)) (x : Option ((List UInt8 × List UInt8) × List UInt8)) (w : World) (e : Ending) (w' : World) : Prop :=
  Fr (b + 2) b w w' ∧ match x with
    | none => e = .returned (.bool false)
    | some (p, u) => e = .returned (.bool true) ∧ ∃ j a, IsRd b s j k n a c t sl w' ∧ w'.ownsRow (b + 2) 39 2 a (M.add l p).length (acells (M.add l p)) ∧ s.drop j = u ∧ j ≤ s.length ∧ i < j

def AlRel (l : List (List UInt8 × List UInt8)) (nm : List UInt8) (W : World) (u : Value) (wr : World) : Prop :=
  ∃ m : Nat, u = .int .i64 m ∧ m ≤ l.length ∧ Below W.heap.size W wr ∧ Hid ((l.take m).any (fun q => nm == q.1) = false)

theorem acells_length : ∀ l : List (List UInt8 × List UInt8), (acells l).length = l.length * 2
  | [] => rfl
  | p :: r => by
    have := acells_length r
    unfold acells at this ⊢
    rw [List.flatMap_cons, List.length_append, this]
    simp; omega

theorem acells_at : ∀ (l : List (List UInt8 × List UInt8)) (m : Nat) (h : m < l.length) {q : List UInt8 × List UInt8}, l[m] = q → ∀ o, o < 2 → (acells l)[m * 2 + o]? = some (if o = 0 then .string ⟨q.1.toArray⟩ else .string ⟨q.2.toArray⟩)
  | p :: r, 0, h, q, hq, o, ho => by
    obtain rfl : p = q := hq
    rcases (by omega : o = 0 ∨ o = 1) with rfl | rfl <;> rfl
  | p :: r, m + 1, h, q, hq, o, ho => by
    have ih := acells_at r m (by simpa using h) (q := q) (by simpa using hq) o ho
    have e : acells (p :: r) = .string ⟨p.1.toArray⟩ :: .string ⟨p.2.toArray⟩ :: acells r := rfl
    rw [e, show (m + 1) * 2 + o = (m * 2 + o) + 1 + 1 by omega, List.getElem?_cons_succ, List.getElem?_cons_succ]
    exact ih

theorem add_old (l : List (List UInt8 × List UInt8)) (p : List UInt8 × List UInt8) (m : Nat) (h : m < l.length) (he : (p.1 == l[m].1) = true) : M.add l p = l := by
  unfold M.add
  rw [if_pos (List.any_eq_true.2 ⟨l[m], List.getElem_mem h, he⟩)]

theorem value_le {r v u : List UInt8} (h : M.value r = some (v, u)) : v.length ≤ r.length := by
  have hdw : ∀ l : List UInt8, (l.dropWhile T.sp).length ≤ l.length := fun l => by rw [← drop_tw, List.length_drop]; omega
  have h0 := hdw r
  unfold M.value at h
  split at h
  · cases h
  · rename_i c t heq
    rw [heq, List.length_cons] at h0
    split at h
    · split at h
      · cases h
      · rename_i i hi
        have h1 : v = t.take i := by have := Option.some.inj h; exact (Prod.mk.inj this).1.symm
        rw [h1, List.length_take]; omega
    · split at h
      · cases h
      · have h1 : v = (c :: t).takeWhile M.inValue := by have := Option.some.inj h; exact (Prod.mk.inj this).1.symm
        have h2 := tw_le M.inValue (c :: t)
        rw [h1]
        rw [List.length_cons] at h2
        omega

theorem own_slice {w : World} {base : Nat} {e : TypeId} {size : Nat} {v : Value} {n : Nat} {xs : List Value} (h : w.ownsRow base e size v n xs) : ∃ ao cap, v = .slice ao n cap ∧ (0 < n → ∃ g, ao = some ⟨g, 0, none⟩ ∧ base ≤ g) := by
  rcases h.2 with ⟨h1, h2⟩ | ⟨g, cap, cur, hv, hg, _⟩
  · exact ⟨none, 0, by rw [h1, h2], fun h => by omega⟩
  · exact ⟨_, cap, hv, fun _ => ⟨g, rfl, hg⟩⟩

theorem fr_grown {B b : Nat} {w w' : World} {row : Option Nat} (hg : w.grownBy w' row) (hr : ∀ k, row = some k → B ≤ k) (hB : B ≤ w.heap.size) : Fr B b w w' :=
  ⟨hg.os, hg.tape, hg.output, hg.size, fun k hk _ => hg.block k (by omega) (fun e => by have := hr k e.symm; omega)⟩

theorem acells_snoc (l : List (List UInt8 × List UInt8)) (p : List UInt8 × List UInt8) : acells (l ++ [p]) = acells l ++ [.string ⟨p.1.toArray⟩, .string ⟨p.2.toArray⟩] := by
  unfold acells; rw [List.flatMap_append]; rfl

theorem infoAttr : (Tryz.prog.info? 39).map (fun i => (i.zero, i.size, i.bytes)) = some (some (.agg #[.string ⟨#[]⟩, .string ⟨#[]⟩]), 2, 32) := by kernel_rfl

theorem first_below {w W w' : World} {o : Obj} (bb : Below W.heap.size W w') (hW : W = (w.alloc o).drew := by rfl) : Below w.heap.size w w' := by
  subst hW
  exact (((Below.refl w.heap.size w).alloc (Nat.le_refl _) o).drew).trans (bb.mono (by simp [World.drew]))

set_option maxHeartbeats 4000000 in
set_option maxRecDepth 100000 in
theorem attr (b : Nat) (s : List UInt8) (i : Nat) (k n a c t : Value) (sl : Int) (l : List (List UInt8 × List UInt8)) (x : UInt8) (r : List UInt8) (w : World) (hs : s.length ≤ 800000) (hd : s.drop i = x :: r) (hsl : -1 ≤ sl ∧ sl ≤ s.length) (hll : l.length ≤ 64) (hE : Env w) (hb2 : b + 2 ≤ w.heap.size) (htop : top ≤ b)
    (hR : IsRd b s i k n a c t sl w) (hO : w.ownsRow (b + 2) 39 2 a l.length (acells l)) :
    Calls Tryz.prog 100 #[.pointer (some ⟨b, 0, none⟩)] w (AttrPost b s i k n c t sl l (M.attr x r) w) := by
  have hi := lt_drop hd
  have hal := lt_of_block hR
  obtain ⟨ao, cap, rfl, hao⟩ := own_slice hO
  obtain ⟨hcl, hfr⟩ := cells_of hR
  have HR := Lib.hid hR
  have HE := Lib.hid hE
  have HO := Lib.hid hO
  have hd1 := drop_more hd
  clear hR hE hO
  go_enter Tryz.func100, Tryz.ntmps100
  go_wp2_with fail
  have hR1 := rd_at0 HR.out ((i : Int) + 1) (i + 1) (by omega)
  refine (overName b s (i + 1) k n (.slice ao l.length cap) c t sl _ hs (by omega) hsl hR1).mono ?_
  rintro e w1 ⟨j, rfl, hj1, hj2, HJ, hr1, hb1⟩
  clear hR1
  have hbut1 := (But.set w 1 (.int .i64 ((i : Int) + 1))).trans hb1
  clear hb1 hcl hfr
  have HO1 := Lib.hid (But.own hbut1 (by omega) HO.out)
  have HE1 := Lib.hid (HE.out.below (hbut1.below hal) htop)
  have hz1 := hbut1.size
  obtain ⟨hcl, hfr⟩ := cells_of hr1
  have HR1 := Lib.hid hr1
  have hal1 := lt_of_block hr1
  clear hr1
  rw [hd1] at HJ
  by_cases hlt : j < s.length
  · have hdt : decide (j < s.length) = true := decide_eq_true hlt
    rw [hdt]
    have hx := T.slice_str s i j (by omega) hj2
    have hnm : (s.drop i).take (j - i) = x :: r.takeWhile M.inName := by
      rw [hd, HJ.out.2, show i + 1 + (r.takeWhile M.inName).length - i = (r.takeWhile M.inName).length + 1 by omega, List.take_succ_cons, ← take_while_more]
    rw [hnm] at hx
    have hnl : (x :: r.takeWhile M.inName).length ≤ 1000000 := by rw [← hnm, List.length_take, List.length_drop]; omega
    have QL := Lib.hid (fun W => LowerL (x :: r.takeWhile M.inName) W hnl)
    have hne : r.dropWhile M.inName ≠ [] := by
      rw [← HJ.out.1]; intro h
      have := congrArg List.length h
      rw [List.length_drop] at this; simp at this; omega
    have HJ1 := Lib.hid HJ.out.1
    have HN := Lib.hid hne
    clear hdt hnm hnl HJ hne
    generalize hN : x :: r.takeWhile M.inName = nm at *
    have HNM := Lib.hid hN
    clear hN
    have hc0 : w1.cell? ⟨b, 0, none⟩ = some (.string ⟨s.toArray⟩) := hcl 0
    have hc1 : w1.cell? ⟨b, 1, none⟩ = some (.int .i64 (j : Int)) := hcl 1
    have b1 : (0 : Int) ≤ (i : Int) := by omega
    have b2 : (i : Int) ≤ (j : Int) := by omega
    have b3 : (j : Int) ≤ (s.length : Int) := by omega
    have e0 := World.new_ne w1 _ hc0
    have e1 := World.new_ne w1 _ hc1
    have e2 : b ≠ w1.heap.size := by omega
    have e3 : w1.heap.size ≠ b := by omega
    go_upto_region 5 with fail
    go_cut [4] (fun s4 wx => ∃ A, s4 = .pointer (some ⟨A, 0, none⟩) ∧ w1.heap.size ≤ A ∧ IsAttr A (M.lower nm) [] wx ∧ Below w1.heap.size w1 wx)
    case first =>
      go_region_held3 (fun w' => w'.cell? ⟨b, 0, none⟩ = some (.string ⟨s.toArray⟩) ∧ w'.cell? ⟨b, 1, none⟩ = some (.int .i64 (j : Int)))
        (go_keep)
        (first | (go_at_call 91; refine (QL.out _).mono ?_; rintro e w' ⟨rfl, bb⟩; have hk0 : w'.cell? ⟨b, 0, none⟩ = some (.string ⟨s.toArray⟩) := (bb.cell (p := ⟨b, 0, none⟩) (by simp; omega)).trans (by simp [World.cell?_alloc_past, hal1, hc0]); have hk1 : w'.cell? ⟨b, 1, none⟩ = some (.int .i64 (j : Int)) := (bb.cell (p := ⟨b, 1, none⟩) (by simp; omega)).trans (by simp [World.cell?_alloc_past, hal1, hc1]); have hz := bb.size; first | (have hn : w'.heap[w1.heap.size]? = some (.cells #[.string ⟨#[]⟩, .string ⟨#[]⟩] 39 (0, 0)) := (bb.block w1.heap.size (by simp)).trans (heap_alloc_new _ _); obtain ⟨hca, hfa⟩ := cells_of hn) | skip))
      all_goals (go_wp2_with fail; go_meet)
      · exact ⟨w'.heap.size, rfl, hz, heap_alloc_new _ _, ((Below.refl w1.heap.size w1).drew.trans bb).alloc hz _⟩
      · exact ⟨w1.heap.size, rfl, Nat.le_refl _, block_set (block_set hn), bset (bset (first_below bb) (Nat.le_refl _)) (Nat.le_refl _)⟩
    case rest =>
      obtain ⟨A, rfl, hA, ha1, bx⟩ := hcut
      clear hc0 hc1 b1 b2 b3 e0 e1 e2 e3 hcl hfr hx QL
      have HRx := Lib.hid (IsRd.below HR1.out bx)
      have HOx := Lib.hid (own_below bx HO1.out)
      have HEx := Lib.hid (HE1.out.same bx)
      have HAx := Lib.hid ha1
      have hzx := bx.size
      have hfrx := (hbut1.fr hb2).trans (fr_of bx (B := b + 2) (b := b) (by omega))
      clear ha1
      go_wp2_with fail
      refine (overSp b s j k n (.slice ao l.length cap) c t sl _ hs hj2 hsl HRx.out).mono ?_
      rintro e w2 ⟨j2, rfl, hj3, hj4, HJ2, hr2, hb2x⟩
      have HA2 := Lib.hid (HAx.out.but hb2x (by omega))
      have HO2 := Lib.hid (But.own hb2x (by omega) HOx.out)
      have HE2 := Lib.hid (HEx.out.below (hb2x.below (by omega)) htop)
      have hz2 := hb2x.size
      have hfr2 := hfrx.trans (hb2x.fr (B := b + 2) (by omega))
      obtain ⟨hcl, hfr⟩ := cells_of hr2
      have HR2 := Lib.hid hr2
      clear hr2 hb2x
      rw [HJ1.out] at HJ2
      by_cases hlt2 : j2 < s.length
      · have hdt : decide (j2 < s.length) = true := decide_eq_true hlt2
        rw [hdt]
        obtain ⟨d, u, hdu⟩ := drop_cons hlt2
        have hix := at_drop hdu (by rw [T.bytes_size]; exact hlt2)
        have HAE := attr_eq (c := x) HN.out (HJ2.out.1.symm.trans hdu)
        rw [HNM.out] at HAE
        have hdu1 := drop_more hdu
        clear hdt
        rcases Decidable.em (d = 61) with h61 | h61
        case' inl =>
          subst h61
          rw [if_pos (by rfl)] at HAE
          have HV0 := Lib.hid HAE
          clear HAE hdu
          go_wp2_with fail
          go_quiet (fail)
          go_wp2_with fail
          refine (value b s j2 k n (.slice ao l.length cap) c t sl _ hs hlt2 hsl (HasMax_drewN HE2.out.mx _) (Nat.lt_of_lt_of_le (by decide) htop) (by exact HR2.out)).mono ?_
          rintro e w3 ⟨hbut3, hval⟩
          rw [hdu1] at hval
          have hz3 : w2.heap.size ≤ w3.heap.size := hbut3.size
          have hbut3' : But b w2 w3 := ((But.refl b w2).drewN _).trans hbut3
          have HA3 := Lib.hid (HA2.out.but hbut3' (by omega))
          have HO3 := Lib.hid (But.own hbut3' (by omega) HO2.out)
          have HE3 := Lib.hid (HE2.out.below (hbut3'.below (by omega)) htop)
          have hfr3 := hfr2.trans (hbut3'.fr (B := b + 2) (by omega))
          clear hbut3 hbut3' hcl hfr
          rcases hmv : M.value u with _ | ⟨v, U⟩
          case none =>
            rw [hmv] at hval
            have HV := Lib.hid (HV0.out.trans (by rw [hmv]))
            obtain ⟨v, rfl⟩ := hval
            clear hmv
            go_wp2_with fail
            go_ret
            rw [HV.out]
            exact ⟨hfr3, rfl⟩
          case' some =>
            rw [hmv] at hval
            have HV : Hid (M.attr x r = some ((M.lower nm, E.decode v), U)) := Lib.hid (HV0.out.trans (by rw [hmv]))
            obtain ⟨rfl, J, hr3, hJU, hJl, hjJ⟩ := hval
            have HJU := Lib.hid hJU
            have hvl : v.length ≤ 800000 := by have := value_le hmv; have h2 := congrArg List.length hdu1; rw [List.length_drop] at h2; omega
            have HR3 := Lib.hid hr3
            clear hmv hr3 hJU
            go_wp2_with fail
            refine (Decode v _ hvl HE3.out).mono ?_
            rintro e w4 ⟨rfl, b4⟩
            have HA4 := HA3.out.below b4
            obtain ⟨hcA, hfA⟩ := cells_of HA4
            have HR4 := Lib.hid (IsRd.below HR3.out b4)
            have HO4 := Lib.hid (own_below b4 HO3.out)
            have hz4 := b4.size
            obtain ⟨hcl, hfr⟩ := cells_of HR4.out
            have HC : Hid (AtC b s J k n (.slice ao l.length cap) c t sl A (M.lower nm) (E.decode v) l w (w4.setCell ⟨A, 1, none⟩ (.string ⟨(E.decode v).toArray⟩))) := by
              refine Lib.hid ⟨?_, block_set HA4, by omega, ?_, (hfr3.trans (fr_of b4 (by omega))).trans ⟨rfl, rfl, rfl, by simp [World.setCell], fun k hk _ => Below.heap_setCell _ _ _ _ (by show k ≠ A; omega)⟩⟩
              · exact (Below.heap_setCell w4 ⟨A, 1, none⟩ _ b (by show b ≠ A; omega)).trans HR4.out
              · exact ownsRow_setCell_other HO4.out (a := ⟨A, 1, none⟩) (fun h => by have := (HO1.out.lt A h).2; omega) _
            go_wp2_with fail
            generalize (w4.setCell ⟨A, 1, none⟩ (.string ⟨(E.decode v).toArray⟩)) = W at HC ⊢
            generalize E.decode v = V at HC HV
            clear hcA hfA HR4 HO4 hz4 hcl hfr HA4 HR3 b4 hvl HA3 HO3 HE3 hfr3 hz3 HV0
            have hiJ : i < J := by omega
        case' inr =>
          have h61' : ((d.toNat : Int) == 61) = false := byte_ne (n := 61) h61 (by omega)
          have h61b : (d == 61) = false := by simpa using h61
          rw [if_neg (by rw [h61b]; simp)] at HAE
          have HV : Hid (M.attr x r = some ((M.lower nm, []), d :: u)) := Lib.hid HAE
          have HJU := Lib.hid hdu
          have hiJ : i < j2 := by omega
          clear HAE hdu
          go_wp2_with fail
          go_quiet (fail)
          have HC : Hid (AtC b s j2 k n (.slice ao l.length cap) c t sl A (M.lower nm) [] l w (w2.drewN nq)) :=
            Lib.hid ⟨HR2.out, HA2.out, by omega, HO2.out, hfr2.trans (((But.refl b w2).drewN nq).fr (by omega))⟩
          go_wp2_with fail
          generalize w2.drewN nq = W at HC ⊢
          generalize ([] : List UInt8) = V at HC HV
          generalize d :: u = U at HV HJU
          clear hcl hfr h61' h61b h61 hix
          obtain ⟨J, rfl⟩ : ∃ J, J = j2 := ⟨j2, rfl⟩
          have hJl := hj4
        all_goals
          obtain ⟨hRC, hAC, hbA, hOC, hFC⟩ := HC.out
          have HRC := Lib.hid hRC
          have HAC := Lib.hid hAC
          have HOC := Lib.hid hOC
          have HFC := Lib.hid hFC
          have hzA := lt_of_block hAC
          have hzb := lt_of_block hRC
          clear hRC hAC hOC hFC HC
          go_loopw [64] (fun u wr => AlRel l (M.lower nm) W u wr) (fun u _ => l.length - (intOf u).toNat)
          case atStart => exact ⟨0, rfl, Nat.zero_le _, Below.refl _ _, Lib.hid (by simp)⟩
          case round =>
            obtain ⟨m, rfl, hm, hBm, HM⟩ := hrel
            have hzm := hBm.size
            by_cases hml : m < l.length
            · obtain ⟨g, rfl, hg⟩ := hao (by omega)
              have hm1 : (m : Int) < (l.length : Int) := by omega
              obtain ⟨q1, q2, hq⟩ : ∃ q1 q2, l[m] = (q1, q2) := ⟨l[m].1, l[m].2, rfl⟩
              have hgl : g < W.heap.size := (HOC.out.lt g rfl).2
              have hx0 : wr.cell? ⟨g, m * 2, none⟩ = some (.string ⟨q1.toArray⟩) := by
                rw [hBm.cell (p := ⟨g, m * 2, none⟩) hgl, HOC.out.cellAt (m * 2) (by omega)]; exact acells_at l m hml hq 0 (by omega)
              have hx1 : wr.cell? ⟨g, m * 2 + 1, none⟩ = some (.string ⟨q2.toArray⟩) := by
                rw [hBm.cell (p := ⟨g, m * 2 + 1, none⟩) hgl, HOC.out.cellAt (m * 2 + 1) (by omega)]; exact acells_at l m hml hq 1 (by omega)
              have hAm := HAC.out.below hBm
              have hA0 : wr.cell? ⟨A, 0, none⟩ = some (.string ⟨(M.lower nm).toArray⟩) := (cells_of hAm).1 0
              have hAl := lt_of_block hAm
              clear hAm
              cases hnq : (M.lower nm == q1) with
              | true =>
                have HV2 : Hid (M.add l (M.lower nm, V) = l) := Lib.hid (add_old l _ m hml (by rw [hq]; exact hnq))
                clear HM hq
                generalize M.lower nm = NM at *
                go_wp2_with fail
                go_ret
                rw [HV.out]
                have hBf := hBm.alloc hzm (.cells #[.string ⟨q1.toArray⟩, .string ⟨q2.toArray⟩] 39)
                refine ⟨HFC.out.trans (fr_of hBf (by omega)), rfl, J, _, IsRd.below HRC.out hBf, ?_, HJU.out, hJl, hiJ⟩
                rw [HV2.out]
                exact own_below hBf HOC.out
              | false =>
                have HM' : Hid ((l.take (m + 1)).any (fun q => M.lower nm == q.1) = false) := Lib.hid (by
                  rw [List.take_succ_eq_append_getElem hml, List.any_append, HM.out, hq]; simp [hnq])
                clear HM hq
                generalize M.lower nm = NM at *
                go_wp2_with fail
                go_roundw
                case rel => exact ⟨m + 1, by go_num, by omega, hBm.alloc hzm _, HM'⟩
                case measure => simp [intOf]; omega
            · obtain rfl : m = l.length := by omega
              have HF : Hid (l.any (fun q => M.lower nm == q.1) = false) := Lib.hid (by have h9 := HM.out; rw [List.take_length] at h9; exact h9)
              have hRr := IsRd.below HRC.out hBm
              have hAr := HAC.out.below hBm
              have HOr := Lib.hid (own_below hBm HOC.out)
              obtain ⟨hcl, hfr⟩ := cells_of hRr
              obtain ⟨hcA, hfA⟩ := cells_of hAr
              have hlb := lt_of_block hRr
              have hlA := lt_of_block hAr
              have HRr := Lib.hid hRr
              clear hRr hAr HM
              have hno := HOr.out.lt
              by_cases h64 : l.length < 64
              · have h65 : (l.length : Int) < 64 := by omega
                have HV2 : Hid (M.add l (M.lower nm, V) = l ++ [(M.lower nm, V)]) := Lib.hid (by unfold M.add; rw [if_neg (by rw [HF.out]; simp), if_pos h64])
                obtain ⟨i0, hi0, hz0, hz1, hz2⟩ := info_parts infoAttr
                generalize M.lower nm = NM at *
                go_wp2_with fail
                go_region_law ((refine step_append_lies _ (by rfl) _ _ _ (by rfl) (b + 2) 39 i0 _ 2 32 Tryz.underlying28 hi0 hz0 hz1 hz2 rfl (by omega) (.slice ao l.length cap) l.length (acells l) (by rfl) ((HOr.out.alloc _).drew) ⟨wr.heap.size, 0, none⟩ 1 1 [.string ⟨NM.toArray⟩, .string ⟨V.toArray⟩] (by rfl) (by rfl) (World.news_of_block (cs := #[.string ⟨NM.toArray⟩, .string ⟨V.toArray⟩]) (t := 39) (fr := (0, 0)) (heap_alloc_new wr _)) (by simp [Value.oneCell']) (by omega) (by unfold maxLen; omega) (by omega) (by simp; omega) (wr.heap.size + 1) (by simp) ?_; intro gg cap2 w5 hown5 hgrow hat hlt5; have hbk : w5.heap[b]? = some (.cells #[.string ⟨s.toArray⟩, .int .i64 J, k, n, .slice ao l.length cap, c, t, .int .i64 sl] 115 (0, 0)) := (hgrow.block b (by simp; omega) (fun h => by have := (hno b h.symm).1; omega)).trans ((((Below.refl wr.heap.size wr).alloc (Nat.le_refl _) _).drew.block b hlb).trans HRr.out); obtain ⟨hcb, hfb⟩ := cells_of hbk))
                all_goals
                  have hz5 : b + 2 ≤ w5.heap.size := Nat.le_trans (by simp; omega) hgrow.size
                  go_wp2_with fail
                  go_ret
                  rw [HV.out]
                  refine ⟨((HFC.out.trans (fr_of hBm (by omega))).trans (fr_of (((Below.refl wr.heap.size wr).alloc (Nat.le_refl _) _).drew) (by omega))).trans ((fr_grown hgrow (fun q hq => (hno q hq).1) (by simp; omega)).trans ((But.set _ 4 _).fr hz5)), rfl, J, _, block_set hbk, ?_, HJU.out, hJl, hiJ⟩
                  rw [HV2.out, List.length_append, acells_snoc]
                  exact ownsRow_setCell_below hown5 (by show b < b + 2; omega) _
              · have h65 : 64 ≤ (l.length : Int) := by omega
                have HV2 : Hid (M.add l (M.lower nm, V) = l) := Lib.hid (by unfold M.add; rw [if_neg (by rw [HF.out]; simp), if_neg h64])
                go_wp2_with fail
                go_ret
                rw [HV.out]
                refine ⟨HFC.out.trans (fr_of hBm (by omega)), rfl, J, _, HRr.out, ?_, HJU.out, hJl, hiJ⟩
                rw [HV2.out]
                exact HOr.out
      · have hnil : s.drop j2 = [] := List.drop_eq_nil_of_le (by omega)
        have HV := Lib.hid (attr_none2 (c := x) HN.out (HJ2.out.1.symm.trans hnil))
        have hdt : decide (j2 < s.length) = false := decide_eq_false hlt2
        rw [hdt]
        clear hdt hnil HJ2
        go_wp2_with fail
        go_ret
        rw [HV.out]
        exact ⟨hfr2, rfl⟩
  · have hnil : s.drop j = [] := List.drop_eq_nil_of_le (by omega)
    have HV := Lib.hid (attr_none1 (c := x) (HJ.out.1.symm.trans hnil))
    have hdt : decide (j < s.length) = false := decide_eq_false hlt
    rw [hdt]
    clear hdt hnil HJ
    go_wp2_with fail
    go_ret
    rw [HV.out]
    exact ⟨hbut1.fr hb2, rfl⟩

end K
end Go.Proofs.YtlnginciehjlnaaGreatDoor

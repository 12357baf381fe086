/- What the reference's decl comes to. append(v, x...) of two rows that the call owns; of no package. What the reference's decls and Decls come to. What the reference's closed comes to. -/
import Derived.Test.YtafkeolpadfjfaaGreatDoorSty36
import Derived.Test.YtafkeolpadfjfaaGreatDoorSty33
import Derived.Test.YtafkeolpadfjfaaGreatDoorSty21
import Derived.Deep.CutBlock
import Derived.Test.YtafkeolpadfjfaaGreatDoorOwn
import Derived.Deep.AppendSrc
import Derived.Deep.Upon
import Derived.Test.YtafkeolpadfjfaaGreatDoorSh1
set_option linter.unusedVariables false
set_option linter.unusedSimpArgs false
namespace Go.Proofs.YtafkeolpadfjfaaGreatDoor
open Go.RowKit
namespace V
open H Y
/-- A declaration's cells, as the reference has them. -/
def rdcell (d : S.Decl) : List Value := [.string ⟨d.name.toArray⟩, .int .i64 (d.val.kind : Nat), .int .i64 d.val.num, .string ⟨d.val.word.toArray⟩, .bool true, .bool d.imp]
def rdCells (l : List S.Decl) : List Value := l.flatMap rdcell
def OwnR (base : Nat) (w : World) (v : Value) (l : List S.Decl) : Prop := w.ownsRow base 69 6 v l.length (rdCells l) ∧ (l.length = 0 → v = .slice none 0 0)
theorem lcell_ok (b : Bool) (p : S.Lh) (h : p.2.2 = true) : lcell b p = rdcell ⟨p.1, p.2.1, b⟩ := by
 obtain ⟨n, v, ok⟩ := p
 dsimp only at h
 subst h
 rfl
theorem lCells_ok (b : Bool) : ∀ l : List S.Lh, (l.all fun p => p.2.2) = true → lCells b l = rdCells (l.map fun p => ⟨p.1, p.2.1, b⟩)
 | [], _ => rfl
 | p :: r, h => by
  rw [List.all_cons, Bool.and_eq_true] at h
  have ih := lCells_ok b r h.2
  unfold lCells rdCells at *
  rw [List.flatMap_cons, ih, lcell_ok b p h.1]
  rfl
theorem lCells_len (b : Bool) : ∀ l : List S.Lh, (lCells b l).length = l.length * 6
 | [] => rfl
 | p :: r => by
  have ih := lCells_len b r
  unfold lCells at *
  rw [List.flatMap_cons, List.length_append, ih, List.length_cons]
  show 6 + r.length * 6 = _
  omega
/-- The first k are marked. -/
def mixed (b : Bool) (l : List S.Lh) (k : Nat) : List Value := lCells b (l.take k) ++ lCells false (l.drop k)
theorem mixed_step (b : Bool) (l : List S.Lh) (k : Nat) (hk : k < l.length) : (mixed b l k).set (k * 6 + 5) (.bool b) = mixed b l (k + 1) := by
 unfold mixed
 have h1 : (lCells b (l.take k)).length = k * 6 := by rw [lCells_len, List.length_take]; omega
 have h2 : l.drop k = l[k] :: l.drop (k + 1) := List.drop_eq_getElem_cons hk
 have h3 : l.take (k + 1) = l.take k ++ [l[k]] := List.take_succ_eq_append_getElem hk
 rw [List.set_append_right _ _ (by omega), h1, h3, show k * 6 + 5 - k * 6 = 5 by omega]
 unfold lCells
 rw [List.flatMap_append, List.append_assoc]
 congr 1
 rw [h2, List.flatMap_cons]
 rfl
theorem mixed_at (b : Bool) (l : List S.Lh) (k : Nat) (hk : k < l.length) : (mixed b l (k + 1))[k * 6 + 4]? = some (.bool l[k].2.2) := by
 unfold mixed
 have h1 : (lCells b (l.take k)).length = k * 6 := by rw [lCells_len, List.length_take]; omega
 have h3 : l.take (k + 1) = l.take k ++ [l[k]] := List.take_succ_eq_append_getElem hk
 rw [h3]
 unfold lCells at *
 rw [List.flatMap_append, List.append_assoc, List.getElem?_append_right (by omega), h1, show k * 6 + 4 - k * 6 = 4 by omega]
 rfl
theorem mixed_zero (b : Bool) (l : List S.Lh) : mixed b l 0 = lCells false l := by unfold mixed; rw [List.take_zero, List.drop_zero]; rfl
theorem mixed_all (b : Bool) (l : List S.Lh) (k : Nat) (hk : l.length ≤ k) : mixed b l k = lCells b l := by
 unfold mixed
 rw [List.take_of_length_le hk, List.drop_eq_nil_of_le hk]
 show _ ++ [] = _
 rw [List.append_nil]
theorem longs_len (v : List UInt8) : ∀ ns vs : List (List UInt8), (S.longs v ns vs).length = ns.length
 | [], _ => rfl
 | n :: ns, vs => by rw [S.longs, List.length_cons, List.length_cons, longs_len v ns]
theorem longhands_len (nm v : List UInt8) : (S.longhands nm v).length ≤ 4 := by
 unfold S.longhands
 split
 ·simp
 ·rw [longs_len]; exact rsides_len nm
theorem allGl (l : List S.Lh) (lg : List (List UInt8 × Option S.Val)) (h : S.lhOk l = lg) : S.allG lg = S.allG (S.lhOk l) := by rw [h]
theorem tw_take (s : List UInt8) {E : Nat} (hE : twEnd (notQ 58) s 0 = E) : s.takeWhile (fun c => decide (c ≠ 58)) = s.take E := by
 have := twEnd_take (notQ 58) s 0
 rw [hE, Nat.sub_zero, List.drop_zero] at this
 exact this.symm
theorem tw_drop (s : List UInt8) {E : Nat} (hE : twEnd (notQ 58) s 0 = E) : s.dropWhile (fun c => decide (c ≠ 58)) = s.drop E := by
 have := twEnd_drop (notQ 58) s 0
 rw [hE, List.drop_zero] at this
 exact this.symm
theorem colon_at {s r : List UInt8} {E : Nat} (hE : twEnd (notQ 58) s 0 = E) (hd : s.drop E = 58 :: r) : S.colonP s = (s.take E, s.drop (E + 1)) := by
 rw [S.colonP_tw s (by have : (58 : UInt8) ∈ s.drop E := by rw [hd]; exact List.mem_cons_self ..
                       exact List.mem_of_mem_drop this), tw_take s hE, tw_drop s hE, List.tail_drop]
theorem colon_no {s : List UInt8} (hE : twEnd (notQ 58) s 0 = s.length) : (58 : UInt8) ∉ s := by
 intro h
 have h1 := S.tw_colon h
 rw [tw_take s hE, List.take_length] at h1
 omega
set_option maxHeartbeats 32000000 in
set_option maxRecDepth 100000 in
theorem decl (s : List UInt8) (w : World) (hs : s.length ≤ 80000) :
  Calls Tryz.prog 68 #[.string ⟨s.toArray⟩] w fun e w' => ∃ v, e = .returned v ∧ Below w.heap.size w w' ∧ OwnR w.heap.size w' v (S.declOf s) := by
 have zs := bytes_size s
 obtain ⟨E, hE⟩ : ∃ E, twEnd (notQ 58) s 0 = E := ⟨_, rfl⟩
 have HE := Lib.hid hE
 have HQ : Hid (S.declOf s = S.marked (S.allG (S.longhands (S.rname s) (S.important (S.rvalue s)).1)) (S.important (S.rvalue s)).2) := Lib.hid (S.declOf_ref s)
 have HN := Lib.hid (fun h => S.declOf_no (s := s) h)
 have HVT : Hid (S.trim (S.rvalue s) = S.rvalue s) := Lib.hid (S.trim_trim _)
 have HRN : Hid (∀ {r : List UInt8}, s.drop E = 58 :: r → S.rname s = S.lower (S.trim (s.take E)) ∧ S.rvalue s = S.trim (S.lower (s.drop (E + 1)))) := Lib.hid (fun h => by
  unfold S.rname S.rvalue; rw [colon_at hE h]; exact ⟨rfl, rfl⟩)
 generalize S.declOf s = q at *
 generalize S.rname s = rn at *
 generalize S.rvalue s = rv at *
 clear hE
 go_enter Tryz.func68, Tryz.ntmps68
 go_wp2_with fail
 go_loop [3] (fun v3 => ∃ k : Nat, v3 = .int .i64 k ∧ k ≤ s.length ∧ Hid (twEnd (notQ 58) s k = E)) (fun v3 => s.length - (intOf v3).toNat)
 case atStart => exact ⟨0, rfl, by omega, HE⟩
 case round =>
  obtain ⟨k, rfl, hk, HK⟩ := hrel
  by_cases hlt : k < s.length
  ·have hlI : (k : Int) < (s.length : Int) := by omega
   obtain ⟨c, t, hd⟩ := drop_cons hlt
   have hkx := at_drop hd (by rw [bytes_size]; exact hlt)
   cases hc : notQ 58 c with
   | true =>
    obtain ⟨a58, b58, m58⟩ : ((c.toNat : Int) == 58) = false ∧ ((c.toNat : Int) != 58) = true ∧ ¬ (c.toNat : Int) = 58 := noB (n := 58) (of_decide_eq_true hc) (by decide)
    have HK2 := Lib.hid ((twEnd_step hd hc).trans HK.out)
    clear hd hc HK
    go_wp2_with fail
    go_round
    case rel => exact ⟨k + 1, by go_num, by omega, HK2⟩
    case measure => simp [intOf]; omega
   | false =>
    have h58 : c = 58 := by simpa [notQ] using hc
    obtain ⟨a58, b58, m58⟩ : ((c.toNat : Int) == 58) = true ∧ ((c.toNat : Int) != 58) = false ∧ (c.toNat : Int) = 58 := isB (n := 58) h58 (by decide)
    obtain rfl : k = E := (twEnd_stop hd hc).symm.trans HK.out
    obtain ⟨hrn, hrv⟩ := HRN.out (by rw [hd, h58])
    have hx1 := cut_front s k (by omega)
    have hx2 := cut_back s (k + 1) (by omega)
    have hln : (s.take k).length ≤ 80000 := by rw [List.length_take]; omega
    have hlv : (s.drop (k + 1)).length ≤ 80000 := by rw [List.length_drop]; omega
    have hl1 := S.trim_len (s.take k)
    have hl2 : rv.length ≤ 80000 := by rw [hrv]; have := S.trim_len (S.lower (s.drop (k + 1))); rw [lower_len] at this; omega
    have QT1 := Lib.hid (fun W => rtrim (s.take k) W (by omega))
    have QL1 := Lib.hid (fun W => rlower (S.trim (s.take k)) W (by omega))
    have QL2 := Lib.hid (fun W => rlower (s.drop (k + 1)) W (by omega))
    have QT2 := Lib.hid (fun W => rtrim (S.lower (s.drop (k + 1))) W (by rw [lower_len]; omega))
    rw [← hrn] at QL1
    rw [← hrv] at QT2
    have hrnl : rn.length ≤ 80000 := by rw [hrn, lower_len]; omega
    have wk : IntKind.i64.wrap ((k : Int) + 1) = (k : Int) + 1 := IntWalk.i64_in _ (by omega)
    clear hd hc h58 HK HE HRN HN hrn hrv hln hlv hl1
    generalize s.take k = s1 at *
    generalize S.trim s1 = s2 at *
    generalize s.drop (k + 1) = s3 at *
    generalize S.lower s3 = s4 at *
    go_wp2_with fail
    refine (QT1.out _).mono ?_
    rintro e w' ⟨rfl, rfl⟩
    go_wp2_with fail
    refine (QL1.out _).mono ?_
    rintro e w1 ⟨rfl, hb⟩
    have HB1 := Lib.hid hb
    clear hb QT1 QL1 hx1
    go_wp2_with fail
    refine (QL2.out _).mono ?_
    rintro e w2 ⟨rfl, hb⟩
    have HB2 := Lib.hid (HB1.out.trans (hb.mono HB1.out.size))
    clear hb QL2 HB1
    go_wp2_with fail
    refine (QT2.out _).mono ?_
    rintro e w' ⟨rfl, rfl⟩
    clear QT2 hx2 hkx wk
    have HVI : Hid (∀ i, S.Imp rv i → S.important rv = (S.trim (rv.take i), true)) := Lib.hid (fun i h => S.imp_yes HVT.out h)
    have HVN : Hid ((∀ i, ¬ S.Imp rv i) → S.important rv = (rv, false)) := Lib.hid (fun h => S.imp_no h)
    have HTL : Hid (∀ x : List UInt8, (S.trim x).length ≤ x.length) := Lib.hid S.trim_len
    have hil : (S.important rv).1.length ≤ rv.length := imp_len rv
    generalize hIM : S.important rv = im at *
    obtain ⟨iv, ib⟩ := im
    dsimp only at HQ hil
    have QH := Lib.hid (fun W => longhands rn iv W (by omega) (by omega))
    have hlgl := longhands_len rn iv
    generalize S.longhands rn iv = lg at *
    have zr := bytes_size rv
    clear hIM HVT
    go_upto_block 2 with fail
    go_cut [5, 6] (fun v5 v6 wx => v5 = .string ⟨iv.toArray⟩ ∧ v6 = .bool ib ∧ wx = w2)
    case first =>
     go_wp2_with fail
     go_loopw [5, 6, 7] (fun v5 v6 v7 wr => v5 = .string ⟨rv.toArray⟩ ∧ v6 = .bool false ∧ ∃ z : Int, v7 = .int .i64 z ∧ -1 ≤ z ∧ z < (rv.length : Int) ∧ Hid (∀ j : Nat, z < (j : Int) → ¬ S.Imp rv j) ∧ Hid (w2 = wr)) (fun _ _ v7 _ => (intOf v7 + 1).toNat)
     case atStart => exact ⟨rfl, rfl, (rv.length : Int) - 1, rfl, by omega, by omega, Lib.hid (fun j hj h => by have := h.1; omega), Lib.hid (by first | rfl | trivial)⟩
     case round =>
      obtain ⟨rfl, rfl, z, rfl, hz1, hz2, HZ, HW⟩ := hrel
      obtain rfl := HW.out
      clear HW
      by_cases hz : 0 ≤ z
      ·obtain ⟨m, rfl⟩ : ∃ m : Nat, z = m := ⟨z.toNat, by omega⟩
       have hm : m < rv.length := by omega
       obtain ⟨c, r, hd⟩ := drop_cons hm
       have hmx := at_drop hd (by rw [bytes_size]; exact hm)
       have hmore := drop_more hd
       have hgd : rv.getD m 0 = c := getD_drop hd
       have hx3 := cut_back rv (m + 1) (by omega)
       have hx4 := cut_front rv m (by omega)
       have hwm : IntKind.i64.wrap ((m : Int) + 1) = (m : Int) + 1 := IntWalk.i64_in _ (by omega)
       have hrl : r.length ≤ 80000 := by have := drop_len hd; omega
       rw [hmore] at hx3
       by_cases hc : c = 33
       ·obtain ⟨a33, b33, m33⟩ : ((c.toNat : Int) == 33) = true ∧ ((c.toNat : Int) != 33) = false ∧ (c.toNat : Int) = 33 := isB (n := 33) hc (by decide)
        have QT := Lib.hid (fun W => rtrim r W (by omega))
        by_cases hi : S.trim r = [105, 109, 112, 111, 114, 116, 97, 110, 116]
        ·have HI := Lib.hid (HVI.out m ⟨hm, hgd.trans hc, by rw [hmore]; exact hi⟩)
         have e1 : (S.trim r == [105, 109, 112, 111, 114, 116, 97, 110, 116]) = true := by simpa using hi
         have hfl : (rv.take m).length ≤ 80000 := by rw [List.length_take]; omega
         have QT2 := Lib.hid (fun W => rtrim (rv.take m) W (by omega))
         rw [show S.trim (rv.take m) = iv by have := HI.out; injection this with h1 _; exact h1.symm] at QT2
         have hib : true = ib := by have := HI.out; injection this with _ h1; exact h1.symm
         subst hib
         generalize S.trim r = tr at *
         generalize rv.take m = tk at *
         clear hd hmore hgd hc hi HI HVI HVN HTL
         go_wp2_with fail
         refine (QT.out _).mono ?_
         rintro e w' ⟨rfl, rfl⟩
         go_wp2_with fail
         refine (QT2.out _).mono ?_
         rintro e w' ⟨rfl, rfl⟩
         go_wp2_with fail
         go_meet
         exact ⟨rfl, rfl, rfl⟩
        ·have e1 : (S.trim r == [105, 109, 112, 111, 114, 116, 97, 110, 116]) = false := by simpa using hi
         have HZ2 : Hid (∀ j : Nat, (m : Int) - 1 < (j : Int) → ¬ S.Imp rv j) := Lib.hid (fun j hj h => by
          rcases (by omega : j = m ∨ (m : Int) < (j : Int)) with rfl | h2
          ·have := h.2.2; rw [hmore] at this; exact hi this
          ·exact HZ.out j h2 h)
         generalize S.trim r = tr at *
         clear hd hmore hgd hc hi HZ hx4
         go_wp2_with fail
         refine (QT.out _).mono ?_
         rintro e w' ⟨rfl, rfl⟩
         go_wp2_with fail
         go_roundw
         case rel => exact ⟨rfl, rfl, (m : Int) - 1, rfl, by omega, by omega, HZ2, Lib.hid (by first | rfl | trivial)⟩
         case measure => simp [intOf]
       ·obtain ⟨a33, b33, m33⟩ : ((c.toNat : Int) == 33) = false ∧ ((c.toNat : Int) != 33) = true ∧ ¬ (c.toNat : Int) = 33 := noB (n := 33) hc (by decide)
        have HZ2 : Hid (∀ j : Nat, (m : Int) - 1 < (j : Int) → ¬ S.Imp rv j) := Lib.hid (fun j hj h => by
         rcases (by omega : j = m ∨ (m : Int) < (j : Int)) with rfl | h2
         ·exact hc (hgd.symm.trans h.2.1)
         ·exact HZ.out j h2 h)
        clear hd hmore hgd hc HZ hx3 hx4
        go_wp2_with fail
        go_roundw
        case rel => exact ⟨rfl, rfl, (m : Int) - 1, rfl, by omega, by omega, HZ2, Lib.hid (by first | rfl | trivial)⟩
        case measure => simp [intOf]
      ·have HI := Lib.hid (HVN.out (fun i h => HZ.out i (by omega) h))
       have hib : false = ib := by have := HI.out; injection this with _ h1; exact h1.symm
       have hiv : rv = iv := by have := HI.out; injection this with h1 _; exact h1.symm
       subst hib
       subst hiv
       clear HI HVI HVN HTL HZ
       go_wp2_with fail
       go_meet
       exact ⟨rfl, rfl, rfl⟩
    case rest =>
    obtain ⟨rfl, rfl, hwx⟩ := hcut
    obtain rfl := hwx
    rename_i KK1 hKK1
    refine hKK1 _ _ ?_
    go_wp2_with fail
    refine (QH.out _).mono ?_
    rintro e w3 ⟨v8, l, rfl, hb, hown, hlh⟩
    have HB3 := Lib.hid (HB2.out.trans (hb.mono HB2.out.size))
    have HO3 : Hid (OwnL false w.heap.size w3 v8 l) := Lib.hid (hown.base HB2.out.size)
    have HLH := Lib.hid (allGl l lg hlh.out)
    have hN4 : l.length ≤ 4 := by have := congrArg List.length hlh.out; unfold S.lhOk at this; rw [List.length_map] at this; omega
    obtain ⟨ao, cap, hv8⟩ := hown.form
    generalize hNN : l.length = N at hv8 hN4
    have HN2 := Lib.hid hNN
    subst hv8
    have HM0 : Hid (w3.ownsRow w.heap.size 69 6 (.slice ao N cap) N (mixed ib l 0)) := Lib.hid (by rw [mixed_zero, ← HN2.out]; have := HO3.out.1; rw [HN2.out] at this ⊢; exact this)
    have HNil : Hid (N = 0 → (.slice ao N cap : Value) = .slice none 0 0) := Lib.hid (fun h => HO3.out.2 (by rw [HN2.out]; exact h))
    clear hb hown hlh QH hNN HO3 HB2
    go_wp2_with fail
    go_loopw [9] (fun v9 wr => ∃ k : Nat, v9 = .int .i64 k ∧ k ≤ N ∧ Hid (wr.ownsRow w.heap.size 69 6 (.slice ao N cap) N (mixed ib l k)) ∧ Hid ((l.take k).all (fun p => p.2.2) = true) ∧ Hid (Below w.heap.size w wr)) (fun v9 _ => N - (intOf v9).toNat)
    case atStart => exact ⟨0, rfl, by omega, HM0, Lib.hid rfl, HB3⟩
    case round =>
     obtain ⟨k9, rfl, hk9, HMx, HAl, HU⟩ := hrel
     clear HM0
     by_cases hlt9 : k9 < N
     ·have hkI9 : (k9 : Int) < (N : Int) := by omega
      have hkl : k9 < l.length := by rw [HN2.out]; exact hlt9
      obtain ⟨g, hg⟩ : ∃ g, ao = some ⟨g, 0, none⟩ := by
       rcases HMx.out.2 with ⟨hv, h0⟩ | ⟨g, _, _, hv, _⟩
       ·omega
       ·injection hv with h1 _ _; exact ⟨g, h1⟩
      subst hg
      have hgl := HMx.out.lt g rfl
      have f5 := HMx.out.frozenAt (k9 * 6 + 5)
      obtain ⟨y5, hy5⟩ : ∃ y, wr.cell? ⟨g, k9 * 6 + 5, none⟩ = some y := by
       have h1 := HMx.out.cellAt (k9 * 6 + 5) (by omega)
       have h2 : k9 * 6 + 5 < (mixed ib l k9).length := by rw [HMx.out.1]; omega
       exact ⟨_, h1.trans (List.getElem?_eq_getElem h2)⟩
      obtain ⟨hst, hgr⟩ := HMx.out.stored (k9 * 6 + 5) (.bool ib)
      rw [mixed_step ib l k9 hkl] at hst
      have HM2 := Lib.hid hst
      have HU2 : Hid (Below w.heap.size w (wr.setCell ⟨g, k9 * 6 + 5, none⟩ (.bool ib))) := Lib.hid (HU.out.setCell (p := ⟨g, k9 * 6 + 5, none⟩) hgl.1 _)
      have y4 : (wr.setCell ⟨g, k9 * 6 + 5, none⟩ (.bool ib)).cell? ⟨g, k9 * 6 + 4, none⟩ = some (.bool l[k9].2.2) := (HM2.out.cellAt (k9 * 6 + 4) (by omega)).trans (mixed_at ib l k9 hkl)
      have HAl2 : Hid (l[k9].2.2 = true → (l.take (k9 + 1)).all (fun p => p.2.2) = true) := Lib.hid (fun h => by
       rw [List.take_succ_eq_append_getElem hkl, List.all_append, HAl.out]; simp [h])
      have HBad : Hid (l[k9].2.2 = false → (l.all fun p => p.2.2) = false) := Lib.hid (fun h => by
       rw [Bool.eq_false_iff]
       intro h2
       have := List.all_eq_true.1 h2 _ (List.getElem_mem hkl)
       rw [h] at this; cases this)
      generalize l[k9].2.2 = ok at *
      clear hst hgr HMx HAl HU hkl
      cases ok with
      | true =>
       have HAl3 := Lib.hid (HAl2.out rfl)
       clear HAl2 HBad
       go_upto_region 20 with fail
       generalize (wr.setCell ⟨g, k9 * 6 + 5, none⟩ (.bool ib)) = wr2 at *
       go_wp2_with fail
       go_roundw
       case rel => exact ⟨k9 + 1, by go_num, by omega, HM2, HAl3, HU2⟩
       case measure => simp [intOf]; omega
      | false =>
       have HQ3 : Hid (q = []) := Lib.hid (by
        rw [HQ.out, HLH.out, S.allG_lh, HBad.out rfl]
        rfl)
       clear HAl2 HBad
       go_upto_region 20 with fail
       generalize (wr.setCell ⟨g, k9 * 6 + 5, none⟩ (.bool ib)) = wr2 at *
       go_wp2_with fail
       go_ret
       exact ⟨_, rfl, HU2.out, by rw [HQ3.out]; exact ⟨World.ownsRow_nil _ _ _ _, fun _ => rfl⟩⟩
     ·obtain rfl : N = k9 := by omega
      have e9 : ¬ (N : Int) < (N : Int) := by omega
      have hall : (l.all fun p => p.2.2) = true := by
       have := HAl.out
       rwa [List.take_of_length_le (by rw [HN2.out]; exact Nat.le_refl _)] at this
      have HQ3 : Hid (q = l.map fun p => (⟨p.1, p.2.1, ib⟩ : S.Decl)) := Lib.hid (by
       rw [HQ.out, HLH.out, S.allG_lh, hall]
       show List.map _ (List.map _ l) = _
       rw [List.map_map]; rfl)
      have HOf : Hid (OwnR w.heap.size wr (.slice ao N cap) q) := Lib.hid (by
       rw [HQ3.out]
       refine ⟨?_, fun h => HNil.out (by rw [List.length_map, HN2.out] at h; exact h)⟩
       rw [List.length_map, HN2.out, ← lCells_ok ib l hall, ← mixed_all ib l N (by rw [HN2.out]; exact Nat.le_refl _)]
       exact HMx.out)
      clear HMx HAl hall HQ3
      go_wp2_with fail
      go_ret
      exact ⟨_, rfl, HU.out, HOf.out⟩
  ·have hlI : ¬ (k : Int) < (s.length : Int) := by omega
   have HQ2 : Hid (q = []) := Lib.hid (HN.out (colon_no (by have h2 := HK.out; rw [twEnd_past (by omega)] at h2; rw [HE.out, ← h2]; omega)))
   clear HK HE HRN HN
   go_wp2_with fail
   go_ret
   exact ⟨_, rfl, Below.refl _ _, by rw [HQ2.out]; exact ⟨World.ownsRow_nil _ _ _ _, fun _ => rfl⟩⟩
end V
end Go.Proofs.YtafkeolpadfjfaaGreatDoor
namespace Go.Proofs.YtafkeolpadfjfaaGreatDoor
open Go.RowKit
namespace H
/-- 'append(v, x...)' of two rows that the call owns. -/
theorem rowAppendTwo {P : Program} (w : World) (base base2 : Nat) (t ty e : TypeId) (i : TypeInfo) (z : Value) (size bytes : Nat) (ht : P.underlying t = some (.slice e)) (hi : P.info? e = some i) (hz : i.zero = some z)
  (hsize : i.size = size) (hby : i.bytes = bytes) (hzs : z.cells.size = size) (hsz : 0 < size)
  (v x : Value) (n m : Nat) (xs ys : List Value) (hown : w.ownsRow base e size v n xs) (hown2 : w.ownsRow base2 e size x m ys) (h1 : ∀ u ∈ ys, u.oneCell' = true)
  (h63 : n + m ≤ maxLen) (hbytes : (n + m) * bytes ≤ 140737488355328) (hbase : base ≤ w.heap.size) :
  ∃ v' w', (Builtin.append_ #[t, t] ty #[v, x]).run P w = .ok v' w' ∧ w'.ownsRow base e size v' (n + m) (xs ++ ys) ∧ w.grownBy w' v.ownBlock := by
 rcases hown2.2 with ⟨rfl, rfl⟩ | ⟨g2, cap2, cur2, rfl, hb2, hg2, hn2, hm2, hc2, ht2⟩
 ·have hy : ys = [] := List.eq_nil_of_length_eq_zero (by simpa using hown2.1)
  subst hy
  have hsame : w.grownBy w v.ownBlock := ⟨rfl, rfl, rfl, Nat.le_refl _, fun _ _ _ => rfl⟩
  rcases hown.2 with ⟨rfl, rfl⟩ | ⟨g, cap, cur, rfl, hb, hg, hn, hm, hc, htk⟩
  ·exact ⟨_, _, run_append_nothing w t t ty e i ht hi none 0 0 (Nat.le_refl _) _ (Src.ofNil w ht 0), by simpa using hown, hsame⟩
  ·exact ⟨_, _, run_append_nothing w t t ty e i ht hi _ n cap hn _ (Src.ofNil w ht 0), by simpa using hown, hsame⟩
 ·obtain ⟨v', w', hr, ho, hg, _⟩ := run_append_own (P := P) w base t ty e i z size bytes ht hi hz hsize hby hzs hsz v n xs hown ⟨g2, 0, none⟩ m cap2 ys hown2.1 (hown2.cells (g := g2) rfl) h1 h63 hbytes hbase
  exact ⟨v', w', hr, ho, hg⟩
theorem wpList_append_rows {P : Program} (w : World) {ops : Array Oper} {rest : List Oper} {o : Oper} {a : Act} {Q : Exit → Act → World → Prop} (hgd : o.guard = none) (s x : Operand) (t : TypeId)
  (ho : o.op = .call { callee := .builtin .append, args := #[s, x], argTypes := #[t, t] })
  (base base2 : Nat) (e : TypeId) (i : TypeInfo) (z : Value) (size bytes : Nat) (ht : P.underlying t = some (.slice e)) (hi : P.info? e = some i) (hz : i.zero = some z)
  (hsize : i.size = size) (hby : i.bytes = bytes) (hzs : z.cells.size = size) (hsz : 0 < size)
  (v xv : Value) (n m : Nat) (xs ys : List Value) (hs : a.eval s = v) (hx : a.eval x = xv) (hown : w.ownsRow base e size v n xs) (hown2 : w.ownsRow base2 e size xv m ys) (h1 : ∀ u ∈ ys, u.oneCell' = true)
  (h63 : n + m ≤ maxLen) (hbytes : (n + m) * bytes ≤ 140737488355328) (hbase : base ≤ w.heap.size)
  (h : ∀ v' w', w'.ownsRow base e size v' (n + m) (xs ++ ys) → w.grownBy w' v.ownBlock → wpList P ops Q rest (a.put o.dst v') w') : wpList P ops Q (o :: rest) a w :=
 wpList_plain hgd fun _ hK => by
  obtain ⟨v', w', hr, h2, h3⟩ := rowAppendTwo (P := P) w base base2 t o.type e i z size bytes ht hi hz hsize hby hzs hsz v xv n m xs ys hown hown2 h1 h63 hbytes hbase
  unfold Oper.wp execOp
  simp only [ho, resolve, invoke, builtin, Sem.run_bind, Sem.run_pure, Result.andThen_ok, List.map_toArray, List.map_cons, List.map_nil, hs, hx, hr]
  exact hK _ _ (h v' w' h2 h3)
end H
end Go.Proofs.YtafkeolpadfjfaaGreatDoor
namespace Go.Proofs.YtafkeolpadfjfaaGreatDoor
open Go.RowKit
namespace V
open H Y
theorem declOf_len (s : List UInt8) : (S.declOf s).length ≤ 4 := by
 unfold S.declOf
 split
 ·rename_i l h
  rw [List.length_map]
  exact expand_len h
 ·simp
theorem rdCells_one {l : List S.Decl} : ∀ u ∈ rdCells l, u.oneCell' = true := by
 intro u hu
 obtain ⟨d, hd, hu⟩ := List.mem_flatMap.1 hu
 simp [rdcell] at hu
 rcases hu with rfl | rfl | rfl | rfl | rfl | rfl <;> rfl
def RowR (base : Nat) (w : World) (v : Value) (l : List S.Decl) : Prop := w.ownsRow base 69 6 v l.length (rdCells l)
theorem RowR.form {base : Nat} {w : World} {v : Value} {l : List S.Decl} (h : RowR base w v l) : ∃ ao cap, v = .slice ao l.length cap := by
 rcases h.2 with ⟨h1, h2⟩ | ⟨g, cap, cur, rfl, _⟩
 ·exact ⟨none, 0, by rw [h1, h2]⟩
 ·exact ⟨_, cap, rfl⟩
theorem decls_from (s : List UInt8) (f m : Nat) (h : f + S.scan [59] 0 0 (s.drop f) = m) : S.decls (s.drop f) = S.declOf ((s.drop f).take (m - f)) ++ S.decls (s.drop (m + 1)) := by
 rw [S.decls_step (s.drop f), show S.scan [59] 0 0 (s.drop f) = m - f by omega, List.drop_drop, show f + (m - f + 1) = m + 1 by omega]
set_option maxHeartbeats 16000000 in
set_option maxRecDepth 100000 in
theorem decls (s : List UInt8) (w : World) (hs : s.length ≤ 80000) :
  Calls Tryz.prog 34 #[.string ⟨s.toArray⟩] w fun e w' => ∃ v, e = .returned v ∧ Below w.heap.size w w' ∧ RowR w.heap.size w' v (S.decls s) := by
 have zs := bytes_size s
 have HA0 : Hid (([] : List S.Decl) ++ S.decls (s.drop 0) = S.decls s) := Lib.hid rfl
 generalize S.decls s = q at *
 have HO0 : Hid (RowR w.heap.size w (.slice none 0 0) []) := Lib.hid (World.ownsRow_nil _ _ _ _)
 have HU0 : Hid (Below w.heap.size w w) := Lib.hid (Below.refl _ _)
 obtain ⟨i0, hi0, hz0, hz1, hz2⟩ := info_parts infoRDecl
 go_enter Tryz.func34, Tryz.ntmps34
 go_wp2_with fail
 go_loopw [3, 4, 5] (fun v3 v4 v5 wr => ∃ (f i : Nat) (acc : List S.Decl), v4 = .int .i64 f ∧ v5 = .int .i64 i ∧ f ≤ i ∧ i ≤ s.length + 1 ∧ Hid (s.length < i → s.length < f) ∧ Hid (acc.length ≤ 4 * f) ∧ Hid (acc ++ S.decls (s.drop f) = q) ∧ Hid (i + S.scan [59] 0 0 (s.drop i) = f + S.scan [59] 0 0 (s.drop f)) ∧ Hid (RowR w.heap.size wr v3 acc) ∧ Hid (Below w.heap.size w wr)) (fun _ _ v5 _ => s.length + 1 - (intOf v5).toNat)
 case atStart => exact ⟨0, 0, [], rfl, rfl, by omega, by omega, Lib.hid (fun h => by omega), Lib.hid (by simp), HA0, Lib.hid (by first | rfl | trivial), HO0, HU0⟩
 case round =>
  obtain ⟨f, i, acc, rfl, rfl, hfi, hi, HF, HL, HA, HI, HO, HU⟩ := hrel
  clear HA0 HO0 HU0
  by_cases hle : i ≤ s.length
  ·have hleI : (i : Int) ≤ (s.length : Int) := by omega
   by_cases hstop : i = s.length ∨ ∃ t, s.drop i = 59 :: t
   ·have HIe : Hid (f + S.scan [59] 0 0 (s.drop f) = i) := Lib.hid (by
     have h := HI.out
     rcases hstop with h1 | ⟨t, h1⟩
     ·rw [List.drop_eq_nil_of_le (by omega : s.length ≤ i)] at h
      simpa [S.scan] using h.symm
     ·rw [h1, S.scan_stop (by simp)] at h
      omega)
    have HA2 : Hid ((acc ++ S.declOf ((s.drop f).take (i - f))) ++ S.decls (s.drop (i + 1)) = q) := Lib.hid (by
     rw [List.append_assoc, ← decls_from s f i HIe.out]; exact HA.out)
    have hx := slice_str s f i hfi hle
    have hpl : ((s.drop f).take (i - f)).length ≤ 80000 := by rw [List.length_take, List.length_drop]; omega
    have QD := Lib.hid (fun W => decl ((s.drop f).take (i - f)) W hpl)
    have hdl := declOf_len ((s.drop f).take (i - f))
    generalize S.declOf ((s.drop f).take (i - f)) = dl at *
    generalize (s.drop f).take (i - f) = pc at *
    have hfI : (f : Int) ≤ (i : Int) := by omega
    have hcase : ((i : Int) == (s.length : Int)) = true ∧ (i : Int) = (s.length : Int) ∨ ((((i : Int) == (s.length : Int)) = false ∧ ¬ (i : Int) = (s.length : Int)) ∧ ∃ c t, c = 59 ∧ s.drop i = c :: t) := by
     by_cases h : i = s.length
     ·exact Or.inl ⟨by rw [h]; simp, by omega⟩
     ·rcases hstop with h1 | ⟨t, h1⟩
      ·exact absurd h1 h
      ·exact Or.inr ⟨⟨by rw [beq_eq_false_iff_ne]; omega, by omega⟩, 59, t, rfl, h1⟩
    clear hstop HI HA hpl
    rcases hcase with ⟨e1, e2⟩ | ⟨⟨e1, e2⟩, c, t, hc, hd⟩
    ·obtain rfl : i = s.length := by omega
     clear e2
     go_wp2_with fail
     refine (QD.out _).mono ?_
     rintro e w1 ⟨v, rfl, hb, hown⟩
     have HU1 := Lib.hid (HU.out.trans (hb.mono HU.out.size))
     have HO1 : Hid (w1.ownsRow w.heap.size 69 6 u3 acc.length (rdCells acc)) := Lib.hid (own_keepD HO.out hb)
     have HD1 := Lib.hid hown.1
     have hzw := HU1.out.size
     have hla := HL.out
     clear hb hown QD HU HO
     go_wp2_with (at_builtin; refine wpList_append_rows _ rfl _ _ 26 rfl w.heap.size wr.heap.size 69 i0 _ 6 64 Tryz.underlying26 hi0 hz0 hz1 hz2 rfl (by decide) _ _ _ _ _ _ rfl rfl HO1.out HD1.out rdCells_one ?d3 ?d4 ?d5 ?_)
     case d3 => unfold maxLen; omega
     case d4 => omega
     case d5 => omega
     intro v5 w5 hown5 hgrow
     have HO5 : Hid (RowR w.heap.size w5 v5 (acc ++ dl)) := Lib.hid (by
      unfold RowR
      unfold rdCells at *
      rw [List.length_append, List.flatMap_append]
      exact hown5)
     have HB5 : Hid (Below w.heap.size w w5) := Lib.hid (HU1.out.grown hgrow hzw (fun q hq => (HO1.out.lt q hq).1))
     have HL5 : Hid ((acc ++ dl).length ≤ 4 * (s.length + 1)) := Lib.hid (by rw [List.length_append]; omega)
     clear hown5 hgrow HO1 HD1 HU1 hla hdl HL HF HIe
     go_wp2_with fail
     go_roundw
     case rel => exact ⟨s.length + 1, s.length + 1, acc ++ dl, by go_num, by go_num, by omega, by omega, Lib.hid (fun h => by omega), HL5, HA2, Lib.hid (by first | rfl | trivial), HO5, HB5⟩
     case measure => simp [intOf]
    ·have hlt := lt_drop hd
     have hltI : (i : Int) < (s.length : Int) := by omega
     have hix := at_drop hd (by rw [bytes_size]; exact hlt)
     obtain ⟨a59, b59, m59⟩ : ((c.toNat : Int) == 59) = true ∧ ((c.toNat : Int) != 59) = false ∧ (c.toNat : Int) = 59 := isB (n := 59) hc (by decide)
     clear hd hc
     go_wp2_with fail
     refine (QD.out _).mono ?_
     rintro e w1 ⟨v, rfl, hb, hown⟩
     have HU1 := Lib.hid (HU.out.trans (hb.mono HU.out.size))
     have HO1 : Hid (w1.ownsRow w.heap.size 69 6 u3 acc.length (rdCells acc)) := Lib.hid (own_keepD HO.out hb)
     have HD1 := Lib.hid hown.1
     have hzw := HU1.out.size
     have hla := HL.out
     clear hb hown QD HU HO
     go_wp2_with (at_builtin; refine wpList_append_rows _ rfl _ _ 26 rfl w.heap.size wr.heap.size 69 i0 _ 6 64 Tryz.underlying26 hi0 hz0 hz1 hz2 rfl (by decide) _ _ _ _ _ _ rfl rfl HO1.out HD1.out rdCells_one ?e3 ?e4 ?e5 ?_)
     case e3 => unfold maxLen; omega
     case e4 => omega
     case e5 => omega
     intro v5 w5 hown5 hgrow
     have HO5 : Hid (RowR w.heap.size w5 v5 (acc ++ dl)) := Lib.hid (by
      unfold RowR
      unfold rdCells at *
      rw [List.length_append, List.flatMap_append]
      exact hown5)
     have HB5 : Hid (Below w.heap.size w w5) := Lib.hid (HU1.out.grown hgrow hzw (fun q hq => (HO1.out.lt q hq).1))
     have HL5 : Hid ((acc ++ dl).length ≤ 4 * (i + 1)) := Lib.hid (by rw [List.length_append]; omega)
     clear hown5 hgrow HO1 HD1 HU1 hla hdl HL HF HIe
     go_wp2_with fail
     go_roundw
     case rel => exact ⟨i + 1, i + 1, acc ++ dl, by go_num, by go_num, by omega, by omega, Lib.hid (fun h => by omega), HL5, HA2, Lib.hid (by first | rfl | trivial), HO5, HB5⟩
     case measure => simp [intOf]; omega
   ·have hne : i ≠ s.length := fun h => hstop (Or.inl h)
    have hlt : i < s.length := by omega
    have hltI : (i : Int) < (s.length : Int) := by omega
    have e1 : ((i : Int) == (s.length : Int)) = false := by rw [beq_eq_false_iff_ne]; omega
    have e2 : ¬ (i : Int) = (s.length : Int) := by omega
    obtain ⟨c, t, hd⟩ := drop_cons hlt
    have hix := at_drop hd (by rw [bytes_size]; exact hlt)
    have hc : c ≠ 59 := fun h => hstop (Or.inr ⟨t, by rw [hd, h]⟩)
    obtain ⟨a59, b59, m59⟩ : ((c.toNat : Int) == 59) = false ∧ ((c.toNat : Int) != 59) = true ∧ ¬ (c.toNat : Int) = 59 := noB (n := 59) hc (by decide)
    have QN := Lib.hid (fun W => next s.length s t c i W (by omega) (by omega) hd)
    have hnp := S.nx_pos (c := c) (t := t)
    have hnl := S.nx_le (c :: t)
    have hdl := drop_len hd
    rw [List.length_cons] at hnl
    have HI2 : Hid (i + S.nx (c :: t) + S.scan [59] 0 0 (s.drop (i + S.nx (c :: t))) = f + S.scan [59] 0 0 (s.drop f)) := Lib.hid (by
     rw [← HI.out]
     conv => rhs; rw [hd, S.scan_next (by simpa using hc)]
     rw [← List.drop_drop, hd]
     omega)
    have hb2 : i + S.nx (c :: t) ≤ s.length := by omega
    generalize S.nx (c :: t) = N at *
    clear hstop hd hc HI hdl hnl
    go_wp2_with fail
    refine (QN.out _).mono ?_
    rintro e w' ⟨rfl, rfl⟩
    go_wp2_with fail
    go_roundw
    case rel => exact ⟨f, i + N, acc, rfl, rfl, by omega, by omega, Lib.hid (fun h => by omega), HL, HA, HI2, HO, HU⟩
    case measure => simp [intOf]; omega
  ·have hleI : ¬ (i : Int) ≤ (s.length : Int) := by omega
   have HQ : Hid (acc = q) := Lib.hid (by
    rw [← HA.out, List.drop_eq_nil_of_le (by have := HF.out (by omega); omega), S.decls_nil, List.append_nil])
   have HOf : Hid (RowR w.heap.size wr u3 q) := Lib.hid (by rw [← HQ.out]; exact HO.out)
   clear HA HI HF HL
   obtain ⟨ao, cap, hv⟩ := HO.out.form
   generalize acc.length = n at hv
   subst hv
   go_wp2_with fail
   go_ret
   exact ⟨_, rfl, HU.out, HOf.out⟩
end V
end Go.Proofs.YtafkeolpadfjfaaGreatDoor
namespace Go.Proofs.YtafkeolpadfjfaaGreatDoor
open Go.RowKit
namespace V
open H Y
set_option maxHeartbeats 4000000 in
set_option maxRecDepth 100000 in
theorem closed (s r : List UInt8) (d : UInt8) (i en : Nat) (w : World) (hs : s.length ≤ 900000) (hd : s.drop i = d :: r) (hen : en ≤ s.length) :
  Calls Tryz.prog 55 #[.string ⟨s.toArray⟩, .int .i64 (i : Nat), .int .i64 (en : Nat)] w fun e w' => e = .returned (.bool (decide (i + 1 + S.scan S.closers 0 0 r < en))) ∧ w = w' := by
 have hi := lt_drop hd
 have zs := bytes_size s
 have hmore := drop_more hd
 have hsc := S.scan_le S.closers r 0 0
 have hlenB := Nat.le_of_eq (drop_len hd).symm
 have HK0 : Hid (i + 1 + S.scan S.closers 0 0 (s.drop (i + 1)) = i + 1 + S.scan S.closers 0 0 r) := Lib.hid (by rw [hmore])
 have hE : i + 1 + S.scan S.closers 0 0 r ≤ s.length := by omega
 generalize i + 1 + S.scan S.closers 0 0 r = E at *
 clear hd hmore hsc
 go_enter Tryz.func55, Tryz.ntmps55
 go_wp2_with fail
 go_loop [7] (fun v7 => ∃ k : Nat, v7 = .int .i64 k ∧ k ≤ s.length ∧ Hid (k + S.scan S.closers 0 0 (s.drop k) = E)) (fun v7 => s.length - (intOf v7).toNat)
 case atStart => exact ⟨i + 1, by go_num, by omega, HK0⟩
 case round =>
  obtain ⟨k, rfl, hk, HK⟩ := hrel
  clear HK0
  by_cases hlt : k < en
  ·have hlI : (k : Int) < (en : Int) := by omega
   have hls : k < s.length := by omega
   have hlsI : (k : Int) < (s.length : Int) := by omega
   obtain ⟨c, t, hd⟩ := drop_cons hls
   have hkx := at_drop hd (by rw [bytes_size]; exact hls)
   by_cases hcl : c = 41 ∨ c = 93 ∨ c = 125
   ·have HR : Hid (decide (E < en) = true) := Lib.hid (by
     have h := HK.out
     rw [hd, S.scan_stop (by rcases hcl with rfl | rfl | rfl <;> decide)] at h
     exact decide_eq_true (by omega))
    have hcase2 : (((c.toNat : Int) == 41) = true ∧ (c.toNat : Int) = 41) ∨ ((((c.toNat : Int) == 41) = false ∧ ¬ (c.toNat : Int) = 41) ∧ ((c.toNat : Int) == 93) = true ∧ (c.toNat : Int) = 93) ∨ ((((c.toNat : Int) == 41) = false ∧ ¬ (c.toNat : Int) = 41) ∧ (((c.toNat : Int) == 93) = false ∧ ¬ (c.toNat : Int) = 93) ∧ ((c.toNat : Int) == 125) = true ∧ (c.toNat : Int) = 125) := by
     rcases hcl with h | h | h
     ·have q := isB (n := 41) h (by decide); exact Or.inl ⟨q.1, q.2.2⟩
     ·have p := noB (n := 41) (c := c) (by rw [h]; decide) (by decide); have q := isB (n := 93) h (by decide); exact Or.inr (Or.inl ⟨⟨p.1, p.2.2⟩, q.1, q.2.2⟩)
     ·have p := noB (n := 41) (c := c) (by rw [h]; decide) (by decide); have p2 := noB (n := 93) (c := c) (by rw [h]; decide) (by decide); have q := isB (n := 125) h (by decide); exact Or.inr (Or.inr ⟨⟨p.1, p.2.2⟩, ⟨p2.1, p2.2.2⟩, q.1, q.2.2⟩)
    clear hcl hd HK
    rcases hcase2 with ⟨g1, g2⟩ | ⟨⟨g1, g2⟩, g3, g4⟩ | ⟨⟨g1, g2⟩, ⟨g3, g4⟩, g5, g6⟩
    all_goals
     go_wp2_with fail
     go_ret
     exact ⟨ret_bool HR.out.symm, rfl⟩
   ·obtain ⟨a41, b41, m41⟩ : ((c.toNat : Int) == 41) = false ∧ ((c.toNat : Int) != 41) = true ∧ ¬ (c.toNat : Int) = 41 := noB (n := 41) (fun h => hcl (Or.inl h)) (by decide)
    obtain ⟨a93, b93, m93⟩ : ((c.toNat : Int) == 93) = false ∧ ((c.toNat : Int) != 93) = true ∧ ¬ (c.toNat : Int) = 93 := noB (n := 93) (fun h => hcl (Or.inr (Or.inl h))) (by decide)
    obtain ⟨a125, b125, m125⟩ : ((c.toNat : Int) == 125) = false ∧ ((c.toNat : Int) != 125) = true ∧ ¬ (c.toNat : Int) = 125 := noB (n := 125) (fun h => hcl (Or.inr (Or.inr h))) (by decide)
    have QN := Lib.hid (fun W => next s.length s t c k W (by omega) (by omega) hd)
    have hnp := S.nx_pos (c := c) (t := t)
    have hnl := S.nx_le (c :: t)
    have hdlA := Nat.le_of_eq (drop_len hd)
    have hdlB := Nat.le_of_eq (drop_len hd).symm
    rw [List.length_cons] at hnl
    have HK2 : Hid (k + S.nx (c :: t) + S.scan S.closers 0 0 (s.drop (k + S.nx (c :: t))) = E) := Lib.hid (by
     have h := HK.out
     rw [hd, S.scan_next (by intro h; apply hcl; simpa [S.closers] using h)] at h
     rw [← List.drop_drop, hd]
     omega)
    have hb2 : k + S.nx (c :: t) ≤ s.length := by omega
    generalize S.nx (c :: t) = N at *
    clear hcl hd HK hdlA hdlB hnl
    go_wp2_with fail
    refine (QN.out _).mono ?_
    rintro e w' ⟨rfl, rfl⟩
    go_wp2_with fail
    go_round
    case rel => exact ⟨k + N, by go_num, by omega, HK2⟩
    case measure => simp [intOf]; omega
  ·have hlI : ¬ (k : Int) < (en : Int) := by omega
   have HR : Hid (decide (E < en) = false) := Lib.hid (by
    have h := HK.out
    exact decide_eq_false (by omega))
   clear HK
   go_wp2_with fail
   go_ret
   exact ⟨ret_bool HR.out.symm, rfl⟩
end V
end Go.Proofs.YtafkeolpadfjfaaGreatDoor

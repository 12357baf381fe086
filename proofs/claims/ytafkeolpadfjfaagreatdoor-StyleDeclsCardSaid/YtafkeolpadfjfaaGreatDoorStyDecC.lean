/- append(v, x...) of two rows that the call owns; of no package. What the reference's decls and Decls come to. The law StyleDecls. What utf8.ValidString and text.Repair come to at a short string of ASCII: no table is read. From the rows' listed variables to what the walks of styles ask of the world; the witness's world. The law StyleDecls, and at any input that reads as data. -/
import Derived.Test.YtafkeolpadfjfaaGreatDoorRow
import Derived.Deep.AppendSrc
import Derived.Deep.Upon
import Derived.Test.YtafkeolpadfjfaaGreatDoorSty37
import Derived.Test.YtafkeolpadfjfaaGreatDoorSty38
import Derived.Test.YtafkeolpadfjfaaGreatDoorValid
import Derived.Test.YtafkeolpadfjfaaGreatDoorUtfMore
import Derived.Test.YtafkeolpadfjfaaGreatDoorHeap
import Derived.Shelf.Unicode.WordAny
import Derived.Lib.ValidAsc
import Derived.Laws.BitsAllLaws
import Derived.Deep.LoopGhost
import Derived.Deep.DeepMust
import Derived.Deep.DeepBigQuietO
import Derived.Test.YtafkeolpadfjfaaGreatDoorRows
import Derived.Test.YtafkeolpadfjfaaGreatDoorSty22
import Derived.Test.YtafkeolpadfjfaaGreatDoorTRepair
import Derived.ProofKit
import Derived.OpenShut
import Derived.ChangeSame
import Derived.ChangeOld
import Derived.Below
import Derived.Lib.LaidIn
import Derived.Lib.LaidU8T
import Derived.Lib.LaidTab
import Derived.LaidLaws
import Derived.Deep.DeepHandedRow
import Derived.Deep.Strs
set_option linter.unusedVariables false
set_option linter.unusedSimpArgs false
namespace Go.Proofs.YtafkeolpadfjfaaGreatDoor
open Go.RowKit
namespace H

/-- 'append(v, x...)' of two rows that the call owns. -/
theorem rowAppendTwo {P : Program} (w : World) (base base2 : Nat) (t ty e : TypeId) (i : TypeInfo) (z : Value) (size bytes : Nat) (ht : P.underlying t = some (.slice e)) (hi : P.info? e = some i) (hz : i.zero = some z)
    (hsize : i.size = size) (hby : i.bytes = bytes) (hzs : z.cells.size = size) (hsz : 0 < size)
    (v x : Value) (n m : Nat) (xs ys : List Value) (hown : w.ownsRow base e size v n xs) (hown2 : w.ownsRow base2 e size x m ys) (h1 : ∀ u ∈ ys, u.oneCell' = true)
    (h63 : n + m ≤ maxLen) (hbytes : (n + m) * bytes ≤ 140737488355328) (hbase : base ≤ w.heap.size) :
    ∃ v' w', (Builtin.append_ #[t, t] ty #[v, x]).run P w = .ok v' w' ∧ w'.ownsRow base e size v' (n + m) (xs ++ ys) ∧ w.grownBy w' v.ownBlock := by
  rcases hown2.2 with ⟨rfl, rfl⟩ | ⟨g2, cap2, cur2, rfl, hb2, hg2, hn2, hm2, hc2, ht2⟩
  · have hy : ys = [] := List.eq_nil_of_length_eq_zero (by simpa using hown2.1)
    subst hy
    have hsame : w.grownBy w v.ownBlock := ⟨rfl, rfl, rfl, Nat.le_refl _, fun _ _ _ => rfl⟩
    rcases hown.2 with ⟨rfl, rfl⟩ | ⟨g, cap, cur, rfl, hb, hg, hn, hm, hc, htk⟩
    · exact ⟨_, _, run_append_nothing w t t ty e i ht hi none 0 0 (Nat.le_refl _) _ (Src.ofNil w ht 0), by simpa using hown, hsame⟩
    · exact ⟨_, _, run_append_nothing w t t ty e i ht hi _ n cap hn _ (Src.ofNil w ht 0), by simpa using hown, hsame⟩
  · obtain ⟨v', w', hr, ho, hg, _⟩ := run_append_own (P := P) w base t ty e i z size bytes ht hi hz hsize hby hzs hsz v n xs hown ⟨g2, 0, none⟩ m cap2 ys hown2.1 (hown2.cells (g := g2) rfl) h1 h63 hbytes hbase
    exact ⟨v', w', hr, ho, hg⟩

theorem wpList_append_rows {P : Program} (w : World) {ops : Array Oper} {rest : List Oper} {o : Oper} {a : Act} {Q : Exit → Act → World → Prop} (hgd : o.guard = none) (s x : Operand) (t : TypeId)
    (ho : o.op = .call { callee := .builtin .append, args := #[s, x], argTypes := #[t, t] })
    (base base2 : Nat) (e : TypeId) (i : TypeInfo) (z : Value) (size bytes : Nat) (ht : P.underlying t = some (.slice e)) (hi : P.info? e = some i) (hz : i.zero = some z)
    (hsize : i.size = size) (hby : i.bytes = bytes) (hzs : z.cells.size = size) (hsz : 0 < size)
    (v xv : Value) (n m : Nat) (xs ys : List Value) (hs : a.eval s = v) (hx : a.eval x = xv) (hown : w.ownsRow base e size v n xs) (hown2 : w.ownsRow base2 e size xv m ys) (h1 : ∀ u ∈ ys, u.oneCell' = true)
    (h63 : n + m ≤ maxLen) (hbytes : (n + m) * bytes ≤ 140737488355328) (hbase : base ≤ w.heap.size)
    (h : ∀ v' w', w'.ownsRow base e size v' (n + m) (xs ++ ys) → w.grownBy w' v.ownBlock → wpList P ops Q rest (a.put o.dst v') w') : wpList P ops Q (o :: rest) a w :=
  wpList_plain hgd fun _ hK => by
    obtain ⟨v', w', hr, h2, h3⟩ := rowAppendTwo (P := P) w base base2 t o.type e i z size bytes ht hi hz hsize hby hzs hsz v xv n m xs ys hown hown2 h1 h63 hbytes hbase
    unfold Oper.wp execOp
    simp only [ho, resolve, invoke, builtin, Sem.run_bind, Sem.run_pure, Result.andThen_ok, List.map_toArray, List.map_cons, List.map_nil, hs, hx, hr]
    exact hK _ _ (h v' w' h2 h3)

end H
end Go.Proofs.YtafkeolpadfjfaaGreatDoor

namespace Go.Proofs.YtafkeolpadfjfaaGreatDoor
open Go.RowKit
namespace V
open H Y

theorem declOf_len (s : List UInt8) : (S.declOf s).length ≤ 4 := by
  unfold S.declOf
  split
  · rename_i l h
    rw [List.length_map]
    exact expand_len h
  · simp
theorem rdCells_one {l : List S.Decl} : ∀ u ∈ rdCells l, u.oneCell' = true := by
  intro u hu
  obtain ⟨d, hd, hu⟩ := List.mem_flatMap.1 hu
  simp [rdcell] at hu
  rcases hu with rfl | rfl | rfl | rfl | rfl | rfl <;> rfl
def RowR (base : Nat) (w : World) (v : Value) (l : List S.Decl) : Prop := w.ownsRow base 69 6 v l.length (rdCells l)
theorem RowR.form {base : Nat} {w : World} {v : Value} {l : List S.Decl} (h : RowR base w v l) : ∃ ao cap, v = .slice ao l.length cap := by
  rcases h.2 with ⟨h1, h2⟩ | ⟨g, cap, cur, rfl, _⟩
  · exact ⟨none, 0, by rw [h1, h2]⟩
  · exact ⟨_, cap, rfl⟩
theorem decls_from (s : List UInt8) (f m : Nat) (h : f + S.scan [59] 0 0 (s.drop f) = m) : S.decls (s.drop f) = S.declOf ((s.drop f).take (m - f)) ++ S.decls (s.drop (m + 1)) := by
  rw [S.decls_step (s.drop f), show S.scan [59] 0 0 (s.drop f) = m - f by omega, List.drop_drop, show f + (m - f + 1) = m + 1 by omega]

set_option maxHeartbeats 16000000 in
set_option maxRecDepth 100000 in
theorem decls (s : List UInt8) (w : World) (hs : s.length ≤ 80000) :
    Calls Tryz.prog 34 #[.string ⟨s.toArray⟩] w fun e w' => ∃ v, e = .returned v ∧ Below w.heap.size w w' ∧ RowR w.heap.size w' v (S.decls s) := by
  have zs := bytes_size s
  have HA0 : Hid (([] : List S.Decl) ++ S.decls (s.drop 0) = S.decls s) := Lib.hid rfl
  generalize S.decls s = q at *
  have HO0 : Hid (RowR w.heap.size w (.slice none 0 0) []) := Lib.hid (World.ownsRow_nil _ _ _ _)
  have HU0 : Hid (Below w.heap.size w w) := Lib.hid (Below.refl _ _)
  obtain ⟨i0, hi0, hz0, hz1, hz2⟩ := info_parts infoRDecl
  go_enter Tryz.func34, Tryz.ntmps34
  go_wp2_with fail
  go_loopw [3, 4, 5] (fun v3 v4 v5 wr => ∃ (f i : Nat) (acc : List S.Decl), v4 = .int .i64 f ∧ v5 = .int .i64 i ∧ f ≤ i ∧ i ≤ s.length + 1 ∧ Hid (s.length < i → s.length < f) ∧ Hid (acc.length ≤ 4 * f) ∧ Hid (acc ++ S.decls (s.drop f) = q) ∧ Hid (i + S.scan [59] 0 0 (s.drop i) = f + S.scan [59] 0 0 (s.drop f)) ∧ Hid (RowR w.heap.size wr v3 acc) ∧ Hid (Below w.heap.size w wr)) (fun _ _ v5 _ => s.length + 1 - (intOf v5).toNat)
  case atStart => exact ⟨0, 0, [], rfl, rfl, by omega, by omega, Lib.hid (fun h => by omega), Lib.hid (by simp), HA0, Lib.hid (by first | rfl | trivial), HO0, HU0⟩
  case round =>
    obtain ⟨f, i, acc, rfl, rfl, hfi, hi, HF, HL, HA, HI, HO, HU⟩ := hrel
    clear HA0 HO0 HU0
    by_cases hle : i ≤ s.length
    · have hleI : (i : Int) ≤ (s.length : Int) := by omega
      by_cases hstop : i = s.length ∨ ∃ t, s.drop i = 59 :: t
      · have HIe : Hid (f + S.scan [59] 0 0 (s.drop f) = i) := Lib.hid (by
          have h := HI.out
          rcases hstop with h1 | ⟨t, h1⟩
          · rw [List.drop_eq_nil_of_le (by omega : s.length ≤ i)] at h
            simpa [S.scan] using h.symm
          · rw [h1, S.scan_stop (by simp)] at h
            omega)
        have HA2 : Hid ((acc ++ S.declOf ((s.drop f).take (i - f))) ++ S.decls (s.drop (i + 1)) = q) := Lib.hid (by
          rw [List.append_assoc, ← decls_from s f i HIe.out]; exact HA.out)
        have hx := slice_str s f i hfi hle
        have hpl : ((s.drop f).take (i - f)).length ≤ 80000 := by rw [List.length_take, List.length_drop]; omega
        have QD := Lib.hid (fun W => decl ((s.drop f).take (i - f)) W hpl)
        have hdl := declOf_len ((s.drop f).take (i - f))
        generalize S.declOf ((s.drop f).take (i - f)) = dl at *
        generalize (s.drop f).take (i - f) = pc at *
        have hfI : (f : Int) ≤ (i : Int) := by omega
        have hcase : ((i : Int) == (s.length : Int)) = true ∧ (i : Int) = (s.length : Int) ∨ ((((i : Int) == (s.length : Int)) = false ∧ ¬ (i : Int) = (s.length : Int)) ∧ ∃ c t, c = 59 ∧ s.drop i = c :: t) := by
          by_cases h : i = s.length
          · exact Or.inl ⟨by rw [h]; simp, by omega⟩
          · rcases hstop with h1 | ⟨t, h1⟩
            · exact absurd h1 h
            · exact Or.inr ⟨⟨by rw [beq_eq_false_iff_ne]; omega, by omega⟩, 59, t, rfl, h1⟩
        clear hstop HI HA hpl
        rcases hcase with ⟨e1, e2⟩ | ⟨⟨e1, e2⟩, c, t, hc, hd⟩
        · obtain rfl : i = s.length := by omega
          clear e2
          go_wp2_with fail
          refine (QD.out _).mono ?_
          rintro e w1 ⟨v, rfl, hb, hown⟩
          have HU1 := Lib.hid (HU.out.trans (hb.mono HU.out.size))
          have HO1 : Hid (w1.ownsRow w.heap.size 69 6 u3 acc.length (rdCells acc)) := Lib.hid (own_keepD HO.out hb)
          have HD1 := Lib.hid hown.1
          have hzw := HU1.out.size
          have hla := HL.out
          clear hb hown QD HU HO
          go_wp2_with (at_builtin; refine wpList_append_rows _ rfl _ _ 26 rfl w.heap.size wr.heap.size 69 i0 _ 6 64 Tryz.underlying26 hi0 hz0 hz1 hz2 rfl (by decide) _ _ _ _ _ _ rfl rfl HO1.out HD1.out rdCells_one ?d3 ?d4 ?d5 ?_)
          case d3 => unfold maxLen; omega
          case d4 => omega
          case d5 => omega
          intro v5 w5 hown5 hgrow
          have HO5 : Hid (RowR w.heap.size w5 v5 (acc ++ dl)) := Lib.hid (by
            unfold RowR
            unfold rdCells at *
            rw [List.length_append, List.flatMap_append]
            exact hown5)
          have HB5 : Hid (Below w.heap.size w w5) := Lib.hid (HU1.out.grown hgrow hzw (fun q hq => (HO1.out.lt q hq).1))
          have HL5 : Hid ((acc ++ dl).length ≤ 4 * (s.length + 1)) := Lib.hid (by rw [List.length_append]; omega)
          clear hown5 hgrow HO1 HD1 HU1 hla hdl HL HF HIe
          go_wp2_with fail
          go_roundw
          case rel => exact ⟨s.length + 1, s.length + 1, acc ++ dl, by go_num, by go_num, by omega, by omega, Lib.hid (fun h => by omega), HL5, HA2, Lib.hid (by first | rfl | trivial), HO5, HB5⟩
          case measure => simp [intOf]
        · have hlt := lt_drop hd
          have hltI : (i : Int) < (s.length : Int) := by omega
          have hix := at_drop hd (by rw [bytes_size]; exact hlt)
          obtain ⟨a59, b59, m59⟩ : ((c.toNat : Int) == 59) = true ∧ ((c.toNat : Int) != 59) = false ∧ (c.toNat : Int) = 59 := isB (n := 59) hc (by decide)
          clear hd hc
          go_wp2_with fail
          refine (QD.out _).mono ?_
          rintro e w1 ⟨v, rfl, hb, hown⟩
          have HU1 := Lib.hid (HU.out.trans (hb.mono HU.out.size))
          have HO1 : Hid (w1.ownsRow w.heap.size 69 6 u3 acc.length (rdCells acc)) := Lib.hid (own_keepD HO.out hb)
          have HD1 := Lib.hid hown.1
          have hzw := HU1.out.size
          have hla := HL.out
          clear hb hown QD HU HO
          go_wp2_with (at_builtin; refine wpList_append_rows _ rfl _ _ 26 rfl w.heap.size wr.heap.size 69 i0 _ 6 64 Tryz.underlying26 hi0 hz0 hz1 hz2 rfl (by decide) _ _ _ _ _ _ rfl rfl HO1.out HD1.out rdCells_one ?e3 ?e4 ?e5 ?_)
          case e3 => unfold maxLen; omega
          case e4 => omega
          case e5 => omega
          intro v5 w5 hown5 hgrow
          have HO5 : Hid (RowR w.heap.size w5 v5 (acc ++ dl)) := Lib.hid (by
            unfold RowR
            unfold rdCells at *
            rw [List.length_append, List.flatMap_append]
            exact hown5)
          have HB5 : Hid (Below w.heap.size w w5) := Lib.hid (HU1.out.grown hgrow hzw (fun q hq => (HO1.out.lt q hq).1))
          have HL5 : Hid ((acc ++ dl).length ≤ 4 * (i + 1)) := Lib.hid (by rw [List.length_append]; omega)
          clear hown5 hgrow HO1 HD1 HU1 hla hdl HL HF HIe
          go_wp2_with fail
          go_roundw
          case rel => exact ⟨i + 1, i + 1, acc ++ dl, by go_num, by go_num, by omega, by omega, Lib.hid (fun h => by omega), HL5, HA2, Lib.hid (by first | rfl | trivial), HO5, HB5⟩
          case measure => simp [intOf]; omega
      · have hne : i ≠ s.length := fun h => hstop (Or.inl h)
        have hlt : i < s.length := by omega
        have hltI : (i : Int) < (s.length : Int) := by omega
        have e1 : ((i : Int) == (s.length : Int)) = false := by rw [beq_eq_false_iff_ne]; omega
        have e2 : ¬ (i : Int) = (s.length : Int) := by omega
        obtain ⟨c, t, hd⟩ := drop_cons hlt
        have hix := at_drop hd (by rw [bytes_size]; exact hlt)
        have hc : c ≠ 59 := fun h => hstop (Or.inr ⟨t, by rw [hd, h]⟩)
        obtain ⟨a59, b59, m59⟩ : ((c.toNat : Int) == 59) = false ∧ ((c.toNat : Int) != 59) = true ∧ ¬ (c.toNat : Int) = 59 := noB (n := 59) hc (by decide)
        have QN := Lib.hid (fun W => next s.length s t c i W (by omega) (by omega) hd)
        have hnp := S.nx_pos (c := c) (t := t)
        have hnl := S.nx_le (c :: t)
        have hdl := drop_len hd
        rw [List.length_cons] at hnl
        have HI2 : Hid (i + S.nx (c :: t) + S.scan [59] 0 0 (s.drop (i + S.nx (c :: t))) = f + S.scan [59] 0 0 (s.drop f)) := Lib.hid (by
          rw [← HI.out]
          conv => rhs; rw [hd, S.scan_next (by simpa using hc)]
          rw [← List.drop_drop, hd]
          omega)
        have hb2 : i + S.nx (c :: t) ≤ s.length := by omega
        generalize S.nx (c :: t) = N at *
        clear hstop hd hc HI hdl hnl
        go_wp2_with fail
        refine (QN.out _).mono ?_
        rintro e w' ⟨rfl, rfl⟩
        go_wp2_with fail
        go_roundw
        case rel => exact ⟨f, i + N, acc, rfl, rfl, by omega, by omega, Lib.hid (fun h => by omega), HL, HA, HI2, HO, HU⟩
        case measure => simp [intOf]; omega
    · have hleI : ¬ (i : Int) ≤ (s.length : Int) := by omega
      have HQ : Hid (acc = q) := Lib.hid (by
        rw [← HA.out, List.drop_eq_nil_of_le (by have := HF.out (by omega); omega), S.decls_nil, List.append_nil])
      have HOf : Hid (RowR w.heap.size wr u3 q) := Lib.hid (by rw [← HQ.out]; exact HO.out)
      clear HA HI HF HL
      obtain ⟨ao, cap, hv⟩ := HO.out.form
      generalize acc.length = n at hv
      subst hv
      go_wp2_with fail
      go_ret
      exact ⟨_, rfl, HU.out, HOf.out⟩

end V
end Go.Proofs.YtafkeolpadfjfaaGreatDoor

namespace Go.Proofs.YtafkeolpadfjfaaGreatDoor
open Go.RowKit
namespace Y
open H

set_option maxHeartbeats 4000000 in
set_option maxRecDepth 100000 in
theorem refDecls (s0 s : List UInt8) (w : World) (hs : s.length ≤ 80000) (hR : Calls Tryz.prog 69 #[.string ⟨s0.toArray⟩] w fun e w' => e = .returned (.string ⟨s.toArray⟩) ∧ Below w.heap.size w w') :
    Calls Tryz.prog 14 #[.string ⟨s0.toArray⟩] w fun e w' => ∃ v, e = .returned v ∧ Below w.heap.size w w' ∧ V.RowR w.heap.size w' v (S.decls (S.clean 0 s)) := by
  have QC := Lib.hid (V.plain s0 s w (by omega) hR)
  have hcl := S.clean_le s.length 0 s (Nat.le_refl _)
  have QD := Lib.hid (fun W => V.decls (S.clean 0 s) W (by omega))
  generalize S.clean 0 s = cs at *
  clear hR
  go_enter Tryz.func14, Tryz.ntmps14
  go_wp2_with fail
  refine QC.out.mono ?_
  rintro e w1 ⟨rfl, hb⟩
  have HB := Lib.hid hb
  have hz := hb.size
  clear hb QC
  go_wp2_with fail
  refine (QD.out _).mono ?_
  rintro e w2 ⟨v, rfl, hb, ho⟩
  have HB2 := Lib.hid (HB.out.trans (hb.mono hz))
  have HO : Hid (V.RowR w.heap.size w2 v (S.decls cs)) := Lib.hid (V.own_base ho hz)
  clear hb ho QD
  go_wp2_with fail
  go_ret
  exact ⟨_, rfl, HB2.out, HO.out⟩

set_option maxHeartbeats 16000000 in
set_option maxRecDepth 100000 in
theorem same (l : List S.Decl) (v1 v2 : Value) (B1 B2 : Nat) (w : World) (h1 : OwnD B1 w v1 l) (h2 : V.RowR B2 w v2 l) (hl : l.length ≤ 1000000) :
    Calls Tryz.prog 12 #[v1, v2] w (TruePost w) := by
  have H1 := Lib.hid h1.1
  have H2 := Lib.hid h2
  obtain ⟨a1, c1, e1⟩ := h1.form
  obtain ⟨a2, c2, e2⟩ := h2.form
  generalize hNN : l.length = N at e1 e2 hl
  have HN := Lib.hid hNN
  subst e1 e2
  clear h1 h2 hNN
  go_enter Tryz.func12, Tryz.ntmps12
  go_wp2_with fail
  go_loopw [5] (fun v5 wr => ∃ k : Nat, v5 = .int .i64 k ∧ k ≤ N ∧ Hid (Below w.heap.size w wr)) (fun v5 _ => N - (intOf v5).toNat)
  case atStart => exact ⟨0, rfl, by omega, Lib.hid (Below.refl _ _)⟩
  case round =>
    obtain ⟨k, rfl, hk, HU⟩ := hrel
    by_cases hlt : k < N
    · have hkI : (k : Int) < (N : Int) := by omega
      have hkl : k < l.length := by rw [HN.out]; exact hlt
      obtain ⟨g1, hg1⟩ : ∃ g, a1 = some ⟨g, 0, none⟩ := by
        rcases H1.out.2 with ⟨hv, h0⟩ | ⟨g, _, _, hv, _⟩
        · have := HN.out; omega
        · injection hv with q1 _ _; exact ⟨g, q1⟩
      obtain ⟨g2, hg2⟩ : ∃ g, a2 = some ⟨g, 0, none⟩ := by
        rcases H2.out.2 with ⟨hv, h0⟩ | ⟨g, _, _, hv, _⟩
        · have := HN.out; omega
        · injection hv with q1 _ _; exact ⟨g, q1⟩
      subst hg1 hg2
      have l1 := (H1.out.lt g1 rfl).2
      have l2 := (H2.out.lt g2 rfl).2
      have K1 : ∀ o, o < 5 → wr.cell? ⟨g1, k * 5 + o, none⟩ = (dcells l[k])[o]? := fun o ho => by
        rw [(HU.out.cell (p := ⟨g1, k * 5 + o, none⟩) l1)]
        have e : N = l.length := HN.out.symm
        subst e
        rw [H1.out.cellAt (k * 5 + o) (by omega)]
        exact flat_at (f := dcells) (fun _ => rfl) l k hkl o ho
      have K2 : ∀ o, o < 6 → wr.cell? ⟨g2, k * 6 + o, none⟩ = (V.rdcell l[k])[o]? := fun o ho => by
        rw [(HU.out.cell (p := ⟨g2, k * 6 + o, none⟩) l2)]
        have e : N = l.length := HN.out.symm
        subst e
        have h := H2.out
        unfold V.RowR at h
        rw [World.ownsRow.cellAt h (k * 6 + o) (by omega)]
        exact flat_at (f := V.rdcell) (fun _ => rfl) l k hkl o ho
      generalize l[k] = d at *
      obtain ⟨nm, ⟨vk, vn, vw⟩, im⟩ := d
      have x0 : wr.cell? ⟨g1, k * 5, none⟩ = some (.string ⟨nm.toArray⟩) := K1 0 (by omega)
      have x1 : wr.cell? ⟨g1, k * 5 + 1, none⟩ = some (.int .i64 (vk : Nat)) := K1 1 (by omega)
      have x2 : wr.cell? ⟨g1, k * 5 + 2, none⟩ = some (.int .i64 vn) := K1 2 (by omega)
      have x3 : wr.cell? ⟨g1, k * 5 + 3, none⟩ = some (.string ⟨vw.toArray⟩) := K1 3 (by omega)
      have x4 : wr.cell? ⟨g1, k * 5 + 4, none⟩ = some (.bool im) := K1 4 (by omega)
      have y0 : wr.cell? ⟨g2, k * 6, none⟩ = some (.string ⟨nm.toArray⟩) := K2 0 (by omega)
      have y1 : wr.cell? ⟨g2, k * 6 + 1, none⟩ = some (.int .i64 (vk : Nat)) := K2 1 (by omega)
      have y2 : wr.cell? ⟨g2, k * 6 + 2, none⟩ = some (.int .i64 vn) := K2 2 (by omega)
      have y3 : wr.cell? ⟨g2, k * 6 + 3, none⟩ = some (.string ⟨vw.toArray⟩) := K2 3 (by omega)
      have y4 : wr.cell? ⟨g2, k * 6 + 4, none⟩ = some (.bool true) := K2 4 (by omega)
      have y5 : wr.cell? ⟨g2, k * 6 + 5, none⟩ = some (.bool im) := K2 5 (by omega)
      have hz := HU.out.size
      have r1 : g1 < wr.heap.size := by omega
      have r2 : g2 < wr.heap.size := by omega
      have r3 : g1 < wr.heap.size + 1 := by omega
      have r4 : g2 < wr.heap.size + 1 := by omega
      have r5 : ¬ g1 = wr.heap.size := by omega
      have r6 : ¬ g2 = wr.heap.size := by omega
      have r7 : ¬ g1 = wr.heap.size + 1 := by omega
      have r8 : ¬ g2 = wr.heap.size + 1 := by omega
      clear K1 K2 hkl
      go_wp2_with fail
      go_region
      all_goals
        have HB2 : Hid (Below w.heap.size w ((wr.alloc (.cells #[.string ⟨nm.toArray⟩, .int .i64 (vk : Nat), .int .i64 vn, .string ⟨vw.toArray⟩, .bool im] 40)).alloc (.cells #[.string ⟨nm.toArray⟩, .int .i64 (vk : Nat), .int .i64 vn, .string ⟨vw.toArray⟩, .bool true, .bool im] 69)).drew) := Lib.hid (((HU.out.alloc hz _).alloc (by simp; omega) _).drew)
        have HB3 : Hid (Below w.heap.size w ((wr.alloc (.cells #[.string ⟨nm.toArray⟩, .int .i64 (vk : Nat), .int .i64 vn, .string ⟨vw.toArray⟩, .bool true, .bool im] 69)).alloc (.cells #[.string ⟨nm.toArray⟩, .int .i64 (vk : Nat), .int .i64 vn, .string ⟨vw.toArray⟩, .bool im] 40)).drew) := Lib.hid (((HU.out.alloc hz _).alloc (by simp; omega) _).drew)
        go_wp2_with fail
        go_roundw
        case rel => exact ⟨k + 1, by go_num, by omega, by first | exact HB2 | exact HB3⟩
        case measure => simp [intOf]; omega
    · obtain rfl : N = k := by omega
      have hkI : ¬ (N : Int) < (N : Int) := by omega
      go_wp2_with fail
      go_ret
      exact ⟨rfl, HU.out⟩

end Y
end Go.Proofs.YtafkeolpadfjfaaGreatDoor

namespace Go.Proofs.YtafkeolpadfjfaaGreatDoor
open Go.RowKit
namespace Y
open H

/-- All bytes lie below 128. -/
def AscAll (t : ByteArray) : Prop := ∀ b ∈ t.data.toList, b.toNat < 128
theorem AscAll.drop {t : ByteArray} (h : AscAll t) (k : Nat) : AscAll (t.extract k t.size) := fun b hb => by
  rw [Lib.ext_list] at hb
  exact h b (List.mem_of_mem_drop hb)
theorem AscAll.head {t : ByteArray} (h : AscAll t) (h0 : 0 < t.size) : (t.get! 0).toNat < 128 := by
  rw [Utf8W.get!_of_lt t 0 h0]
  exact h _ (by simp [ByteArray.getElem_eq_getElem_data])
/-- Eight bytes as a word: none has its high bit. -/
theorem ascWord (t : ByteArray) (h8 : 8 ≤ t.size) (h : AscAll t) : ∃ A : Nat, A < 18446744073709551616 ∧ A &&& 9259542123273814144 = 0 ∧
    ∀ W, Calls Tryz.prog 144 #[.string t] W fun e w' => e = .returned (.int .u64 A) ∧ ∃ q, w' = W.drewN q :=
  ⟨_, Lib.word_lt t, (Lib.word_asc t h8).2 (fun b hb => h b (List.mem_of_mem_take hb)), fun W => Any.utf8_word { Tryz.lays196 with } t W h8⟩
theorem belowN {B : Nat} {a w : World} (h : Below B a w) : ∀ q, Below B a (w.drewN q)
  | 0 => h
  | q + 1 => (belowN h q).drew

set_option maxHeartbeats 16000000 in
set_option maxRecDepth 1000000 in
theorem ascShort (s : ByteArray) (w : World) (hs : s.size ≤ 25) (hA : AscAll s) :
    Calls Tryz.prog 107 #[.string s] w fun e w' => e = .returned (.bool true) ∧ Below w.heap.size w w' := by
  have mixed : Tryz.prog.follows Departure.mixedOrders = true := by kernel_rfl
  go_enter Tryz.func107, Tryz.ntmps107
  go_wp2_with fail
  go_loopg [0] (s.size + 1) (fun gk s0 wx => Below w.heap.size w wx ∧ ∃ t : ByteArray, s0 = .string t ∧ AscAll t ∧ t.size < gk ∧ t.size ≤ 25)
  case atStart => exact ⟨Below.refl _ _, s, rfl, hA, by omega, hs⟩
  case round =>
    obtain ⟨hbw, t, rfl, hv, hg, hts⟩ := hrel
    clear hA
    by_cases h0 : 0 < t.size
    · obtain ⟨g', rfl⟩ : ∃ g', gk = g' + 1 := ⟨gk - 1, by omega⟩
      have h0z : (0 : Int) < (t.size : Int) := by omega
      have hasc := hv.head h0
      obtain ⟨x0, hx0⟩ : ∃ x0, t.get! 0 = x0 := ⟨_, rfl⟩
      have hs0 : t[0]'(by omega) = x0 := by rw [← hx0]; exact (Utf8W.get!_of_lt t 0 (by omega)).symm
      rw [hx0] at hasc
      have hascz : (x0.toNat : Int) < 128 := by omega
      have v1 := hv.drop 1
      obtain ⟨t1, ht1⟩ : ∃ t1, t.extract 1 t.size = t1 := ⟨_, rfl⟩
      have z1 : t1.size + 1 = t.size := by rw [← ht1, Lib.ext_size]; omega
      rw [ht1] at v1
      clear hv hasc
      by_cases c8 : 8 < t1.size
      · have c8z : (8 : Int) < (t1.size : Int) := by omega
        obtain ⟨A1, lA1, mA1, cW1⟩ := ascWord t1 (by omega) v1
        obtain ⟨Z1, hZ1⟩ : ∃ Z1 : Nat, Z1 = 0 := ⟨0, rfl⟩
        have hz1b : ((Z1 : Int) == 0) = true := by rw [hZ1]; rfl
        have hand1 : bits .and .u64 (A1 : Int) 9259542123273814144 = (Z1 : Int) := by rw [hZ1]; exact (u64_and_nat A1 9259542123273814144 lA1 (by omega)).trans (congrArg Int.ofNat mA1)
        have v2 := v1.drop 8
        obtain ⟨t2, ht2⟩ : ∃ t2, t1.extract 8 t1.size = t2 := ⟨_, rfl⟩
        have z2 : t2.size + 8 = t1.size := by rw [← ht2, Lib.ext_size]; omega
        rw [ht2] at v2
        clear v1 mA1 lA1
        go_wp2_with (go_at_call 144; refine (cW1 _).mono ?_; rintro e W1 ⟨rfl, q1, rfl⟩)
        have hb1 : Below w.heap.size w (wr.drewN q1) := belowN hbw q1
        generalize wr.drewN q1 = wq at hb1 ⊢
        clear cW1 hbw
        have c16z : ¬ ((16 : Int) < (t2.size : Int)) := by omega
        have c16b : decide ((16 : Int) < (t2.size : Int)) = false := decide_eq_false c16z
        go_big_quiet_o (fail)
        go_wp2_with fail
        go_roundg g'
        case measure => omega
        case rel => exact ⟨belowN hb1 nq, t2, rfl, v2, by omega, by omega⟩
      · have c8z : ¬ ((8 : Int) < (t1.size : Int)) := by omega
        go_wp2_with fail
        go_roundg g'
        case measure => omega
        case rel => exact ⟨hbw, t1, rfl, v1, by omega, by omega⟩
    · have h0z : ¬ (0 : Int) < (t.size : Int) := by omega
      go_wp2_with fail
      go_ret
      exact ⟨rfl, hbw⟩

set_option maxHeartbeats 400000 in
theorem ascRepair25 (s : List UInt8) (w : World) (hs : s.length ≤ 25) (hA : ∀ b ∈ s, b.toNat < 128) :
    Calls Tryz.prog 65 #[.string ⟨s.toArray⟩] w fun e w' => e = .returned (.string ⟨s.toArray⟩) ∧ Below w.heap.size w w' := by
  have hv := Lib.hid (ascShort ⟨s.toArray⟩ w (by rw [bytes_size]; omega) (fun b hb => hA b (by rw [bytes_toList] at hb; exact hb)))
  go_enter Tryz.func65, Tryz.ntmps65
  go_wp2_with (go_at_call 107; refine hv.out.mono ?_)
  rintro e w1 ⟨rfl, b1⟩
  go_wp2_with fail
  go_ret
  exact ⟨rfl, b1⟩

end Y
end Go.Proofs.YtafkeolpadfjfaaGreatDoor

namespace Go.Proofs.YtafkeolpadfjfaaGreatDoor
open Go.ChangeShapes Go.WideShapes Go.ChangeAt Go.RowKit Go.Shelf
namespace Y
open H

theorem bytes_mk (s : ByteArray) : s = ⟨s.data.toList.toArray⟩ := by cases s; simp
theorem u64_of (g : Nat) {W : World} {n : String} {d : DataW Unit} (hr : Lib.VarReads Tryz.prog W n d) (hgn : Tryz.prog.globalNamed n = some g) : g < W.heap.size := by
  obtain ⟨g', t, cs, fuel, p, hg, hty, hv, hd⟩ := hr
  obtain rfl := Option.some.inj (hgn.symm.trans hg)
  unfold World.var? at hv
  rw [hgn] at hv
  simp only [Option.bind_some] at hv
  rcases Nat.lt_or_ge g W.heap.size with h' | h'
  · exact h'
  · rw [Array.getElem?_eq_none h'] at hv; simp at hv

theorem asc_of {W : World} (hr : Lib.VarReads Tryz.prog W "strings.asciiSpace" (Rows.laid_strings_asciiSpace : DataW Unit)) : Asc W := by
  have e : (Rows.laid_strings_asciiSpace : DataW Unit) = Lib.tabData .u8 Lib.asciiSpaceTab := by kernel_rfl
  obtain ⟨g, t, cs, fuel, p, hg, hty, hv, hd⟩ := hr
  rw [e] at hd
  have hgn : Tryz.prog.globalNamed "strings.asciiSpace" = some 1 := by kernel_rfl
  obtain rfl := Option.some.inj (hgn.symm.trans hg)
  have hty' : (Tryz.prog.globals[1]?).map (·.type) = some 158 := by kernel_rfl
  obtain rfl := Option.some.inj (hty'.symm.trans hty)
  have := Lib.cells_of_tab (P := Tryz.prog) (n := 256) Tryz.underlying158 Tryz.underlying5 (by kernel_rfl) (by kernel_rfl) hd
  unfold Asc Lib.TabIs
  rw [hv, ← this]

theorem pow_of {W : World} (hr : Lib.VarReads Tryz.prog W "internal/strconv.uint64pow10" (Rows.laid_internal_strconv_uint64pow10 : DataW Unit)) : Pow W := by
  have e : (Rows.laid_internal_strconv_uint64pow10 : DataW Unit) = Lib.tabData .u64 Lib.pow10Tab := by kernel_rfl
  obtain ⟨g, t, cs, fuel, p, hg, hty, hv, hd⟩ := hr
  rw [e] at hd
  have hgn : Tryz.prog.globalNamed "internal/strconv.uint64pow10" = some 7 := by kernel_rfl
  obtain rfl := Option.some.inj (hgn.symm.trans hg)
  have hty' : (Tryz.prog.globals[7]?).map (·.type) = some 232 := by kernel_rfl
  obtain rfl := Option.some.inj (hty'.symm.trans hty)
  have := Lib.cells_of_tab (P := Tryz.prog) (n := 20) Tryz.underlying232 Tryz.underlying198 (by kernel_rfl) (by kernel_rfl) hd
  unfold Pow Lib.TabIs
  rw [hv, ← this]

theorem utf_of {W : World} (r1 : Lib.VarReads Tryz.prog W "unicode/utf8.first" (Rows.laid_unicode_utf8_first : DataW Unit)) (r2 : Lib.VarReads Tryz.prog W "unicode/utf8.acceptRanges" (Rows.laid_unicode_utf8_acceptRanges : DataW Unit)) : Lib.Utf8Tabs 3 4 W := by
  have e1 : Rows.laid_unicode_utf8_first = Lib.firstData := by kernel_rfl
  have e2 : (Rows.laid_unicode_utf8_acceptRanges : DataW Unit) = Lib.acceptData := by kernel_rfl
  rw [e1] at r1
  rw [e2] at r2
  exact utf8Tabs_of_readsT (U8Types.of196 Tryz.lays196) ⟨by kernel_rfl, by kernel_rfl, by kernel_rfl, by kernel_rfl, by kernel_rfl, by kernel_rfl, by kernel_rfl⟩ r1 r2

set_option maxRecDepth 100000 in
theorem tab_of {W : World} (hr : Lib.VarReads Tryz.prog W "knapsack/style.table" (Rows.laid_knapsack_style_table : DataW Unit)) : W.rangeAt 0 0 tcs := by
  have e : (Rows.laid_knapsack_style_table : DataW Unit) = .agg (S.tab.map fun r => .agg [.lit (.string r.1), .lit (.int .i64 r.2.1), .lit (.string (joinW r.2.2))]) := by kernel_rfl
  obtain ⟨g, t, cs, fuel, p, hg, hty, hv, hd⟩ := hr
  rw [e] at hd
  have hgn : Tryz.prog.globalNamed "knapsack/style.table" = some 0 := by kernel_rfl
  obtain rfl := Option.some.inj (hgn.symm.trans hg)
  have hty' : (Tryz.prog.globals[0]?).map (·.type) = some 72 := by kernel_rfl
  obtain rfl := Option.some.inj (hty'.symm.trans hty)
  obtain ⟨xs, m, rfl, hx, hcl, hxl, hf⟩ := DataW.trod_array Tryz.underlying72 hd
  have hc3 : Tryz.prog.cellsOf 71 = 3 := by kernel_rfl
  have hc1 : Tryz.prog.cellsOf 9 = 1 := by kernel_rfl
  have hci : Tryz.prog.cellsOf 3 = 1 := by kernel_rfl
  rw [hc3] at hf
  have hxs : xs.map (·.1) = S.tab.map fun r => (.agg [.lit (.string r.1), .lit (.int .i64 r.2.1), .lit (.string (joinW r.2.2))] : DataW Unit) := by
    have := congrArg Prod.fst hx
    simpa using this.symm
  have hcell : ∀ i, i < 37 → cs.toList[i * 3]? = some (.string ⟨(trow i).1.toArray⟩) ∧ cs.toList[i * 3 + 1]? = some (.int .i64 ((trow i).2.1 : Nat)) ∧ cs.toList[i * 3 + 2]? = some (.string ⟨(joinW (trow i).2.2).toArray⟩) := by
    intro i hi
    have hxi : i < xs.length := by omega
    have h1 := hf i hi
    rw [List.getElem?_eq_getElem hxi] at h1
    obtain ⟨y0, y1, y2, n, hy, _, hy0, hy1, hy2⟩ := Go.Deep.trod_struct3 Tryz.underlying71 h1
    have h2 : (xs.map (·.1))[i]? = some (xs[i].1) := by simp [hxi]
    have hti := trow_at i hi
    rw [hxs, List.getElem?_map, hti] at h2
    generalize trow i = tr at *
    have h3 := Option.some.inj h2
    rw [hy] at h3
    injection h3 with h3
    injection h3 with g0 h3
    injection h3 with g1 h3
    injection h3 with g2 _
    obtain ⟨s0, hs0, hz0, _⟩ := DataW.trod_string Tryz.underlying9 hy0
    obtain ⟨s1, hs1, hz1, _⟩ := DataW.trod_int Tryz.underlying3 hy1
    obtain ⟨s2, hs2, hz2, _⟩ := DataW.trod_string Tryz.underlying9 hy2
    rw [hz0] at g0
    rw [hz1] at g1
    rw [hz2] at g2
    have q0 : s0.data.toList = tr.1 := by injection g0 with g0; injection g0 with g0; exact g0.symm
    have q1 : s1 = (tr.2.1 : Int) := by injection g1 with g1; injection g1 with g1 g2; exact g2.symm
    have q2 : s2.data.toList = joinW tr.2.2 := by injection g2 with g2; injection g2 with g2; exact g2.symm
    have b0 : (⟨tr.1.toArray⟩ : ByteArray) = s0 := by rw [← q0]
    have b2 : (⟨(joinW tr.2.2).toArray⟩ : ByteArray) = s2 := by rw [← q2]
    rw [b0, b2, ← q1]
    dsimp only at hs0 hs1 hs2
    rw [hc1] at hs0 hs2
    rw [hci] at hs1
    have u0 := congrArg (fun l : List Value => l[0]?) hs0
    have u1 := congrArg (fun l : List Value => l[0]?) hs1
    have u2 := congrArg (fun l : List Value => l[0]?) hs2
    simp [List.getElem?_take, List.getElem?_drop] at u0 u1 u2
    simp
    exact ⟨u0, u1, u2⟩
  have hcW : ∀ j, W.cell? ⟨0, j, none⟩ = cs.toList[j]? := fun j => by
    have := World.var?_cell hgn hv j
    simpa using this
  intro j v hj
  rw [Nat.zero_add, hcW]
  have hjl : j < 111 := by
    have := (List.getElem?_eq_some_iff.1 hj).1
    rw [tcs_len] at this; exact this
  obtain ⟨c0, c1, c2⟩ := hcell (j / 3) (by omega)
  have hfl := flat_at (f := rcells) (size := 3) (fun _ => rfl) S.tab (j / 3) (by rw [tab_len]; omega) (j % 3) (by omega)
  rw [show j / 3 * 3 + j % 3 = j by omega] at hfl
  have hti := trow_at (j / 3) (by omega)
  rw [List.getElem?_eq_getElem (by rw [tab_len]; omega)] at hti
  rw [Option.some.inj hti] at hfl
  rw [show S.tab.flatMap rcells = tcs from rfl, hj] at hfl
  rw [hfl]
  have hm : j % 3 = 0 ∨ j % 3 = 1 ∨ j % 3 = 2 := by omega
  rcases hm with h | h | h
  · rw [h]; rw [show j = j / 3 * 3 by omega, c0]
    rw [show j / 3 * 3 / 3 = j / 3 by omega]; rfl
  · rw [h]; rw [show j = j / 3 * 3 + 1 by omega, c1]
    rw [show (j / 3 * 3 + 1) / 3 = j / 3 by omega]; rfl
  · rw [h]; rw [show j = j / 3 * 3 + 2 by omega, c2]
    rw [show (j / 3 * 3 + 2) / 3 = j / 3 by omega]; rfl

theorem yenv_of {W : World} (r1 : Lib.VarReads Tryz.prog W "strings.asciiSpace" (Rows.laid_strings_asciiSpace : DataW Unit)) (r2 : Lib.VarReads Tryz.prog W "knapsack/style.table" (Rows.laid_knapsack_style_table : DataW Unit)) : YEnv W :=
  ⟨asc_of r1, tab_of r2, u64_of _ r1 (by kernel_rfl), u64_of _ r2 (by kernel_rfl)⟩

theorem max_of {w : World} (h : w.ShapedOpen Tryz.prog) : HasMax w := by
  obtain ⟨m, hm⟩ := cell_of_shapedOpen_int (zero := #[.int .i64 0]) (t := 3) (g := 6) (k := .i64) h (of_decide_eq_true (by kernel_rfl)) (by kernel_rfl) rfl (by kernel_rfl) (by kernel_rfl) Tryz.underlying3
  refine ⟨⟨m, hm⟩, ?_⟩
  rcases Nat.lt_or_ge 6 w.heap.size with h' | h'
  · exact h'
  · simp [World.cell?, Array.getElem?_eq_none h'] at hm

/-- The cells of a table of numbers. -/
def litCells (d : DataW Unit) : Array Value := match d with
  | .agg l => (l.filterMap fun | .lit (.int k z) => some (Value.int k z) | _ => none).toArray
  | _ => #[]

/-- A world for the witness: the settled one, the tables holding what their texts lay. -/
noncomputable def laidWorld (os : Os) : World :=
  let w0 := World.settled Tryz.prog os
  let put (h : Array Obj) (g : Nat) (cs : Array Value) : Array Obj := h.modify g fun
    | .cells _ t frozen => .cells cs t frozen
    | o => o
  let h1 := put w0.heap 3 (Lib.firstTab.map fun z => Value.int .u8 z).toArray
  let h2 := put h1 4 ((List.range 16).flatMap fun i => [Value.int .u8 (Lib.accLo i), Value.int .u8 (Lib.accHi i)]).toArray
  let h3 := put h2 7 (Lib.pow10Tab.map fun z => Value.int .u64 z).toArray
  let h4 := put h3 1 (Lib.asciiSpaceTab.map fun z => Value.int .u8 z).toArray
  let h5 := put h4 0 tcs.toArray
  let h7 := put h5 10 (litCells Rows.laid_math_bits_deBruijn32tab)
  let h8 := put h7 11 (litCells Rows.laid_math_bits_deBruijn64tab)
  { w0 with heap := h8 }

end Y
end Go.Proofs.YtafkeolpadfjfaaGreatDoor

namespace Go.Proofs.YtafkeolpadfjfaaGreatDoor
open Go.ChangeShapes Go.WideShapes Go.ChangeAt Go.RowKit Go.Shelf
namespace Y
open H

theorem red_ok : Repairs redText redText := fun w => ascRepair25 redText w (by decide) (by decide)
theorem declsN_len : ∀ (n : Nat) (s : List UInt8), (S.declsN n s).length ≤ 4 * (s.length + 1)
  | 0, s => by unfold S.declsN; simp
  | n + 1, s => by
    unfold S.declsN
    split
    · simp
    · rename_i h
      have h1 := V.declOf_len (s.take (S.scan [59] 0 0 s))
      have h2 := declsN_len n (s.drop (S.scan [59] 0 0 s + 1))
      rw [List.length_append]
      rw [List.length_drop] at h2
      have : 0 < s.length := List.length_pos_iff.2 h
      omega
theorem decls_len (s : List UInt8) : (S.decls s).length ≤ 4 * (s.length + 1) := declsN_len _ s

set_option maxHeartbeats 8000000 in
set_option maxRecDepth 100000 in
theorem StyleDecls (s0 s : List UInt8) (w : World) (hs : s.length ≤ 3 * s0.length) (hM : HasMax w) (hE : YEnv w)
    (hR1 : ∀ W, Below w.heap.size w W → s0.length ≤ 1000 → Calls Tryz.prog 65 #[.string ⟨s0.toArray⟩] W fun e w' => e = .returned (.string ⟨s.toArray⟩) ∧ Below W.heap.size W w')
    (hR2 : ∀ W, s0.length ≤ 1000 → Calls Tryz.prog 69 #[.string ⟨s0.toArray⟩] W fun e w' => e = .returned (.string ⟨s.toArray⟩) ∧ Below W.heap.size W w') :
    Calls Tryz.prog 3 #[.string ⟨s0.toArray⟩] w (TruePost w) := by
  have HE := Lib.hid hE
  have HM := Lib.hid hM
  have hg1 := hE.big
  have hg2 := hE.big2
  have hMz := hM.2
  have QA := Lib.hid (fun W (h : Below w.heap.size w W) => awake W red_ok (HM.out.below h hMz) (HE.out.below h hg1 hg2))
  have zs := bytes_size s0
  have HR1 := Lib.hid hR1
  have HR2 := Lib.hid hR2
  clear hM hE hR1 hR2
  by_cases hl : 1000 < s0.length
  · have e1 : (1000 : Int) < (s0.length : Int) := by omega
    have f1 : decide ((1000 : Int) < (s0.length : Int)) = true := decide_eq_true e1
    go_enter Tryz.func3, Tryz.ntmps3
    go_wp2_with fail
    refine (QA.out _ (Below.refl _ _)).mono ?_
    rintro e w1 ⟨rfl, hb⟩
    have HB := Lib.hid hb
    have Q2 := Lib.hid (QA.out w1 hb)
    clear hb QA
    go_wp2_with fail
    refine Q2.out.mono ?_
    rintro e w2 ⟨rfl, hb⟩
    have HB2 := Lib.hid (HB.out.trans (hb.mono HB.out.size))
    clear hb Q2
    go_wp2_with fail
    go_ret
    exact ⟨rfl, HB2.out⟩
  · have e1 : ¬ (1000 : Int) < (s0.length : Int) := by omega
    have f1 : decide ((1000 : Int) < (s0.length : Int)) = false := decide_eq_false e1
    have hcl := S.clean_le s.length 0 s (Nat.le_refl _)
    have QD := Lib.hid (fun W (h : Below w.heap.size w W) => Decls s0 s W (by omega) (HR1.out W h (by omega)) (HM.out.below h hMz) (HE.out.below h hg1 hg2) (fun i v W2 hi hv hW => expand _ v W2 (by
      have h1 := (colonP_len (pieceAt (S.clean 0 s) i)).1
      unfold nameAt
      have h2 := S.trim_len (S.lower (S.colonP (pieceAt (S.clean 0 s) i)).1)
      rw [lower_len] at h2
      have h3 : (pieceAt (S.clean 0 s) i).length ≤ (S.clean 0 s).length := by unfold pieceAt; rw [List.length_take, List.length_drop]; omega
      omega) hv hW))
    have QF := Lib.hid (fun W => refDecls s0 s W (by omega) (HR2.out W (by omega)))
    have hdl := decls_len (S.clean 0 s)
    have QS := Lib.hid (fun v1 v2 B1 B2 W h1 h2 => same (S.decls (S.clean 0 s)) v1 v2 B1 B2 W h1 h2 (by omega))
    generalize S.decls (S.clean 0 s) = l at *
    clear hl hcl HR1 HR2 hdl
    go_enter Tryz.func3, Tryz.ntmps3
    go_wp2_with fail
    refine (QA.out _ (Below.refl _ _)).mono ?_
    rintro e w1 ⟨rfl, hb⟩
    have HB := Lib.hid hb
    have Q2 := Lib.hid (QD.out w1 hb)
    clear hb QA QD
    go_wp2_with fail
    refine Q2.out.mono ?_
    rintro e w2 ⟨v1, rfl, hb, ho⟩
    have HB2 := Lib.hid (HB.out.trans (hb.mono HB.out.size))
    have HO1 := Lib.hid ho
    clear hb ho Q2 HB
    go_wp2_with fail
    refine (QF.out _).mono ?_
    rintro e w3 ⟨v2, rfl, hb, ho⟩
    have HB3 := Lib.hid (HB2.out.trans (hb.mono HB2.out.size))
    have HO2 := Lib.hid (HO1.out.keep hb)
    have QX := Lib.hid (QS.out v1 v2 _ _ w3 HO2.out ho)
    clear hb ho QF QS HB2 HO1
    go_wp2_with fail
    refine QX.out.mono ?_
    rintro e w4 ⟨rfl, hb⟩
    have HB4 := Lib.hid (HB3.out.trans (hb.mono HB3.out.size))
    clear hb QX
    go_wp2_with fail
    go_ret
    exact ⟨rfl, HB4.out⟩

theorem declsC (s0 : List UInt8) (W : World) (hL : laidMetH Tryz.prog Rows.styleDeclsRow.laid W) (hsh : W.ShapedOpen Tryz.prog) :
    Calls Tryz.prog 3 #[.string ⟨s0.toArray⟩] W (TruePost W) := by
  have r1 := Lib.laidMet.reads hL (.tail _ (.head _))
  have r2 := Lib.laidMet.reads hL (.tail _ (.tail _ (.head _)))
  have r3 := Lib.laidMet.reads hL (.tail _ (.tail _ (.tail _ (.head _))))
  have r4 := Lib.laidMet.reads hL (.tail _ (.tail _ (.tail _ (.tail _ (.head _)))))
  have r5 := Lib.laidMet.reads hL (.tail _ (.tail _ (.tail _ (.tail _ (.tail _ (.head _))))))
  have hz : 11 < W.heap.size := u64_of _ r1 (by kernel_rfl)
  have hU : T.Tabs W := ⟨utf_of r5 r2, by omega⟩
  refine StyleDecls s0 (U.rep s0) W (U.rep_le s0) (max_of hsh) (yenv_of r3 r4) (fun W2 hb hs => ?_) (fun W2 hs => ?_)
  · have := T.Repair ⟨s0.toArray⟩ W2 (by rw [bytes_size]; omega) (hU.below hb)
    rw [bytes_toList] at this
    exact this
  · have := T.refRepair ⟨s0.toArray⟩ W2 (by rw [bytes_size]; omega)
    rw [bytes_toList] at this
    exact this

end Y
end Go.Proofs.YtafkeolpadfjfaaGreatDoor

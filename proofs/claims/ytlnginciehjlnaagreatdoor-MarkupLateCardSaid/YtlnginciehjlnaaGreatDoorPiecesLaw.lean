/- The statement MarkupPieces: it returns true at every slice of strings. -/
import Derived.Test.YtlnginciehjlnaaGreatDoorFin
import Derived.Test.YtlnginciehjlnaaGreatDoorEnv
import Derived.Deep.AppendSrc
import Derived.Deep.Upon
set_option linter.unusedVariables false
set_option linter.unusedSimpArgs false
namespace Go.Proofs.YtlnginciehjlnaaGreatDoor
open Go.RowKit
namespace M

theorem all_len : ∀ (n : Nat) (raw s : List UInt8), (all n raw s).length ≤ s.length
  | 0, _, _ => by unfold all; simp
  | n + 1, raw, s => by
    unfold all
    split
    · simp
    · rename_i hs
      have hf := step_fits raw s true (ne_len hs) (step_true raw s)
      have ih := all_len n (step raw s true).2 (s.drop (step raw s true).1.n)
      rw [List.length_drop] at ih
      split
      · omega
      · rw [List.length_cons]; omega
theorem run_len (raw s : List UInt8) : (run raw s).length ≤ s.length := all_len _ raw s

end M
namespace K

/-- 'append(v, x...)' of two rows that the call owns. -/
theorem run_append_two {P : Program} (w : World) (base base2 : Nat) (t ty e : TypeId) (i : TypeInfo) (z : Value) (size bytes : Nat) (ht : P.underlying t = some (.slice e)) (hi : P.info? e = some i) (hz : i.zero = some z)
    (hsize : i.size = size) (hby : i.bytes = bytes) (hzs : z.cells.size = size) (hsz : 0 < size)
    (v x : Value) (n m : Nat) (xs ys : List Value) (hown : w.ownsRow base e size v n xs) (hown2 : w.ownsRow base2 e size x m ys) (h1 : ∀ u ∈ ys, u.oneCell' = true)
    (h63 : n + m ≤ maxLen) (hbytes : (n + m) * bytes ≤ 140737488355328) (hbase : base ≤ w.heap.size) :
    ∃ v' w', (Builtin.append_ #[t, t] ty #[v, x]).run P w = .ok v' w' ∧ w'.ownsRow base e size v' (n + m) (xs ++ ys) ∧ w.grownBy w' v.ownBlock := by
  rcases hown2.2 with ⟨rfl, rfl⟩ | ⟨g2, cap2, cur2, rfl, hb2, hg2, hn2, hm2, hc2, ht2⟩
  · have hy : ys = [] := List.eq_nil_of_length_eq_zero (by simpa using hown2.1)
    subst hy
    have hsame : w.grownBy w v.ownBlock := ⟨rfl, rfl, rfl, Nat.le_refl _, fun _ _ _ => rfl⟩
    rcases hown.2 with ⟨rfl, rfl⟩ | ⟨g, cap, cur, rfl, hb, hg, hn, hm, hc, htk⟩
    · exact ⟨_, _, run_append_nothing w t t ty e i ht hi none 0 0 (Nat.le_refl _) _ (Src.ofNil w ht 0), by simpa using hown, hsame⟩
    · exact ⟨_, _, run_append_nothing w t t ty e i ht hi _ n cap hn _ (Src.ofNil w ht 0), by simpa using hown, hsame⟩
  · obtain ⟨v', w', hr, ho, hg, _⟩ := run_append_own (P := P) w base t ty e i z size bytes ht hi hz hsize hby hzs hsz v n xs hown ⟨g2, 0, none⟩ m cap2 ys hown2.1 (hown2.cells (g := g2) rfl) h1 h63 hbytes hbase
    exact ⟨v', w', hr, ho, hg⟩

theorem wpList_append_two {P : Program} (w : World) {ops : Array Oper} {rest : List Oper} {o : Oper} {a : Act} {Q : Exit → Act → World → Prop} (hgd : o.guard = none) (s x : Operand) (t : TypeId)
    (ho : o.op = .call { callee := .builtin .append, args := #[s, x], argTypes := #[t, t] })
    (base base2 : Nat) (e : TypeId) (i : TypeInfo) (z : Value) (size bytes : Nat) (ht : P.underlying t = some (.slice e)) (hi : P.info? e = some i) (hz : i.zero = some z)
    (hsize : i.size = size) (hby : i.bytes = bytes) (hzs : z.cells.size = size) (hsz : 0 < size)
    (v xv : Value) (n m : Nat) (xs ys : List Value) (hs : a.eval s = v) (hx : a.eval x = xv) (hown : w.ownsRow base e size v n xs) (hown2 : w.ownsRow base2 e size xv m ys) (h1 : ∀ u ∈ ys, u.oneCell' = true)
    (h63 : n + m ≤ maxLen) (hbytes : (n + m) * bytes ≤ 140737488355328) (hbase : base ≤ w.heap.size)
    (h : ∀ v' w', w'.ownsRow base e size v' (n + m) (xs ++ ys) → w.grownBy w' v.ownBlock → wpList P ops Q rest (a.put o.dst v') w') : wpList P ops Q (o :: rest) a w :=
  wpList_plain hgd fun _ hK => by
    obtain ⟨v', w', hr, h2, h3⟩ := run_append_two (P := P) w base base2 t o.type e i z size bytes ht hi hz hsize hby hzs hsz v xv n m xs ys hown hown2 h1 h63 hbytes hbase
    unfold Oper.wp execOp
    simp only [ho, resolve, invoke, builtin, Sem.run_bind, Sem.run_pure, Result.andThen_ok, List.map_toArray, List.map_cons, List.map_nil, hs, hx, hr]
    exact hK _ _ (h v' w' h2 h3)

theorem tcells_one {w : World} {base : Nat} {L : List (M.Tok × Value)} (hA : ∀ p ∈ L, HasAttrs base p.2 p.1.attrs w) : ∀ u ∈ tcells L, u.oneCell' = true := by
  intro u hu
  obtain ⟨p, hp, hu⟩ := List.mem_flatMap.1 hu
  obtain ⟨ao, cap, hv, _⟩ := own_slice (hA p hp)
  simp at hu
  rcases hu with rfl | rfl | rfl | rfl | rfl
  · rfl
  · rfl
  · rw [hv]; rfl
  · rfl
  · rfl

/-- Two rows of tokens, one behind the other. -/
theorem toks_two {base base2 : Nat} {v v' : Value} {L L2 : List (M.Tok × Value)} {w w' : World} (ho : w.ownsRow base 30 5 v L.length (tcells L)) (hA : ∀ p ∈ L, HasAttrs base p.2 p.1.attrs w) (hA2 : ∀ p ∈ L2, HasAttrs base2 p.2 p.1.attrs w) (hb : base ≤ base2)
    (hown : w'.ownsRow base 30 5 v' (L.length + L2.length) (tcells L ++ tcells L2)) (hg : w.grownBy w' v.ownBlock) :
    HasToks base v' (L.map (·.1) ++ L2.map (·.1)) w' := by
  have hne : 39 ≠ 30 := by decide
  refine ⟨L ++ L2, by simp, by rw [tcells_append, List.length_append]; exact hown, fun p hp => ?_⟩
  rcases List.mem_append.1 hp with hp | hp
  · exact (hA p hp).kept hg (own_apart (hA p hp) ho hne)
  · exact own_mono (World.ownsRow.kept (hA2 p hp) hg (own_apart (hA2 p hp) ho hne)) hb

/-- What the pieces give so far: all is their text; got the tokens that were taken; rest, raw, d, ret the tokenizer's state. -/
def PInv (all : List UInt8) (got : List M.Tok) (rest raw d : List UInt8) (ret : Bool) : Prop := ∀ y, M.run [] (U.nlr false (U.rep (all ++ y))) = got ++ M.run raw (rest ++ U.nlr ret (U.rep (d ++ y)))

theorem PInv.start : PInv [] [] [] [] [] false := fun y => rfl
theorem PInv.feed {all : List UInt8} {got : List M.Tok} {rest raw d : List UInt8} {ret : Bool} (h : PInv all got rest raw d ret) (s : List UInt8) :
    PInv (all ++ s) got (rest ++ U.nlr ret (U.rep ((d ++ s).take (U.fcut (d ++ s))))) raw ((d ++ s).drop (U.fcut (d ++ s))) (U.last13 ret (U.rep ((d ++ s).take (U.fcut (d ++ s))))) := fun y => by
  rw [List.append_assoc, h (s ++ y), ← List.append_assoc d s y, U.fcut_rep (d ++ s) y, U.nlr_append, List.append_assoc]
theorem PInv.next {all : List UInt8} {got : List M.Tok} {rest raw d : List UInt8} {ret : Bool} (h : PInv all got rest raw d ret) {n : Nat} (hn : rest.length < n) :
    match (M.steps n false raw rest).1 with
    | some t => PInv all (got ++ [t]) (M.steps n false raw rest).2.2 (M.steps n false raw rest).2.1 d ret ∧ (M.steps n false raw rest).2.2.length < rest.length
    | none => PInv all got (M.steps n false raw rest).2.2 (M.steps n false raw rest).2.1 d ret ∧ (M.steps n false raw rest).2.2.length ≤ rest.length := by
  have hs := fun y => M.steps_false (U.nlr ret (U.rep (d ++ y))) n raw rest hn
  generalize M.steps n false raw rest = X at *
  obtain ⟨o, r1, s1⟩ := X
  unfold M.Took at hs
  cases o with
  | none => exact ⟨fun y => by rw [h y, (hs y).1], (hs []).2⟩
  | some t => exact ⟨fun y => by rw [h y, (hs y).1]; simp, (hs []).2.1⟩
theorem PInv.now {all : List UInt8} {got : List M.Tok} {rest raw d : List UInt8} {ret : Bool} (h : PInv all got rest raw d ret) : got ++ M.run raw (rest ++ U.nlr ret (U.rep d)) = toks all := by
  have := h []
  rw [List.append_nil, List.append_nil] at this
  exact this.symm

theorem rest_le3 (t : List UInt8) : (t.drop (U.fcut t)).length ≤ 3 := by
  have := U.fcut_ge t
  have := U.fcut_le t
  rw [List.length_drop]; omega

theorem feed_len (rest d s : List UInt8) (ret : Bool) : (rest ++ U.nlr ret (U.rep ((d ++ s).take (U.fcut (d ++ s))))).length ≤ rest.length + 3 * (d.length + s.length) := by
  have h1 := U.nlr_length (U.rep ((d ++ s).take (U.fcut (d ++ s)))) ret
  have h2 := U.rep_le ((d ++ s).take (U.fcut (d ++ s)))
  rw [List.length_take, List.length_append] at h2
  rw [List.length_append]
  omega

/-- The relation of both loops: what the slots and the tokenizer hold. -/
def PcRel (len tb k : Nat) (all : List UInt8) (w1 : World) (v4 : Value) (wr : World) (d : List UInt8) (ret : Bool) : Prop :=
  ∃ (rest raw : List UInt8) (L : List (M.Tok × Value)), all.length ≤ 1500 ∧ d.length ≤ 3 ∧ raw.length ≤ 8 ∧ L.length + rest.length ≤ 9 * k + 3 * all.length ∧
    IsTz tb d rest raw ret wr ∧ wr.ownsRow (tb + 1) 30 5 v4 L.length (tcells L) ∧ Hid (∀ p ∈ L, HasAttrs (tb + 1) p.2 p.1.attrs wr) ∧ Hid (PInv all (L.map (·.1)) rest raw d ret) ∧ Below tb w1 wr ∧ tb + 1 ≤ wr.heap.size

set_option maxHeartbeats 4000000 in
set_option maxRecDepth 100000 in
theorem MarkupPieces (ao : Option Addr) (len cap : Nat) (S : Nat → List UInt8) (w : World) (hlen : len ≤ 9223372036854775807) (hS : StrArg w ao len S) (hE : Env w) :
    Calls Tryz.prog 7 #[.slice ao len cap] w fun e w' => e = .returned (.bool true) ∧ Below w.heap.size w w' := by
  have HE := Lib.hid hE
  have HS := Lib.hid hS
  have htop := hE.size
  clear hE hS
  obtain ⟨i0, hi0, hq0, hq1, hq2⟩ := info_parts infoToken
  by_cases h6 : len ≤ 60
  · have h6' : (len : Int) ≤ 60 := by omega
    go_enter Tryz.func7, Tryz.ntmps7
    go_wp2_with fail
    refine (awake _ HE.out).mono ?_
    rintro e w1 ⟨rfl, b1⟩
    have z1 := b1.size
    have HE1 := Lib.hid (HE.out.same b1)
    go_wp2_with fail
    go_loopw [4, 5, 6] (fun v4 v5 v6 wr => ∃ (k : Nat) (all d : List UInt8) (ret : Bool), v5 = .string ⟨all.toArray⟩ ∧ v6 = .int .i64 k ∧ k ≤ len ∧ PcRel len w1.heap.size k all w1 v4 wr d ret) (fun _ _ u _ => len - (intOf u).toNat)
    case atStart =>
      refine ⟨0, [], [], false, rfl, rfl, Nat.zero_le _, [], [], [], by simp, by simp, by simp, by simp, heap_alloc_new _ _, World.ownsRow_nil _ _ _ _, Lib.hid (fun p h => by cases h), Lib.hid PInv.start, (Below.refl _ _).alloc (Nat.le_refl _) _, by simp⟩
    case round =>
      obtain ⟨k, all, d, ret, rfl, rfl, hk, rest, raw, L, hal, hdl, hrw, hsum, htz, hown, HA, HP, hB, hge⟩ := hrel
      obtain ⟨wo, rfl⟩ : ∃ wo : World, wo = wr := ⟨_, rfl⟩
      have HTZ := Lib.hid htz
      have HOW := Lib.hid hown
      have HEo := Lib.hid (HE1.out.below hB (by omega))
      clear htz hown
      by_cases hlt : k < len
      · obtain ⟨b, off, rfl, hbw, hc⟩ := HS.out (by omega)
        obtain ⟨hck, hsz⟩ := hc k hlt
        have hck1 : wo.cell? ⟨b, off + k, none⟩ = some (.string ⟨(S k).toArray⟩) := by
          rw [hB.cell (p := ⟨b, off + k, none⟩) (by show b < _; omega), b1.cell (p := ⟨b, off + k, none⟩) hbw]; exact hck
        clear hck hc
        generalize S k = s at *
        have zs := T.bytes_size s
        have za := T.bytes_size all
        have hlt1 : (k : Int) < (len : Int) := by omega
        by_cases hlong : 1500 < all.length + s.length
        · have hl1 : (1500 : Int) < (all.length : Int) + (s.length : Int) := by omega
          go_wp2_with fail
          go_ret
          exact ⟨rfl, b1.trans (hB.mono b1.size)⟩
        · have hl1 : (all.length : Int) + (s.length : Int) ≤ 1500 := by omega
          have hab := T.append_bytes all s
          have HPF := Lib.hid (HP.out.feed s)
          have hfl := feed_len rest d s ret
          have hd3 := rest_le3 (d ++ s)
          have hal2 : (all ++ s).length ≤ 1500 := by rw [List.length_append]; omega
          have hal3 : (all ++ s).length = all.length + s.length := List.length_append
          have qf := Feed w1.heap.size d s rest raw ret wo (by omega) (by omega) HEo.out (by omega) HTZ.out
          unfold TFeedPost at qf
          generalize (d ++ s).drop (U.fcut (d ++ s)) = d2 at *
          generalize U.last13 ret (U.rep ((d ++ s).take (U.fcut (d ++ s)))) = ret2 at *
          generalize rest ++ U.nlr ret (U.rep ((d ++ s).take (U.fcut (d ++ s)))) = rest2 at *
          have QF := Lib.hid qf
          clear qf
          go_wp2_with fail
          refine QF.out.mono ?_
          rintro e w2 ⟨rfl, ht2, b2⟩
          have hB2 := hB.trans (b2.below (by omega))
          have HT2 := Lib.hid ht2
          have ho2 := Lib.hid (But.own b2 (by omega) HOW.out)
          have hA2 := Lib.hid (fun p hp => But.own b2 (by omega) (HA.out p hp))
          have hz2 := b2.size
          clear ht2 QF HTZ HOW HA HP HEo hck1 hab
          generalize all ++ s = all2 at *
          go_wp2_with fail
          go_loopw [4] (fun v4 wr => PcRel len w1.heap.size (k + 1) all2 w1 v4 wr d2 ret2) (fun _ wr => restLen w1.heap.size wr)
          case atStart => exact ⟨rest2, raw, L, hal2, hd3, hrw, by omega, HT2.out, ho2.out, hA2, HPF, hB2, by omega⟩
          case round =>
            obtain ⟨rest3, raw3, L3, _, _, hrw3, hsum3, htz3, hown3, HA3, HP3, hB3, hge3⟩ := hrel
            have hnx := HP3.out.next (n := rest3.length + 1) (by omega)
            have hmode := M.steps_mode (rest3.length + 1) false raw3 rest3 hrw3
            have HE3 := Lib.hid (HE1.out.below hB3 (by omega))
            have q := Next1 w1.heap.size d2 rest3 raw3 ret2 wr (by omega) hrw3 HE3.out (by omega) htz3
            generalize M.steps (rest3.length + 1) false raw3 rest3 = X at hnx hmode q
            obtain ⟨o, r4, s4⟩ := X
            have QN := Lib.hid q
            have HNX := Lib.hid hnx
            have HMO := Lib.hid hmode
            have HTZ3 := Lib.hid htz3
            have HOW3 := Lib.hid hown3
            clear q hnx hmode htz3 hown3
            go_wp2_with fail
            refine QN.out.mono ?_
            rintro en w4 ⟨a, rfl, ha, ht4, hb4⟩
            obtain ⟨ao4, Lc, cap4, rfl⟩ := own_slice3 ha
            have HT4 := Lib.hid ht4
            have HA4 := Lib.hid ha
            have hz4 := hb4.size
            have HB4 := Lib.hid hb4
            clear ht4 ha hb4 QN
            unfold tokV
            go_upto_if 50 with fail
            refine code_gen ?_
            intro F hF
            have hBF : Below w4.heap.size w4 F := by rw [hF]; exact (Below.refl _ _).alloc (Nat.le_refl _) _
            have hFt : F.heap[w4.heap.size]? = some (.cells #[.int .i64 (o.getD .none).kind, .string ⟨(o.getD .none).name.toArray⟩, .slice ao4 Lc cap4, .bool (o.getD .none).closed, .string ⟨(o.getD .none).text.toArray⟩] 30 (0, 0)) := by rw [hF]; exact heap_alloc_new _ _
            have hFz : IsTz w1.heap.size d2 s4 r4 ret2 F := HT4.out.below hBF
            have hFb : Below w1.heap.size w1 F := (hB3.trans (HB4.out.below (by omega))).trans (hBF.mono (by omega))
            have hFo : F.ownsRow (w1.heap.size + 1) 30 5 u4 L3.length (tcells L3) := own_below hBF (But.own HB4.out (by omega) HOW3.out)
            have hFA : HasAttrs wr.heap.size (.slice ao4 Lc cap4) (o.getD .none).attrs F := own_below hBF HA4.out
            have hFL : Hid (∀ p ∈ L3, HasAttrs (w1.heap.size + 1) p.2 p.1.attrs F) := Lib.hid (fun p hp => own_below hBF (But.own HB4.out (by omega) (HA3.out p hp)))
            have hzF := hBF.size
            clear hF hBF HA3
            obtain ⟨hcr, hfr⟩ := cells_of hFt
            have hlz := lt_of_block hFz
            have hlt2 := lt_of_block hFt
            have HFZ := Lib.hid hFz
            have HFT := Lib.hid hFt
            have HFA := Lib.hid hFA
            have HFO := Lib.hid hFo
            clear hFz hFt hFA hFo
            cases o with
            | none =>
              go_wp2_with fail
              go_roundw
              case rel => exact ⟨k + 1, all2, d2, ret2, rfl, by go_num, by omega, s4, r4, L3, hal2, hd3, HMO.out, by have h9 := HNX.out.2; omega, HFZ.out, HFO.out, hFL, Lib.hid HNX.out.1, hFb, by omega⟩
              case measure => simp [intOf]; omega
            | some t =>
              have hno := HFO.out.lt
              dsimp only [Option.getD, Option.isSome] at hcr
              go_wp2_with (at_builtin; refine wpList_append_own _ rfl _ _ 23 rfl (w1.heap.size + 1) 30 i0 _ 5 72 Tryz.underlying23 hi0 hq0 hq1 hq2 rfl (by decide) _ _ _ rfl (HFO.out.alloc _) ⟨F.heap.size, 0, none⟩ 1 1 [.int .i64 t.kind, .string ⟨t.name.toArray⟩, .slice ao4 Lc cap4, .bool t.closed, .string ⟨t.text.toArray⟩] rfl rfl ?c1 ?c2 ?c3 ?c4 ?c5 ?_)
              case c2 => exact ⟨rfl, rfl, rfl, rfl, rfl⟩
              case c3 => unfold maxLen; omega
              case c4 => omega
              case c5 => omega
              intro v' w5 hown' hgrow _
              have hBa : Below F.heap.size F (F.alloc (.cells #[.int .i64 t.kind, .string ⟨t.name.toArray⟩, .slice ao4 Lc cap4, .bool t.closed, .string ⟨t.text.toArray⟩] 30)) := (Below.refl _ _).alloc (Nat.le_refl _) _
              have hb5 : Below w1.heap.size w1 w5 := (hFb.trans (hBa.mono (by omega))).grown hgrow (by simp; omega) (fun q hq => by have := (hno q hq).1; omega)
              have hz5 : IsTz w1.heap.size d2 s4 r4 ret2 w5 := (hgrow.block _ (by simp; omega) (fun h => by have := (hno _ h.symm).1; omega)).trans (HFZ.out.below hBa)
              have hts := toks_snoc (HFO.out.alloc _) (fun p hp => own_below hBa (hFL.out p hp)) (own_mono (own_below hBa HFA.out) (by omega)) hown' hgrow
              have hzw5 := hgrow.size
              clear hcr hfr
              have HZ5 := Lib.hid hz5
              have HTS5 := Lib.hid hts
              clear hz5 hts hown'
              go_wp2_with fail
              go_roundw
              case rel =>
                obtain ⟨L5, e5, ho5, ha5⟩ := HTS5.out
                have h9 := HNX.out
                refine ⟨s4, r4, L5, hal2, hd3, HMO.out, ?_, HZ5.out, ho5, Lib.hid ha5, Lib.hid (by rw [e5]; exact h9.1), hb5, by simp at hzw5; omega⟩
                have := congrArg List.length e5
                simp at this
                omega
              case measure =>
                have h9 := HNX.out.2
                rw [restLen_of HZ5.out, restLen_of HTZ3.out]
                omega
      · have hge1 : (len : Int) ≤ (k : Int) := by omega
        have hnow := HP.out.now
        have QF := Lib.hid (Finish w1.heap.size d rest raw ret wo (by omega) (by omega) hrw HEo.out (by omega) HTZ.out)
        have hfl := M.run_len raw (rest ++ U.nlr ret (U.rep d))
        have hfl2 := U.nlr_length (U.rep d) ret
        have hfl3 := U.rep_le d
        rw [List.length_append] at hfl
        have hfl4 : (M.run raw (rest ++ U.nlr ret (U.rep d))).length ≤ 10000 := by omega
        have htl : (toks all).length ≤ 20000 := by
          rw [← hnow, List.length_append, List.length_map]; omega
        have HNOW := Lib.hid hnow
        clear hfl hfl2 hfl3 hnow HP
        generalize M.run raw (rest ++ U.nlr ret (U.rep d)) = fin at *
        have QT := Lib.hid (fun W h => Tokens all W (by omega) h)
        go_wp2_with fail
        refine QF.out.mono ?_
        rintro e w2 ⟨v2, rfl, ⟨L2, hL2, ho2, hA2⟩, ht2, b2⟩
        have hz2 := b2.size
        have ho1 := But.own b2 (by omega) HOW.out
        have hA1 := fun p hp => But.own b2 (by omega) (HA.out p hp)
        have hl2 : L2.length ≤ 10000 := by have := congrArg List.length hL2; rw [List.length_map] at this; omega
        have hno := ho1.lt
        have HT2 := Lib.hid ht2
        have HO1 := Lib.hid ho1
        have HO2 := Lib.hid ho2
        have HA1 := Lib.hid hA1
        have HA2 := Lib.hid hA2
        clear ht2 ho1 ho2 hA1 hA2
        go_wp2_with (at_builtin; refine wpList_append_two _ rfl _ _ 23 rfl (w1.heap.size + 1) wo.heap.size 30 i0 _ 5 72 Tryz.underlying23 hi0 hq0 hq1 hq2 rfl (by decide) _ _ _ _ _ _ rfl rfl HO1.out HO2.out (tcells_one HA2.out) ?d3 ?d4 ?d5 ?_)
        case d3 => unfold maxLen; omega
        case d4 => omega
        case d5 => omega
        intro v5 w5 hown5 hgrow
        have hts := toks_two HO1.out HA1.out HA2.out (by omega) hown5 hgrow
        rw [hL2, HNOW.out] at hts
        have hz5 := hgrow.size
        have ht5 : IsTz w1.heap.size [] [] [] false w5 := (hgrow.block _ (by omega) (fun h => by have := (hno _ h.symm).1; omega)).trans HT2.out
        have hB5 : Below w1.heap.size w1 w5 := (hB.trans (b2.below (by omega))).grown hgrow (by omega) (fun q hq => by have := (hno q hq).1; omega)
        have HE5 := Lib.hid (HE1.out.below hB5 (by omega))
        have q := Feed w1.heap.size [] [60, 98, 62] [] [] false w5 (by simp) (by simp) HE5.out (by omega) ht5
        have hf1 : U.fcut ([] ++ [60, 98, 62]) = 3 := by decide
        have hf2 : [] ++ U.nlr false (U.rep (([] ++ [60, 98, 62] : List UInt8).take 3)) = [60, 98, 62] := by decide
        have hf3 : U.last13 false (U.rep (([] ++ [60, 98, 62] : List UInt8).take 3)) = false := by decide
        have hf4 : ([] ++ [60, 98, 62] : List UInt8).drop 3 = [] := rfl
        unfold TFeedPost at q
        rw [hf1, hf2, hf3, hf4] at q
        have QB := Lib.hid q
        have HTS := Lib.hid hts
        clear q hts ht5 hown5 hgrow HT2 HO1 HO2 HA1 HA2 hf1 hf2 hf3 hf4 HTZ HOW HA QF HEo HNOW hL2
        go_wp2_with fail
        refine QB.out.mono ?_
        rintro e w6 ⟨rfl, ht6, b6⟩
        have hz6 := b6.size
        have HE6 := Lib.hid (HE5.out.but b6 (by omega) (by omega))
        have hst : M.steps (([60, 98, 62] : List UInt8).length + 1) false [] [60, 98, 62] = (some ⟨1, [98], [], false, []⟩, [], []) := by rfl
        have q := Next1 w1.heap.size [] [60, 98, 62] [] false w6 (by simp) (by simp) HE6.out (by omega) ht6
        rw [hst] at q
        have QX := Lib.hid q
        clear q hst ht6 QB
        go_wp2_with fail
        refine QX.out.mono ?_
        rintro en w7 ⟨a, rfl, ha, ht7, b7⟩
        obtain ⟨ao7, L7, cap7, rfl⟩ := own_slice3 ha
        have hz7 := b7.size
        have HE7 := Lib.hid (HE6.out.but b7 (by omega) (by omega))
        have hts7 := (HTS.out.but b6 (by omega)).but b7 (by omega)
        have HTS7 := Lib.hid hts7
        have hB7 := hB5.trans ((b6.below (by omega)).trans (b7.below (by omega)))
        clear ha ht7 hts7 QX
        unfold tokV
        dsimp only [Option.getD, Option.isSome]
        have hBA : Below w7.heap.size w7 (w7.alloc (.cells #[.int .i64 1, .string ⟨#[98]⟩, .slice ao7 L7 cap7, .bool false, .string ⟨#[]⟩] 30)) := (Below.refl _ _).alloc (Nat.le_refl _) _
        have hFt : (w7.alloc (.cells #[.int .i64 1, .string ⟨#[98]⟩, .slice ao7 L7 cap7, .bool false, .string ⟨#[]⟩] 30)).heap[w7.heap.size]? = some (.cells #[.int .i64 1, .string ⟨#[98]⟩, .slice ao7 L7 cap7, .bool false, .string ⟨#[]⟩] 30 (0, 0)) := heap_alloc_new _ _
        have HBA := Lib.hid hBA
        have HFT := Lib.hid hFt
        clear hBA hFt
        go_wp2_with fail
        refine (QT.out _ (HE7.out.same HBA.out)).mono ?_
        rintro e w8 ⟨v8, rfl, hts8, b8⟩
        have hr8 := (b8.block w7.heap.size (by simp)).trans HFT.out
        have hts9 := (HTS7.out.below HBA.out).below b8
        have hlt8 := lt_of_block hr8
        obtain ⟨hcr, hfr⟩ := cells_of hr8
        have hz8 := b8.size
        have QE := Lib.hid (equal _ _ v5 v8 (toks all) w8 hts9 hts8 (by omega))
        have hBw : Below w.heap.size w w8 := ((b1.trans (hB7.mono z1)).trans (HBA.out.mono (by omega))).trans (b8.mono (by simp; omega))
        have HR8 := Lib.hid hr8
        clear hts8 hts9 HTS7 hr8
        go_wp2_with fail
        refine QE.out.mono ?_
        rintro e w9 ⟨rfl, b9⟩
        have hr9 := (b9.block w7.heap.size (by omega)).trans HR8.out
        clear hcr hfr
        obtain ⟨hcr, hfr⟩ := cells_of hr9
        go_wp2_with fail
        go_ret
        exact ⟨rfl, hBw.trans (b9.mono (by have := hBw.size; omega))⟩
  · have h6' : 60 < (len : Int) := by omega
    clear h6
    go_enter Tryz.func7, Tryz.ntmps7
    go_wp2_with fail
    refine (awake _ HE.out).mono ?_
    rintro e w1 ⟨rfl, b1⟩
    have HE1 := Lib.hid (HE.out.same b1)
    go_wp2_with fail
    refine (awake _ HE1.out).mono ?_
    rintro e w2 ⟨rfl, b2⟩
    go_wp2_with fail
    go_ret
    exact ⟨rfl, b1.trans (b2.mono b1.size)⟩

end K
end Go.Proofs.YtlnginciehjlnaaGreatDoor

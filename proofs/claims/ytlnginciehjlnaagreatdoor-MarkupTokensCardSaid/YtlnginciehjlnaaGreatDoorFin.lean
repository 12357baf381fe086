/- A slice of tokens in memory; what Next, Finish and Tokens come to; awake; the comparison of two lists. -/
import Derived.Test.YtlnginciehjlnaaGreatDoorPlain
import Derived.Outline
import Derived.Deep.DeepCutAuto
import Derived.Deep.QuietTactic
import Derived.BigQuiet
set_option linter.unusedVariables false
set_option linter.unusedSimpArgs false
namespace Go.Proofs.YtlnginciehjlnaaGreatDoor
open Go.RowKit
namespace K

def tcells (l : List (M.Tok × Value)) : List Value := l.flatMap fun p => [.int .i64 p.1.kind, .string ⟨p.1.name.toArray⟩, p.2, .bool p.1.closed, .string ⟨p.1.text.toArray⟩]

theorem tcells_snoc (l : List (M.Tok × Value)) (t : M.Tok) (a : Value) : tcells (l ++ [(t, a)]) = tcells l ++ [.int .i64 t.kind, .string ⟨t.name.toArray⟩, a, .bool t.closed, .string ⟨t.text.toArray⟩] := by
  simp [tcells]
theorem tcells_append (l m : List (M.Tok × Value)) : tcells (l ++ m) = tcells l ++ tcells m := by simp [tcells]
theorem tcells_length : ∀ l : List (M.Tok × Value), (tcells l).length = l.length * 5
  | [] => rfl
  | p :: r => by
    have := tcells_length r
    simp only [tcells, List.flatMap_cons, List.length_append, List.length_cons, List.length_nil] at this ⊢
    rw [this]; omega

/-- A value is a slice that holds tokens; all that it reaches lies at or behind a block. -/
def HasToks (base : Nat) (v : Value) (ts : List M.Tok) (w : World) : Prop :=
  ∃ L : List (M.Tok × Value), L.map (·.1) = ts ∧ w.ownsRow base 30 5 v L.length (tcells L) ∧ ∀ p ∈ L, HasAttrs base p.2 p.1.attrs w

theorem no_toks (base : Nat) (w : World) : HasToks base (.slice none 0 0) [] w := ⟨[], rfl, ⟨rfl, Or.inl ⟨rfl, rfl⟩⟩, fun p h => by cases h⟩

/-- Two rows of different types do not lie in one block. -/
theorem own_apart {w : World} {b b' : Nat} {e e' : TypeId} {s s' : Nat} {v v' : Value} {n n' : Nat} {xs xs' : List Value} (h : w.ownsRow b e s v n xs) (h' : w.ownsRow b' e' s' v' n' xs') (hne : e ≠ e') : v.ownBlock = none ∨ v.ownBlock ≠ v'.ownBlock := by
  rcases h.2 with ⟨rfl, _⟩ | ⟨g, cap, cur, rfl, hb, hg, _⟩
  · exact Or.inl rfl
  · right
    intro he
    rcases h'.2 with ⟨rfl, _⟩ | ⟨g', cap', cur', rfl, hb', hg', _⟩
    · simp [Value.ownBlock] at he
    · simp [Value.ownBlock] at he
      subst he
      rw [hg] at hg'
      have := Option.some.inj hg'
      injection this with _ h2 _
      exact hne h2

/-- What lies behind is kept when only one block below the row changes. -/
theorem HasToks.same {base : Nat} {v : Value} {ts : List M.Tok} {w w' : World} (h : HasToks base v ts w) (hk : ∀ g, base ≤ g → g < w.heap.size → w'.heap[g]? = w.heap[g]?) : HasToks base v ts w' := by
  obtain ⟨L, h1, h2, h3⟩ := h
  exact ⟨L, h1, own_same h2 hk, fun p hp => own_same (h3 p hp) hk⟩
theorem HasToks.below {base : Nat} {v : Value} {ts : List M.Tok} {w w' : World} (h : HasToks base v ts w) (b : Below w.heap.size w w') : HasToks base v ts w' := h.same fun g _ hg => b.block g hg
theorem HasToks.but {base tb : Nat} {v : Value} {ts : List M.Tok} {w w' : World} (h : HasToks base v ts w) (b : But tb w w') (hlt : tb < base) : HasToks base v ts w' := h.same fun g h1 h2 => b.block g h2 (by omega)
theorem HasToks.mono {base base' : Nat} {v : Value} {ts : List M.Tok} {w : World} (h : HasToks base v ts w) (hb : base' ≤ base) : HasToks base' v ts w := by
  obtain ⟨L, h1, h2, h3⟩ := h
  exact ⟨L, h1, own_mono h2 hb, fun p hp => own_mono (h3 p hp) hb⟩

/-- One token more. -/
theorem toks_snoc {base : Nat} {v v' a : Value} {L : List (M.Tok × Value)} {t : M.Tok} {w w' : World} (ho : w.ownsRow base 30 5 v L.length (tcells L)) (hA : ∀ p ∈ L, HasAttrs base p.2 p.1.attrs w) (ha : HasAttrs base a t.attrs w)
    (hown : w'.ownsRow base 30 5 v' (L.length + 1) (tcells L ++ [.int .i64 t.kind, .string ⟨t.name.toArray⟩, a, .bool t.closed, .string ⟨t.text.toArray⟩])) (hg : w.grownBy w' v.ownBlock) :
    HasToks base v' (L.map (·.1) ++ [t]) w' := by
  have hne : 39 ≠ 30 := by decide
  refine ⟨L ++ [(t, a)], by simp, by rw [tcells_snoc, List.length_append]; exact hown, fun p hp => ?_⟩
  rcases List.mem_append.1 hp with hp | hp
  · exact (hA p hp).kept hg (own_apart (hA p hp) ho hne)
  · obtain rfl : p = (t, a) := by simpa using hp
    exact World.ownsRow.kept ha hg (own_apart ha ho hne)

theorem infoToken : (Tryz.prog.info? 30).map (fun i => (i.zero, i.size, i.bytes)) = some (some (.agg #[.int .i64 0, .string ⟨#[]⟩, .slice none 0 0, .bool false, .string ⟨#[]⟩]), 5, 72) := by kernel_rfl

end K
end Go.Proofs.YtlnginciehjlnaaGreatDoor

namespace Go.Proofs.YtlnginciehjlnaaGreatDoor
open Go.RowKit
namespace K

theorem But.grown {tb : Nat} {u v w : World} {row : Option Nat} (h : But tb u v) (hg : v.grownBy w row) (hr : ∀ k, row = some k → u.heap.size ≤ k) : But tb u w :=
  ⟨hg.os.trans h.os, hg.tape.trans h.tape, hg.output.trans h.output, Nat.le_trans h.size hg.size, fun k hk hn =>
    (hg.block k (Nat.lt_of_lt_of_le hk h.size) (fun e => by have := hr k e.symm; omega)).trans (h.block k hk hn)⟩

set_option maxHeartbeats 1000000 in
theorem Next1 (tb : Nat) (d s rw_ : List UInt8) (ret : Bool) (w : World) (hs : s.length ≤ 800000) (hrl : rw_.length ≤ 8) (hE : Env w) (ht : top ≤ tb) (hT : IsTz tb d s rw_ ret w) :
    Calls Tryz.prog 22 #[.pointer (some ⟨tb, 0, none⟩)] w (NextPost tb d ret (M.steps (s.length + 1) false rw_ s) w) := by
  have htl := lt_of_block hT
  obtain ⟨W, hW⟩ : ∃ W, W = w.alloc (.cells zero5 30) := ⟨_, rfl⟩
  have hBW : Below w.heap.size w W := by rw [hW]; exact (Below.refl _ _).alloc (Nat.le_refl _) _
  have hzW : W.heap.size = w.heap.size + 1 := by rw [hW]; simp
  have q := next tb d s rw_ ret false W hs hrl (hE.same hBW) ht (hT.below hBW)
  have hnew : W.heap[w.heap.size]? = some (.cells zero5 30 (0, 0)) := by rw [hW]; exact heap_alloc_new _ _
  generalize M.steps (s.length + 1) false rw_ s = X at q ⊢
  have Q := Lib.hid q
  have HN := Lib.hid hnew
  have HB := Lib.hid hBW
  clear q hnew hE hT hBW
  go_enter Tryz.func22, Tryz.ntmps22
  go_wp2_with fail
  rw [show w.alloc (.cells #[.int .i64 0, .string ⟨#[]⟩, .slice none 0 0, .bool false, .string ⟨#[]⟩] 30) = W from hW.symm]
  have HW := Lib.hid hW
  clear hW
  refine Q.out.mono ?_
  rintro en w1 ⟨a, rfl, ha, ht1, hb1⟩
  obtain ⟨ao, L, cap, rfl⟩ := own_slice3 ha
  have hn1 := (hb1.block w.heap.size (by omega) (by omega)).trans HN.out
  have hlt1 := lt_of_block hn1
  have HT1 := Lib.hid ht1
  have HA1 := Lib.hid ha
  have HB1 := Lib.hid hb1
  have HN1 := Lib.hid hn1
  unfold zero5 at hn1
  obtain ⟨hcr, hfr⟩ := cells_of hn1
  clear ht1 ha hb1 hn1
  unfold tokV
  go_wp2_with fail
  refine bodyPost_gen ?_
  intro G hG
  have hZ := HN1.out
  unfold zero5 at hZ
  have hGb : G.heap[w.heap.size]? = some (.cells #[.int .i64 (X.1.getD .none).kind, .string ⟨(X.1.getD .none).name.toArray⟩, .slice ao L cap, .bool (X.1.getD .none).closed, .string ⟨(X.1.getD .none).text.toArray⟩] 30 (0, 0)) := by rw [hG]; exact five hZ
  have hGt : IsTz tb d X.2.2 X.2.1 ret G := by rw [hG]; exact (five_other (by omega)).trans HT1.out
  have hGB : But tb w G := by rw [hG]; exact ((But.of HB.out).trans HB1.out).trans' (five_below (Nat.le_refl _))
  have hGA : HasAttrs W.heap.size (.slice ao L cap) (X.1.getD .none).attrs G := by rw [hG]; exact own_same HA1.out (fun g h1 h2 => five_other (by omega))
  clear hG hcr hfr
  obtain ⟨hcF, hfF⟩ := cells_of hGb
  refine bodyPost_ret (v := .tuple #[tokV (X.1.getD .none) (.slice ao L cap), .bool X.1.isSome]) (by simp [results, Tryz.results22, go_sem, tokV, hcF]) rfl ?_
  exact ⟨_, rfl, own_mono hGA (by omega), hGt, hGB⟩

end K
end Go.Proofs.YtlnginciehjlnaaGreatDoor

namespace Go.Proofs.YtlnginciehjlnaaGreatDoor
open Go.RowKit
namespace K

/-- What Finish leaves: the tokens ts, and the tokenizer as new. -/
def FinPost (tb : Nat) (ts : List M.Tok) (w : World) (e : Ending) (w' : World) : Prop :=
  ∃ v, e = .returned v ∧ HasToks w.heap.size v ts w' ∧ IsTz tb [] [] [] false w' ∧ But tb w w'

def FnRel (tb : Nat) (ret : Bool) (ts : List M.Tok) (w : World) (v : Value) (wr : World) : Prop :=
  ∃ (rest raw : List UInt8) (L : List (M.Tok × Value)), IsTz tb [] rest raw ret wr ∧ raw.length ≤ 8 ∧ wr.ownsRow w.heap.size 30 5 v L.length (tcells L) ∧ Hid (∀ p ∈ L, HasAttrs w.heap.size p.2 p.1.attrs wr) ∧ But tb w wr ∧ Hid (L.map (·.1) ++ M.run raw rest = ts) ∧ L.length + rest.length ≤ 800000

set_option maxHeartbeats 4000000 in
set_option maxRecDepth 100000 in
theorem Finish (tb : Nat) (d rest raw : List UInt8) (ret : Bool) (w : World) (hd : d.length ≤ 33000) (hr : rest.length ≤ 600000) (hrl : raw.length ≤ 8) (hE : Env w) (ht : top ≤ tb) (hT : IsTz tb d rest raw ret w) :
    Calls Tryz.prog 23 #[.pointer (some ⟨tb, 0, none⟩)] w (FinPost tb (M.run raw (rest ++ U.nlr ret (U.rep d))) w) := by
  have htl := lt_of_block hT
  have Q := Lib.hid (DEnd tb d rest raw ret w (by omega) hE hT)
  have hl := U.rep_le d
  have hl2 := U.nlr_length (U.rep d) ret
  have HE := Lib.hid hE
  obtain ⟨RS, hRS⟩ : ∃ RS, RS = rest ++ U.nlr ret (U.rep d) := ⟨_, rfl⟩
  have hRSl : RS.length ≤ 800000 := by rw [hRS, List.length_append]; omega
  rw [← hRS]
  obtain ⟨TS, hTS⟩ : ∃ TS, TS = M.run raw RS := ⟨_, rfl⟩
  rw [← hTS]
  clear hE hT
  obtain ⟨i0, hi0, hz0, hz1, hz2⟩ := info_parts infoToken
  go_enter Tryz.func23, Tryz.ntmps23
  go_wp2_with fail
  refine Q.out.mono ?_
  rintro e w1 ⟨rfl, ht1, b1⟩
  have HE1 := Lib.hid (HE.out.but b1 ht htl)
  go_wp2_with fail
  refine (put tb [] rest raw (U.rep d) ret w1 (by omega) (by omega) HE1.out ht ht1).mono ?_
  rintro e w2 ⟨rfl, ht2, b2⟩
  have hb2 : But tb w w2 := b1.trans b2
  rw [← hRS] at ht2
  obtain ⟨ret2, hret2⟩ : ∃ r2, r2 = U.last13 ret (U.rep d) := ⟨_, rfl⟩
  rw [← hret2] at ht2
  have HTS := Lib.hid hTS
  have HT2 := Lib.hid ht2
  clear hRS hret2 hTS Q HE1 b1 b2 ht1 ht2 hl hl2
  go_wp2_with fail
  go_loopw [3] (fun v3 wr => FnRel tb ret2 TS w v3 wr) (fun _ wr => restLen tb wr)
  case atStart => exact ⟨RS, raw, [], HT2.out, hrl, World.ownsRow_nil _ _ _ _, Lib.hid (fun p h => by cases h), hb2, Lib.hid (by rw [HTS.out]; rfl), by simp; omega⟩
  case round =>
    obtain ⟨rs, rw_, L, htz, hrw, hown, HA, hbut, HS, hsum⟩ := hrel
    have HTZ := Lib.hid htz
    have htl2 := lt_of_block htz
    have HOW := Lib.hid hown
    have HEr := Lib.hid (HE.out.but hbut ht htl)
    have hlast := M.steps_true (rs.length + 1) rw_ rs (by omega)
    have hmode := M.steps_mode (rs.length + 1) true rw_ rs hrw
    have q := next tb [] rs rw_ ret2 true wr (by omega) hrw HEr.out ht htz
    generalize M.steps (rs.length + 1) true rw_ rs = X at hlast hmode q
    obtain ⟨o, rw2, rs2⟩ := X
    have QN := Lib.hid q
    have HLA := Lib.hid hlast
    have HMO := Lib.hid hmode
    clear htz q hlast hmode hown
    go_wp2_with fail
    refine QN.out.mono ?_
    rintro en w3 ⟨a, rfl, ha, ht3, hb3⟩
    obtain ⟨ao, Lc, cap, rfl⟩ := own_slice3 ha
    have HT3 := Lib.hid ht3
    have HA3 := Lib.hid ha
    have hz3 := hb3.size
    have HB3 := Lib.hid hb3
    clear ht3 ha hb3 QN
    unfold tokV
    go_upto_if 18 with fail
    refine code_gen ?_
    intro F hF
    have hBF : Below w3.heap.size w3 F := by rw [hF]; exact (Below.refl _ _).alloc (Nat.le_refl _) _
    have hFt : F.heap[w3.heap.size]? = some (.cells #[.int .i64 (o.getD .none).kind, .string ⟨(o.getD .none).name.toArray⟩, .slice ao Lc cap, .bool (o.getD .none).closed, .string ⟨(o.getD .none).text.toArray⟩] 30 (0, 0)) := by rw [hF]; exact heap_alloc_new _ _
    have hFz : IsTz tb [] rs2 rw2 ret2 F := HT3.out.below hBF
    have hFb : But tb w F := (hbut.trans HB3.out).trans (But.of hBF)
    have hFo : F.ownsRow w.heap.size 30 5 u3 L.length (tcells L) := own_below hBF (But.own HB3.out htl HOW.out)
    have hFA : HasAttrs wr.heap.size (.slice ao Lc cap) (o.getD .none).attrs F := own_below hBF HA3.out
    have hFL : Hid (∀ p ∈ L, HasAttrs w.heap.size p.2 p.1.attrs F) := Lib.hid (fun p hp => own_below hBF (But.own HB3.out htl (HA.out p hp)))
    have hzF := hBF.size
    clear hF hBF HA
    obtain ⟨hct, hft⟩ := cells_of hFz
    obtain ⟨hcr, hfr⟩ := cells_of hFt
    have hlz := lt_of_block hFz
    have hlt := lt_of_block hFt
    have HFZ := Lib.hid hFz
    have HFT := Lib.hid hFt
    have HFA := Lib.hid hFA
    have HFO := Lib.hid hFo
    clear hFz hFt hFA hFo
    cases o with
    | none =>
      have hTS2 : L.map (·.1) = TS := by
        have h1 := HLA.out
        unfold M.Last at h1
        dsimp only at h1
        rw [← HS.out, h1.1, List.append_nil]
      have HT5 := Lib.hid hTS2
      clear hTS2
      go_wp2_with fail
      refine bodyPost_gen ?_
      intro G hG
      have hGz : IsTz tb [] [] [] false G := by rw [hG]; exact (((HFZ.out.dec []).rest []).raw []).ret false
      have hGb : But tb F G := by rw [hG]; exact (((But.set F _ _).trans (But.set _ _ _)).trans (But.set _ _ _)).trans (But.set _ _ _)
      clear hG hct hft hcr hfr
      go_ret
      show FinPost tb _ w (.returned u3) G
      rw [← HT5.out]
      exact ⟨_, rfl, ⟨L, rfl, But.own hGb htl HFO.out, fun p hp => But.own hGb htl (hFL.out p hp)⟩, hGz, hFb.trans hGb⟩
    | some t =>
      have hno := HFO.out.lt
      have hwF := hFb.size
      dsimp only [Option.getD, Option.isSome] at hcr
      go_wp2_with (at_builtin; refine wpList_append_own _ rfl _ _ 23 rfl w.heap.size 30 i0 _ 5 72 Tryz.underlying23 hi0 hz0 hz1 hz2 rfl (by decide) _ _ _ rfl (HFO.out.alloc _) ⟨F.heap.size, 0, none⟩ 1 1 [.int .i64 t.kind, .string ⟨t.name.toArray⟩, .slice ao Lc cap, .bool t.closed, .string ⟨t.text.toArray⟩] rfl rfl ?c1 ?c2 ?c3 ?c4 ?c5 ?_)
      case c1 => exact World.news_of_block (heap_alloc_new _ _)
      case c2 => intro u hu; simp at hu; rcases hu with rfl | rfl | rfl | rfl | rfl <;> rfl
      case c3 => unfold maxLen; omega
      case c4 => omega
      case c5 => simp; omega
      intro v' w5 hown' hgrow _
      have hBa : Below F.heap.size F (F.alloc (.cells #[.int .i64 t.kind, .string ⟨t.name.toArray⟩, .slice ao Lc cap, .bool t.closed, .string ⟨t.text.toArray⟩] 30)) := (Below.refl _ _).alloc (Nat.le_refl _) _
      have hb5 : But tb w w5 := (hFb.trans (But.of hBa)).grown hgrow (fun k hk => (hno k hk).1)
      have hz5 : IsTz tb [] rs2 rw2 ret2 w5 := (hgrow.block tb (by simp; omega) (fun h => by have := (hno tb h.symm).1; omega)).trans (HFZ.out.below hBa)
      have hts := toks_snoc (HFO.out.alloc _) (fun p hp => own_below hBa (hFL.out p hp)) (own_mono (own_below hBa HFA.out) (by have := hbut.size; omega)) hown' hgrow
      clear hct hft hcr hfr
      have HZ5 := Lib.hid hz5
      have HTS5 := Lib.hid hts
      have HOW5 := Lib.hid hown'
      clear hz5 hts hown'
      go_wp2_with fail
      go_roundw
      case rel =>
        have h1 := HLA.out
        unfold M.Last at h1
        dsimp only at h1
        obtain ⟨L5, e5, ho5, ha5⟩ := HTS5.out
        refine ⟨rs2, rw2, L5, HZ5.out, HMO.out, ho5, Lib.hid ha5, hb5, Lib.hid ?_, ?_⟩
        · rw [e5, ← HS.out, h1.1]; simp
        · have := congrArg List.length e5
          simp at this
          omega
      case measure =>
        have h1 := HLA.out
        unfold M.Last at h1
        dsimp only at h1
        rw [restLen_of HZ5.out, restLen_of HTZ.out]
        omega

end K
end Go.Proofs.YtlnginciehjlnaaGreatDoor

namespace Go.Proofs.YtlnginciehjlnaaGreatDoor
open Go.RowKit
namespace K

def TokPost (ts : List M.Tok) (w : World) (e : Ending) (w' : World) : Prop := ∃ v, e = .returned v ∧ HasToks w.heap.size v ts w' ∧ Below w.heap.size w w'

/-- The tokens of a document. -/
def toks (s : List UInt8) : List M.Tok := M.run [] (U.nlr false (U.rep s))

set_option maxHeartbeats 2000000 in
theorem Tokens (s : List UInt8) (w : World) (hs : s.length ≤ 33000) (hE : Env w) :
    Calls Tryz.prog 11 #[.string ⟨s.toArray⟩] w (TokPost (toks s) w) := by
  have HE := Lib.hid hE
  have htop := hE.size
  obtain ⟨W, hW⟩ : ∃ W, W = w.alloc (.cells #[.string ⟨#[]⟩, .string ⟨#[]⟩, .string ⟨#[]⟩, .bool false] 46) := ⟨_, rfl⟩
  have hBW : Below w.heap.size w W := by rw [hW]; exact (Below.refl _ _).alloc (Nat.le_refl _) _
  have hnew : IsTz w.heap.size [] [] [] false W := by rw [hW]; exact heap_alloc_new _ _
  have Q := Lib.hid (Feed w.heap.size [] s [] [] false W (by simpa using hs) (by simp) (hE.same hBW) htop hnew)
  have hc := U.fcut_rep s []
  rw [List.append_nil, List.append_nil] at hc
  have hts : toks s = M.run [] (U.nlr false (U.rep (s.take (U.fcut s))) ++ U.nlr (U.last13 false (U.rep (s.take (U.fcut s)))) (U.rep (s.drop (U.fcut s)))) := by
    unfold toks
    rw [hc, U.nlr_append]
  rw [hts]
  have hl1 := U.nlr_length (U.rep (s.take (U.fcut s))) false
  have hl2 := U.rep_le (s.take (U.fcut s))
  have hl3 : (s.take (U.fcut s)).length ≤ s.length := by rw [List.length_take]; omega
  have hl4 : (s.drop (U.fcut s)).length ≤ s.length := by rw [List.length_drop]; omega
  have HEW := Lib.hid (hE.same hBW)
  have hzW := lt_of_block hnew
  have HB := Lib.hid hBW
  clear hE hc hts hBW hnew
  go_enter Tryz.func11, Tryz.ntmps11
  go_wp2_with fail
  rw [← hW]
  have HW := Lib.hid hW
  clear hW
  refine Q.out.mono ?_
  rintro e w1 ⟨rfl, ht1, b1⟩
  rw [List.nil_append, List.nil_append] at ht1
  have HE1 := Lib.hid (HEW.out.but b1 htop hzW)
  have HT1 := Lib.hid ht1
  clear ht1
  go_wp2_with fail
  refine (Finish w.heap.size _ _ _ _ w1 (by omega) (by omega) (by simp) HE1.out htop HT1.out).mono ?_
  rintro e w2 ⟨v, rfl, hts, htz, b2⟩
  go_wp2_with fail
  go_ret
  have hbw : Below w.heap.size w w2 := HB.out.trans ((b1.trans b2).below hzW)
  exact ⟨_, rfl, hts.mono (by have := b1.size; omega), hbw⟩

end K
end Go.Proofs.YtlnginciehjlnaaGreatDoor

namespace Go.Proofs.YtlnginciehjlnaaGreatDoor
open Go.RowKit
namespace K

theorem awake_doc : (toks [60, 112, 62, 120, 60, 47, 112, 62]).length = 3 := by
  have h1 : U.nlr false (U.rep [60, 112, 62, 120, 60, 47, 112, 62]) = [60, 112, 62] ++ (E.escape false [120] ++ [60, 47, 112, 62]) := by decide
  unfold toks
  rw [h1, M.run_texts]
  rfl

set_option maxHeartbeats 400000 in
theorem awake (w : World) (hE : Env w) :
    Calls Tryz.prog 10 #[] w fun e w' => e = .returned (.bool true) ∧ Below w.heap.size w w' := by
  have Q := Lib.hid (Tokens [60, 112, 62, 120, 60, 47, 112, 62] w (by decide) hE)
  clear hE
  go_enter Tryz.func10, Tryz.ntmps10
  go_wp2_with fail
  refine Q.out.mono ?_
  rintro e w1 ⟨v, rfl, ⟨L, hL, ho, hA⟩, b⟩
  obtain ⟨ao, cap, rfl, _⟩ := own_slice ho
  have hl : L.length = 3 := by
    have := congrArg List.length hL
    rw [List.length_map, awake_doc] at this
    exact this
  rw [hl]
  clear hL ho hA hl
  go_wp2_with fail
  go_ret
  exact ⟨rfl, b⟩

theorem toks_plain {s : List UInt8} (h1 : U.rep s = s) (h2 : (13 : UInt8) ∉ s) : toks s = M.run [] s := by
  unfold toks
  rw [h1, U.nlr_id s h2]

theorem nlr_no {s : List UInt8} (h : U.nlr false s = s) : (13 : UInt8) ∉ s := by rw [← h]; exact U.nlr_no13 s false

theorem refRepairS (l : List UInt8) (w : World) (h : l.length ≤ 100000) :
    Calls Tryz.prog 15 #[.string ⟨l.toArray⟩] w fun e w' => e = .returned (.string ⟨(U.rep l).toArray⟩) ∧ Below w.heap.size w w' := by
  have := T.refRepair ⟨l.toArray⟩ w (by rw [T.bytes_size]; omega)
  rw [T.bytes_toList] at this
  exact this
theorem refNewlinesS (l : List UInt8) (w : World) (h : l.length ≤ 100000) :
    Calls Tryz.prog 16 #[.string ⟨l.toArray⟩] w fun e w' => e = .returned (.string ⟨(U.nlr false l).toArray⟩) ∧ w = w' := by
  have := T.refNewlines ⟨l.toArray⟩ w (by rw [T.bytes_size]; omega)
  rw [T.bytes_toList] at this
  exact this

theorem list_three {α : Type} {l : List α} (h : l.length = 3) : ∃ a b c, l = [a, b, c] := by
  match l, h with
  | [a, b, c], _ => exact ⟨a, b, c, rfl⟩

/-- A token's cells in a row. -/
theorem tok_cells {w : World} {base g cap : Nat} {L : List (M.Tok × Value)} (h : w.ownsRow base 30 5 (.slice (some ⟨g, 0, none⟩) L.length cap) L.length (tcells L)) (j : Nat) (hj : j < L.length * 5) : w.cell? ⟨g, j, none⟩ = (tcells L)[j]? := h.cellAt j hj

end K
end Go.Proofs.YtlnginciehjlnaaGreatDoor

namespace Go.Proofs.YtlnginciehjlnaaGreatDoor
open Go.RowKit
namespace K

def cell5 (t : M.Tok) (a : Value) : Nat → Option Value
  | 0 => some (.int .i64 t.kind)
  | 1 => some (.string ⟨t.name.toArray⟩)
  | 2 => some a
  | 3 => some (.bool t.closed)
  | 4 => some (.string ⟨t.text.toArray⟩)
  | _ => none

theorem tcells_at : ∀ (L : List (M.Tok × Value)) (m : Nat) (h : m < L.length) {t : M.Tok} {a : Value}, L[m] = (t, a) → ∀ o, o < 5 → (tcells L)[m * 5 + o]? = cell5 t a o
  | p :: r, 0, h, t, a, hq, o, ho => by
    have hq : p = (t, a) := hq
    subst hq
    rcases (by omega : o = 0 ∨ o = 1 ∨ o = 2 ∨ o = 3 ∨ o = 4) with rfl | rfl | rfl | rfl | rfl <;> rfl
  | p :: r, m + 1, h, t, a, hq, o, ho => by
    have ih := tcells_at r m (by simpa using h) (t := t) (a := a) (by simpa using hq) o ho
    have e : tcells (p :: r) = [.int .i64 p.1.kind, .string ⟨p.1.name.toArray⟩, p.2, .bool p.1.closed, .string ⟨p.1.text.toArray⟩] ++ tcells r := rfl
    rw [e, show (m + 1) * 5 + o = (m * 5 + o) + 5 by omega, List.getElem?_append_right (by simp)]
    exact ih

/-- What is known of a slice of tokens: how it looks, and what lies at each place. -/
structure TokAt (v : Value) (ts : List M.Tok) (w : World) (k : Nat) (t : M.Tok) (g : Nat) (x : Value) : Prop where
  form : ∃ cap, v = .slice (some ⟨g, 0, none⟩) ts.length cap
  lt : g < w.heap.size
  c0 : w.cell? ⟨g, k * 5, none⟩ = some (.int .i64 t.kind)
  c1 : w.cell? ⟨g, k * 5 + 1, none⟩ = some (.string ⟨t.name.toArray⟩)
  c2 : w.cell? ⟨g, k * 5 + 2, none⟩ = some x
  c3 : w.cell? ⟨g, k * 5 + 3, none⟩ = some (.bool t.closed)
  c4 : w.cell? ⟨g, k * 5 + 4, none⟩ = some (.string ⟨t.text.toArray⟩)

theorem toks_at {base : Nat} {v : Value} {ts : List M.Tok} {w : World} (h : HasToks base v ts w) {k : Nat} (hk : k < ts.length) : ∃ g x, TokAt v ts w k ts[k] g x ∧ HasAttrs base x ts[k].attrs w := by
  obtain ⟨L, rfl, ho, hA⟩ := h
  have hk' : k < L.length := by simpa using hk
  obtain ⟨ao, cap, rfl, hao⟩ := own_slice ho
  obtain ⟨g, rfl, _⟩ := hao (by omega)
  have hg := (ho.lt g rfl).2
  obtain ⟨t, a, hq⟩ : ∃ t a, L[k] = (t, a) := ⟨L[k].1, L[k].2, rfl⟩
  have et : (L.map (·.1))[k] = t := by rw [List.getElem_map, hq]
  rw [et]
  have hc : ∀ o, o < 5 → w.cell? ⟨g, k * 5 + o, none⟩ = cell5 t a o := fun o ho' => by
    rw [ho.cellAt (k * 5 + o) (by omega)]
    exact tcells_at L k hk' hq o ho'
  refine ⟨g, a, ⟨⟨cap, by rw [List.length_map]⟩, hg, hc 0 (by omega), hc 1 (by omega), hc 2 (by omega), hc 3 (by omega), hc 4 (by omega)⟩, ?_⟩
  have := hA (t, a) (by rw [← hq]; exact List.getElem_mem hk')
  exact this

structure AttrAt (v : Value) (l : List (List UInt8 × List UInt8)) (w : World) (k : Nat) (p : List UInt8 × List UInt8) (g : Nat) : Prop where
  form : ∃ cap, v = .slice (some ⟨g, 0, none⟩) l.length cap
  lt : g < w.heap.size
  c0 : w.cell? ⟨g, k * 2, none⟩ = some (.string ⟨p.1.toArray⟩)
  c1 : w.cell? ⟨g, k * 2 + 1, none⟩ = some (.string ⟨p.2.toArray⟩)

theorem attrs_at {base : Nat} {v : Value} {l : List (List UInt8 × List UInt8)} {w : World} (h : HasAttrs base v l w) {k : Nat} (hk : k < l.length) : ∃ g, AttrAt v l w k l[k] g := by
  unfold HasAttrs at h
  obtain ⟨ao, cap, rfl, hao⟩ := own_slice h
  obtain ⟨g, rfl, _⟩ := hao (by omega)
  refine ⟨g, ⟨cap, rfl⟩, (h.lt g rfl).2, ?_, ?_⟩
  · have := h.cellAt (k * 2) (by omega)
    rw [this]
    exact acells_at l k hk rfl 0 (by omega)
  · rw [h.cellAt (k * 2 + 1) (by omega)]
    exact acells_at l k hk rfl 1 (by omega)

theorem TokAt.below {v : Value} {ts : List M.Tok} {w w' : World} {k : Nat} {t : M.Tok} {g : Nat} {x : Value} (h : TokAt v ts w k t g x) (b : Below w.heap.size w w') : TokAt v ts w' k t g x := by
  have hc : ∀ o, w'.cell? ⟨g, o, none⟩ = w.cell? ⟨g, o, none⟩ := fun o => b.cell (p := ⟨g, o, none⟩) h.lt
  exact ⟨h.form, Nat.lt_of_lt_of_le h.lt b.size, (hc _).trans h.c0, (hc _).trans h.c1, (hc _).trans h.c2, (hc _).trans h.c3, (hc _).trans h.c4⟩
theorem AttrAt.below {v : Value} {l : List (List UInt8 × List UInt8)} {w w' : World} {k : Nat} {p : List UInt8 × List UInt8} {g : Nat} (h : AttrAt v l w k p g) (b : Below w.heap.size w w') : AttrAt v l w' k p g := by
  have hc : ∀ o, w'.cell? ⟨g, o, none⟩ = w.cell? ⟨g, o, none⟩ := fun o => b.cell (p := ⟨g, o, none⟩) h.lt
  exact ⟨h.form, Nat.lt_of_lt_of_le h.lt b.size, (hc _).trans h.c0, (hc _).trans h.c1⟩

theorem own_len {w : World} {base : Nat} {e : TypeId} {size : Nat} {v : Value} {n : Nat} {xs : List Value} (h : w.ownsRow base e size v n xs) : n ≤ 9223372036854775807 := by
  rcases h.2 with ⟨_, h0⟩ | ⟨g, cap, cur, _, _, _, h1, h2, _⟩
  · omega
  · unfold maxLen at h2; omega

theorem toks_form {base : Nat} {v : Value} {ts : List M.Tok} {w : World} (h : HasToks base v ts w) : ∃ ao cap, v = .slice ao ts.length cap := by
  obtain ⟨L, rfl, ho, hA⟩ := h
  obtain ⟨ao, cap, hv, _⟩ := own_slice ho
  exact ⟨ao, cap, by rw [List.length_map]; exact hv⟩
theorem attrs_form {base : Nat} {v : Value} {l : List (List UInt8 × List UInt8)} {w : World} (h : HasAttrs base v l w) : ∃ ao cap, v = .slice ao l.length cap := by
  obtain ⟨ao, cap, hv, _⟩ := own_slice h
  exact ⟨ao, cap, hv⟩

set_option maxHeartbeats 4000000 in
set_option maxRecDepth 100000 in
theorem equal (b1 b2 : Nat) (v1 v2 : Value) (ts : List M.Tok) (w : World) (h1 : HasToks b1 v1 ts w) (h2 : HasToks b2 v2 ts w) (hl : ts.length ≤ 1000000) :
    Calls Tryz.prog 24 #[v1, v2] w fun e w' => e = .returned (.bool true) ∧ Below w.heap.size w w' := by
  obtain ⟨ao1, cap1, rfl⟩ := toks_form h1
  obtain ⟨ao2, cap2, rfl⟩ := toks_form h2
  have H1 := Lib.hid h1
  have H2 := Lib.hid h2
  clear h1 h2
  go_enter Tryz.func24, Tryz.ntmps24
  go_wp2_with fail
  go_loopw [5] (fun u wr => ∃ k : Nat, u = .int .i64 k ∧ k ≤ ts.length ∧ Below w.heap.size w wr) (fun u _ => ts.length - (intOf u).toNat)
  case atStart => exact ⟨0, rfl, Nat.zero_le _, Below.refl _ _⟩
  case round =>
    obtain ⟨k, rfl, hk, hB⟩ := hrel
    obtain ⟨wo, rfl⟩ : ∃ wo : World, wo = wr := ⟨_, rfl⟩
    by_cases hlt : k < ts.length
    · have hlt1 : (k : Int) < (ts.length : Int) := by omega
      obtain ⟨g1, x1, t1, ha1⟩ := toks_at H1.out hlt
      obtain ⟨g2, x2, t2, ha2⟩ := toks_at H2.out hlt
      generalize ts[k] = t at *
      obtain ⟨tk, tn, ta, tc, tt⟩ := t
      dsimp only at ha1 ha2
      obtain ⟨y1, c1, rfl⟩ := attrs_form ha1
      obtain ⟨y2, c2, rfl⟩ := attrs_form ha2
      have hal := own_len ha1
      have T1 := Lib.hid t1
      have T2 := Lib.hid t2
      have HA1 := Lib.hid ha1
      have HA2 := Lib.hid ha2
      obtain ⟨⟨d1, f1⟩, l1, e0, e1, e2, e3, e4⟩ := t1.below hB
      obtain ⟨⟨d2, f2⟩, l2, i0, i1, i2, i3, i4⟩ := t2.below hB
      dsimp only at e0 e1 e3 e4 i0 i1 i3 i4
      injection f1 with f1 _ f1'
      injection f2 with f2 _ f2'
      subst f1 f1' f2 f2'
      clear ha1 ha2 t1 t2
      go_wp2_with fail
      go_quiet (fail)
      go_wp2_with fail
      go_loopw [6] (fun u wr => ∃ m : Nat, u = .int .i64 m ∧ m ≤ ta.length ∧ Below w.heap.size w wr) (fun u _ => ta.length - (intOf u).toNat)
      case atStart => exact ⟨0, rfl, Nat.zero_le _, Below.trans hB ⟨rfl, rfl, rfl, Nat.le_refl _, fun _ _ => rfl⟩⟩
      case round =>
        obtain ⟨m, rfl, hm, hBm⟩ := hrel
        clear e0 e1 e2 e3 e4 i0 i1 i2 i3 i4 l1 l2
        have j1 := (T1.out.below hBm).c2
        have j2 := (T2.out.below hBm).c2
        by_cases hlm : m < ta.length
        · have hlm1 : (m : Int) < (ta.length : Int) := by omega
          obtain ⟨q1, z1⟩ := attrs_at HA1.out hlm
          obtain ⟨q2, z2⟩ := attrs_at HA2.out hlm
          generalize ta[m] = p at *
          obtain ⟨pn, pv⟩ := p
          obtain ⟨⟨d3, f3⟩, l3, r0, r1⟩ := z1.below hBm
          obtain ⟨⟨d4, f4⟩, l4, s0, s1⟩ := z2.below hBm
          dsimp only at r0 r1 s0 s1
          injection f3 with f3 _ f3'
          injection f4 with f4 _ f4'
          subst f3 f3' f4 f4'
          go_wp2_with fail
          go_quiet (fail)
          go_wp2_with fail
          go_roundw
          case rel => exact ⟨m + 1, by go_num, by omega, Below.trans hBm ⟨rfl, rfl, rfl, Nat.le_refl _, fun _ _ => rfl⟩⟩
          case measure => simp [intOf]; omega
        · have hge : (ta.length : Int) ≤ (m : Int) := by omega
          go_wp2_with fail
          go_roundw
          case rel => exact ⟨k + 1, by go_num, by omega, hBm⟩
          case measure => simp [intOf]; omega
    · have hge : (ts.length : Int) ≤ (k : Int) := by omega
      go_wp2_with fail
      go_ret
      exact ⟨rfl, hB⟩

end K
end Go.Proofs.YtlnginciehjlnaaGreatDoor

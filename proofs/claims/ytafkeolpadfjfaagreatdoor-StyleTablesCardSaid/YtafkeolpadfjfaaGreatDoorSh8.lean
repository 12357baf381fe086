/- Format. The law StyleTables. -/
import Derived.Test.YtafkeolpadfjfaaGreatDoorRwr2
import Derived.Test.YtafkeolpadfjfaaGreatDoorJoinLay
set_option linter.unusedVariables false
set_option linter.unusedSimpArgs false
namespace Go.Proofs.YtafkeolpadfjfaaGreatDoor
open Go.RowKit Go.Sort
namespace K
open H
theorem infoStr : (Tryz.prog.info? 9).map (fun i => (i.zero, i.size, i.bytes)) = some (some (.string ByteArray.empty), 1, 16) := by kernel_rfl
def strCells (l : List (List UInt8)) : List Value := l.map fun x => .string ⟨x.toArray⟩
theorem own_keep {w w' : World} {base : Nat} {e : TypeId} {size : Nat} {v : Value} {n : Nat} {xs : List Value} (h : w.ownsRow base e size v n xs) (b : Below w.heap.size w w') : w'.ownsRow base e size v n xs := by
 refine ⟨h.1, ?_⟩
 rcases h.2 with hn | ⟨g, cap, cur, rfl, hb, hgg, rest⟩
 ·exact Or.inl hn
 ·exact Or.inr ⟨g, cap, cur, rfl, hb, (b.block g (lt_of_block hgg)).trans hgg, rest⟩
theorem own_form {w : World} {base : Nat} {e : TypeId} {size : Nat} {v : Value} {n : Nat} {xs : List Value} (h : w.ownsRow base e size v n xs) : ∃ ao cap, v = .slice ao n cap := by
 rcases h.2 with ⟨h1, h2⟩ | ⟨g', cap', cur, h1, _⟩
 ·exact ⟨none, 0, by rw [h1, h2]⟩
 ·exact ⟨_, cap', h1⟩
theorem jn2 : (⟨#[32, 62, 43, 126]⟩ : ByteArray).extract 1 2 = ⟨#[62]⟩ := by rfl
theorem jn3 : (⟨#[32, 62, 43, 126]⟩ : ByteArray).extract 2 3 = ⟨#[43]⟩ := by rfl
theorem jn4 : (⟨#[32, 62, 43, 126]⟩ : ByteArray).extract 3 4 = ⟨#[126]⟩ := by rfl
set_option maxHeartbeats 4000000 in
set_option maxRecDepth 100000 in
theorem format_gen (E : World → Prop) (hEb : ∀ {w w' : World}, E w → Below w.heap.size w w' → E w') (v : Value) (l : List (List L.Part)) (w : World) (S : Nat → Prop) (hS : SelsAt S w v l) (hl : l.length ≤ 1000000) (hne : 0 < l.length) (hok : ∀ ps ∈ l, SelOk ps) (hsz : (L.fList l).length ≤ 100000000) (hE : E w) (hPf : ∀ (j : Int) (p : L.Part) (v : Value) (w : World) (S : Nat → Prop), (∃ ps ∈ l, p ∈ ps) → TestsAt S w v p.tests → PartOk p → (L.fPart p).length ≤ 1000000000 → E w → Calls Tryz.prog 56 #[.agg #[.int .i64 j, .string ⟨p.type.toArray⟩, v]] w (TextPost (L.fPart p) w)) :
  Calls Tryz.prog 25 #[v] w (TextPost (L.fList l) w) := by
 have HS := Lib.hid hS
 have HE := Lib.hid hE
 have HPf := Lib.hid hPf
 have HOk := Lib.hid hok
 have HSz := Lib.hid hsz
 obtain ⟨ao, cap, hv⟩ := hS.form
 generalize hNN : l.length = N at hv hl hne
 have HN := Lib.hid hNN
 subst hv
 have H0 : Hid (w.ownsRow w.heap.size 9 1 (.slice none 0 0) 0 (strCells ((l.take 0).map L.fSel))) := Lib.hid (World.ownsRow_nil _ _ _ _)
 have HB0 := Lib.hid (Below.refl w.heap.size w)
 clear hS hE hok hsz hNN hPf
 cases ao with
 | none =>
  exfalso
  have := ListAt.none_ HS.out
  have h2 := HN.out
  rw [this] at h2; simp at h2; omega
 | some aa =>
  obtain ⟨g, hg⟩ : ∃ g, aa = ⟨g, 0, none⟩ := by
   obtain ⟨ps, h1, h2, h3⟩ := HS.out
   rcases h2 with ⟨hv, hn⟩ | ⟨g, cap', hv, _⟩
   ·cases hv
   ·simp only [Value.slice.injEq, Option.some.injEq] at hv
    exact ⟨g, hv.1⟩
  subst hg
  go_enter Tryz.func25, Tryz.ntmps25
  go_wp2_with fail
  go_loopw [3, 11] (fun v3 v11 wr => ∃ k : Nat, v11 = .int .i64 k ∧ k ≤ N ∧ Hid (wr.ownsRow w.heap.size 9 1 v3 k (strCells ((l.take k).map L.fSel))) ∧ Hid (Below w.heap.size w wr)) (fun _ v11 _ => N - (intOf v11).toNat)
  case atStart => exact ⟨0, rfl, Nat.zero_le _, H0, HB0⟩
  case round =>
   obtain ⟨k, rfl, hk, HO, HB⟩ := hrel
   clear HB0 H0
   obtain ⟨ov, cv, hov⟩ := own_form HO.out
   subst hov
   by_cases hkN : k < N
   ·have hkl : k < l.length := by rw [HN.out]; exact hkN
    have hkI : (k : Int) < (N : Int) := by omega
    have hsl := keeps_sels HS.out (Kept.below HB.out)
    obtain ⟨hlt, hnl, hsS, vk, hc, hp⟩ := ListAt.at_ cSel_len hsl hkl
    have c0 := hc 0 (by omega)
    simp only [Nat.mul_one, Nat.add_zero] at c0
    have c1 : wr.cell? ⟨g, k, none⟩ = some vk := c0
    have htk : (l.take (k + 1)).map L.fSel = (l.take k).map L.fSel ++ [L.fSel l[k]] := by
     rw [List.take_succ_eq_append_getElem hkl, List.map_append]; rfl
    have HTk := Lib.hid htk
    have hlen := len_sel (List.getElem_mem hkl)
    have hle : (L.fSel l[k]).length ≤ 100000000 := Nat.le_trans hlen HSz.out
    have hsok := HOk.out l[k] (List.getElem_mem hkl)
    have hlin : l[k] ∈ l := List.getElem_mem hkl
    clear hc c0 hnl hsS hsl htk hlen
    generalize l[k] = ps at *
    have HPs := Lib.hid hp
    have HSok := Lib.hid hsok
    have HLin := Lib.hid hlin
    have HLe := Lib.hid hle
    obtain ⟨ap, cp, hvk⟩ := hp.form
    generalize hMM : ps.length = M at hvk
    have HM := Lib.hid hMM
    subst hvk
    have hM1 : M ≤ 1000000 := by have := HSok.out.2; omega
    clear hp hsok hle hMM hkl hlin
    have hB2 : Below wr.heap.size wr (wr.alloc (.cells #[.slice ap M cp] 98)) := (Below.refl _ wr).alloc (Nat.le_refl _) _
    have HI0 : Hid (Below wr.heap.size wr (wr.alloc (.cells #[.slice ap M cp] 98))) := Lib.hid hB2
    have HA0 : Hid (L.fSel ps = [] ++ L.fSel (ps.drop 0)) := Lib.hid rfl
    clear hB2
    go_wp2_with fail
    clear c1
    go_loopw [6, 18] (fun v6 v18 wi => ∃ m : Nat, v18 = .int .i64 m ∧ m ≤ M ∧ (∃ acc : List UInt8, v6 = .string ⟨acc.toArray⟩ ∧ Hid (L.fSel ps = acc ++ L.fSel (ps.drop m))) ∧ Hid (Below wr.heap.size wr wi)) (fun _ v18 _ => M - (intOf v18).toNat)
    case atStart => exact ⟨0, rfl, Nat.zero_le _, ⟨[], rfl, HA0⟩, HI0⟩
    case round =>
     obtain ⟨m, rfl, hm, ⟨acc, rfl, HA⟩, HI⟩ := hrel
     clear HI0 HA0
     by_cases hmM : m < M
     ·have hml : m < ps.length := by rw [HM.out]; exact hmM
      have hmI : (m : Int) < (M : Int) := by omega
      have hpl := keeps_parts HPs.out ((Kept.below HI.out))
      cases ap with
      | none => exact absurd (ListAt.none_ hpl) (by intro h; rw [h] at hml; simp at hml)
      | some ba =>
       obtain ⟨g2, hg2⟩ : ∃ g2, ba = ⟨g2, 0, none⟩ := by
        obtain ⟨qs, h1, h2, h3⟩ := hpl
        rcases h2 with ⟨hv, hn⟩ | ⟨g', cap', hv, _⟩
        ·cases hv
        ·simp only [Value.slice.injEq, Option.some.injEq] at hv
         exact ⟨g', hv.1⟩
       subst hg2
       obtain ⟨hlt2, hnl, hsS, vm, hc, hp⟩ := ListAt.at_ cPart_len hpl hml
       have hsplit : L.fSel (ps.drop m) = (L.fjoin ps[m].join ++ L.fPart ps[m]) ++ L.fSel (ps.drop (m + 1)) := by
        rw [List.drop_eq_getElem_cons hml]; rfl
       have HA2 := Lib.hid (HA.out.trans (by rw [hsplit]))
       have hpok := HSok.out.1 ps[m] (List.getElem_mem hml)
       have hpin : ps[m] ∈ ps := List.getElem_mem hml
       clear hnl hsS hpl hsplit HA
       generalize ps[m] = p at *
       have hlen : acc.length + (L.fjoin p.join).length + (L.fPart p).length ≤ 100000000 := by
        have h1 := HLe.out
        rw [HA2.out, List.length_append, List.length_append, List.length_append] at h1
        omega
       have hp2 : TestsAt S wr vm p.tests := hp
       obtain ⟨aq, cq, hvm⟩ := hp2.form
       generalize p.tests.length = nq at hvm
       have HPm := Lib.hid hp2
       have HPok := Lib.hid hpok
       have HPin := Lib.hid hpin
       have d0 : wr.cell? ⟨g2, m * 3 + 0, none⟩ = some (.int .i64 p.join) := hc 0 (by omega)
       have d1 : wr.cell? ⟨g2, m * 3 + 1, none⟩ = some (.string ⟨p.type.toArray⟩) := hc 1 (by omega)
       have d2 : wr.cell? ⟨g2, m * 3 + 2, none⟩ = some vm := hc 2 (by omega)
       simp only [Nat.add_zero] at d0
       subst hvm
       have hjl := hpok.2.2
       clear hc hp hp2 hpok hml hpin
       have hB3 : Below wr.heap.size wr (wr.alloc (.cells #[.int .i64 p.join, .string ⟨p.type.toArray⟩, .slice aq nq cq] 101)) := (Below.refl _ wr).alloc (Nat.le_refl _) _
       have HE3 := Lib.hid (hEb (hEb (hEb HE.out HB.out) HI.out) hB3)
       have HT3 := Lib.hid (keeps_tests HPm.out (Kept.below hB3))
       have HI3 := Lib.hid (HI.out.trans (hB3.mono HI.out.size))
       have Q := Lib.hid (HPf.out p.join p (.slice aq nq cq) _ S ⟨ps, HLin.out, HPin.out⟩ HT3.out HPok.out (by omega) HE3.out)
       clear hB3 HT3 HE3 HPm HPok
       generalize L.fPart p = ft at *
       have zf := bytes_size ft
       have za := bytes_size acc
       obtain ⟨jn, ty, ts⟩ := p
       have j2 := jn2
       have j3 := jn3
       have j4 := jn4
       dsimp only at *
       rcases (by omega : jn = 0 ∨ jn = 1 ∨ jn = 2 ∨ jn = 3 ∨ jn = 4) with rfl | rfl | rfl | rfl | rfl
       all_goals
        go_wp2_with fail
        refine Q.out.mono ?_
        rintro e w2 ⟨rfl, hb2⟩
        have HI4 := Lib.hid (HI3.out.trans (hb2.mono HI3.out.size))
        clear hb2 Q HI3 d0 d1 d2
        go_wp2_with fail
        go_roundw
        case rel => exact ⟨m + 1, by go_num, by omega, ⟨_, congrArg Value.string (by apply ByteArray.ext; simp [ByteArray.data_append]; rfl), Lib.hid (by rw [HA2.out]; simp [L.fjoin])⟩, HI4⟩
        case measure => simp [intOf]; omega
     ·obtain rfl : m = M := by omega
      have HA2 : Hid (L.fSel ps = acc) := Lib.hid (by
       have h := HA.out
       rw [← HM.out, List.drop_length] at h
       simpa [L.fSel] using h)
      clear HA
      obtain ⟨i0, hi0, hz0, hz1, hz2⟩ := info_parts infoStr
      have HO2 := Lib.hid (own_keep HO.out HI.out)
      have hsz1 := HB.out.size
      have hsz2 := HI.out.size
      go_wp2_with (at_builtin; refine wpList_append_lies _ rfl _ _ 29 rfl w.heap.size 9 i0 _ 1 16 Tryz.underlying29 hi0 hz0 hz1 hz2 rfl (by decide) (.slice ov k cv) k (strCells ((l.take k).map L.fSel)) rfl (HO2.out.alloc _) ⟨wr.heap.size, 0, none⟩ 1 1 [.string ⟨acc.toArray⟩] rfl rfl ?c1 ?c2 ?c3 ?c4 ?c5 ?c6 (wr.heap.size + 1) ?c7 ?_)
      case c1 => exact World.news_of_block (heap_alloc_new wr (.cells #[.string ⟨acc.toArray⟩] 9))
      case c2 => simp [Value.oneCell']
      case c3 => omega
      case c4 => unfold maxLen; omega
      case c5 => omega
      case c6 => simp; omega
      case c7 => simp
      intro gg cap2 w5 hown5 hgrow hat hlt5
      have HO5 : Hid (w5.ownsRow w.heap.size 9 1 (.slice (some ⟨gg, 0, none⟩) (k + 1) cap2) (k + 1) (strCells ((l.take (k + 1)).map L.fSel))) := Lib.hid (by
       rw [HTk.out, HA2.out]
       unfold strCells at *
       rw [List.map_append, List.map_take]
       exact hown5)
      have HB5 : Hid (Below w.heap.size w w5) := Lib.hid (by
       have h1 := (HB.out.trans (HI.out.mono hsz1)).alloc (o := .cells #[.string ⟨acc.toArray⟩] 9) (by omega)
       exact h1.grown hgrow (by simp; omega) (fun q hq => (HO2.out.lt q hq).1))
      clear hown5 hgrow hat
      go_wp2_with fail
      go_roundw
      case rel => exact ⟨k + 1, by go_num, by omega, HO5, HB5⟩
      case measure => simp [intOf]; omega
   ·obtain rfl : k = N := by omega
    obtain ⟨g', cap', hgg, _, hlt'⟩ := HO.out.form hne
    simp only [Value.slice.injEq, true_and] at hgg
    obtain ⟨rfl, rfl⟩ := hgg
    have hcapN : k ≤ cv := by
     rcases HO.out.2 with ⟨h1, _⟩ | ⟨g2, cap2, cur, h1, _, _, h2, _⟩
     ·cases h1
     ·simp only [Value.slice.injEq] at h1
      omega
    have hxs : (l.map fun x => (⟨(L.fSel x).toArray⟩ : ByteArray)).length = k := by rw [List.length_map]; exact HN.out
    have HJ := Lib.hid (Tryz.joinText g' 0 cv (l.map fun x => (⟨(L.fSel x).toArray⟩ : ByteArray)) ⟨#[44, 32]⟩ wr (by
     intro j x hx
     rw [Nat.zero_add]
     have hj : j < k := by
      rw [← hxs]
      exact (List.getElem?_eq_some_iff.1 hx).1
     rw [HO.out.cellAt j (by omega)]
     unfold strCells
     rw [← HN.out, List.take_length]
     rw [List.getElem?_map, List.getElem?_map]
     rw [List.getElem?_map] at hx
     cases hl2 : l[j]? with
     | none => rw [hl2] at hx; cases hx
     | some y => rw [hl2] at hx; obtain rfl := Option.some.inj hx; rfl) hlt' (by omega) (by omega) (by
     have h := HSz.out
     rw [fList_join] at h
     have e : (l.map fun x => (⟨(L.fSel x).toArray⟩ : ByteArray)).map (·.data.toList) = l.map L.fSel := by rw [List.map_map]; congr 1
     rw [e]
     show (Lib.join (l.map L.fSel) [44, 32]).length ≤ _
     omega))
    have e : (l.map fun x => (⟨(L.fSel x).toArray⟩ : ByteArray)).map (·.data.toList) = l.map L.fSel := by rw [List.map_map]; congr 1
    rw [hxs, e] at HJ
    have HQ : Hid (Lib.join (l.map L.fSel) [44, 32] = L.fList l) := Lib.hid (fList_join l).symm
    clear e hxs
    go_wp2_with fail
    refine HJ.out.mono ?_
    rintro e w2 ⟨rfl, hb2⟩
    have HB2 := Lib.hid (HB.out.trans (hb2.mono HB.out.size))
    clear hb2 HJ
    go_wp2_with fail
    go_ret
    exact ⟨ret_str (by rw [← HQ.out]), HB2.out⟩
/-- Names alone: no variable is read. -/
theorem format_plain (v : Value) (l : List (List L.Part)) (w : World) (S : Nat → Prop) (hS : SelsAt S w v l) (hl : l.length ≤ 1000000) (hne : 0 < l.length) (hok : ∀ ps ∈ l, SelOk ps) (hsz : (L.fList l).length ≤ 100000000) (h0 : ∀ ps ∈ l, ∀ p ∈ ps, p.tests = []) :
  Calls Tryz.prog 25 #[v] w (TextPost (L.fList l) w) :=
 format_gen (fun _ => True) (fun _ _ => trivial) v l w S hS hl hne hok hsz trivial (fun j p v w S hin hT ho hz hE => by
  obtain ⟨ps, h1, h2⟩ := hin
  refine part_text_gen (fun _ => True) (fun _ _ => trivial) j p.type v p.tests w S hT ho.2.1 hz trivial ?_
  intro t ht
  rw [h0 ps h1 p h2] at ht
  cases ht)
end K
end Go.Proofs.YtafkeolpadfjfaaGreatDoor
namespace Go.Proofs.YtafkeolpadfjfaaGreatDoor
open Go.RowKit Go.Sort
namespace Y
open H V K
def inheritT : List UInt8 := [105, 110, 104, 101, 114, 105, 116]
def initialT : List UInt8 := [105, 110, 105, 116, 105, 97, 108]
def spInitialT : List UInt8 := [32, 73, 110, 105, 116, 105, 97, 108]
theorem value_global {p s t : List UInt8} (hp : p ∈ propNames) (ht : S.trim (S.lower s) = t) (h : S.globals.contains t = true) : S.value p s = some (some ⟨1, 0, t⟩) := by
 obtain ⟨r, hr, rfl⟩ := List.mem_map.1 hp
 unfold S.value
 cases hf : S.tab.find? (fun x => x.1 == r.1) with
 | none => exact absurd (List.find?_eq_none.1 hf r hr) (by simp)
 | some x =>
  dsimp only
  rw [ht]
  unfold S.valueT
  rw [if_pos (by rw [h, Bool.or_true])]
theorem pv_ok {x : S.Val} {w w' : World} {e : Ending} (h : PvPost (some (some x)) w e w') : e = .returned (.tuple #[vval x, .int .i64 0]) ∧ Below w.heap.size w w' := by
 obtain ⟨v, er, h1, h2, h3⟩ := h
 rcases h3.out with ⟨h, h4⟩ | ⟨h, _⟩ | ⟨h, _⟩
 ·injection h with h; injection h with h
  subst h h4
  exact ⟨h1, h2⟩
 ·cases h
 ·cases h
/-- The names ascend. -/
theorem names_less : ((List.range 36).all fun i => Op.bytesLess (propNames.getD i []) (propNames.getD (i + 1) [])) = true := by decide +kernel
theorem name_less {k : Nat} (hk : k < 37) (h0 : 0 < k) : Op.bytesLess (propNames[k - 1]'(by rw [props_len]; omega)) (propNames[k]'(by rw [props_len]; exact hk)) = true := by
 have h := List.all_eq_true.1 names_less (k - 1) (List.mem_range.2 (by omega))
 rw [show k - 1 + 1 = k by omega] at h
 simpa [List.getD, props_len, hk, (by omega : k - 1 < 37)] using h
theorem declsN_lenT : ∀ (n : Nat) (s : List UInt8), (S.declsN n s).length ≤ 4 * (s.length + 1)
 | 0, s => by unfold S.declsN; simp
 | n + 1, s => by
  unfold S.declsN
  split
  ·simp
  ·rename_i h
   have h1 := V.declOf_len (s.take (S.scan [59] 0 0 s))
   have h2 := declsN_lenT n (s.drop (S.scan [59] 0 0 s + 1))
   rw [List.length_append]
   rw [List.length_drop] at h2
   have : 0 < s.length := List.length_pos_iff.2 h
   omega
theorem rule_decls {x : S.Rule} (h : x ∈ S.rules S.agent) : x.decls.length ≤ 100000 := by
 unfold S.rules at h
 obtain ⟨p, hp, hx⟩ := List.mem_filterMap.1 h
 obtain ⟨_, _, l, h1, h2, _, _⟩ := S.head_ok hp
 unfold S.ruleOf at hx
 rw [h1] at hx
 dsimp only at hx
 rw [h2] at hx
 obtain rfl : (⟨l, S.decls p.2⟩ : S.Rule) = x := by simpa using hx
 have h3 := declsN_lenT (p.2.length + 1) p.2
 have h4 := S.body_len hp
 show (S.declsN _ p.2).length ≤ _
 omega
theorem numbered_at {l : List S.Rule} {j : Nat} (h : j < (S.numbered l).length) (h2 : j < l.length) : (S.numbered l)[j] = (l[j], j) := by simp [S.numbered]
theorem geqStr (t : TypeId) (x y : ByteArray) : Go.binOp .geq t (.string x) (.string y) = pure (.bool !(Op.bytesLess x.toList y.toList)) := rfl
theorem bytes_toL (l : List UInt8) : ByteArray.toList ⟨l.toArray⟩ = l := by rw [Lib.toList_data]
attribute [local go_sem] geqStr
set_option maxHeartbeats 16000000 in
set_option maxRecDepth 100000 in
theorem StyleTables (w : World) (hR : Repairs redText redText) (hM : HasMax w) (hE : YEnv w) : Calls Tryz.prog 8 #[] w (TruePost w) := by
 have HE := Lib.hid hE
 have HM := Lib.hid hM
 have hg1 := hE.big
 have hg2 := hE.big2
 have hMz := hM.2
 have QA := Lib.hid (fun W (h : Below w.heap.size w W) => awake W hR (HM.out.below h hMz) (HE.out.below h hg1 hg2))
 have QV1 := Lib.hid (fun p (hp : p ∈ propNames) W (h : Below w.heap.size w W) => (parseValue p inheritT W (by decide) (HE.out.below h hg1 hg2)).mono (fun e w' hh => pv_ok (by rw [value_global hp (by decide +kernel) (show S.globals.contains inheritT = true by decide +kernel)] at hh; exact hh)))
 have QV2 := Lib.hid (fun p (hp : p ∈ propNames) W (h : Below w.heap.size w W) => (parseValue p spInitialT W (by decide) (HE.out.below h hg1 hg2)).mono (fun e w' hh => pv_ok (by rw [value_global hp (by decide +kernel) (show S.globals.contains initialT = true by decide +kernel)] at hh; exact hh)))
 have QD := Lib.hid (fun W (h : Below w.heap.size w W) => default_ W (HM.out.below h hMz) (HE.out.below h hg1 hg2))
 have QP := Lib.hid (properties w hE)
 have HRl := Lib.hid (fun x (hx : x ∈ S.rules S.agent) => And.intro (S.rule_ok hx) (rule_decls hx))
 have hrn : (S.rules S.agent).length ≤ 3900 := Nat.le_trans (List.length_filterMap_le _ _) S.agent_raw
 have QSh := Lib.hid (fun W => sheetAgent W)
 have QAg := Lib.hid (fun W => agentC W)
 unfold inheritT at QV1
 unfold spInitialT initialT at QV2
 generalize S.agent = agt at *
 generalize S.rules agt = rls at *
 clear hR hM hE
 go_enter Tryz.func8, Tryz.ntmps8
 go_wp2_with fail
 refine QP.out.mono ?_
 rintro e w1 ⟨v, rfl, hown, hb⟩
 have HB1 := Lib.hid hb
 have hst : StrsAt (w.heap.size ≤ ·) w1 v propNames := strs_own (l := propNames) (T := 9) (by rw [props_len]; exact hown) (fun h => by rw [props_len] at h; cases h)
 have HS1 := Lib.hid hst
 obtain ⟨ao, cap, hv⟩ := hst.form
 rw [props_len] at hv
 subst hv
 obtain ⟨g, hg⟩ := lsl HS1.out (by rw [props_len]; omega)
 subst hg
 have Q2 := Lib.hid (QA.out w1 hb)
 clear hb hown hst QP
 go_wp2_with fail
 refine Q2.out.mono ?_
 rintro e w2 ⟨rfl, hb⟩
 have HB2 := Lib.hid (HB1.out.trans (hb.mono HB1.out.size))
 have HS2 : Hid (StrsAt (w.heap.size ≤ ·) w2 (.slice (some ⟨g, 0, none⟩) 37 cap) propNames) := Lib.hid (ListAt.keep keeps_any HS1.out (Kept.below hb))
 clear hb Q2 QA HB1 HS1
 go_wp2_with fail
 have HU0 := Lib.hid (Below.refl w2.heap.size w2)
 go_loopw [2] (fun v2 wr => ∃ k : Nat, v2 = .int .i64 k ∧ k ≤ 37 ∧ Hid (Below w2.heap.size w2 wr)) (fun v2 _ => 37 - (intOf v2).toNat)
 case atStart => exact ⟨0, rfl, by omega, HU0⟩
 case round =>
  obtain ⟨k, rfl, hk, HU⟩ := hrel
  clear HU0
  by_cases hlt : k < 37
  ·have hkI : (k : Int) < 37 := by omega
   have hkl : k < propNames.length := by rw [props_len]; exact hlt
   have HSr : Hid (StrsAt (w.heap.size ≤ ·) wr (.slice (some ⟨g, 0, none⟩) 37 cap) propNames) := Lib.hid (ListAt.keep keeps_any HS2.out (Kept.below HU.out))
   obtain ⟨hglt, hnl, hgS, vx, hc, hp⟩ := ListAt.at_ cStr_len HSr.out hkl
   have c0 : wr.cell? ⟨g, k, none⟩ = some (.string ⟨(propNames[k]).toArray⟩) := by have := hc 0 (by omega); simp only [Nat.mul_one, Nat.add_zero] at this; exact this
   have hBr := HB2.out.trans (HU.out.mono HB2.out.size)
   have Q1 := Lib.hid (QV1.out propNames[k] (List.getElem_mem hkl) wr hBr)
   have Q2 := Lib.hid (fun W h => QV2.out propNames[k] (List.getElem_mem hkl) W h)
   have HLess := Lib.hid (fun h0 => name_less hlt h0)
   clear hc hp hgS hnl
   have hpl : k - 1 < propNames.length := by rw [props_len]; omega
   obtain ⟨hglt', hnl', hgS', vx', hc', hp'⟩ := ListAt.at_ cStr_len HSr.out hpl
   have d0 : wr.cell? ⟨g, k - 1, none⟩ = some (.string ⟨(propNames[k - 1]).toArray⟩) := by have := hc' 0 (by omega); simp only [Nat.mul_one, Nat.add_zero] at this; exact this
   clear hc' hp' hgS' hnl' hglt'
   have HLs : Hid (0 < k → Op.bytesLess (propNames[k - 1]) (propNames[k]) = true) := Lib.hid (fun h0 => name_less hlt h0)
   clear HLess HSr
   generalize hnk : propNames[k] = nk at *
   generalize hnp : propNames[k - 1] = np at *
   clear hnk hnp hkl hpl
   go_wp2_with fail
   refine Q1.out.mono ?_
   rintro e w3 ⟨rfl, hb⟩
   unfold vval vcells
   dsimp only
   have hB3 := hBr.trans (hb.mono hBr.size)
   have HV1 := Lib.hid (Blk.new w3 #[.int .i64 ((1 : Nat) : Int), .int .i64 0, .string ⟨#[105, 110, 104, 101, 114, 105, 116]⟩] 32)
   have HB4 := Lib.hid (hB3.alloc hB3.size (.cells #[.int .i64 ((1 : Nat) : Int), .int .i64 0, .string ⟨#[105, 110, 104, 101, 114, 105, 116]⟩] 32))
   have HW4 := Lib.hid (hb.alloc hb.size (.cells #[.int .i64 ((1 : Nat) : Int), .int .i64 0, .string ⟨#[105, 110, 104, 101, 114, 105, 116]⟩] 32))
   clear hb Q1 hB3
   go_upto_region 8 with fail
   generalize (w3.alloc (.cells #[.int .i64 ((1 : Nat) : Int), .int .i64 0, .string ⟨#[105, 110, 104, 101, 114, 105, 116]⟩] 32)) = w4 at *
   generalize w3.heap.size = V1 at *
   have c4 : w4.cell? ⟨g, k, none⟩ = some (.string ⟨nk.toArray⟩) := (HW4.out.cell (p := ⟨g, k, none⟩) hglt).trans c0
   have Q3 := Lib.hid (Q2.out w4 HB4.out)
   clear Q2
   go_wp2_with fail
   refine Q3.out.mono ?_
   rintro e w5 ⟨rfl, hb⟩
   unfold vval vcells
   dsimp only
   have hV1 := Blk.below HV1.out hb
   have hB5 := HB4.out.trans (hb.mono HB4.out.size)
   have hW5 := HW4.out.trans (hb.mono HW4.out.size)
   have HV2 := Lib.hid (Blk.new w5 #[.int .i64 ((1 : Nat) : Int), .int .i64 0, .string ⟨#[105, 110, 105, 116, 105, 97, 108]⟩] 32)
   have HB6 := Lib.hid (hB5.alloc hB5.size (.cells #[.int .i64 ((1 : Nat) : Int), .int .i64 0, .string ⟨#[105, 110, 105, 116, 105, 97, 108]⟩] 32))
   have HW6 := Lib.hid (hW5.alloc hW5.size (.cells #[.int .i64 ((1 : Nat) : Int), .int .i64 0, .string ⟨#[105, 110, 105, 116, 105, 97, 108]⟩] 32))
   have HV16 := Lib.hid (hV1.alloc (.cells #[.int .i64 ((1 : Nat) : Int), .int .i64 0, .string ⟨#[105, 110, 105, 116, 105, 97, 108]⟩] 32))
   clear hb Q3 hB5 hW5 hV1 HV1 HB4 HW4 c4
   go_upto_region 9 with fail
   generalize (w5.alloc (.cells #[.int .i64 ((1 : Nat) : Int), .int .i64 0, .string ⟨#[105, 110, 105, 116, 105, 97, 108]⟩] 32)) = w6 at *
   generalize w5.heap.size = V2 at *
   have c6 : w6.cell? ⟨g, k, none⟩ = some (.string ⟨nk.toArray⟩) := (HW6.out.cell (p := ⟨g, k, none⟩) hglt).trans c0
   have d6 : w6.cell? ⟨g, k - 1, none⟩ = some (.string ⟨np.toArray⟩) := (HW6.out.cell (p := ⟨g, k - 1, none⟩) hglt).trans d0
   have HU6 : Hid (Below w2.heap.size w2 w6) := Lib.hid (HU.out.trans (HW6.out.mono HU.out.size))
   obtain ⟨hca, hfa⟩ := cells_of HV16.out
   have a0 : w6.cell? ⟨V1, 0, none⟩ = some (.int .i64 ((1 : Nat) : Int)) := hca 0
   have a1 : w6.cell? ⟨V1, 1, none⟩ = some (.int .i64 0) := hca 1
   have a2 : w6.cell? ⟨V1, 2, none⟩ = some (.string ⟨#[105, 110, 104, 101, 114, 105, 116]⟩) := hca 2
   obtain ⟨hcb, hfb⟩ := cells_of HV2.out
   have b2 : w6.cell? ⟨V2, 2, none⟩ = some (.string ⟨#[105, 110, 105, 116, 105, 97, 108]⟩) := hcb 2
   clear hca hfa hcb hfb HV16 HV2 HB6 HW6 c0 d0
   by_cases h0 : 0 < k
   ·have h0I : (0 : Int) < (k : Int) := by omega
    have hlss := HLs.out h0
    have hlss2 : Op.bytesLess (ByteArray.toList ⟨np.toArray⟩) (ByteArray.toList ⟨nk.toArray⟩) = true := by rw [bytes_toL, bytes_toL]; exact hlss
    have wk : IntKind.i64.wrap ((k : Int) - 1) = ((k - 1 : Nat) : Int) := by rw [show ((k - 1 : Nat) : Int) = (k : Int) - 1 by omega]; exact IntWalk.i64_in _ (by omega)
    have hk1 : ((k - 1 : Nat) : Int) < 37 := by omega
    go_wp2_with fail
    go_quiet (fail)
    go_wp2_with fail
    go_roundw
    case rel => exact ⟨k + 1, by go_num, by omega, Lib.hid (belowN HU6.out _)⟩
    case measure => simp [intOf]; omega
   ·have h0I : ¬ (0 : Int) < (k : Int) := by omega
    go_wp2_with fail
    go_quiet (fail)
    go_wp2_with fail
    go_roundw
    case rel => exact ⟨k + 1, by go_num, by omega, Lib.hid (belowN HU6.out _)⟩
    case measure => simp [intOf]; omega
  ·have hkI : ¬ (k : Int) < 37 := by omega
   have HB7 := Lib.hid (HB2.out.trans (HU.out.mono HB2.out.size))
   have Q1 := Lib.hid (QD.out wr HB7.out)
   clear QV1 QV2 HS2 HU QD HB2
   go_wp2_with fail
   refine Q1.out.mono ?_
   rintro e w3 ⟨v, rfl, hb, hr⟩
   have hB3 := HB7.out.trans (hb.mono HB7.out.size)
   have HR3 := Lib.hid hr
   obtain ⟨ao, cap2, hv⟩ := hr.form
   have hnl : (S.numbered rls).length = rls.length := by unfold S.numbered; rw [List.length_zipIdx]
   rw [hnl] at hv
   have hNN : ∃ N, N = rls.length := ⟨_, rfl⟩
   obtain ⟨N, hN⟩ := hNN
   rw [← hN] at hv
   have HN := Lib.hid hN
   subst hv
   clear hN hnl
   have HX3 := Lib.hid (Blk.new w3 #[.int .i64 1, .slice ao N cap2] 51)
   have HB4 := Lib.hid (hB3.alloc hB3.size (.cells #[.int .i64 1, .slice ao N cap2] 51))
   have HR4 : Hid (RulesAt (w.heap.size ≤ ·) (w3.alloc (.cells #[.int .i64 1, .slice ao N cap2] 51)) (.slice ao N cap2) rls) := Lib.hid (keeps_rules hr (((Kept.refl w3).alloc _).trans (Kept.wide (fun g hg => by have := HB7.out.size; show w.heap.size ≤ g; omega))))
   clear hb hr Q1 hB3 HR3 HB7
   go_upto_region 12 with fail
   generalize (w3.alloc (.cells #[.int .i64 1, .slice ao N cap2] 51)) = w4 at *
   generalize w3.heap.size = X at *
   go_wp2_with (go_at_call 28; refine (QAg.out _).mono ?_)
   rintro e w' ⟨rfl, rfl⟩
   go_wp2_with (go_at_call 24; refine (QSh.out _).mono ?_)
   rintro e w5 ⟨v2, rfl, hb, hr⟩
   have HX5 := Lib.hid (Blk.below HX3.out hb)
   have HR5 : Hid (RulesAt (w.heap.size ≤ ·) w5 (.slice ao N cap2) rls) := Lib.hid (keeps_rules HR4.out (Kept.below hb))
   have HB5 := Lib.hid (HB4.out.trans (hb.mono HB4.out.size))
   have HF5 : Hid (RRulesAt (w.heap.size ≤ ·) w5 v2 rls) := Lib.hid (keeps_rrules hr (Kept.wide (fun g hg => Nat.le_trans HB4.out.size hg)))
   obtain ⟨ao2, cap3, hv2⟩ := hr.form
   rw [← HN.out] at hv2
   subst hv2
   clear hb hr HX3 HR4 HB4 QSh QAg
   obtain ⟨hcx, hfx⟩ := cells_of HX5.out
   have x0 : w5.cell? ⟨X, 0, none⟩ = some (.int .i64 1) := hcx 0
   have x1 : w5.cell? ⟨X, 1, none⟩ = some (.slice ao N cap2) := hcx 1
   clear hcx hfx
   go_wp2_with fail
   clear x0 x1
   have HI0 := Lib.hid (Below.refl w5.heap.size w5)
   go_loopw [9] (fun v9 wr => ∃ k : Nat, v9 = .int .i64 k ∧ k ≤ N ∧ Hid (Below w5.heap.size w5 wr)) (fun v9 _ => N - (intOf v9).toNat)
   case atStart => exact ⟨0, rfl, by omega, HI0⟩
   case round =>
    obtain ⟨j, rfl, hj, HI⟩ := hrel
    clear HI0
    by_cases hjN : j < N
    ·have hjI : (j : Int) < (N : Int) := by omega
     have hjl : j < rls.length := by rw [← HN.out]; exact hjN
     have hj39 : j < 3900 := by omega
     obtain ⟨⟨hr1, hr2, hr3, hr4, hr5, hr6⟩, hr7⟩ := HRl.out rls[j] (List.getElem_mem hjl)
     have HRr : RulesAt (w.heap.size ≤ ·) wr (.slice ao N cap2) rls := keeps_rules HR5.out (Kept.below HI.out)
     have HFr : RRulesAt (w.heap.size ≤ ·) wr (.slice ao2 N cap3) rls := keeps_rrules HF5.out (Kept.below HI.out)
     obtain ⟨g1, hg1⟩ := lsl HRr (by unfold S.numbered; rw [List.length_zipIdx]; omega)
     obtain ⟨g2, hg2⟩ := lsl HFr (by omega)
     subst hg1 hg2
     have hjn : j < (S.numbered rls).length := by unfold S.numbered; rw [List.length_zipIdx]; exact hjl
     have hjx : (S.numbered rls)[j] = (rls[j], j) := numbered_at hjn hjl
     obtain ⟨hl1, hn1, hs1, n1, hc1, hp1⟩ := ListAt.at_ cRule_len HRr hjn
     obtain ⟨hl2, hn2, hs2, n2, hc2, hp2⟩ := ListAt.at_ V.cRR_len HFr hjl
     rw [hjx] at hp1
     obtain ⟨hpS1, b1, hpD1, _⟩ := hp1
     obtain ⟨hpS2, b2, hpD2, _⟩ := hp2
     have c10 := hc1 0 (by omega)
     have c11 := hc1 1 (by omega)
     have c12 := hc1 2 (by omega)
     have c20 := hc2 0 (by omega)
     have c21 := hc2 1 (by omega)
     rw [hjx] at c10 c11 c12
     have k10 : wr.cell? ⟨g1, j * 3, none⟩ = some (fstV n1) := c10
     have k11 : wr.cell? ⟨g1, j * 3 + 1, none⟩ = some (sndV n1) := c11
     have k12 : wr.cell? ⟨g1, j * 3 + 2, none⟩ = some (.int .i64 (j : Nat)) := c12
     have k20 : wr.cell? ⟨g2, j * 2, none⟩ = some (fstV n2) := c20
     have k21 : wr.cell? ⟨g2, j * 2 + 1, none⟩ = some (sndV n2) := c21
     have HXr := Blk.below HX5.out HI.out
     have hXl := Blk.lt HXr
     obtain ⟨hcx, hfx⟩ := cells_of HXr
     have x1 : wr.cell? ⟨X, 1, none⟩ = some (.slice (some ⟨g1, 0, none⟩) N cap2) := hcx 1
     have QF1 := Lib.hid (fun W (hB : Below wr.heap.size wr W) => K.format_plain (fstV n1) rls[j].sels W (w.heap.size ≤ ·) (K.keeps_sels hpS1 (Kept.below hB)) (by omega) hr2 hr3 (by omega) hr5)
     have QF2 := Lib.hid (fun W (hB : Below wr.heap.size wr W) => F.format (fstV n2) rls[j].sels W (w.heap.size ≤ ·) (K.keeps_sels hpS2 (Kept.below hB)) (by omega) hr4 (by omega))
     have QSm := Lib.hid (fun W (hB : Below wr.heap.size wr W) => same rls[j].decls (sndV n1) (sndV n2) b1 b2 W (OwnD.keep hpD1 hB) (own_keepD hpD2 hB) (by omega))
     clear hr1 hr2 hr3 hr4 hr5 hr6 hr7 hc1 hc2 c10 c11 c12 c20 c21 hjx hjn hn1 hn2 hs1 hs2 hpS1 hpS2 hpD1 hpD2 HRr HFr hcx hfx HXr
     unfold K.TextPost at QF1 QF2
     unfold TruePost at QSm
     generalize L.fList rls[j].sels = ft at *
     generalize fstV n1 = y10 at *
     generalize sndV n1 = y11 at *
     generalize fstV n2 = y20 at *
     generalize sndV n2 = y21 at *
     clear hjl
     have D10 := fun d : Later wr.heap.size wr => Later.cell k10 hl1 d
     have D11 := fun d : Later wr.heap.size wr => Later.cell k11 hl1 d
     have D12 := fun d : Later wr.heap.size wr => Later.cell k12 hl1 d
     have D20 := fun d : Later wr.heap.size wr => Later.cell k20 hl2 d
     have D21 := fun d : Later wr.heap.size wr => Later.cell k21 hl2 d
     have DX := fun d : Later wr.heap.size wr => Later.cell x1 hXl d
     go_wp2_with fail
     refine wp_region_later (by kernel_rfl) (by kernel_rfl) ?_
     repeat (go_big_quiet_step (first | (go_at_call 25; exact Calls.later (QF1.out _ (Later.h _))) | (go_at_call 26; exact Calls.later (QF2.out _ (Later.h _))) | (go_at_call 12; exact Calls.later (QSm.out _ (Later.h _)))))
     refine wpQuiet_nil ?_
     intro _ hw'
     obtain ⟨dq, hw''⟩ := hw'
     subst hw''
     clear D10 D11 D12 D20 D21 DX k10 k11 k12 k20 k21 x1 QF1 QF2 QSm
     go_wp2_with fail
     go_roundw
     case rel => exact ⟨j + 1, by go_num, by omega, Lib.hid (HI.out.trans (dq.h.mono HI.out.size))⟩
     case measure => simp [intOf]; omega
    ·have hjI : ¬ (j : Int) < (N : Int) := by omega
     go_wp2_with fail
     go_ret
     exact ⟨rfl, HB5.out.trans (HI.out.mono HB5.out.size)⟩
theorem tables_red_ok : Repairs redText redText := fun w => ascRepair redText w (by decide) (by decide)
end Y
end Go.Proofs.YtafkeolpadfjfaaGreatDoor

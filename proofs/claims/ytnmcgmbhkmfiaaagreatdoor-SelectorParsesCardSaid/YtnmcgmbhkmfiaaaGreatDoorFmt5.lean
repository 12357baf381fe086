/- The shelf's facts for strings.Join at this translation (the layings written by layhand.py). Format. -/
import Derived.Test.YtnmcgmbhkmfiaaaGreatDoorProg
import Derived.Shelf.Strings.OnBuilder
import Derived.Test.YtnmcgmbhkmfiaaaGreatDoorFmt4
set_option linter.unusedVariables false
set_option linter.unusedSimpArgs false
namespace Go.Proofs
open Go.Shelf
def Tryz.hand156_ren : Go.Shelf.Ren := ⟨fun | 156 => 22 | 165 => 38 | 166 => 39 | 169 => 40 | 240 => 60 | 241 => 61 | 276 => 77 | 277 => 78 | n => n, fun | 0 => 0 | 3 => 3 | 4 => 4 | 5 => 5 | 9 => 9 | 20 => 20 | 31 => 54 | 37 => 72 | 70 => 78 | 72 => 80 | 75 => 83 | 76 => 84 | 80 => 58 | 127 => 105 | 164 => 112 | n => n, fun | n => n⟩
theorem Tryz.hand156 : Go.Proofs.Lays.n156 Tryz.prog Tryz.hand156_ren := {
  mixed := by kernel_rfl
  f156 := Tryz.func22.trans (congrArg some (by kernel_rfl))
  f165 := Tryz.func38.trans (congrArg some (by kernel_rfl))
  f166 := Tryz.func39.trans (congrArg some (by kernel_rfl))
  f169 := Tryz.func40.trans (congrArg some (by kernel_rfl))
  f240 := Tryz.func60.trans (congrArg some (by kernel_rfl))
  f241 := Tryz.func61.trans (congrArg some (by kernel_rfl))
  f276 := Tryz.func77.trans (congrArg some (by kernel_rfl))
  f277 := Tryz.func78.trans (congrArg some (by kernel_rfl))
  t0 := Tryz.underlying0
  a0 := Tryz.isAgg0
  z0 := Tryz.sizeOf0
  v0 := Tryz.zeroValue0
  t3 := Tryz.underlying3
  a3 := Tryz.isAgg3
  z3 := Tryz.sizeOf3
  v3 := Tryz.zeroValue3
  t4 := Tryz.underlying4
  a4 := Tryz.isAgg4
  z4 := Tryz.sizeOf4
  v4 := Tryz.zeroValue4
  t9 := Tryz.underlying9
  a9 := Tryz.isAgg9
  z9 := Tryz.sizeOf9
  v9 := Tryz.zeroValue9
  t20 := Tryz.underlying20
  a20 := Tryz.isAgg20
  z20 := Tryz.sizeOf20
  v20 := Tryz.zeroValue20
  t31 := Tryz.underlying54
  a31 := Tryz.isAgg54
  z31 := Tryz.sizeOf54
  v31 := Tryz.zeroValue54
  t37 := Tryz.underlying72
  a37 := Tryz.isAgg72
  z37 := Tryz.sizeOf72
  v37 := Tryz.zeroValue72
  t70 := Tryz.underlying78
  a70 := Tryz.isAgg78
  z70 := Tryz.sizeOf78
  v70 := Tryz.zeroValue78
  t72 := Tryz.underlying80
  a72 := Tryz.isAgg80
  z72 := Tryz.sizeOf80
  v72 := Tryz.zeroValue80
  t75 := Tryz.underlying83
  a75 := Tryz.isAgg83
  z75 := Tryz.sizeOf83
  v75 := Tryz.zeroValue83
  t76 := Tryz.underlying84
  a76 := Tryz.isAgg84
  z76 := Tryz.sizeOf84
  v76 := Tryz.zeroValue84
  t127 := Tryz.underlying105
  a127 := Tryz.isAgg105
  z127 := Tryz.sizeOf105
  v127 := Tryz.zeroValue105
  t164 := Tryz.underlying112
  a164 := Tryz.isAgg112
  z164 := Tryz.sizeOf112
  v164 := Tryz.zeroValue112 }
theorem Tryz.hand156x : Builder.Extra Tryz.prog Tryz.hand156_ren := {
  sizeBuilder := by kernel_rfl
  liesBuilder := by kernel_rfl
  t5 := Tryz.underlying5
  a5 := Tryz.isAgg5
  z5 := Tryz.sizeOf5
  v5 := Tryz.zeroValue5
  infoByte := by kernel_rfl
  cellsByte := by kernel_rfl
  sizeByte := by kernel_rfl
  neB5 := by decide }

theorem Tryz.joinText (bk o c : Nat) (xs : List ByteArray) (sep : ByteArray) (w : World)
    (hcells : ∀ (j : Nat) x, xs[j]? = some x → w.cell? ⟨bk, o + j, none⟩ = some (.string x))
    (hbk : bk < w.heap.size) (hN : xs.length ≤ 140737488355328) (hcap : xs.length ≤ c)
    (hlen : (Lib.join (xs.map (·.data.toList)) sep.data.toList).length ≤ 140737488355328) :
    Calls Tryz.prog 22 #[.slice (some ⟨bk, o, none⟩) xs.length c, .string sep] w fun e w' => e = .returned (.string ⟨(Lib.join (xs.map (·.data.toList)) sep.data.toList).toArray⟩) ∧ RowKit.Below w.heap.size w w' :=
  Any.strings_Join Tryz.hand156 Tryz.hand156x bk o c xs sep w hcells hbk hN hcap hlen

end Go.Proofs

namespace Go.Proofs.YtnmcgmbhkmfiaaaGreatDoor
open Go.RowKit Go.Sort
namespace K
open H

theorem infoStr : (Tryz.prog.info? 9).map (fun i => (i.zero, i.size, i.bytes)) = some (some (.string ByteArray.empty), 1, 16) := by kernel_rfl

def strCells (l : List (List UInt8)) : List Value := l.map fun x => .string ⟨x.toArray⟩

theorem own_keep {w w' : World} {base : Nat} {e : TypeId} {size : Nat} {v : Value} {n : Nat} {xs : List Value} (h : w.ownsRow base e size v n xs) (b : Below w.heap.size w w') : w'.ownsRow base e size v n xs := by
  refine ⟨h.1, ?_⟩
  rcases h.2 with hn | ⟨g, cap, cur, rfl, hb, hgg, rest⟩
  · exact Or.inl hn
  · exact Or.inr ⟨g, cap, cur, rfl, hb, (b.block g (lt_of_block hgg)).trans hgg, rest⟩

theorem own_form {w : World} {base : Nat} {e : TypeId} {size : Nat} {v : Value} {n : Nat} {xs : List Value} (h : w.ownsRow base e size v n xs) : ∃ ao cap, v = .slice ao n cap := by
  rcases h.2 with ⟨h1, h2⟩ | ⟨g', cap', cur, h1, _⟩
  · exact ⟨none, 0, by rw [h1, h2]⟩
  · exact ⟨_, cap', h1⟩

theorem jn2 : (⟨#[32, 62, 43, 126]⟩ : ByteArray).extract 1 2 = ⟨#[62]⟩ := by rfl
theorem jn3 : (⟨#[32, 62, 43, 126]⟩ : ByteArray).extract 2 3 = ⟨#[43]⟩ := by rfl
theorem jn4 : (⟨#[32, 62, 43, 126]⟩ : ByteArray).extract 3 4 = ⟨#[126]⟩ := by rfl

set_option maxHeartbeats 4000000 in
set_option maxRecDepth 100000 in
theorem format (v : Value) (l : List (List L.Part)) (w : World) (S : Nat → Prop) (hS : SelsAt S w v l) (hl : l.length ≤ 1000000) (hne : 0 < l.length) (hok : ∀ ps ∈ l, SelOk ps) (hsz : (L.fList l).length ≤ 100000000) (hE : FEnv w) :
    Calls Tryz.prog 7 #[v] w (TextPost (L.fList l) w) := by
  have HS := Lib.hid hS
  have HE := Lib.hid hE
  have HOk := Lib.hid hok
  have HSz := Lib.hid hsz
  obtain ⟨ao, cap, hv⟩ := hS.form
  generalize hNN : l.length = N at hv hl hne
  have HN := Lib.hid hNN
  subst hv
  have H0 : Hid (w.ownsRow w.heap.size 9 1 (.slice none 0 0) 0 (strCells ((l.take 0).map L.fSel))) := Lib.hid (World.ownsRow_nil _ _ _ _)
  have HB0 := Lib.hid (Below.refl w.heap.size w)
  clear hS hE hok hsz hNN
  cases ao with
  | none =>
    exfalso
    have := ListAt.none_ HS.out
    have h2 := HN.out
    rw [this] at h2; simp at h2; omega
  | some aa =>
    obtain ⟨g, hg⟩ : ∃ g, aa = ⟨g, 0, none⟩ := by
      obtain ⟨ps, h1, h2, h3⟩ := HS.out
      rcases h2 with ⟨hv, hn⟩ | ⟨g, cap', hv, _⟩
      · cases hv
      · simp only [Value.slice.injEq, Option.some.injEq] at hv
        exact ⟨g, hv.1⟩
    subst hg
    go_enter Tryz.func7, Tryz.ntmps7
    go_wp2_with fail
    go_loopw [3, 11] (fun v3 v11 wr => ∃ k : Nat, v11 = .int .i64 k ∧ k ≤ N ∧ Hid (wr.ownsRow w.heap.size 9 1 v3 k (strCells ((l.take k).map L.fSel))) ∧ Hid (Below w.heap.size w wr)) (fun _ v11 _ => N - (intOf v11).toNat)
    case atStart => exact ⟨0, rfl, Nat.zero_le _, H0, HB0⟩
    case round =>
      obtain ⟨k, rfl, hk, HO, HB⟩ := hrel
      clear HB0 H0
      obtain ⟨ov, cv, hov⟩ := own_form HO.out
      subst hov
      by_cases hkN : k < N
      · have hkl : k < l.length := by rw [HN.out]; exact hkN
        have hkI : (k : Int) < (N : Int) := by omega
        have hsl := keeps_sels HS.out (Kept.below HB.out)
        obtain ⟨hlt, hnl, hsS, vk, hc, hp⟩ := ListAt.at_ cSel_len hsl hkl
        have c0 := hc 0 (by omega)
        simp only [Nat.mul_one, Nat.add_zero] at c0
        have c1 : wr.cell? ⟨g, k, none⟩ = some vk := c0
        have htk : (l.take (k + 1)).map L.fSel = (l.take k).map L.fSel ++ [L.fSel l[k]] := by
          rw [List.take_succ_eq_append_getElem hkl, List.map_append]; rfl
        have HTk := Lib.hid htk
        have hlen := len_sel (List.getElem_mem hkl)
        have hle : (L.fSel l[k]).length ≤ 100000000 := Nat.le_trans hlen HSz.out
        have hsok := HOk.out l[k] (List.getElem_mem hkl)
        clear hc c0 hnl hsS hsl htk hlen
        generalize l[k] = ps at *
        have HPs := Lib.hid hp
        have HSok := Lib.hid hsok
        have HLe := Lib.hid hle
        obtain ⟨ap, cp, hvk⟩ := hp.form
        generalize hMM : ps.length = M at hvk
        have HM := Lib.hid hMM
        subst hvk
        have hM1 : M ≤ 1000000 := by have := HSok.out.2; omega
        clear hp hsok hle hMM hkl
        have hB2 : Below wr.heap.size wr (wr.alloc (.cells #[.slice ap M cp] 39)) := (Below.refl _ wr).alloc (Nat.le_refl _) _
        have HI0 : Hid (Below wr.heap.size wr (wr.alloc (.cells #[.slice ap M cp] 39))) := Lib.hid hB2
        have HA0 : Hid (L.fSel ps = [] ++ L.fSel (ps.drop 0)) := Lib.hid rfl
        clear hB2
        go_wp2_with fail
        clear c1
        go_loopw [6, 18] (fun v6 v18 wi => ∃ m : Nat, v18 = .int .i64 m ∧ m ≤ M ∧ (∃ acc : List UInt8, v6 = .string ⟨acc.toArray⟩ ∧ Hid (L.fSel ps = acc ++ L.fSel (ps.drop m))) ∧ Hid (Below wr.heap.size wr wi)) (fun _ v18 _ => M - (intOf v18).toNat)
        case atStart => exact ⟨0, rfl, Nat.zero_le _, ⟨[], rfl, HA0⟩, HI0⟩
        case round =>
          obtain ⟨m, rfl, hm, ⟨acc, rfl, HA⟩, HI⟩ := hrel
          clear HI0 HA0
          by_cases hmM : m < M
          · have hml : m < ps.length := by rw [HM.out]; exact hmM
            have hmI : (m : Int) < (M : Int) := by omega
            have hpl := keeps_parts HPs.out ((Kept.below HI.out))
            cases ap with
            | none => exact absurd (ListAt.none_ hpl) (by intro h; rw [h] at hml; simp at hml)
            | some ba =>
              obtain ⟨g2, hg2⟩ : ∃ g2, ba = ⟨g2, 0, none⟩ := by
                obtain ⟨qs, h1, h2, h3⟩ := hpl
                rcases h2 with ⟨hv, hn⟩ | ⟨g', cap', hv, _⟩
                · cases hv
                · simp only [Value.slice.injEq, Option.some.injEq] at hv
                  exact ⟨g', hv.1⟩
              subst hg2
              obtain ⟨hlt2, hnl, hsS, vm, hc, hp⟩ := ListAt.at_ cPart_len hpl hml
              have hsplit : L.fSel (ps.drop m) = (L.fjoin ps[m].join ++ L.fPart ps[m]) ++ L.fSel (ps.drop (m + 1)) := by
                rw [List.drop_eq_getElem_cons hml]; rfl
              have HA2 := Lib.hid (HA.out.trans (by rw [hsplit]))
              have hpok := HSok.out.1 ps[m] (List.getElem_mem hml)
              clear hnl hsS hpl hsplit HA
              generalize ps[m] = p at *
              have hlen : acc.length + (L.fjoin p.join).length + (L.fPart p).length ≤ 100000000 := by
                have h1 := HLe.out
                rw [HA2.out, List.length_append, List.length_append, List.length_append] at h1
                omega
              have hp2 : TestsAt S wr vm p.tests := hp
              obtain ⟨aq, cq, hvm⟩ := hp2.form
              generalize p.tests.length = nq at hvm
              have HPm := Lib.hid hp2
              have HPok := Lib.hid hpok
              have d0 : wr.cell? ⟨g2, m * 3 + 0, none⟩ = some (.int .i64 p.join) := hc 0 (by omega)
              have d1 : wr.cell? ⟨g2, m * 3 + 1, none⟩ = some (.string ⟨p.type.toArray⟩) := hc 1 (by omega)
              have d2 : wr.cell? ⟨g2, m * 3 + 2, none⟩ = some vm := hc 2 (by omega)
              simp only [Nat.add_zero] at d0
              subst hvm
              have hjl := hpok.2.2
              clear hc hp hp2 hpok hml
              have hB3 : Below wr.heap.size wr (wr.alloc (.cells #[.int .i64 p.join, .string ⟨p.type.toArray⟩, .slice aq nq cq] 57)) := (Below.refl _ wr).alloc (Nat.le_refl _) _
              have HE3 := Lib.hid (((HE.out.below HB.out).below HI.out).below hB3)
              have HT3 := Lib.hid (keeps_tests HPm.out (Kept.below hB3))
              have HI3 := Lib.hid (HI.out.trans (hB3.mono HI.out.size))
              have Q := Lib.hid (part_full p.join p (.slice aq nq cq) _ S HT3.out HPok.out (by omega) HE3.out)
              clear hB3 HT3 HE3 HPm HPok
              generalize L.fPart p = ft at *
              have zf := bytes_size ft
              have za := bytes_size acc
              obtain ⟨jn, ty, ts⟩ := p
              have j2 := jn2
              have j3 := jn3
              have j4 := jn4
              dsimp only at *
              rcases (by omega : jn = 0 ∨ jn = 1 ∨ jn = 2 ∨ jn = 3 ∨ jn = 4) with rfl | rfl | rfl | rfl | rfl
              all_goals
                go_wp2_with fail
                refine Q.out.mono ?_
                rintro e w2 ⟨rfl, hb2⟩
                have HI4 := Lib.hid (HI3.out.trans (hb2.mono HI3.out.size))
                clear hb2 Q HI3 d0 d1 d2
                go_wp2_with fail
                go_roundw
                case rel => exact ⟨m + 1, by go_num, by omega, ⟨_, congrArg Value.string (by apply ByteArray.ext; simp [ByteArray.data_append]; rfl), Lib.hid (by rw [HA2.out]; simp [L.fjoin])⟩, HI4⟩
                case measure => simp [intOf]; omega
          · obtain rfl : m = M := by omega
            have HA2 : Hid (L.fSel ps = acc) := Lib.hid (by
              have h := HA.out
              rw [← HM.out, List.drop_length] at h
              simpa [L.fSel] using h)
            clear HA
            obtain ⟨i0, hi0, hz0, hz1, hz2⟩ := info_parts infoStr
            have HO2 := Lib.hid (own_keep HO.out HI.out)
            have hsz1 := HB.out.size
            have hsz2 := HI.out.size
            go_wp2_with (at_builtin; refine wpList_append_lies _ rfl _ _ 54 rfl w.heap.size 9 i0 _ 1 16 Tryz.underlying54 hi0 hz0 hz1 hz2 rfl (by decide) (.slice ov k cv) k (strCells ((l.take k).map L.fSel)) rfl (HO2.out.alloc _) ⟨wr.heap.size, 0, none⟩ 1 1 [.string ⟨acc.toArray⟩] rfl rfl ?c1 ?c2 ?c3 ?c4 ?c5 ?c6 (wr.heap.size + 1) ?c7 ?_)
            case c1 => exact World.news_of_block (heap_alloc_new wr (.cells #[.string ⟨acc.toArray⟩] 9))
            case c2 => simp [Value.oneCell']
            case c3 => omega
            case c4 => unfold maxLen; omega
            case c5 => omega
            case c6 => simp; omega
            case c7 => simp
            intro gg cap2 w5 hown5 hgrow hat hlt5
            have HO5 : Hid (w5.ownsRow w.heap.size 9 1 (.slice (some ⟨gg, 0, none⟩) (k + 1) cap2) (k + 1) (strCells ((l.take (k + 1)).map L.fSel))) := Lib.hid (by
              rw [HTk.out, HA2.out]
              unfold strCells at *
              rw [List.map_append, List.map_take]
              exact hown5)
            have HB5 : Hid (Below w.heap.size w w5) := Lib.hid (by
              have h1 := (HB.out.trans (HI.out.mono hsz1)).alloc (o := .cells #[.string ⟨acc.toArray⟩] 9) (by omega)
              exact h1.grown hgrow (by simp; omega) (fun q hq => (HO2.out.lt q hq).1))
            clear hown5 hgrow hat
            go_wp2_with fail
            go_roundw
            case rel => exact ⟨k + 1, by go_num, by omega, HO5, HB5⟩
            case measure => simp [intOf]; omega
      · obtain rfl : k = N := by omega
        obtain ⟨g', cap', hgg, _, hlt'⟩ := HO.out.form hne
        simp only [Value.slice.injEq, true_and] at hgg
        obtain ⟨rfl, rfl⟩ := hgg
        have hcapN : k ≤ cv := by
          rcases HO.out.2 with ⟨h1, _⟩ | ⟨g2, cap2, cur, h1, _, _, h2, _⟩
          · cases h1
          · simp only [Value.slice.injEq] at h1
            omega
        have hxs : (l.map fun x => (⟨(L.fSel x).toArray⟩ : ByteArray)).length = k := by rw [List.length_map]; exact HN.out
        have HJ := Lib.hid (Tryz.joinText g' 0 cv (l.map fun x => (⟨(L.fSel x).toArray⟩ : ByteArray)) ⟨#[44, 32]⟩ wr (by
          intro j x hx
          rw [Nat.zero_add]
          have hj : j < k := by
            rw [← hxs]
            exact (List.getElem?_eq_some_iff.1 hx).1
          rw [HO.out.cellAt j (by omega)]
          unfold strCells
          rw [← HN.out, List.take_length]
          rw [List.getElem?_map, List.getElem?_map]
          rw [List.getElem?_map] at hx
          cases hl2 : l[j]? with
          | none => rw [hl2] at hx; cases hx
          | some y => rw [hl2] at hx; obtain rfl := Option.some.inj hx; rfl) hlt' (by omega) (by omega) (by
          have h := HSz.out
          rw [fList_join] at h
          have e : (l.map fun x => (⟨(L.fSel x).toArray⟩ : ByteArray)).map (·.data.toList) = l.map L.fSel := by rw [List.map_map]; congr 1
          rw [e]
          show (Lib.join (l.map L.fSel) [44, 32]).length ≤ _
          omega))
        have e : (l.map fun x => (⟨(L.fSel x).toArray⟩ : ByteArray)).map (·.data.toList) = l.map L.fSel := by rw [List.map_map]; congr 1
        rw [hxs, e] at HJ
        have HQ : Hid (Lib.join (l.map L.fSel) [44, 32] = L.fList l) := Lib.hid (fList_join l).symm
        clear e hxs
        go_wp2_with fail
        refine HJ.out.mono ?_
        rintro e w2 ⟨rfl, hb2⟩
        have HB2 := Lib.hid (HB.out.trans (hb2.mono HB.out.size))
        clear hb2 HJ
        go_wp2_with fail
        go_ret
        exact ⟨ret_str (by rw [← HQ.out]), HB2.out⟩

end K
end Go.Proofs.YtnmcgmbhkmfiaaaGreatDoor

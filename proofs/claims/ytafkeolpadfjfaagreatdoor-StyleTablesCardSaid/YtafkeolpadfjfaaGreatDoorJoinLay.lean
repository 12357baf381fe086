/- The engine's own sheet: what its text comes to. No program in sight but the check of ASCII. What Properties comes to. What utf8.ValidString and text.Repair come to at a string of ASCII: no table is read. The law StyleDecls. What style.Default and the law's Agent come to. The law StyleTables. The shelf's facts for strings.Join at this translation (the layings written by layhand.py). -/
import Derived.Test.YtafkeolpadfjfaaGreatDoorSel19
import Derived.Test.YtafkeolpadfjfaaGreatDoorSty19
import Derived.Test.YtafkeolpadfjfaaGreatDoorFmt2
import Derived.Test.YtafkeolpadfjfaaGreatDoorRwr2
import Derived.Test.YtafkeolpadfjfaaGreatDoorRwr4
import Derived.Test.YtafkeolpadfjfaaGreatDoorSty28
import Derived.Test.YtafkeolpadfjfaaGreatDoorSty34
import Derived.Test.YtafkeolpadfjfaaGreatDoorJoin
import Derived.Test.YtafkeolpadfjfaaGreatDoorSty1
import Derived.Shelf.Unicode.WordAny
import Derived.Lib.ValidAsc
import Derived.Laws.BitsAllLaws
import Derived.Deep.LoopGhost
import Derived.Deep.DeepMust
import Derived.Deep.DeepBigQuietO
import Derived.Test.YtafkeolpadfjfaaGreatDoorSh2
import Derived.Test.YtafkeolpadfjfaaGreatDoorSh1
import Derived.Test.YtafkeolpadfjfaaGreatDoorSh4
import Derived.Test.YtafkeolpadfjfaaGreatDoorSty5
import Derived.Test.YtafkeolpadfjfaaGreatDoorProg
import Derived.Shelf.Strings.OnBuilder
set_option linter.unusedVariables false
set_option linter.unusedSimpArgs false
namespace Go.Proofs.YtafkeolpadfjfaaGreatDoor
namespace S
def agent : List UInt8 :=
 [104, 116, 109, 108, 44, 32, 98, 111, 100, 121, 44, 32, 100, 105, 118, 44, 32, 112, 44, 32, 117, 108, 44, 32, 111, 108, 44, 32, 104, 49, 44, 32, 104, 50, 44, 32, 104, 51, 44, 32] ++
 [104, 52, 44, 32, 104, 53, 44, 32, 104, 54, 44, 32, 102, 111, 114, 109, 44, 32, 112, 114, 101, 44, 32, 115, 101, 99, 116, 105, 111, 110, 44, 32, 97, 114, 116, 105, 99, 108, 101, 44] ++
 [32, 104, 101, 97, 100, 101, 114, 44, 32, 102, 111, 111, 116, 101, 114, 44, 32, 109, 97, 105, 110, 44, 32, 110, 97, 118, 44, 32, 97, 100, 100, 114, 101, 115, 115, 44, 32, 98, 108, 111] ++
 [99, 107, 113, 117, 111, 116, 101, 44, 32, 102, 105, 101, 108, 100, 115, 101, 116, 44, 32, 104, 114, 44, 32, 99, 97, 112, 116, 105, 111, 110, 44, 32, 100, 108, 32, 123, 32, 100, 105, 115] ++
 [112, 108, 97, 121, 58, 32, 98, 108, 111, 99, 107, 32, 125, 10, 104, 101, 97, 100, 44, 32, 116, 105, 116, 108, 101, 44, 32, 115, 116, 121, 108, 101, 44, 32, 115, 99, 114, 105, 112, 116] ++
 [44, 32, 109, 101, 116, 97, 44, 32, 108, 105, 110, 107, 44, 32, 98, 97, 115, 101, 32, 123, 32, 100, 105, 115, 112, 108, 97, 121, 58, 32, 110, 111, 110, 101, 32, 125, 10, 98, 111, 100] ++
 [121, 32, 123, 32, 109, 97, 114, 103, 105, 110, 58, 32, 56, 112, 120, 32, 125, 10, 112, 44, 32, 117, 108, 44, 32, 111, 108, 44, 32, 112, 114, 101, 44, 32, 98, 108, 111, 99, 107, 113] ++
 [117, 111, 116, 101, 32, 123, 32, 109, 97, 114, 103, 105, 110, 58, 32, 49, 54, 112, 120, 32, 48, 32, 125, 10, 117, 108, 44, 32, 111, 108, 32, 123, 32, 112, 97, 100, 100, 105, 110, 103] ++
 [45, 108, 101, 102, 116, 58, 32, 52, 48, 112, 120, 32, 125, 10, 108, 105, 32, 123, 32, 100, 105, 115, 112, 108, 97, 121, 58, 32, 108, 105, 115, 116, 45, 105, 116, 101, 109, 32, 125, 10] ++
 [104, 49, 32, 123, 32, 102, 111, 110, 116, 45, 115, 105, 122, 101, 58, 32, 51, 50, 112, 120, 59, 32, 109, 97, 114, 103, 105, 110, 58, 32, 50, 49, 112, 120, 32, 48, 32, 125, 10, 104] ++
 [50, 32, 123, 32, 102, 111, 110, 116, 45, 115, 105, 122, 101, 58, 32, 50, 52, 112, 120, 59, 32, 109, 97, 114, 103, 105, 110, 58, 32, 49, 57, 112, 120, 32, 48, 32, 125, 10, 116, 97] ++
 [98, 108, 101, 32, 123, 32, 100, 105, 115, 112, 108, 97, 121, 58, 32, 116, 97, 98, 108, 101, 32, 125, 10, 116, 104, 101, 97, 100, 44, 32, 116, 98, 111, 100, 121, 44, 32, 116, 102, 111] ++
 [111, 116, 32, 123, 32, 100, 105, 115, 112, 108, 97, 121, 58, 32, 116, 97, 98, 108, 101, 45, 114, 111, 119, 45, 103, 114, 111, 117, 112, 32, 125, 10, 116, 114, 32, 123, 32, 100, 105, 115] ++
 [112, 108, 97, 121, 58, 32, 116, 97, 98, 108, 101, 45, 114, 111, 119, 32, 125, 10, 116, 100, 44, 32, 116, 104, 32, 123, 32, 100, 105, 115, 112, 108, 97, 121, 58, 32, 116, 97, 98, 108] ++
 [101, 45, 99, 101, 108, 108, 59, 32, 112, 97, 100, 100, 105, 110, 103, 58, 32, 49, 112, 120, 32, 125, 10, 112, 114, 101, 32, 123, 32, 119, 104, 105, 116, 101, 45, 115, 112, 97, 99, 101] ++
 [58, 32, 112, 114, 101, 32, 125, 10, 98, 117, 116, 116, 111, 110, 44, 32, 105, 110, 112, 117, 116, 44, 32, 116, 101, 120, 116, 97, 114, 101, 97, 44, 32, 105, 109, 103, 32, 123, 32, 100] ++
 [105, 115, 112, 108, 97, 121, 58, 32, 105, 110, 108, 105, 110, 101, 45, 98, 108, 111, 99, 107, 32, 125, 10, 105, 110, 112, 117, 116, 44, 32, 98, 117, 116, 116, 111, 110, 32, 123, 32, 98] ++
 [111, 114, 100, 101, 114, 45, 119, 105, 100, 116, 104, 58, 32, 49, 112, 120, 59, 32, 112, 97, 100, 100, 105, 110, 103, 58, 32, 49, 112, 120, 32, 52, 112, 120, 32, 125, 10, 97, 32, 123] ++
 [32, 99, 111, 108, 111, 114, 58, 32, 98, 108, 117, 101, 32, 125, 10]
/-- A head that names elements alone. -/
def headOk (p : List UInt8) : Bool := p.all (fun c => decide (c.toNat < 128)) && !p.contains 58 && match L.parse p with
 | some l => !long l && decide (l.length ≤ 1000) && l.all (fun ps => ps.all (fun q => q.tests.isEmpty && decide (q.join ≤ 4))) && decide (0 < l.length) && decide ((L.fList l).length ≤ 100000)
 | none => false
theorem agent_ascii : agent.all (fun c => decide (c.toNat < 128)) = true := by decide +kernel
theorem agent_plain : agent.all (fun c => !([34, 39, 47, 64] : List UInt8).contains c) = true := by decide +kernel
theorem agent_heads : (raw agent).all (fun p => headOk p.1) = true := by decide +kernel
theorem agent_len : agent.length = 735 := by decide +kernel
theorem agent_raw : (raw agent).length ≤ 3900 := by decide +kernel
theorem clean_none : ∀ {s : List UInt8}, (∀ c ∈ s, c ≠ 34 ∧ c ≠ 39 ∧ c ≠ 47) → clean 0 s = s
 | [], _ => clean_nil 0
 | c :: t, h => by
  have hc := h c (List.mem_cons_self ..)
  rw [clean_else (fun h1 => h1.elim hc.1 hc.2.1) (fun r hr => hc.2.2 hr.1), clean_none (fun d hd => h d (List.mem_cons_of_mem _ hd))]
theorem agent_not {c : UInt8} (h : c ∈ agent) : c ≠ 34 ∧ c ≠ 39 ∧ c ≠ 47 ∧ c ≠ 64 := by
 have := List.all_eq_true.1 agent_plain c h
 simpa using this
theorem agent_clean : clean 0 agent = agent := clean_none (fun c hc => ⟨(agent_not hc).1, (agent_not hc).2.1, (agent_not hc).2.2.1⟩)
theorem agent_asc {c : UInt8} (h : c ∈ agent) : c.toNat < 128 := by
 have := List.all_eq_true.1 agent_ascii c h
 simpa using this
theorem read_asc : ∀ {p : List UInt8}, (∀ c ∈ p, c.toNat < 128) → U.rep p = p
 | [], _ => U.V_nil
 | c :: t, h => (U.V_cons (h c (List.mem_cons_self ..))).2 (read_asc (fun d hd => h d (List.mem_cons_of_mem _ hd)))
theorem head_all {p : List UInt8 × List UInt8} (h : p ∈ raw agent) : (∀ c ∈ p.1, c.toNat < 128) ∧ (58 : UInt8) ∉ p.1 ∧ ∃ l, L.read p.1 = some l ∧ long l = false ∧ l.length ≤ 1000 ∧ (∀ ps ∈ l, ∀ q ∈ ps, q.tests = [] ∧ q.join ≤ 4) ∧ 0 < l.length ∧ (L.fList l).length ≤ 100000 := by
 have h1 := List.all_eq_true.1 agent_heads p h
 unfold headOk at h1
 simp only [Bool.and_eq_true] at h1
 obtain ⟨⟨h2, h3⟩, h4⟩ := h1
 have ha : ∀ c ∈ p.1, c.toNat < 128 := fun c hc => by simpa using List.all_eq_true.1 h2 c hc
 refine ⟨ha, by simpa using h3, ?_⟩
 cases hl : L.parse p.1 with
 | none => rw [hl] at h4; cases h4
 | some l =>
  rw [hl] at h4
  simp only [Bool.and_eq_true] at h4
  obtain ⟨⟨⟨⟨h5, h6⟩, h7⟩, h8⟩, h9⟩ := h4
  refine ⟨l, ?_, by simpa using h5, of_decide_eq_true h6, fun ps hps q hq => ?_, of_decide_eq_true h8, of_decide_eq_true h9⟩
  ·unfold L.read
   rw [if_pos (read_asc ha), hl]
  ·have h10 := List.all_eq_true.1 (List.all_eq_true.1 h7 ps hps) q hq
   simpa using h10
theorem head_ok {p : List UInt8 × List UInt8} (h : p ∈ raw agent) : (∀ c ∈ p.1, c.toNat < 128) ∧ (58 : UInt8) ∉ p.1 ∧ ∃ l, L.read p.1 = some l ∧ long l = false ∧ l.length ≤ 1000 ∧ ∀ ps ∈ l, ∀ q ∈ ps, q.tests = [] := by
 obtain ⟨h1, h2, l, h3, h4, h5, h6, _⟩ := head_all h
 exact ⟨h1, h2, l, h3, h4, h5, fun ps hps q hq => (h6 ps hps q hq).1⟩
theorem not_long {l : List (List L.Part)} (h : long l = false) {ps : List L.Part} (hp : ps ∈ l) : ps.length ≤ 128 := by
 unfold long at h
 rw [List.any_eq_false] at h
 have := h ps hp
 simpa using this
theorem agent_lens : (raw agent).all (fun p => decide (p.1.length ≤ 1000) && decide (p.2.length ≤ 1000)) = true := by decide +kernel
theorem head_len {p : List UInt8 × List UInt8} (h : p ∈ raw agent) : p.1.length ≤ 1000 := by
 have h1 := List.all_eq_true.1 agent_lens p h
 simp only [Bool.and_eq_true] at h1
 exact of_decide_eq_true h1.1
theorem body_len {p : List UInt8 × List UInt8} (h : p ∈ raw agent) : p.2.length ≤ 1000 := by
 have h1 := List.all_eq_true.1 agent_lens p h
 simp only [Bool.and_eq_true] at h1
 exact of_decide_eq_true h1.2
/-- What a rule of the sheet is. -/
theorem rule_ok {x : Rule} (h : x ∈ rules agent) : x.sels.length ≤ 1000 ∧ 0 < x.sels.length ∧ (∀ ps ∈ x.sels, K.SelOk ps) ∧ (∀ ps ∈ x.sels, F.FSelOk ps) ∧ (∀ ps ∈ x.sels, ∀ q ∈ ps, q.tests = []) ∧ (L.fList x.sels).length ≤ 100000 := by
 unfold rules at h
 obtain ⟨p, hp, hx⟩ := List.mem_filterMap.1 h
 obtain ⟨ha, _, l, h1, h2, h3, h4, h5, h6⟩ := head_all hp
 unfold ruleOf at hx
 rw [h1] at hx
 dsimp only at hx
 rw [h2] at hx
 obtain rfl : (⟨l, decls p.2⟩ : Rule) = x := by simpa using hx
 have hn : ∀ ps ∈ l, ∀ q ∈ ps, ∀ t, t ∉ q.tests := fun ps hps q hq t ht => by rw [(h4 ps hps q hq).1] at ht; cases ht
 have hz : ∀ ps ∈ l, ∀ q ∈ ps, q.tests.length ≤ 1000000 := fun ps hps q hq => by rw [(h4 ps hps q hq).1]; exact Nat.zero_le _
 refine ⟨h3, h5, fun ps hps => ⟨fun q hq => ⟨fun t ht => absurd ht (hn ps hps q hq t), hz ps hps q hq, (h4 ps hps q hq).2⟩, Nat.le_trans (not_long h2 hps) (by decide)⟩,
  fun ps hps => ⟨fun q hq => ⟨fun t ht => absurd ht (hn ps hps q hq t), hz ps hps q hq, (h4 ps hps q hq).2⟩, Nat.le_trans (not_long h2 hps) (by decide)⟩, fun ps hps q hq => (h4 ps hps q hq).1, h6⟩
end S
end Go.Proofs.YtafkeolpadfjfaaGreatDoor
namespace Go.Proofs.YtafkeolpadfjfaaGreatDoor
open Go.RowKit
namespace Y
open H
def propNames : List (List UInt8) := S.tab.map (·.1)
theorem props_take (k : Nat) (hk : k < 37) : propNames.take (k + 1) = propNames.take k ++ [(trow k).1] := by
 have h1 := trow_at k hk
 unfold propNames
 rw [List.take_add_one, List.getElem?_map, h1]
 rfl
theorem props_len : propNames.length = 37 := by unfold propNames; rw [List.length_map, tab_len]
set_option maxHeartbeats 16000000 in
set_option maxRecDepth 100000 in
theorem properties (w : World) (hE : YEnv w) :
  Calls Tryz.prog 20 #[] w fun e w' => ∃ v, e = .returned v ∧ w'.ownsRow w.heap.size 9 1 v 37 (sCells propNames) ∧ Below w.heap.size w w' := by
 have HE := Lib.hid hE
 clear hE
 obtain ⟨i0, hi0, hz0, hz1, hz2⟩ := info_parts T.infoString
 go_enter Tryz.func20, Tryz.ntmps20
 go_upto_region 2 with fail
 refine wp_region_list ?_
 refine wpList_load_mid rfl 72 _ rfl 0 0 rfl tcs _ HE.out.tab undTab rfl (by rw [infoTab, tcs_len]) ?_
 clear HE
 have HO0 : Hid (w.ownsRow w.heap.size 9 1 (.slice none 0 0) 0 (sCells (propNames.take 0))) := Lib.hid (World.ownsRow_nil _ _ _ _)
 have HU0 := Lib.hid (Below.refl w.heap.size w)
 go_wp2_with fail
 go_loopw [1, 5] (fun v1 v5 wr => ∃ k : Nat, v5 = .int .i64 k ∧ k ≤ 37 ∧ Hid (wr.ownsRow w.heap.size 9 1 v1 k (sCells (propNames.take k))) ∧ Hid (Below w.heap.size w wr)) (fun _ v5 _ => 37 - (intOf v5).toNat)
 case atStart => exact ⟨0, rfl, by omega, HO0, HU0⟩
 case round =>
  obtain ⟨k, rfl, hk, HO, HU⟩ := hrel
  clear HO0 HU0
  by_cases hk37 : k < 37
  ·have hkI : (k : Int) < 37 := by omega
   have HP := Lib.hid (row_at hk37 .i64 wr)
   have HT := Lib.hid (props_take k hk37)
   have hU := HU.out.size
   generalize trow k = row at *
   obtain ⟨nm, tk, ws⟩ := row
   dsimp only at HP HT
   generalize joinW ws = raw at *
   have HU3 := Lib.hid (HU.out.alloc hU (.cells #[.string ⟨nm.toArray⟩, .int .i64 tk, .string ⟨raw.toArray⟩] 71))
   have HY3 := Lib.hid (Blk.new wr #[.string ⟨nm.toArray⟩, .int .i64 tk, .string ⟨raw.toArray⟩] 71)
   have HO3 := Lib.hid (HO.out.alloc (.cells #[.string ⟨nm.toArray⟩, .int .i64 tk, .string ⟨raw.toArray⟩] 71))
   clear HU HO
   go_wp2_with fail
   rw [HP.out]
   simp only [Result.andThen]
   rw [Oper.upon_value]
   clear HP
   go_upto_region 5 with fail
   generalize (wr.alloc (.cells #[.string ⟨nm.toArray⟩, .int .i64 tk, .string ⟨raw.toArray⟩] 71)) = W1 at *
   generalize wr.heap.size = Yb at *
   obtain ⟨hcy, hfy⟩ := cells_of HY3.out
   have y0 : W1.cell? ⟨Yb, 0, none⟩ = some (.string ⟨nm.toArray⟩) := hcy 0
   clear hcy hfy HY3
   have hsu2 := HU3.out.size
   go_wp2_with (at_builtin; refine wpList_append_lies _ rfl _ _ 29 rfl w.heap.size 9 i0 _ 1 16 Tryz.underlying29 hi0 hz0 hz1 hz2 rfl (by decide) _ k (sCells (propNames.take k)) rfl (HO3.out.alloc _) ⟨W1.heap.size, 0, none⟩ 1 1 [.string ⟨nm.toArray⟩] rfl rfl ?c1 ?c2 ?c3 ?c4 ?c5 ?c6 (W1.heap.size + 1) ?c7 ?_)
   case c1 => exact World.news_of_block (heap_alloc_new W1 (.cells #[.string ⟨nm.toArray⟩] 9))
   case c2 => simp [Value.oneCell']
   case c3 => omega
   case c4 => unfold maxLen; omega
   case c5 => omega
   case c6 => simp; omega
   case c7 => simp
   intro gg cap2 w5 hown5 hgrow hat hlt5
   have HO5 : Hid (w5.ownsRow w.heap.size 9 1 (.slice (some ⟨gg, 0, none⟩) (k + 1) cap2) (k + 1) (sCells (propNames.take (k + 1)))) := Lib.hid (by
    rw [HT.out]
    unfold sCells at *
    rw [List.map_append]
    exact hown5)
   have HB5 : Hid (Below w.heap.size w w5) := Lib.hid (by
    have h1 := HU3.out.alloc (o := .cells #[.string ⟨nm.toArray⟩] 9) (by omega)
    exact h1.grown hgrow (by simp; omega) (fun q hq => (HO3.out.lt q hq).1))
   clear hown5 hgrow hat HO3 HU3 HT
   go_wp2_with fail
   go_roundw
   case rel => exact ⟨k + 1, by go_num, by omega, HO5, HB5⟩
   case measure => simp [intOf]; omega
  ·obtain rfl : k = 37 := by omega
   have HO5 : Hid (wr.ownsRow w.heap.size 9 1 u1 37 (sCells propNames)) := Lib.hid (by
    have h := HO.out
    rwa [List.take_of_length_le (by rw [props_len]; exact Nat.le_refl _)] at h)
   clear HO
   go_wp2_with fail
   go_ret
   exact ⟨_, rfl, HO5.out, HU.out⟩
end Y
end Go.Proofs.YtafkeolpadfjfaaGreatDoor
namespace Go.Proofs.YtafkeolpadfjfaaGreatDoor
open Go.RowKit
namespace Y
open H
/-- All bytes lie below 128. -/
def AscAll (t : ByteArray) : Prop := ∀ b ∈ t.data.toList, b.toNat < 128
theorem AscAll.drop {t : ByteArray} (h : AscAll t) (k : Nat) : AscAll (t.extract k t.size) := fun b hb => by
 rw [Lib.ext_list] at hb
 exact h b (List.mem_of_mem_drop hb)
theorem AscAll.head {t : ByteArray} (h : AscAll t) (h0 : 0 < t.size) : (t.get! 0).toNat < 128 := by
 rw [Utf8W.get!_of_lt t 0 h0]
 exact h _ (by simp [ByteArray.getElem_eq_getElem_data])
/-- Eight bytes as a word: none has its high bit. -/
theorem ascWord (t : ByteArray) (h8 : 8 ≤ t.size) (h : AscAll t) : ∃ A : Nat, A < 18446744073709551616 ∧ A &&& 9259542123273814144 = 0 ∧
  ∀ W, Calls Tryz.prog 144 #[.string t] W fun e w' => e = .returned (.int .u64 A) ∧ ∃ q, w' = W.drewN q :=
 ⟨_, Lib.word_lt t, (Lib.word_asc t h8).2 (fun b hb => h b (List.mem_of_mem_take hb)), fun W => Any.utf8_word { Tryz.lays196 with } t W h8⟩
theorem belowN {B : Nat} {a w : World} (h : Below B a w) : ∀ q, Below B a (w.drewN q)
 | 0 => h
 | q + 1 => (belowN h q).drew
set_option maxHeartbeats 100000000 in
set_option maxRecDepth 1000000 in
theorem ascValid (s : ByteArray) (w : World) (hs : s.size ≤ 140737488351232) (hA : AscAll s) :
  Calls Tryz.prog 107 #[.string s] w fun e w' => e = .returned (.bool true) ∧ Below w.heap.size w w' := by
 have mixed : Tryz.prog.follows Departure.mixedOrders = true := by kernel_rfl
 go_enter Tryz.func107, Tryz.ntmps107
 go_wp2_with fail
 go_loopg [0] (s.size + 1) (fun gk s0 wx => Below w.heap.size w wx ∧ ∃ t : ByteArray, s0 = .string t ∧ AscAll t ∧ t.size < gk ∧ t.size ≤ 140737488351232)
 case atStart => exact ⟨Below.refl _ _, s, rfl, hA, by omega, hs⟩
 case round =>
  obtain ⟨hbw, t, rfl, hv, hg, hts⟩ := hrel
  clear hA
  by_cases h0 : 0 < t.size
  ·obtain ⟨g', rfl⟩ : ∃ g', gk = g' + 1 := ⟨gk - 1, by omega⟩
   have h0z : (0 : Int) < (t.size : Int) := by omega
   have hasc := hv.head h0
   obtain ⟨x0, hx0⟩ : ∃ x0, t.get! 0 = x0 := ⟨_, rfl⟩
   have hs0 : t[0]'(by omega) = x0 := by rw [← hx0]; exact (Utf8W.get!_of_lt t 0 (by omega)).symm
   rw [hx0] at hasc
   have hascz : (x0.toNat : Int) < 128 := by omega
   have v1 := hv.drop 1
   obtain ⟨t1, ht1⟩ : ∃ t1, t.extract 1 t.size = t1 := ⟨_, rfl⟩
   have z1 : t1.size + 1 = t.size := by rw [← ht1, Lib.ext_size]; omega
   rw [ht1] at v1
   clear hv hasc
   by_cases c8 : 8 < t1.size
   ·have c8z : (8 : Int) < (t1.size : Int) := by omega
    obtain ⟨A1, lA1, mA1, cW1⟩ := ascWord t1 (by omega) v1
    obtain ⟨Z1, hZ1⟩ : ∃ Z1 : Nat, Z1 = 0 := ⟨0, rfl⟩
    have hz1b : ((Z1 : Int) == 0) = true := by rw [hZ1]; rfl
    have hand1 : bits .and .u64 (A1 : Int) 9259542123273814144 = (Z1 : Int) := by rw [hZ1]; exact (u64_and_nat A1 9259542123273814144 lA1 (by omega)).trans (congrArg Int.ofNat mA1)
    have v2 := v1.drop 8
    obtain ⟨t2, ht2⟩ : ∃ t2, t1.extract 8 t1.size = t2 := ⟨_, rfl⟩
    have z2 : t2.size + 8 = t1.size := by rw [← ht2, Lib.ext_size]; omega
    rw [ht2] at v2
    clear v1 mA1 lA1
    go_wp2_with (go_at_call 144; refine (cW1 _).mono ?_; rintro e W1 ⟨rfl, q1, rfl⟩)
    have hb1 : Below w.heap.size w (wr.drewN q1) := belowN hbw q1
    generalize wr.drewN q1 = wq at hb1 ⊢
    clear cW1 hbw
    by_cases c16 : 16 < t2.size
    ·have c16z : (16 : Int) < (t2.size : Int) := by omega
     have s8z : (8 : Int) ≤ (t2.size : Int) := by omega
     have v2b := v2.drop 8
     obtain ⟨t2b, ht2b⟩ : ∃ t2b, t2.extract 8 t2.size = t2b := ⟨_, rfl⟩
     have z2b : t2b.size + 8 = t2.size := by rw [← ht2b, Lib.ext_size]; omega
     rw [ht2b] at v2b
     obtain ⟨A2, lA2, mA2, cW2⟩ := ascWord t2 (by omega) v2
     obtain ⟨A3, lA3, mA3, cW3⟩ := ascWord t2b (by omega) v2b
     have hor2 : bits .or .u64 (A2 : Int) (A3 : Int) = ((A2 ||| A3 : Nat) : Int) := u64_or_nat A2 A3 lA2 lA3
     have lor2 : A2 ||| A3 < 18446744073709551616 := Nat.or_lt_two_pow (n := 64) lA2 lA3
     obtain ⟨Z2, hZ2⟩ : ∃ Z2 : Nat, Z2 = 0 := ⟨0, rfl⟩
     have hz2b : ((Z2 : Int) == 0) = true := by rw [hZ2]; rfl
     have hand2 : bits .and .u64 ((A2 ||| A3 : Nat) : Int) 9259542123273814144 = (Z2 : Int) := by
      rw [hZ2]; exact (u64_and_nat _ 9259542123273814144 lor2 (by omega)).trans (congrArg Int.ofNat ((Lib.or_mask A2 A3 _).2 ⟨mA2, mA3⟩))
     obtain ⟨O2, hO2⟩ : ∃ O2, A2 ||| A3 = O2 := ⟨_, rfl⟩
     rw [hO2] at hor2 hand2
     have v3 := v2.drop 16
     obtain ⟨t3, ht3⟩ : ∃ t3, t2.extract 16 t2.size = t3 := ⟨_, rfl⟩
     have z3 : t3.size + 16 = t2.size := by rw [← ht3, Lib.ext_size]; omega
     rw [ht3] at v3
     clear lor2 hO2 v2 v2b mA2 mA3
     go_big_quiet_o (first | (go_at_call 144; with_reducible refine Calls.quiet_of (cW2 _)) | (go_at_call 144; with_reducible refine Calls.quiet_of (cW3 _)))
     have hb2 : Below w.heap.size w (wq.drewN nq) := belowN hb1 nq
     generalize wq.drewN nq = wq2 at hb2 ⊢
     clear cW2 cW3 hb1
     go_wp2_with fail
     go_loopg [0] (t3.size + 1) (fun g2 s0 wx => Below w.heap.size w wx ∧ ∃ u : ByteArray, s0 = .string u ∧ AscAll u ∧ u.size < g2 ∧ u.size ≤ t3.size)
     case atStart => exact ⟨hb2, t3, rfl, v3, by omega, Nat.le_refl _⟩
     case round =>
      obtain ⟨hbu, u, rfl, vu, hgu, hut⟩ := hrel
      by_cases c32 : 32 < u.size
      ·obtain ⟨g3, rfl⟩ : ∃ g3, gk = g3 + 1 := ⟨gk - 1, by omega⟩
       have c32z : (32 : Int) < (u.size : Int) := by omega
       have s8u : (8 : Int) ≤ (u.size : Int) := by omega
       have s16u : (16 : Int) ≤ (u.size : Int) := by omega
       have s24u : (24 : Int) ≤ (u.size : Int) := by omega
       have vb := vu.drop 8
       have vc := vu.drop 16
       have vd := vu.drop 24
       have ve := vu.drop 32
       obtain ⟨ub, hub⟩ : ∃ ub, u.extract 8 u.size = ub := ⟨_, rfl⟩
       have zub : ub.size + 8 = u.size := by rw [← hub, Lib.ext_size]; omega
       obtain ⟨uc, huc⟩ : ∃ uc, u.extract 16 u.size = uc := ⟨_, rfl⟩
       have zuc : uc.size + 16 = u.size := by rw [← huc, Lib.ext_size]; omega
       obtain ⟨ud, hud⟩ : ∃ ud, u.extract 24 u.size = ud := ⟨_, rfl⟩
       have zud : ud.size + 24 = u.size := by rw [← hud, Lib.ext_size]; omega
       obtain ⟨u2, hu2⟩ : ∃ u2, u.extract 32 u.size = u2 := ⟨_, rfl⟩
       have zu2 : u2.size + 32 = u.size := by rw [← hu2, Lib.ext_size]; omega
       rw [hub] at vb
       rw [huc] at vc
       rw [hud] at vd
       rw [hu2] at ve
       obtain ⟨B0, lB0, mB0, cB0⟩ := ascWord u (by omega) vu
       obtain ⟨B1, lB1, mB1, cB1⟩ := ascWord ub (by omega) vb
       obtain ⟨B2, lB2, mB2, cB2⟩ := ascWord uc (by omega) vc
       obtain ⟨B3, lB3, mB3, cB3⟩ := ascWord ud (by omega) vd
       have ho1 : bits .or .u64 (B0 : Int) (B1 : Int) = ((B0 ||| B1 : Nat) : Int) := u64_or_nat B0 B1 lB0 lB1
       have ho2 : bits .or .u64 (B2 : Int) (B3 : Int) = ((B2 ||| B3 : Nat) : Int) := u64_or_nat B2 B3 lB2 lB3
       have lo1 : B0 ||| B1 < 18446744073709551616 := Nat.or_lt_two_pow (n := 64) lB0 lB1
       have lo2 : B2 ||| B3 < 18446744073709551616 := Nat.or_lt_two_pow (n := 64) lB2 lB3
       have mo1 := (Lib.or_mask B0 B1 _).2 ⟨mB0, mB1⟩
       have mo2 := (Lib.or_mask B2 B3 _).2 ⟨mB2, mB3⟩
       obtain ⟨P1, hP1⟩ : ∃ P1, B0 ||| B1 = P1 := ⟨_, rfl⟩
       obtain ⟨P2, hP2⟩ : ∃ P2, B2 ||| B3 = P2 := ⟨_, rfl⟩
       rw [hP1] at ho1 lo1 mo1
       rw [hP2] at ho2 lo2 mo2
       have ho3 : bits .or .u64 (P1 : Int) (P2 : Int) = ((P1 ||| P2 : Nat) : Int) := u64_or_nat _ _ lo1 lo2
       have lo3 : P1 ||| P2 < 18446744073709551616 := Nat.or_lt_two_pow (n := 64) lo1 lo2
       have mo3 := (Lib.or_mask P1 P2 _).2 ⟨mo1, mo2⟩
       obtain ⟨P3, hP3⟩ : ∃ P3, P1 ||| P2 = P3 := ⟨_, rfl⟩
       rw [hP3] at ho3 lo3 mo3
       obtain ⟨Z3, hZ3⟩ : ∃ Z3 : Nat, Z3 = 0 := ⟨0, rfl⟩
       have hz3b : ((Z3 : Int) == 0) = true := by rw [hZ3]; rfl
       have hand3 : bits .and .u64 (P3 : Int) 9259542123273814144 = (Z3 : Int) := by rw [hZ3]; exact (u64_and_nat _ 9259542123273814144 lo3 (by omega)).trans (congrArg Int.ofNat mo3)
       clear vu vb vc vd lo1 lo2 lo3 mo1 mo2 mo3 hP1 hP2 hP3 mB0 mB1 mB2 mB3
       go_wp2_with fail
       go_big_quiet_o (first | (go_at_call 144; with_reducible refine Calls.quiet_of (cB0 _)) | (go_at_call 144; with_reducible refine Calls.quiet_of (cB1 _)) | (go_at_call 144; with_reducible refine Calls.quiet_of (cB2 _)) | (go_at_call 144; with_reducible refine Calls.quiet_of (cB3 _)))
       go_wp2_with fail
       go_roundg g3
       case measure => omega
       case rel => exact ⟨belowN hbu nq, u2, rfl, ve, by omega, by omega⟩
      ·have c32z : ¬ ((32 : Int) < (u.size : Int)) := by omega
       have c32b : decide ((32 : Int) < (u.size : Int)) = false := decide_eq_false c32z
       go_wp2_with fail
       go_big_quiet_o (fail)
       go_wp2_with fail
       go_roundg g'
       case measure => omega
       case rel => exact ⟨belowN hbu nq, u, rfl, vu, by omega, by omega⟩
    ·have c16z : ¬ ((16 : Int) < (t2.size : Int)) := by omega
     have c16b : decide ((16 : Int) < (t2.size : Int)) = false := decide_eq_false c16z
     go_big_quiet_o (fail)
     go_wp2_with fail
     go_roundg g'
     case measure => omega
     case rel => exact ⟨belowN hb1 nq, t2, rfl, v2, by omega, by omega⟩
   ·have c8z : ¬ ((8 : Int) < (t1.size : Int)) := by omega
    go_wp2_with fail
    go_roundg g'
    case measure => omega
    case rel => exact ⟨hbw, t1, rfl, v1, by omega, by omega⟩
  ·have h0z : ¬ (0 : Int) < (t.size : Int) := by omega
   go_wp2_with fail
   go_ret
   exact ⟨rfl, hbw⟩
set_option maxHeartbeats 400000 in
theorem ascRepair (s : List UInt8) (w : World) (hs : s.length ≤ 1000000) (hA : ∀ b ∈ s, b.toNat < 128) :
  Calls Tryz.prog 65 #[.string ⟨s.toArray⟩] w fun e w' => e = .returned (.string ⟨s.toArray⟩) ∧ Below w.heap.size w w' := by
 have hv := Lib.hid (ascValid ⟨s.toArray⟩ w (by rw [bytes_size]; omega) (fun b hb => hA b (by rw [bytes_toList] at hb; exact hb)))
 go_enter Tryz.func65, Tryz.ntmps65
 go_wp2_with (go_at_call 107; refine hv.out.mono ?_)
 rintro e w1 ⟨rfl, b1⟩
 go_wp2_with fail
 go_ret
 exact ⟨rfl, b1⟩
end Y
end Go.Proofs.YtafkeolpadfjfaaGreatDoor
namespace Go.Proofs.YtafkeolpadfjfaaGreatDoor
open Go.RowKit
namespace Y
open H
set_option maxHeartbeats 16000000 in
set_option maxRecDepth 100000 in
theorem same (l : List S.Decl) (v1 v2 : Value) (B1 B2 : Nat) (w : World) (h1 : OwnD B1 w v1 l) (h2 : V.RowR B2 w v2 l) (hl : l.length ≤ 1000000) :
  Calls Tryz.prog 12 #[v1, v2] w (TruePost w) := by
 have H1 := Lib.hid h1.1
 have H2 := Lib.hid h2
 obtain ⟨a1, c1, e1⟩ := h1.form
 obtain ⟨a2, c2, e2⟩ := h2.form
 generalize hNN : l.length = N at e1 e2 hl
 have HN := Lib.hid hNN
 subst e1 e2
 clear h1 h2 hNN
 go_enter Tryz.func12, Tryz.ntmps12
 go_wp2_with fail
 go_loopw [5] (fun v5 wr => ∃ k : Nat, v5 = .int .i64 k ∧ k ≤ N ∧ Hid (Below w.heap.size w wr)) (fun v5 _ => N - (intOf v5).toNat)
 case atStart => exact ⟨0, rfl, by omega, Lib.hid (Below.refl _ _)⟩
 case round =>
  obtain ⟨k, rfl, hk, HU⟩ := hrel
  by_cases hlt : k < N
  ·have hkI : (k : Int) < (N : Int) := by omega
   have hkl : k < l.length := by rw [HN.out]; exact hlt
   obtain ⟨g1, hg1⟩ : ∃ g, a1 = some ⟨g, 0, none⟩ := by
    rcases H1.out.2 with ⟨hv, h0⟩ | ⟨g, _, _, hv, _⟩
    ·have := HN.out; omega
    ·injection hv with q1 _ _; exact ⟨g, q1⟩
   obtain ⟨g2, hg2⟩ : ∃ g, a2 = some ⟨g, 0, none⟩ := by
    rcases H2.out.2 with ⟨hv, h0⟩ | ⟨g, _, _, hv, _⟩
    ·have := HN.out; omega
    ·injection hv with q1 _ _; exact ⟨g, q1⟩
   subst hg1 hg2
   have l1 := (H1.out.lt g1 rfl).2
   have l2 := (H2.out.lt g2 rfl).2
   have K1 : ∀ o, o < 5 → wr.cell? ⟨g1, k * 5 + o, none⟩ = (dcells l[k])[o]? := fun o ho => by
    rw [(HU.out.cell (p := ⟨g1, k * 5 + o, none⟩) l1)]
    have e : N = l.length := HN.out.symm
    subst e
    rw [H1.out.cellAt (k * 5 + o) (by omega)]
    exact flat_at (f := dcells) (fun _ => rfl) l k hkl o ho
   have K2 : ∀ o, o < 6 → wr.cell? ⟨g2, k * 6 + o, none⟩ = (V.rdcell l[k])[o]? := fun o ho => by
    rw [(HU.out.cell (p := ⟨g2, k * 6 + o, none⟩) l2)]
    have e : N = l.length := HN.out.symm
    subst e
    have h := H2.out
    unfold V.RowR at h
    rw [World.ownsRow.cellAt h (k * 6 + o) (by omega)]
    exact flat_at (f := V.rdcell) (fun _ => rfl) l k hkl o ho
   generalize l[k] = d at *
   obtain ⟨nm, ⟨vk, vn, vw⟩, im⟩ := d
   have x0 : wr.cell? ⟨g1, k * 5, none⟩ = some (.string ⟨nm.toArray⟩) := K1 0 (by omega)
   have x1 : wr.cell? ⟨g1, k * 5 + 1, none⟩ = some (.int .i64 (vk : Nat)) := K1 1 (by omega)
   have x2 : wr.cell? ⟨g1, k * 5 + 2, none⟩ = some (.int .i64 vn) := K1 2 (by omega)
   have x3 : wr.cell? ⟨g1, k * 5 + 3, none⟩ = some (.string ⟨vw.toArray⟩) := K1 3 (by omega)
   have x4 : wr.cell? ⟨g1, k * 5 + 4, none⟩ = some (.bool im) := K1 4 (by omega)
   have y0 : wr.cell? ⟨g2, k * 6, none⟩ = some (.string ⟨nm.toArray⟩) := K2 0 (by omega)
   have y1 : wr.cell? ⟨g2, k * 6 + 1, none⟩ = some (.int .i64 (vk : Nat)) := K2 1 (by omega)
   have y2 : wr.cell? ⟨g2, k * 6 + 2, none⟩ = some (.int .i64 vn) := K2 2 (by omega)
   have y3 : wr.cell? ⟨g2, k * 6 + 3, none⟩ = some (.string ⟨vw.toArray⟩) := K2 3 (by omega)
   have y4 : wr.cell? ⟨g2, k * 6 + 4, none⟩ = some (.bool true) := K2 4 (by omega)
   have y5 : wr.cell? ⟨g2, k * 6 + 5, none⟩ = some (.bool im) := K2 5 (by omega)
   have hz := HU.out.size
   have r1 : g1 < wr.heap.size := by omega
   have r2 : g2 < wr.heap.size := by omega
   have r3 : g1 < wr.heap.size + 1 := by omega
   have r4 : g2 < wr.heap.size + 1 := by omega
   have r5 : ¬ g1 = wr.heap.size := by omega
   have r6 : ¬ g2 = wr.heap.size := by omega
   have r7 : ¬ g1 = wr.heap.size + 1 := by omega
   have r8 : ¬ g2 = wr.heap.size + 1 := by omega
   clear K1 K2 hkl
   go_wp2_with fail
   go_region
   all_goals
    have HB2 : Hid (Below w.heap.size w ((wr.alloc (.cells #[.string ⟨nm.toArray⟩, .int .i64 (vk : Nat), .int .i64 vn, .string ⟨vw.toArray⟩, .bool im] 40)).alloc (.cells #[.string ⟨nm.toArray⟩, .int .i64 (vk : Nat), .int .i64 vn, .string ⟨vw.toArray⟩, .bool true, .bool im] 69)).drew) := Lib.hid (((HU.out.alloc hz _).alloc (by simp; omega) _).drew)
    have HB3 : Hid (Below w.heap.size w ((wr.alloc (.cells #[.string ⟨nm.toArray⟩, .int .i64 (vk : Nat), .int .i64 vn, .string ⟨vw.toArray⟩, .bool true, .bool im] 69)).alloc (.cells #[.string ⟨nm.toArray⟩, .int .i64 (vk : Nat), .int .i64 vn, .string ⟨vw.toArray⟩, .bool im] 40)).drew) := Lib.hid (((HU.out.alloc hz _).alloc (by simp; omega) _).drew)
    go_wp2_with fail
    go_roundw
    case rel => exact ⟨k + 1, by go_num, by omega, by first | exact HB2 | exact HB3⟩
    case measure => simp [intOf]; omega
  ·obtain rfl : N = k := by omega
   have hkI : ¬ (N : Int) < (N : Int) := by omega
   go_wp2_with fail
   go_ret
   exact ⟨rfl, HU.out⟩
end Y
end Go.Proofs.YtafkeolpadfjfaaGreatDoor
namespace Go.Proofs.YtafkeolpadfjfaaGreatDoor
open Go.RowKit Go.Sort
namespace Y
open H V K
theorem textValid (s : List UInt8) (w : World) (hs : s.length ≤ 1000000) (hA : ∀ b ∈ s, b.toNat < 128) :
  Calls Tryz.prog 86 #[.string ⟨s.toArray⟩] w fun e w' => e = .returned (.bool (decide (U.rep s = s))) ∧ Below w.heap.size w w' := by
 have hv := Lib.hid (ascValid ⟨s.toArray⟩ w (by rw [bytes_size]; omega) (fun b hb => hA b (by rw [bytes_toList] at hb; exact hb)))
 rw [decide_eq_true (S.read_asc hA)]
 go_enter Tryz.func86, Tryz.ntmps86
 go_wp2_with (go_at_call 107; refine hv.out.mono ?_)
 rintro e w' ⟨rfl, hb⟩
 go_wp2
 go_ret
 exact ⟨rfl, hb⟩
theorem parseAgent (w : World) (hM : HasMax w) (hE : YEnv w) : Calls Tryz.prog 23 #[.string ⟨S.agent.toArray⟩, .int .i64 1] w (SheetPost 1 (S.rules S.agent) w) := by
 have hl := S.agent_len
 have hMz := hM.2
 refine parse S.agent S.agent 1 w (by omega) (by omega) hE (fun W hb => ?_) (fun p hp W hb => ?_) S.agent_raw
 ·have := clean S.agent S.agent W (by omega) (ascRepair S.agent W (by omega) (fun b hb => S.agent_asc hb)) (hM.below hb hMz)
  rw [S.agent_clean] at this
  exact this
 ·obtain ⟨h1, h2, l, h3, h4, h5, h6⟩ := S.head_ok hp
  have hpl := S.head_len hp
  refine K.parse_plain p.1 W (by omega) (textValid p.1 W (by omega) h1) h2 (fun l' hl' => ?_)
  rw [h3] at hl'
  injection hl' with hl'
  rw [← hl']; exact h5
theorem agentIs {b : ByteArray} (h : b = ⟨S.agent.toArray⟩) (w : World) (hM : HasMax w) (hE : YEnv w) : Calls Tryz.prog 23 #[.string b, .int .i64 1] w (SheetPost 1 (S.rules S.agent) w) := by
 subst h; exact parseAgent w hM hE
theorem agentC (w : World) : Calls Tryz.prog 28 #[] w fun e w' => e = .returned (.string ⟨S.agent.toArray⟩) ∧ w = w' := by
 go_enter Tryz.func28, Tryz.ntmps28
 go_wp2_with fail
 go_ret
 exact ⟨by kernel_rfl, rfl⟩
theorem sheetAgent (w : World) : Calls Tryz.prog 24 #[.string ⟨S.agent.toArray⟩] w (SheetR (S.rules S.agent) w) := by
 have hl := S.agent_len
 refine sheet S.agent S.agent w (by omega) ?_ (fun c hc => (S.agent_not hc).2.2.2) (fun p hp => ?_) S.agent_raw
 ·have hr := T.refRepair ⟨S.agent.toArray⟩ w (by rw [bytes_size]; omega)
  rw [bytes_toList, S.read_asc (fun c hc => S.agent_asc hc)] at hr
  have := V.plain S.agent S.agent w (by omega) hr
  rw [S.agent_clean] at this
  exact this
 ·obtain ⟨h1, h2, l, h3, h4, h5, h6⟩ := S.head_ok hp
  exact ⟨l, h3, h4, by omega⟩
set_option maxHeartbeats 4000000 in
set_option maxRecDepth 100000 in
theorem default_ (w : World) (hM : HasMax w) (hE : YEnv w) : Calls Tryz.prog 27 #[] w (SheetPost 1 (S.rules S.agent) w) := by
 have hg1 := hE.big
 have hg2 := hE.big2
 have hMz := hM.2
 have QP := Lib.hid (fun (b : ByteArray) (h : b = ⟨S.agent.toArray⟩) W (hb : Below w.heap.size w W) => agentIs h W (hM.below hb hMz) (hE.below hb hg1 hg2))
 have HB := Lib.hid ((Below.refl w.heap.size w).alloc (Nat.le_refl _) (.cells #[.int .i64 0, .slice none 0 0] 51))
 have HX := Lib.hid (Blk.new w #[.int .i64 0, .slice none 0 0] 51)
 clear hM hE
 go_enter Tryz.func27, Tryz.ntmps27
 go_wp2_with fail
 refine (QP.out _ (by kernel_rfl) _ HB.out).mono ?_
 rintro e w2 ⟨v, rfl, hb, hr⟩
 have HX2 := Blk.below HX.out hb
 obtain ⟨hcx, hfx⟩ := cells_of HX2
 have x0 : w2.cell? ⟨w.heap.size, 0, none⟩ = some (.int .i64 0) := hcx 0
 have x1 : w2.cell? ⟨w.heap.size, 1, none⟩ = some (.slice none 0 0) := hcx 1
 have f0 : w2.frozen? ⟨w.heap.size, 0, none⟩ = false := hfx 0 (by show 0 < 2; omega)
 have f1 : w2.frozen? ⟨w.heap.size, 1, none⟩ = false := hfx 1 (by show 1 < 2; omega)
 have hsz : (w.alloc (.cells #[.int .i64 0, .slice none 0 0] 51)).heap.size = w.heap.size + 1 := by simp
 have HF : Hid (Below w.heap.size w ((w2.setCell ⟨w.heap.size, 0, none⟩ (.int .i64 1)).setCell ⟨w.heap.size, 1, none⟩ v) ∧ RulesAt (w.heap.size ≤ ·) ((w2.setCell ⟨w.heap.size, 0, none⟩ (.int .i64 1)).setCell ⟨w.heap.size, 1, none⟩ v) v (S.rules S.agent)) := Lib.hid ⟨by
   have h2 := HB.out.trans (hb.mono (by rw [hsz]; omega))
   exact (h2.setCell (p := ⟨w.heap.size, 0, none⟩) (Nat.le_refl _) _).setCell (p := ⟨w.heap.size, 1, none⟩) (Nat.le_refl _) _, by
   rw [hsz] at hr
   have hk : Kept (w.heap.size + 1 ≤ ·) (w.heap.size ≤ ·) w2 ((w2.setCell ⟨w.heap.size, 0, none⟩ (.int .i64 1)).setCell ⟨w.heap.size, 1, none⟩ v) :=
    (((Kept.refl w2).set (by show ¬ (w.heap.size + 1 ≤ w.heap.size); omega) 0 _).set (by show ¬ (w.heap.size + 1 ≤ w.heap.size); omega) 1 _).trans (Kept.wide (fun g hg => by show w.heap.size ≤ g; omega))
   exact keeps_rules hr hk⟩
 obtain ⟨ao, cap, hv⟩ := hr.form
 generalize (S.numbered (S.rules S.agent)).length = n at hv
 subst hv
 clear hcx hfx HX2 hr hb QP HB HX
 go_wp2_with fail
 refine bodyPost_ret (v := .agg #[.int .i64 1, .slice ao n cap]) (by simp [results, Tryz.results27, go_sem, x0, x1]) rfl ⟨_, rfl, HF.out.1, HF.out.2⟩
end Y
end Go.Proofs.YtafkeolpadfjfaaGreatDoor
namespace Go.Proofs
open Go.Shelf
def Tryz.hand156_ren : Go.Shelf.Ren := ⟨fun | 156 => 57 | 165 => 96 | 166 => 59 | 169 => 60 | 240 => 98 | 241 => 135 | 276 => 138 | 277 => 173 | n => n, fun | 0 => 0 | 3 => 3 | 4 => 4 | 5 => 5 | 9 => 9 | 20 => 20 | 31 => 29 | 37 => 76 | 70 => 107 | 72 => 109 | 75 => 111 | 76 => 112 | 80 => 64 | 127 => 151 | 164 => 178 | n => n, fun | n => n⟩
theorem Tryz.hand156 : Go.Proofs.Lays.n156 Tryz.prog Tryz.hand156_ren := {
 mixed := by kernel_rfl
 f156 := Tryz.func57.trans (congrArg some (by kernel_rfl))
 f165 := Tryz.func96.trans (congrArg some (by kernel_rfl))
 f166 := Tryz.func59.trans (congrArg some (by kernel_rfl))
 f169 := Tryz.func60.trans (congrArg some (by kernel_rfl))
 f240 := Tryz.func98.trans (congrArg some (by kernel_rfl))
 f241 := Tryz.func135.trans (congrArg some (by kernel_rfl))
 f276 := Tryz.func138.trans (congrArg some (by kernel_rfl))
 f277 := Tryz.func173.trans (congrArg some (by kernel_rfl))
 t0 := Tryz.underlying0
 a0 := Tryz.isAgg0
 z0 := Tryz.sizeOf0
 v0 := Tryz.zeroValue0
 t3 := Tryz.underlying3
 a3 := Tryz.isAgg3
 z3 := Tryz.sizeOf3
 v3 := Tryz.zeroValue3
 t4 := Tryz.underlying4
 a4 := Tryz.isAgg4
 z4 := Tryz.sizeOf4
 v4 := Tryz.zeroValue4
 t9 := Tryz.underlying9
 a9 := Tryz.isAgg9
 z9 := Tryz.sizeOf9
 v9 := Tryz.zeroValue9
 t20 := Tryz.underlying20
 a20 := Tryz.isAgg20
 z20 := Tryz.sizeOf20
 v20 := Tryz.zeroValue20
 t31 := Tryz.underlying29
 a31 := Tryz.isAgg29
 z31 := Tryz.sizeOf29
 v31 := Tryz.zeroValue29
 t37 := Tryz.underlying76
 a37 := Tryz.isAgg76
 z37 := Tryz.sizeOf76
 v37 := Tryz.zeroValue76
 t70 := Tryz.underlying107
 a70 := Tryz.isAgg107
 z70 := Tryz.sizeOf107
 v70 := Tryz.zeroValue107
 t72 := Tryz.underlying109
 a72 := Tryz.isAgg109
 z72 := Tryz.sizeOf109
 v72 := Tryz.zeroValue109
 t75 := Tryz.underlying111
 a75 := Tryz.isAgg111
 z75 := Tryz.sizeOf111
 v75 := Tryz.zeroValue111
 t76 := Tryz.underlying112
 a76 := Tryz.isAgg112
 z76 := Tryz.sizeOf112
 v76 := Tryz.zeroValue112
 t127 := Tryz.underlying151
 a127 := Tryz.isAgg151
 z127 := Tryz.sizeOf151
 v127 := Tryz.zeroValue151
 t164 := Tryz.underlying178
 a164 := Tryz.isAgg178
 z164 := Tryz.sizeOf178
 v164 := Tryz.zeroValue178 }
theorem Tryz.hand156x : Builder.Extra Tryz.prog Tryz.hand156_ren := {
 sizeBuilder := by kernel_rfl
 liesBuilder := by kernel_rfl
 t5 := Tryz.underlying5
 a5 := Tryz.isAgg5
 z5 := Tryz.sizeOf5
 v5 := Tryz.zeroValue5
 infoByte := by kernel_rfl
 cellsByte := by kernel_rfl
 sizeByte := by kernel_rfl
 neB5 := by decide }
theorem Tryz.joinText (bk o c : Nat) (xs : List ByteArray) (sep : ByteArray) (w : World)
  (hcells : ∀ (j : Nat) x, xs[j]? = some x → w.cell? ⟨bk, o + j, none⟩ = some (.string x))
  (hbk : bk < w.heap.size) (hN : xs.length ≤ 140737488355328) (hcap : xs.length ≤ c)
  (hlen : (Lib.join (xs.map (·.data.toList)) sep.data.toList).length ≤ 140737488355328) :
  Calls Tryz.prog 57 #[.slice (some ⟨bk, o, none⟩) xs.length c, .string sep] w fun e w' => e = .returned (.string ⟨(Lib.join (xs.map (·.data.toList)) sep.data.toList).toArray⟩) ∧ RowKit.Below w.heap.size w w' :=
 Any.strings_Join Tryz.hand156 Tryz.hand156x bk o c xs sep w hcells hbk hN hcap hlen
end Go.Proofs

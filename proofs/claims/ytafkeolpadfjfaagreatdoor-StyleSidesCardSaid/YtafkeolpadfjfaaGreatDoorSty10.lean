/- What each comes to. -/
import Derived.Test.YtafkeolpadfjfaaGreatDoorSty9
set_option linter.unusedVariables false
set_option linter.unusedSimpArgs false
namespace Go.Proofs.YtafkeolpadfjfaaGreatDoor
open Go.RowKit Go.Sort
namespace Y
open H

def plainD (p : List UInt8 × S.Val) : S.Decl := ⟨p.1, p.2, false⟩
/-- Declarations in a row that the call owns. -/
def OwnD (base : Nat) (w : World) (v : Value) (l : List S.Decl) : Prop := w.ownsRow base 40 5 v l.length (decCells l) ∧ (l.length = 0 → v = .slice none 0 0)
def cDecl (d : S.Decl) (_ : Value) : List Value := dcells d
def DeclsAt (B : Nat → Prop) (w : World) (v : Value) (l : List S.Decl) : Prop := ListAt cDecl iAny B w v l
theorem keeps_decls : Keeps DeclsAt := fun h k => ListAt.keep keeps_any h k
theorem OwnD.list {base : Nat} {w : World} {v : Value} {l : List S.Decl} (h : OwnD base w v l) : DeclsAt (base ≤ ·) w v l := by
  refine ⟨l.map (fun d => (d, .bool false)), by rw [List.map_map]; exact List.map_id l, ?_, fun _ _ => trivial⟩
  have := RowAt.of_own (S := (base ≤ ·)) h.1 h.2 (fun g _ hb => hb)
  rw [List.flatMap_map]
  exact this
theorem OwnD.form {base : Nat} {w : World} {v : Value} {l : List S.Decl} (h : OwnD base w v l) : ∃ ao cap, v = .slice ao l.length cap := by
  rcases h.1.2 with ⟨hv, hn⟩ | ⟨g, cap, cur, rfl, _⟩
  · exact ⟨none, 0, by rw [hv, hn]⟩
  · exact ⟨_, cap, rfl⟩

def EachPost (o : Option (List (List UInt8 × S.Val))) (w : World) (e : Ending) (w' : World) : Prop :=
  Below w.heap.size w w' ∧
  ((∃ l v, o = some l ∧ e = .returned (.tuple #[v, .bool true]) ∧ OwnD w.heap.size w' v (l.map plainD)) ∨ (o = none ∧ e = .returned (.tuple #[.slice none 0 0, .bool false])))

theorem own_keepD {w w' : World} {base : Nat} {e : TypeId} {size : Nat} {v : Value} {n : Nat} {xs : List Value} (h : w.ownsRow base e size v n xs) (b : Below w.heap.size w w') : w'.ownsRow base e size v n xs := by
  refine ⟨h.1, ?_⟩
  rcases h.2 with hn | ⟨g, cap, cur, rfl, hb, hgg, rest⟩
  · exact Or.inl hn
  · exact Or.inr ⟨g, cap, cur, rfl, hb, (b.block g (lt_of_block hgg)).trans hgg, rest⟩
theorem OwnD.keep {base : Nat} {w w' : World} {v : Value} {l : List S.Decl} (h : OwnD base w v l) (b : Below w.heap.size w w') : OwnD base w' v l := ⟨own_keepD h.1 b, h.2⟩

theorem lsl {α : Type} {c : α → Value → List Value} {I : (Nat → Prop) → World → Value → α → Prop} {B : Nat → Prop} {w : World} {a : Option Addr} {n cap : Nat} {l : List α} (h : ListAt c I B w (.slice a n cap) l) (hn : 0 < l.length) : ∃ g, a = some ⟨g, 0, none⟩ := by
  obtain ⟨ps, h1, h2, h3⟩ := h
  rcases h2 with ⟨hv, hn'⟩ | ⟨g, cap', hv, _, hS, _⟩
  · omega
  · simp only [Value.slice.injEq] at hv
    exact ⟨g, hv.1⟩

theorem each_some {n v : List UInt8} {r : List (List UInt8 × List UInt8)} {x : S.Val} (h : S.value n v = some (some x)) : S.each ((n, v) :: r) = match S.each r with | some l => some ((n, x) :: l) | none => none := by
  rw [S.each]
  dsimp only
  rw [h]
  rfl
theorem each_no {n v : List UInt8} {r : List (List UInt8 × List UInt8)} (h : S.value n v = some none ∨ S.value n v = none) : S.each ((n, v) :: r) = none := by
  rw [S.each]
  dsimp only
  rcases h with h | h <;> rw [h]

set_option maxHeartbeats 8000000 in
set_option maxRecDepth 100000 in
theorem each (v1 v2 : Value) (ns vs : List (List UInt8)) (w : World) (B1 B2 : Nat → Prop) (h1 : StrsAt B1 w v1 ns) (h2 : StrsAt B2 w v2 vs) (hl : ns.length ≤ vs.length) (hm : ns.length ≤ 1000) (hv : ∀ x ∈ vs, x.length ≤ 90000) (hE : YEnv w) :
    Calls Tryz.prog 104 #[v1, v2] w (EachPost (S.each (ns.zip vs)) w) := by
  have HE := Lib.hid hE
  have hg1 := hE.big
  have hg2 := hE.big2
  have H1 := Lib.hid h1
  have H2 := Lib.hid h2
  have HV := Lib.hid hv
  obtain ⟨a1, c1, e1⟩ := h1.form
  obtain ⟨a2, c2, e2⟩ := h2.form
  generalize hNN : ns.length = N at e1 hl hm
  have HN := Lib.hid hNN
  generalize hMM : vs.length = M at e2 hl
  have HM := Lib.hid hMM
  subst e1 e2
  have HA0 : Hid (S.each (ns.zip vs) = match S.each ((ns.zip vs).drop 0) with | some l => some ([] ++ l) | none => none) := Lib.hid (by rw [List.drop_zero]; cases S.each (ns.zip vs) <;> rfl)
  have HO0 : Hid (OwnD w.heap.size w (.slice none 0 0) (([] : List (List UInt8 × S.Val)).map plainD)) := Lib.hid ⟨World.ownsRow_nil _ _ _ _, fun _ => rfl⟩
  have HU0 := Lib.hid (Below.refl w.heap.size w)
  generalize S.each (ns.zip vs) = q at *
  clear h1 h2 hE hv hNN hMM
  go_enter Tryz.func104, Tryz.ntmps104
  go_wp2_with fail
  go_loopw [6, 13] (fun v6 v13 wr => ∃ k : Nat, v13 = .int .i64 k ∧ k ≤ N ∧ (∃ acc : List (List UInt8 × S.Val), acc.length = k ∧ Hid (q = match S.each ((ns.zip vs).drop k) with | some l => some (acc ++ l) | none => none) ∧ Hid (OwnD w.heap.size wr v6 (acc.map plainD))) ∧ Hid (Below w.heap.size w wr)) (fun _ v13 _ => N - (intOf v13).toNat)
  case atStart => exact ⟨0, rfl, Nat.zero_le _, ⟨[], rfl, HA0, HO0⟩, HU0⟩
  case round =>
    obtain ⟨k, rfl, hk, ⟨acc, hac, HA, HO⟩, HU⟩ := hrel
    clear HA0 HO0 HU0
    obtain ⟨ov, cv, hov⟩ := HO.out.form
    rw [List.length_map, hac] at hov
    subst hov
    by_cases hkN : k < N
    · have hkI : (k : Int) < (N : Int) := by omega
      have hkM : (k : Int) < (M : Int) := by omega
      have hkl : k < ns.length := by rw [HN.out]; exact hkN
      have hkv : k < vs.length := by rw [HM.out]; omega
      have s1 := keeps_strs H1.out (Kept.below HU.out)
      have s2 := keeps_strs H2.out (Kept.below HU.out)
      obtain ⟨g1, hg1'⟩ := lsl s1 (by omega)
      obtain ⟨g2, hg2'⟩ := lsl s2 (by omega)
      subst hg1' hg2'
      obtain ⟨hlt1, hnl1, hs1, n1, hc1, hp1⟩ := ListAt.at_ cStr_len s1 hkl
      obtain ⟨hlt2, hnl2, hs2, n2, hc2, hp2⟩ := ListAt.at_ cStr_len s2 hkv
      have d1 := hc1 0 (by omega)
      have d2 := hc2 0 (by omega)
      simp only [Nat.mul_one, Nat.add_zero] at d1 d2
      have k1 : wr.cell? ⟨g1, k, none⟩ = some (.string ⟨(ns[k]).toArray⟩) := d1
      have k2 : wr.cell? ⟨g2, k, none⟩ = some (.string ⟨(vs[k]).toArray⟩) := d2
      have hdr : (ns.zip vs).drop k = (ns[k], vs[k]) :: (ns.zip vs).drop (k + 1) := by
        rw [List.drop_eq_getElem_cons (by rw [List.length_zip]; omega), List.getElem_zip]
      have hvl := HV.out vs[k] (List.getElem_mem hkv)
      have HA2 := Lib.hid (HA.out.trans (by rw [hdr]))
      clear hnl1 hs1 hnl2 hs2 s1 s2 hc1 hc2 d1 d2 hp1 hp2 hdr HA
      generalize ns[k] = nm at *
      generalize vs[k] = vl at *
      clear hkl hkv
      have QV := Lib.hid (parseValue nm vl wr hvl (HE.out.below HU.out hg1 hg2))
      have HS := Lib.hid (fun x h => each_some (n := nm) (v := vl) (r := (ns.zip vs).drop (k + 1)) (x := x) h)
      have HF := Lib.hid (fun h => each_no (n := nm) (v := vl) (r := (ns.zip vs).drop (k + 1)) h)
      generalize S.value nm vl = o at *
      generalize S.each ((nm, vl) :: (ns.zip vs).drop (k + 1)) = qe at *
      go_wp2_with fail
      refine QV.out.mono ?_
      rintro e w1 ⟨v, er, rfl, hb, ho⟩
      obtain ⟨vk, vn, vw⟩ := v
      unfold vval vcells
      dsimp only
      have hsz := hb.size
      have HU1 := Lib.hid (HU.out.trans (hb.mono HU.out.size))
      have HO1 := Lib.hid (HO.out.keep hb)
      have hsu := HU1.out.size
      have HU2 := Lib.hid (HU1.out.alloc hsu (.cells #[.int .i64 (vk : Nat), .int .i64 vn, .string ⟨vw.toArray⟩] 32))
      have HO2 := Lib.hid (HO1.out.keep ((Below.refl w1.heap.size w1).alloc (Nat.le_refl _) (.cells #[.int .i64 (vk : Nat), .int .i64 vn, .string ⟨vw.toArray⟩] 32)))
      have HZ := Lib.hid (Blk.new w1 #[.int .i64 (vk : Nat), .int .i64 vn, .string ⟨vw.toArray⟩] 32)
      clear hb QV HU HO k1 k2 HU1 HO1
      have hcase : (er = 0 ∧ o = some (some ⟨vk, vn, vw⟩)) ∨ ((er = 4 ∨ er = 6) ∧ (o = some none ∨ o = none)) := by
        rcases ho.out with ⟨h, h2⟩ | ⟨h, _, h2⟩ | ⟨h, _, h2⟩
        · exact Or.inl ⟨h2, h⟩
        · exact Or.inr ⟨Or.inl h2, Or.inl h⟩
        · exact Or.inr ⟨Or.inr h2, Or.inr h⟩
      clear ho
      go_upto_region 6 with fail
      generalize (w1.alloc (.cells #[.int .i64 (vk : Nat), .int .i64 vn, .string ⟨vw.toArray⟩] 32)) = w2 at *
      generalize w1.heap.size = Z at *
      rcases hcase with ⟨rfl, ho⟩ | ⟨her, ho⟩
      · have HA3 : Hid (q = match S.each ((ns.zip vs).drop (k + 1)) with | some l => some ((acc ++ [(nm, (⟨vk, vn, vw⟩ : S.Val))]) ++ l) | none => none) := Lib.hid (by
          rw [HA2.out, HS.out _ ho]
          cases S.each ((ns.zip vs).drop (k + 1)) <;> simp)
        obtain ⟨hcz, hfz⟩ := cells_of HZ.out
        have z0 : w2.cell? ⟨Z, 0, none⟩ = some (.int .i64 (vk : Nat)) := hcz 0
        have z1 : w2.cell? ⟨Z, 1, none⟩ = some (.int .i64 vn) := hcz 1
        have z2 : w2.cell? ⟨Z, 2, none⟩ = some (.string ⟨vw.toArray⟩) := hcz 2
        clear hcz hfz HA2 HS HF ho HZ
        obtain ⟨i0, hi0, hz0, hz1, hz2⟩ := info_parts infoDecl
        have HOr := Lib.hid HO2.out.1
        rw [List.length_map, hac] at HOr
        have hsu2 := HU2.out.size
        go_wp2_with (at_builtin; refine wpList_append_lies _ rfl _ _ 24 rfl w.heap.size 40 i0 _ 5 56 Tryz.underlying24 hi0 hz0 hz1 hz2 rfl (by decide) (.slice ov k cv) k (decCells (acc.map plainD)) rfl (HOr.out.alloc _) ⟨w2.heap.size, 0, none⟩ 1 1 [.string ⟨nm.toArray⟩, .int .i64 (vk : Nat), .int .i64 vn, .string ⟨vw.toArray⟩, .bool false] rfl rfl ?c1 ?c2 ?c3 ?c4 ?c5 ?c6 (w2.heap.size + 1) ?c7 ?_)
        case c1 => exact World.news_of_block (heap_alloc_new w2 (.cells #[.string ⟨nm.toArray⟩, .int .i64 (vk : Nat), .int .i64 vn, .string ⟨vw.toArray⟩, .bool false] 40))
        case c2 => simp [Value.oneCell']
        case c3 => omega
        case c4 => unfold maxLen; omega
        case c5 => omega
        case c6 => simp; omega
        case c7 => simp
        intro gg cap2 w5 hown5 hgrow hat hlt5
        have HO5 : Hid (OwnD w.heap.size w5 (.slice (some ⟨gg, 0, none⟩) (k + 1) cap2) ((acc ++ [(nm, (⟨vk, vn, vw⟩ : S.Val))]).map plainD)) := Lib.hid (by
          refine ⟨?_, fun h => by simp at h⟩
          rw [List.length_map, List.length_append, hac]
          unfold decCells at *
          rw [List.map_append, List.flatMap_append]
          exact hown5)
        have HB5 : Hid (Below w.heap.size w w5) := Lib.hid (by
          have h1 := HU2.out.alloc (o := .cells #[.string ⟨nm.toArray⟩, .int .i64 (vk : Nat), .int .i64 vn, .string ⟨vw.toArray⟩, .bool false] 40) (by omega)
          exact h1.grown hgrow (by simp; omega) (fun q hq => (HOr.out.lt q hq).1))
        clear hown5 hgrow hat
        go_wp2_with fail
        go_roundw
        case rel => exact ⟨k + 1, by go_num, by omega, ⟨_, by simp [hac], HA3, HO5⟩, HB5⟩
        case measure => simp [intOf]; omega
      · have HQ : Hid (q = none) := Lib.hid (by rw [HA2.out, HF.out ho])
        clear HA2 HS HF ho HZ HO2
        rcases her with rfl | rfl
        all_goals
          go_wp2_with fail
          go_ret2
          exact ⟨HU2.out, Or.inr ⟨HQ.out, rfl⟩⟩
    · obtain rfl : N = k := by omega
      have e1 : ¬ (N : Int) < (N : Int) := by omega
      have HQ : Hid (q = some acc) := Lib.hid (by
        rw [HA.out, List.drop_eq_nil_of_le (by rw [List.length_zip]; have := HN.out; omega)]
        show (match S.each [] with | some l => some (acc ++ l) | none => none) = _
        simp [S.each])
      clear HA
      go_wp2_with fail
      go_ret2
      exact ⟨HU.out, Or.inl ⟨acc, _, HQ.out, rfl, HO.out⟩⟩

end Y
end Go.Proofs.YtafkeolpadfjfaaGreatDoor

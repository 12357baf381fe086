/- What decls and Decls come to. -/
import Derived.Test.YtafkeolpadfjfaaGreatDoorSty20
set_option linter.unusedVariables false
set_option linter.unusedSimpArgs false
namespace Go.Proofs.YtafkeolpadfjfaaGreatDoor
open Go.RowKit Go.Sort
namespace Y
open H
theorem own_keepB {w w' : World} {base b : Nat} {e : TypeId} {size : Nat} {v : Value} {n : Nat} {xs : List Value} (h : w.ownsRow base e size v n xs) (hb : But b w w') (hlt : b < base) : w'.ownsRow base e size v n xs := by
 refine ⟨h.1, ?_⟩
 rcases h.2 with hn | ⟨g, cap, cur, rfl, hbb, hgg, rest⟩
 ·exact Or.inl hn
 ·exact Or.inr ⟨g, cap, cur, rfl, hbb, (hb.block g (lt_of_block hgg) (by omega)).trans hgg, rest⟩
theorem OwnD.but {base b : Nat} {w w' : World} {v : Value} {l : List S.Decl} (h : OwnD base w v l) (hb : But b w w') (hlt : b < base) : OwnD base w' v l := ⟨own_keepB h.1 hb hlt, h.2⟩
/-- The cut at the colon. -/
theorem cutColon (p : List UInt8) (hp : p.length ≤ 1000000) : ∃ fa, ∀ W, Calls Tryz.prog 62 #[.string ⟨p.toArray⟩, .string ⟨#[58]⟩] W fun e w' => e = .returned (.tuple #[.string ⟨(S.colonP p).1.toArray⟩, .string ⟨(S.colonP p).2.toArray⟩, .bool fa]) ∧ ∃ n, w' = W.drewN n := by
 have hf : (fun x : UInt8 => decide (x ≠ 58)) = (fun x => x != 58) := (bne_fun 58).symm
 unfold S.colonP S.colon
 rw [hf]
 cases h : p.dropWhile (· != 58) with
 | nil => exact ⟨false, fun W => Cut_none p 58 W hp h⟩
 | cons c u => exact ⟨true, fun W => Cut_some p u 58 c W hp h⟩
theorem cutSuf (s e : List UInt8) (W : World) (hs : s.length ≤ 1000000) : Calls Tryz.prog 63 #[.string ⟨s.toArray⟩, .string ⟨e.toArray⟩] W fun en w' => en = .returned (.tuple #[.string ⟨((S.cutEnd s e).getD s).toArray⟩, .bool (S.cutEnd s e).isSome]) ∧ W = w' := by
 have := Tryz.strings_CutSuffix ⟨s.toArray⟩ ⟨e.toArray⟩ W (by rw [bytes_size]; omega)
 rw [bytes_toList, bytes_toList] at this
 refine this.mono fun en w' ⟨h1, h2⟩ => ⟨h1.trans ?_, h2.symm⟩
 unfold S.cutEnd Lib.trimSuffix Lib.hasSuffix
 cases h : e.isSuffixOf s with
 | false => rfl
 | true => rfl
theorem colonP_len (p : List UInt8) : (S.colonP p).1.length ≤ p.length ∧ (S.colonP p).2.length ≤ p.length := by
 unfold S.colonP S.colon
 cases h : p.dropWhile (· ≠ 58) with
 | nil => exact ⟨Nat.le_refl _, Nat.zero_le _⟩
 | cons c t =>
  have h1 := S.tw_le (fun x => decide (x ≠ 58)) p
  have h2 := congrArg List.length (List.takeWhile_append_dropWhile (p := fun x => decide (x ≠ 58)) (l := p))
  rw [List.length_append, h, List.length_cons] at h2
  refine ⟨h1, ?_⟩
  show t.length ≤ _
  omega
theorem lower_len (l : List UInt8) : (S.lower l).length = l.length := by unfold S.lower; rw [List.length_map]
theorem imp_len (v : List UInt8) : (S.important v).1.length ≤ v.length := by
 unfold S.important
 cases h1 : S.cutEnd v [105, 109, 112, 111, 114, 116, 97, 110, 116] with
 | none => exact Nat.le_refl _
 | some u =>
  dsimp only
  cases h2 : S.cutEnd (S.trim u) [33] with
  | none => exact Nat.le_refl _
  | some x =>
   have e1 := congrArg List.length (S.cutEnd_some h1)
   have e2 := congrArg List.length (S.cutEnd_some h2)
   have l1 := S.trim_len u
   have l2 := S.trim_len x
   rw [List.length_append] at e1 e2
   show (S.trim x).length ≤ _
   omega
/-- The piece at a place, its name and its value. -/
def pieceAt (s : List UInt8) (i : Nat) : List UInt8 := (s.drop i).take (S.scan [59] 0 0 (s.drop i))
def nameAt (s : List UInt8) (i : Nat) : List UInt8 := S.trim (S.lower (S.colonP (pieceAt s i)).1)
def valAt (s : List UInt8) (i : Nat) : List UInt8 := S.trim (S.lower (S.colonP (pieceAt s i)).2)
def impD (b : Bool) (p : List UInt8 × S.Val) : S.Decl := ⟨p.1, p.2, b⟩
def declsOf (o : Option (List (List UInt8 × S.Val))) (I : Bool) : List S.Decl := match o with | some l => l.map (impD I) | none => []
theorem decls_at (s : List UInt8) (i : Nat) : S.decls (s.drop i) = declsOf (S.expand (nameAt s i) (S.important (valAt s i)).1) (S.important (valAt s i)).2 ++ S.decls (s.drop (i + S.scan [59] 0 0 (s.drop i) + 1)) := by
 rw [S.decls_step, List.drop_drop]
 rfl
/-- Where the call stands: the scanner, the declarations so far, what was there before. -/
def DSt (b j : Nat) (s : List UInt8) (w : World) (v3 : Value) (acc : List S.Decl) (W : World) : Prop := IsSc b s j W ∧ OwnD (b + 1) W v3 acc ∧ Below b w W
theorem DSt.lt {b j : Nat} {s : List UInt8} {w W : World} {v3 : Value} {acc : List S.Decl} (h : DSt b j s w v3 acc W) : b < W.heap.size := h.1.lt
theorem DSt.step {b j : Nat} {s : List UInt8} {w W W' : World} {v3 : Value} {acc : List S.Decl} (h : DSt b j s w v3 acc W) (k : Below W.heap.size W W') : DSt b j s w v3 acc W' :=
 ⟨Blk.below h.1 k, h.2.1.keep k, h.2.2.trans (k.mono (Nat.le_of_lt h.lt))⟩
theorem DSt.drewN {b j : Nat} {s : List UInt8} {w W : World} {v3 : Value} {acc : List S.Decl} (h : DSt b j s w v3 acc W) (n : Nat) : DSt b j s w v3 acc (W.drewN n) := h.step (drewN_below (Below.refl _ _) n)
theorem DSt.set {b j : Nat} {s : List UInt8} {w W : World} {v3 : Value} {acc : List S.Decl} (h : DSt b j s w v3 acc W) {z : Int} (hz : z = ((j + 1 : Nat) : Int)) : DSt b (j + 1) s w v3 acc (W.setCell ⟨b, 1, none⟩ (.int .i64 z)) := by
 have hb := But.set (b := b) W 1 (.int .i64 z)
 exact ⟨sc_set h.1 hz, h.2.1.but hb (Nat.lt_succ_self _), h.2.2.trans (hb.below h.lt)⟩
theorem OwnD.late {b : Nat} {W : World} {v3 : Value} {acc : List S.Decl} (h : OwnD b W v3 acc) : ∀ g, W.heap.size ≤ g → v3.ownBlock ≠ some g := fun g hg he => by
 have := (h.1.lt g he).2
 omega
theorem dst_grown {b j : Nat} {s : List UInt8} {w W W' : World} {v3 v3' : Value} {acc acc' : List S.Decl} (h : DSt b j s w v3 acc W) (hg : W.grownBy W' v3.ownBlock) (hr : ∀ q, v3.ownBlock = some q → b < q) (ho : OwnD (b + 1) W' v3' acc') : DSt b j s w v3' acc' W' := by
 have hb : W'.heap[b]? = W.heap[b]? := hg.block b h.lt fun he => by have := hr b he.symm; omega
 exact ⟨hb.trans h.1, ho, h.2.2.grown hg (Nat.le_of_lt h.lt) fun q hq => Nat.le_of_lt (hr q hq)⟩
theorem kept_grown {W W' : World} {v3 : Value} {gg n cap B : Nat} (hg : W.grownBy W' v3.ownBlock) (hat : v3.ownBlock = some gg ∨ B ≤ gg) (hB : W.heap.size ≤ B) : Kept (fun k => v3.ownBlock ≠ some k) (fun k => (Value.slice (some ⟨gg, 0, none⟩) n cap).ownBlock ≠ some k) W W' := by
 refine ⟨hg.size, fun k hk hlt => ⟨?_, hg.block k hlt (fun h => hk h.symm)⟩⟩
 intro he
 have he : gg = k := by simpa [Value.ownBlock] using he
 subst he
 rcases hat with h | h
 ·exact hk h
 ·omega
theorem dst_measure {b j : Nat} {s : List UInt8} {w W : World} {v3 : Value} {acc : List S.Decl} (h : DSt b j s w v3 acc W) : W.cell? ⟨b, 1, none⟩ = some (.int .i64 j) := (cells_of h.1).1 1
theorem dmeas {b j j2 : Nat} {s : List UInt8} {W wr : World} (h : W.cell? ⟨b, 1, none⟩ = some (.int .i64 (j2 : Nat))) (h1 : wr.cell? ⟨b, 1, none⟩ = some (.int .i64 (j : Nat))) (hj : j < s.length) (hjj : j < j2) :
  s.length + 1 - (match W.cell? ⟨b, 1, none⟩ with | some (.int _ q) => q.toNat | _ => 0) < s.length + 1 - (match wr.cell? ⟨b, 1, none⟩ with | some (.int _ q) => q.toNat | _ => 0) := by
 rw [h, h1]
 show s.length + 1 - ((((j2 : Nat) : Int)).toNat) < s.length + 1 - (((j : Nat) : Int)).toNat
 omega
theorem cDecl_len (d : S.Decl) (v : Value) : (cDecl d v).length = 5 := rfl
theorem each_len : ∀ {l : List (List UInt8 × List UInt8)} {r : List (List UInt8 × S.Val)}, S.each l = some r → r.length = l.length
 | [], r, h => by cases h; rfl
 | p :: t, r, h => by
  rw [S.each] at h
  split at h
  ·split at h
   ·rename_i l' hl
    cases h
    rw [List.length_cons, List.length_cons, each_len hl]
   ·cases h
  ·cases h
theorem expand_len {nm v : List UInt8} {l : List (List UInt8 × S.Val)} (h : S.expand nm v = some l) : l.length ≤ 4 := by
 unfold S.expand at h
 split at h
 ·split at h
  ·have := each_len h
   rw [List.length_zip] at this
   have h3 : S.flexNames.length = 3 := rfl
   omega
  ·cases h
 ·split at h
  ·have := each_len h
   simp at this; omega
  ·rename_i ns hns
   have h4 := S.sides_len hns
   split at h
   ·have := each_len h
    rw [List.length_map] at this
    omega
   ·split at h
    ·cases h
    ·split at h
     ·have := each_len h
      rw [List.length_zip] at this
      omega
     ·cases h
/-- What expand hands back, as a list in memory. -/
theorem post_list {o : Option (List (List UInt8 × S.Val))} {W w' : World} {e : Ending} {I : Bool} {v3 : Value} (h : ((∃ l v, o = some l ∧ e = .returned (.tuple #[v, .bool true]) ∧ OwnD W.heap.size w' v (l.map plainD)) ∨ (o = none ∧ e = .returned (.tuple #[.slice none 0 0, .bool false])))) (h4 : ∀ l, o = some l → l.length ≤ 4) (hl : ∀ g, W.heap.size ≤ g → v3.ownBlock ≠ some g) :
  ∃ (l : List (List UInt8 × S.Val)) (v : Value) (ok : Bool), e = .returned (.tuple #[v, .bool ok]) ∧ DeclsAt (fun g => v3.ownBlock ≠ some g) w' v (l.map plainD) ∧ declsOf o I = l.map (impD I) ∧ l.length ≤ 4 := by
 rcases h with ⟨l, v, rfl, rfl, ho⟩ | ⟨rfl, rfl⟩
 ·exact ⟨l, v, true, rfl, keeps_decls ho.list (Kept.wide fun g hg => hl g hg), rfl, h4 l rfl⟩
 ·exact ⟨[], .slice none 0 0, false, rfl, ListAt.nil, rfl, Nat.zero_le _⟩
def DecRel (b : Nat) (s : List UInt8) (q : List S.Decl) (w : World) (v3 : Value) (wr : World) : Prop :=
 ∃ (i : Nat) (acc : List S.Decl), i ≤ s.length + 1 ∧ Hid (DSt b i s w v3 acc wr) ∧ Hid (q = acc ++ S.decls (s.drop i)) ∧ acc.length ≤ 4 * i
set_option maxHeartbeats 16000000 in
set_option maxRecDepth 100000 in
theorem decls (s : List UInt8) (w : World) (hs : s.length ≤ 90000) (hE : YEnv w)
  (hX : ∀ i v W, i < s.length → v.length ≤ 90000 → YEnv W → Calls Tryz.prog 64 #[.string ⟨(nameAt s i).toArray⟩, .string ⟨v.toArray⟩] W (EachPost (S.expand (nameAt s i) v) W)) :
  Calls Tryz.prog 32 #[.string ⟨s.toArray⟩] w fun e w' => ∃ v, e = .returned v ∧ Below w.heap.size w w' ∧ OwnD w.heap.size w' v (S.decls s) := by
 have HE := Lib.hid hE
 have hg1 := hE.big
 have hg2 := hE.big2
 have HX := Lib.hid hX
 have HQ0 : Hid (S.decls s = [] ++ S.decls (s.drop 0)) := Lib.hid (by rw [List.drop_zero]; rfl)
 generalize S.decls s = q at *
 clear hE hX
 have zs := bytes_size s
 have H0 : Hid (IsSc w.heap.size s 0 (w.alloc (.cells #[.string ⟨s.toArray⟩, .int .i64 (0 : Nat)] 85))) := Lib.hid (Blk.new _ _ _)
 have HB0 : Hid (Below w.heap.size w (w.alloc (.cells #[.string ⟨s.toArray⟩, .int .i64 (0 : Nat)] 85))) := Lib.hid ((Below.refl _ w).alloc (Nat.le_refl _) _)
 have HO0 : Hid (OwnD (w.heap.size + 1) (w.alloc (.cells #[.string ⟨s.toArray⟩, .int .i64 (0 : Nat)] 85)) (.slice none 0 0) []) := Lib.hid ⟨World.ownsRow_nil _ _ _ _, fun _ => rfl⟩
 go_enter Tryz.func32, Tryz.ntmps32
 go_wp2_with fail
 go_loopw [3] (fun v3 wr => DecRel w.heap.size s q w v3 wr) (fun _ wr => s.length + 1 - (match wr.cell? ⟨w.heap.size, 1, none⟩ with | some (.int _ q) => q.toNat | _ => 0))
 case atStart => exact ⟨0, [], by omega, Lib.hid ⟨H0.out, HO0.out, HB0.out⟩, HQ0, by simp⟩
 case round =>
  obtain ⟨i, acc, hi, HD, HQ, hal⟩ := hrel
  clear H0 HB0 HO0 HQ0
  obtain ⟨hc, hf⟩ := cells_of HD.out.1
  have hlb := HD.out.lt
  have c1 : wr.cell? ⟨w.heap.size, 1, none⟩ = some (.int .i64 i) := hc 1
  clear hc hf
  by_cases hlt : i < s.length
  ·have hltI : (i : Int) < (s.length : Int) := by omega
   have HQ2 := Lib.hid (HQ.out.trans (by rw [decls_at s i]))
   have QU := Lib.hid (untilC w.heap.size s [59] i wr (by omega) (by omega) HD.out.1)
   have hEl : i + S.scan [59] 0 0 (s.drop i) ≤ s.length := by have := S.scan_le [59] (s.drop i) 0 0; rw [List.length_drop] at this; omega
   have hpx : (⟨s.toArray⟩ : ByteArray).extract i (i + S.scan [59] 0 0 (s.drop i)) = ⟨(pieceAt s i).toArray⟩ := by
    rw [slice_str s i _ (by omega) hEl, Nat.add_sub_cancel_left]; rfl
   have hpl : (pieceAt s i).length ≤ 90000 := by unfold pieceAt; rw [List.length_take, List.length_drop]; omega
   obtain ⟨fa, hCC⟩ := cutColon (pieceAt s i) (by omega)
   obtain ⟨hl1, hl2⟩ := colonP_len (pieceAt s i)
   have hn1 : (S.lower (S.colonP (pieceAt s i)).1).length ≤ 90000 := by rw [lower_len]; omega
   have hn2 : (S.lower (S.colonP (pieceAt s i)).2).length ≤ 90000 := by rw [lower_len]; omega
   have hvl : (valAt s i).length ≤ 90000 := by unfold valAt; have := S.trim_len (S.lower (S.colonP (pieceAt s i)).2); omega
   have QC := Lib.hid hCC
   have QL1 := Lib.hid (fun W => lowerY (S.colonP (pieceAt s i)).1 W (by omega))
   have QL2 := Lib.hid (fun W => lowerY (S.colonP (pieceAt s i)).2 W (by omega))
   have QT1 := Lib.hid (fun W => trimY (S.lower (S.colonP (pieceAt s i)).1) W (by omega))
   have QT2 := Lib.hid (fun W => trimY (S.lower (S.colonP (pieceAt s i)).2) W (by omega))
   rw [show S.trim (S.lower (S.colonP (pieceAt s i)).1) = nameAt s i from rfl] at QT1
   rw [show S.trim (S.lower (S.colonP (pieceAt s i)).2) = valAt s i from rfl] at QT2
   have QX := Lib.hid (fun v W h1 h2 => HX.out i v W hlt h1 h2)
   have hEi : i ≤ i + S.scan [59] 0 0 (s.drop i) := Nat.le_add_right _ _
   clear hl1 hl2
   generalize S.lower (S.colonP (pieceAt s i)).1 = n1 at *
   generalize S.lower (S.colonP (pieceAt s i)).2 = n2 at *
   generalize S.colonP (pieceAt s i) = cp at *
   generalize nameAt s i = nm at *
   generalize valAt s i = vl at *
   generalize i + S.scan [59] 0 0 (s.drop i) = E at *
   clear hCC HQ
   go_wp2_with (go_at_call 50; refine QU.out.mono ?_)
   rintro e w1 ⟨rfl, hsc, hbt⟩
   have HD1 : Hid (DSt w.heap.size E s w u3 acc w1) := Lib.hid ⟨hsc, HD.out.2.1.but hbt (Nat.lt_succ_self _), HD.out.2.2.trans (hbt.below hlb)⟩
   obtain ⟨hc, hf⟩ := cells_of hsc
   have d1 : w1.cell? ⟨w.heap.size, 1, none⟩ = some (.int .i64 E) := hc 1
   have gE : (0 : Int) ≤ (E : Int) := by omega
   have lE : (E : Int) ≤ (s.length : Int) := by omega
   have lI : (i : Int) ≤ (E : Int) := by omega
   clear hc hf hsc hbt QU HD
   go_wp2_with (go_at_call 62; (try rw [hpx]); refine (QC.out _).mono ?_)
   rintro e w2 ⟨rfl, n, rfl⟩
   have HD2 := Lib.hid (HD1.out.drewN n)
   clear d1 QC HD1 hpx
   generalize w1.drewN n = w2 at *
   obtain ⟨hc, hf⟩ := cells_of HD2.out.1
   have d1 : w2.cell? ⟨w.heap.size, 1, none⟩ = some (.int .i64 E) := hc 1
   have f1 : w2.frozen? ⟨w.heap.size, 1, none⟩ = false := hf 1 (by show 1 < 2; omega)
   have HD3 : Hid (DSt w.heap.size (E + 1) s w u3 acc (w2.setCell ⟨w.heap.size, 1, none⟩ (.int .i64 ((E : Int) + 1)))) := Lib.hid (HD2.out.set (by omega))
   have wE : IntKind.i64.wrap ((E : Int) + 1) = (E : Int) + 1 := IntWalk.i64_in _ (by omega)
   clear hc hf HD2
   go_wp2_with (go_at_call 38; refine (QL1.out _).mono ?_)
   rintro e w3 ⟨rfl, hb⟩
   have HD4 := Lib.hid (HD3.out.step hb)
   clear hb HD3 QL1 d1 f1
   go_wp2_with (go_at_call 37; refine (QT1.out _).mono ?_)
   rintro e w4 ⟨rfl, hb⟩
   have HD5 := Lib.hid (HD4.out.step hb)
   clear hb HD4 QT1
   go_wp2_with (go_at_call 38; refine (QL2.out _).mono ?_)
   rintro e w5 ⟨rfl, hb⟩
   have HD6 := Lib.hid (HD5.out.step hb)
   clear hb HD5 QL2
   go_wp2_with (go_at_call 37; refine (QT2.out _).mono ?_)
   rintro e w6 ⟨rfl, hb⟩
   have HD7 := Lib.hid (HD6.out.step hb)
   clear hb HD6 QT2
   have QS1 := Lib.hid (fun W => cutSuf vl [105, 109, 112, 111, 114, 116, 97, 110, 116] W (by omega))
   cases hcu : S.cutEnd vl [105, 109, 112, 111, 114, 116, 97, 110, 116] with
   | none =>
    have HI : Hid (S.important vl = (vl, false)) := Lib.hid (by unfold S.important; rw [hcu])
    rw [hcu] at QS1
    clear hcu
    go_wp2_with (go_at_call 63; refine (QS1.out _).mono ?_; rintro e w' ⟨rfl, rfl⟩)
    have HEn := Lib.hid (HE.out.below HD7.out.2.2 hg1 hg2)
    clear QS1
    go_wp2_with fail
    refine (QX.out vl _ hvl HEn.out).mono ?_
    rintro e w7 ⟨hb, hcase⟩
    have HO7 := Lib.hid (HD7.out.2.1)
    have HD8 := Lib.hid (HD7.out.step hb)
    obtain ⟨l, v, ok, he, hDl, hll, hl4⟩ := post_list (I := false) hcase (fun l h => expand_len h) HD7.out.2.1.late
    have HL := Lib.hid hll
    have HQ3 : Hid (q = acc ++ (l.map (impD false) ++ S.decls (s.drop (E + 1)))) := Lib.hid (by have h := HQ2.out; rw [HI.out] at h; dsimp only at h; rw [HL.out] at h; exact h)
    clear hb hcase HD7 QX HQ2 HI HL hll HO7 HEn
    subst he
    obtain ⟨ao, cap, hv⟩ := hDl.form
    rw [List.length_map] at hv
    subst hv
    generalize hNN : l.length = N at *
    have HN := Lib.hid hNN
    clear hNN
    have HDl := Lib.hid hDl
    clear hDl
    go_wp2_with fail
    go_loopw [3, 80] (fun v3 v80 wq => ∃ k : Nat, v80 = .int .i64 k ∧ k ≤ N ∧ Hid (DSt w.heap.size (E + 1) s w v3 (acc ++ (l.take k).map (impD false)) wq) ∧ Hid (DeclsAt (fun g => v3.ownBlock ≠ some g) wq (.slice ao N cap) (l.map plainD))) (fun _ v80 _ => N - (intOf v80).toNat)
    case atStart => exact ⟨0, rfl, Nat.zero_le _, Lib.hid (by rw [List.take_zero, List.map_nil, List.append_nil]; exact HD8.out), HDl⟩
    case round =>
     obtain ⟨k, rfl, hk, HD, HR⟩ := hrel
     clear HD8 HDl
     by_cases hkN : k < N
     ·have hkI : (k : Int) < (N : Int) := by omega
      have hkl : k < l.length := by rw [HN.out]; exact hkN
      have hkl2 : k < (l.map plainD).length := by rw [List.length_map]; exact hkl
      obtain ⟨g, hg⟩ := lsl HR.out (by omega)
      subst hg
      obtain ⟨hglt, hnl, hgS, vk, hc0, hp⟩ := ListAt.at_ cDecl_len HR.out hkl2
      have hc : ∀ o, o < 5 → wr.cell? ⟨g, k * 5 + o, none⟩ = (cDecl (plainD (l[k]'hkl)) vk)[o]? := fun o ho => by have := hc0 o ho; rwa [List.getElem_map] at this
      clear hc0
      have htk : l.take (k + 1) = l.take k ++ [l[k]] := by rw [List.take_add_one, List.getElem?_eq_getElem hkl]; rfl
      have HT := Lib.hid htk
      clear htk hnl hp hkl2
      generalize l[k] = dk at *
      obtain ⟨dn, dv, dm, dw⟩ := dk
      have c0 : wr.cell? ⟨g, k * 5 + 0, none⟩ = some (.string ⟨dn.toArray⟩) := hc 0 (by omega)
      have c1 : wr.cell? ⟨g, k * 5 + 1, none⟩ = some (.int .i64 (dv : Nat)) := hc 1 (by omega)
      have c2 : wr.cell? ⟨g, k * 5 + 2, none⟩ = some (.int .i64 dm) := hc 2 (by omega)
      have c3 : wr.cell? ⟨g, k * 5 + 3, none⟩ = some (.string ⟨dw.toArray⟩) := hc 3 (by omega)
      have c4 : wr.cell? ⟨g, k * 5 + 4, none⟩ = some (.bool false) := hc 4 (by omega)
      simp only [Nat.add_zero] at c0
      clear hc hkl
      have hA2 : acc ++ (l.take (k + 1)).map (impD false) = (acc ++ (l.take k).map (impD false)) ++ [⟨dn, ⟨dv, dm, dw⟩, false⟩] := by rw [HT.out, List.map_append, List.append_assoc]; rfl
      have hac : (acc ++ (l.take k).map (impD false)).length ≤ 4 * i + 4 := by
       rw [List.length_append, List.length_map, List.length_take]; omega
      have HA2 := Lib.hid hA2
      clear hA2 HT
      generalize acc ++ (l.take k).map (impD false) = ac at *
      obtain ⟨ov, cv, hov⟩ := HD.out.2.1.form
      generalize hMM : ac.length = M at *
      subst hov
      go_upto_region 20 with fail
      have hbA : Below wr.heap.size wr (wr.alloc (.cells #[.string ⟨dn.toArray⟩, .int .i64 (dv : Nat), .int .i64 dm, .string ⟨dw.toArray⟩, .bool false] 40)) := (Below.refl _ wr).alloc (Nat.le_refl _) _
      have HZ := Lib.hid (Blk.new wr #[.string ⟨dn.toArray⟩, .int .i64 (dv : Nat), .int .i64 dm, .string ⟨dw.toArray⟩, .bool false] 40)
      have HD2 := Lib.hid (HD.out.step hbA)
      have HR2 := Lib.hid (keeps_decls HR.out (Kept.below hbA))
      clear hbA HD HR c0 c1 c2 c3 c4
      generalize (wr.alloc (.cells #[.string ⟨dn.toArray⟩, .int .i64 (dv : Nat), .int .i64 dm, .string ⟨dw.toArray⟩, .bool false] 40)) = W2 at *
      generalize wr.heap.size = Z at *
      obtain ⟨hcz, hfz⟩ := cells_of HZ.out
      have z0 : W2.cell? ⟨Z, 0, none⟩ = some (.string ⟨dn.toArray⟩) := hcz 0
      have z1 : W2.cell? ⟨Z, 1, none⟩ = some (.int .i64 (dv : Nat)) := hcz 1
      have z2 : W2.cell? ⟨Z, 2, none⟩ = some (.int .i64 dm) := hcz 2
      have z3 : W2.cell? ⟨Z, 3, none⟩ = some (.string ⟨dw.toArray⟩) := hcz 3
      have z4 : W2.cell? ⟨Z, 4, none⟩ = some (.bool false) := hcz 4
      clear hcz hfz HZ
      obtain ⟨i0, hi0, hz0, hz1, hz2⟩ := info_parts infoDecl
      have HOr := Lib.hid HD2.out.2.1.1
      rw [hMM] at HOr
      have HMM := Lib.hid hMM
      have hbz := HD2.out.lt
      have hbA2 : Below W2.heap.size W2 (W2.alloc (.cells #[.string ⟨dn.toArray⟩, .int .i64 (dv : Nat), .int .i64 dm, .string ⟨dw.toArray⟩, .bool false] 40)) := (Below.refl _ W2).alloc (Nat.le_refl _) _
      have HD3 := Lib.hid (HD2.out.step hbA2)
      have HR3 := Lib.hid (keeps_decls HR2.out (Kept.below hbA2))
      clear hbA2 HR2 hMM
      go_wp2_with (at_builtin; refine wpList_append_lies _ rfl _ _ 24 rfl (w.heap.size + 1) 40 i0 _ 5 56 Tryz.underlying24 hi0 hz0 hz1 hz2 rfl (by decide) (.slice ov M cv) M (decCells ac) rfl (HOr.out.alloc _) ⟨W2.heap.size, 0, none⟩ 1 1 [.string ⟨dn.toArray⟩, .int .i64 (dv : Nat), .int .i64 dm, .string ⟨dw.toArray⟩, .bool false] rfl rfl ?c1 ?c2 ?c3 ?c4 ?c5 ?c6 (W2.heap.size + 1) ?c7 ?_)
      case c1 => exact World.news_of_block (heap_alloc_new W2 (.cells #[.string ⟨dn.toArray⟩, .int .i64 (dv : Nat), .int .i64 dm, .string ⟨dw.toArray⟩, .bool false] 40))
      case c2 => simp [Value.oneCell']
      case c3 => omega
      case c4 => unfold maxLen; omega
      case c5 => omega
      case c6 => simp; omega
      case c7 => simp
      intro gg cap2 w5 hown5 hgrow hat hlt5
      have HD5 : Hid (DSt w.heap.size (E + 1) s w (.slice (some ⟨gg, 0, none⟩) (M + 1) cap2) (acc ++ (l.take (k + 1)).map (impD false)) w5) := Lib.hid (by
       rw [HA2.out]
       exact dst_grown HD3.out hgrow (by intro q hq; have := (HOr.out.lt q hq).1; omega) ⟨by
        rw [List.length_append, HMM.out]
        unfold decCells at *
        rw [List.flatMap_append]
        exact hown5, fun h => by simp at h⟩)
      have HR5 : Hid (DeclsAt (fun g => (Value.slice (some ⟨gg, 0, none⟩) (M + 1) cap2).ownBlock ≠ some g) w5 (.slice (some ⟨g, 0, none⟩) N cap) (l.map plainD)) := Lib.hid (keeps_decls HR3.out (kept_grown hgrow (hat.imp id fun h => Nat.le_of_eq h.symm) (by simp)))
      clear hown5 hgrow hat HR3 HD3 HOr HD2
      go_wp2_with fail
      go_roundw
      case rel => exact ⟨k + 1, by go_num, by omega, HD5, HR5⟩
      case measure => simp [intOf]; omega
     ·obtain rfl : N = k := by omega
      have HD5 : Hid (DSt w.heap.size (E + 1) s w u3 (acc ++ l.map (impD false)) wr) := Lib.hid (by
       have h := HD.out
       rwa [List.take_of_length_le (by have := HN.out; omega)] at h)
      have hfin := dst_measure HD5.out
      have hal2 : (acc ++ l.map (impD false)).length ≤ 4 * (E + 1) := by
       rw [List.length_append, List.length_map]; have := HN.out; omega
      have HQ4 := Lib.hid (HQ3.out.trans (List.append_assoc _ _ _).symm)
      clear HD HR HQ3
      go_wp2_with fail
      go_roundw
      case rel => exact ⟨E + 1, _, by omega, HD5, HQ4, hal2⟩
      case measure => exact dmeas hfin c1 hlt (by omega)
   | some u =>
    have hul : u.length ≤ 90000 := by have := congrArg List.length (S.cutEnd_some hcu); rw [List.length_append] at this; omega
    have QT3 := Lib.hid (fun W => trimY u W (by omega))
    have htl := S.trim_len u
    have QS2 := Lib.hid (fun W => cutSuf (S.trim u) [33] W (by omega))
    cases hcx : S.cutEnd (S.trim u) [33] with
    | none =>
     have HI : Hid (S.important vl = (vl, false)) := Lib.hid (by unfold S.important; rw [hcu]; dsimp only; rw [hcx])
     rw [hcu] at QS1
     rw [hcx] at QS2
     clear hcu hcx
     generalize S.trim u = tu at *
     go_wp2_with (go_at_call 63; refine (QS1.out _).mono ?_; rintro e w' ⟨rfl, rfl⟩)
     go_wp2_with (go_at_call 37; refine (QT3.out _).mono ?_)
     rintro e w8 ⟨rfl, hb⟩
     have HD8 := Lib.hid (HD7.out.step hb)
     clear hb HD7 QT3
     have HD7 := HD8
     clear HD8
     go_wp2_with (go_at_call 63; refine (QS2.out _).mono ?_; rintro e w' ⟨rfl, rfl⟩)
     clear QS2
     have HEn := Lib.hid (HE.out.below HD7.out.2.2 hg1 hg2)
     clear QS1
     go_wp2_with fail
     refine (QX.out vl _ hvl HEn.out).mono ?_
     rintro e w7 ⟨hb, hcase⟩
     have HO7 := Lib.hid (HD7.out.2.1)
     have HD8 := Lib.hid (HD7.out.step hb)
     obtain ⟨l, v, ok, he, hDl, hll, hl4⟩ := post_list (I := false) hcase (fun l h => expand_len h) HD7.out.2.1.late
     have HL := Lib.hid hll
     have HQ3 : Hid (q = acc ++ (l.map (impD false) ++ S.decls (s.drop (E + 1)))) := Lib.hid (by have h := HQ2.out; rw [HI.out] at h; dsimp only at h; rw [HL.out] at h; exact h)
     clear hb hcase HD7 QX HQ2 HI HL hll HO7 HEn
     subst he
     obtain ⟨ao, cap, hv⟩ := hDl.form
     rw [List.length_map] at hv
     subst hv
     generalize hNN : l.length = N at *
     have HN := Lib.hid hNN
     clear hNN
     have HDl := Lib.hid hDl
     clear hDl
     go_wp2_with fail
     go_loopw [3, 80] (fun v3 v80 wq => ∃ k : Nat, v80 = .int .i64 k ∧ k ≤ N ∧ Hid (DSt w.heap.size (E + 1) s w v3 (acc ++ (l.take k).map (impD false)) wq) ∧ Hid (DeclsAt (fun g => v3.ownBlock ≠ some g) wq (.slice ao N cap) (l.map plainD))) (fun _ v80 _ => N - (intOf v80).toNat)
     case atStart => exact ⟨0, rfl, Nat.zero_le _, Lib.hid (by rw [List.take_zero, List.map_nil, List.append_nil]; exact HD8.out), HDl⟩
     case round =>
      obtain ⟨k, rfl, hk, HD, HR⟩ := hrel
      clear HD8 HDl
      by_cases hkN : k < N
      ·have hkI : (k : Int) < (N : Int) := by omega
       have hkl : k < l.length := by rw [HN.out]; exact hkN
       have hkl2 : k < (l.map plainD).length := by rw [List.length_map]; exact hkl
       obtain ⟨g, hg⟩ := lsl HR.out (by omega)
       subst hg
       obtain ⟨hglt, hnl, hgS, vk, hc0, hp⟩ := ListAt.at_ cDecl_len HR.out hkl2
       have hc : ∀ o, o < 5 → wr.cell? ⟨g, k * 5 + o, none⟩ = (cDecl (plainD (l[k]'hkl)) vk)[o]? := fun o ho => by have := hc0 o ho; rwa [List.getElem_map] at this
       clear hc0
       have htk : l.take (k + 1) = l.take k ++ [l[k]] := by rw [List.take_add_one, List.getElem?_eq_getElem hkl]; rfl
       have HT := Lib.hid htk
       clear htk hnl hp hkl2
       generalize l[k] = dk at *
       obtain ⟨dn, dv, dm, dw⟩ := dk
       have c0 : wr.cell? ⟨g, k * 5 + 0, none⟩ = some (.string ⟨dn.toArray⟩) := hc 0 (by omega)
       have c1 : wr.cell? ⟨g, k * 5 + 1, none⟩ = some (.int .i64 (dv : Nat)) := hc 1 (by omega)
       have c2 : wr.cell? ⟨g, k * 5 + 2, none⟩ = some (.int .i64 dm) := hc 2 (by omega)
       have c3 : wr.cell? ⟨g, k * 5 + 3, none⟩ = some (.string ⟨dw.toArray⟩) := hc 3 (by omega)
       have c4 : wr.cell? ⟨g, k * 5 + 4, none⟩ = some (.bool false) := hc 4 (by omega)
       simp only [Nat.add_zero] at c0
       clear hc hkl
       have hA2 : acc ++ (l.take (k + 1)).map (impD false) = (acc ++ (l.take k).map (impD false)) ++ [⟨dn, ⟨dv, dm, dw⟩, false⟩] := by rw [HT.out, List.map_append, List.append_assoc]; rfl
       have hac : (acc ++ (l.take k).map (impD false)).length ≤ 4 * i + 4 := by
        rw [List.length_append, List.length_map, List.length_take]; omega
       have HA2 := Lib.hid hA2
       clear hA2 HT
       generalize acc ++ (l.take k).map (impD false) = ac at *
       obtain ⟨ov, cv, hov⟩ := HD.out.2.1.form
       generalize hMM : ac.length = M at *
       subst hov
       go_upto_region 20 with fail
       have hbA : Below wr.heap.size wr (wr.alloc (.cells #[.string ⟨dn.toArray⟩, .int .i64 (dv : Nat), .int .i64 dm, .string ⟨dw.toArray⟩, .bool false] 40)) := (Below.refl _ wr).alloc (Nat.le_refl _) _
       have HZ := Lib.hid (Blk.new wr #[.string ⟨dn.toArray⟩, .int .i64 (dv : Nat), .int .i64 dm, .string ⟨dw.toArray⟩, .bool false] 40)
       have HD2 := Lib.hid (HD.out.step hbA)
       have HR2 := Lib.hid (keeps_decls HR.out (Kept.below hbA))
       clear hbA HD HR c0 c1 c2 c3 c4
       generalize (wr.alloc (.cells #[.string ⟨dn.toArray⟩, .int .i64 (dv : Nat), .int .i64 dm, .string ⟨dw.toArray⟩, .bool false] 40)) = W2 at *
       generalize wr.heap.size = Z at *
       obtain ⟨hcz, hfz⟩ := cells_of HZ.out
       have z0 : W2.cell? ⟨Z, 0, none⟩ = some (.string ⟨dn.toArray⟩) := hcz 0
       have z1 : W2.cell? ⟨Z, 1, none⟩ = some (.int .i64 (dv : Nat)) := hcz 1
       have z2 : W2.cell? ⟨Z, 2, none⟩ = some (.int .i64 dm) := hcz 2
       have z3 : W2.cell? ⟨Z, 3, none⟩ = some (.string ⟨dw.toArray⟩) := hcz 3
       have z4 : W2.cell? ⟨Z, 4, none⟩ = some (.bool false) := hcz 4
       clear hcz hfz HZ
       obtain ⟨i0, hi0, hz0, hz1, hz2⟩ := info_parts infoDecl
       have HOr := Lib.hid HD2.out.2.1.1
       rw [hMM] at HOr
       have HMM := Lib.hid hMM
       have hbz := HD2.out.lt
       have hbA2 : Below W2.heap.size W2 (W2.alloc (.cells #[.string ⟨dn.toArray⟩, .int .i64 (dv : Nat), .int .i64 dm, .string ⟨dw.toArray⟩, .bool false] 40)) := (Below.refl _ W2).alloc (Nat.le_refl _) _
       have HD3 := Lib.hid (HD2.out.step hbA2)
       have HR3 := Lib.hid (keeps_decls HR2.out (Kept.below hbA2))
       clear hbA2 HR2 hMM
       go_wp2_with (at_builtin; refine wpList_append_lies _ rfl _ _ 24 rfl (w.heap.size + 1) 40 i0 _ 5 56 Tryz.underlying24 hi0 hz0 hz1 hz2 rfl (by decide) (.slice ov M cv) M (decCells ac) rfl (HOr.out.alloc _) ⟨W2.heap.size, 0, none⟩ 1 1 [.string ⟨dn.toArray⟩, .int .i64 (dv : Nat), .int .i64 dm, .string ⟨dw.toArray⟩, .bool false] rfl rfl ?c1 ?c2 ?c3 ?c4 ?c5 ?c6 (W2.heap.size + 1) ?c7 ?_)
       case c1 => exact World.news_of_block (heap_alloc_new W2 (.cells #[.string ⟨dn.toArray⟩, .int .i64 (dv : Nat), .int .i64 dm, .string ⟨dw.toArray⟩, .bool false] 40))
       case c2 => simp [Value.oneCell']
       case c3 => omega
       case c4 => unfold maxLen; omega
       case c5 => omega
       case c6 => simp; omega
       case c7 => simp
       intro gg cap2 w5 hown5 hgrow hat hlt5
       have HD5 : Hid (DSt w.heap.size (E + 1) s w (.slice (some ⟨gg, 0, none⟩) (M + 1) cap2) (acc ++ (l.take (k + 1)).map (impD false)) w5) := Lib.hid (by
        rw [HA2.out]
        exact dst_grown HD3.out hgrow (by intro q hq; have := (HOr.out.lt q hq).1; omega) ⟨by
         rw [List.length_append, HMM.out]
         unfold decCells at *
         rw [List.flatMap_append]
         exact hown5, fun h => by simp at h⟩)
       have HR5 : Hid (DeclsAt (fun g => (Value.slice (some ⟨gg, 0, none⟩) (M + 1) cap2).ownBlock ≠ some g) w5 (.slice (some ⟨g, 0, none⟩) N cap) (l.map plainD)) := Lib.hid (keeps_decls HR3.out (kept_grown hgrow (hat.imp id fun h => Nat.le_of_eq h.symm) (by simp)))
       clear hown5 hgrow hat HR3 HD3 HOr HD2
       go_wp2_with fail
       go_roundw
       case rel => exact ⟨k + 1, by go_num, by omega, HD5, HR5⟩
       case measure => simp [intOf]; omega
      ·obtain rfl : N = k := by omega
       have HD5 : Hid (DSt w.heap.size (E + 1) s w u3 (acc ++ l.map (impD false)) wr) := Lib.hid (by
        have h := HD.out
        rwa [List.take_of_length_le (by have := HN.out; omega)] at h)
       have hfin := dst_measure HD5.out
       have hal2 : (acc ++ l.map (impD false)).length ≤ 4 * (E + 1) := by
        rw [List.length_append, List.length_map]; have := HN.out; omega
       have HQ4 := Lib.hid (HQ3.out.trans (List.append_assoc _ _ _).symm)
       clear HD HR HQ3
       go_wp2_with fail
       go_roundw
       case rel => exact ⟨E + 1, _, by omega, HD5, HQ4, hal2⟩
       case measure => exact dmeas hfin c1 hlt (by omega)
    | some x =>
     have hxl : x.length ≤ 90000 := by have := congrArg List.length (S.cutEnd_some hcx); rw [List.length_append] at this; omega
     have QT4 := Lib.hid (fun W => trimY x W (by omega))
     have htx : (S.trim x).length ≤ 90000 := by have := S.trim_len x; omega
     have HI : Hid (S.important vl = (S.trim x, true)) := Lib.hid (by unfold S.important; rw [hcu]; dsimp only; rw [hcx])
     rw [hcu] at QS1
     rw [hcx] at QS2
     clear hcu hcx
     generalize S.trim u = tu at *
     generalize S.trim x = tx at *
     go_wp2_with (go_at_call 63; refine (QS1.out _).mono ?_; rintro e w' ⟨rfl, rfl⟩)
     go_wp2_with (go_at_call 37; refine (QT3.out _).mono ?_)
     rintro e w8 ⟨rfl, hb⟩
     have HD8 := Lib.hid (HD7.out.step hb)
     clear hb HD7 QT3
     go_wp2_with (go_at_call 63; refine (QS2.out _).mono ?_; rintro e w' ⟨rfl, rfl⟩)
     clear QS2
     go_wp2_with (go_at_call 37; refine (QT4.out _).mono ?_)
     rintro e w9 ⟨rfl, hb⟩
     have HD7 := Lib.hid (HD8.out.step hb)
     clear hb HD8 QT4
     have HEn := Lib.hid (HE.out.below HD7.out.2.2 hg1 hg2)
     clear QS1
     go_wp2_with fail
     refine (QX.out tx _ htx HEn.out).mono ?_
     rintro e w7 ⟨hb, hcase⟩
     have HO7 := Lib.hid (HD7.out.2.1)
     have HD8 := Lib.hid (HD7.out.step hb)
     obtain ⟨l, v, ok, he, hDl, hll, hl4⟩ := post_list (I := true) hcase (fun l h => expand_len h) HD7.out.2.1.late
     have HL := Lib.hid hll
     have HQ3 : Hid (q = acc ++ (l.map (impD true) ++ S.decls (s.drop (E + 1)))) := Lib.hid (by have h := HQ2.out; rw [HI.out] at h; dsimp only at h; rw [HL.out] at h; exact h)
     clear hb hcase HD7 QX HQ2 HI HL hll HO7 HEn
     subst he
     obtain ⟨ao, cap, hv⟩ := hDl.form
     rw [List.length_map] at hv
     subst hv
     generalize hNN : l.length = N at *
     have HN := Lib.hid hNN
     clear hNN
     have HDl := Lib.hid hDl
     clear hDl
     go_wp2_with fail
     go_loopw [3, 80] (fun v3 v80 wq => ∃ k : Nat, v80 = .int .i64 k ∧ k ≤ N ∧ Hid (DSt w.heap.size (E + 1) s w v3 (acc ++ (l.take k).map (impD true)) wq) ∧ Hid (DeclsAt (fun g => v3.ownBlock ≠ some g) wq (.slice ao N cap) (l.map plainD))) (fun _ v80 _ => N - (intOf v80).toNat)
     case atStart => exact ⟨0, rfl, Nat.zero_le _, Lib.hid (by rw [List.take_zero, List.map_nil, List.append_nil]; exact HD8.out), HDl⟩
     case round =>
      obtain ⟨k, rfl, hk, HD, HR⟩ := hrel
      clear HD8 HDl
      by_cases hkN : k < N
      ·have hkI : (k : Int) < (N : Int) := by omega
       have hkl : k < l.length := by rw [HN.out]; exact hkN
       have hkl2 : k < (l.map plainD).length := by rw [List.length_map]; exact hkl
       obtain ⟨g, hg⟩ := lsl HR.out (by omega)
       subst hg
       obtain ⟨hglt, hnl, hgS, vk, hc0, hp⟩ := ListAt.at_ cDecl_len HR.out hkl2
       have hc : ∀ o, o < 5 → wr.cell? ⟨g, k * 5 + o, none⟩ = (cDecl (plainD (l[k]'hkl)) vk)[o]? := fun o ho => by have := hc0 o ho; rwa [List.getElem_map] at this
       clear hc0
       have htk : l.take (k + 1) = l.take k ++ [l[k]] := by rw [List.take_add_one, List.getElem?_eq_getElem hkl]; rfl
       have HT := Lib.hid htk
       clear htk hnl hp hkl2
       generalize l[k] = dk at *
       obtain ⟨dn, dv, dm, dw⟩ := dk
       have c0 : wr.cell? ⟨g, k * 5 + 0, none⟩ = some (.string ⟨dn.toArray⟩) := hc 0 (by omega)
       have c1 : wr.cell? ⟨g, k * 5 + 1, none⟩ = some (.int .i64 (dv : Nat)) := hc 1 (by omega)
       have c2 : wr.cell? ⟨g, k * 5 + 2, none⟩ = some (.int .i64 dm) := hc 2 (by omega)
       have c3 : wr.cell? ⟨g, k * 5 + 3, none⟩ = some (.string ⟨dw.toArray⟩) := hc 3 (by omega)
       have c4 : wr.cell? ⟨g, k * 5 + 4, none⟩ = some (.bool false) := hc 4 (by omega)
       simp only [Nat.add_zero] at c0
       clear hc hkl
       have hA2 : acc ++ (l.take (k + 1)).map (impD true) = (acc ++ (l.take k).map (impD true)) ++ [⟨dn, ⟨dv, dm, dw⟩, true⟩] := by rw [HT.out, List.map_append, List.append_assoc]; rfl
       have hac : (acc ++ (l.take k).map (impD true)).length ≤ 4 * i + 4 := by
        rw [List.length_append, List.length_map, List.length_take]; omega
       have HA2 := Lib.hid hA2
       clear hA2 HT
       generalize acc ++ (l.take k).map (impD true) = ac at *
       obtain ⟨ov, cv, hov⟩ := HD.out.2.1.form
       generalize hMM : ac.length = M at *
       subst hov
       go_upto_region 20 with fail
       have hbA : Below wr.heap.size wr (wr.alloc (.cells #[.string ⟨dn.toArray⟩, .int .i64 (dv : Nat), .int .i64 dm, .string ⟨dw.toArray⟩, .bool true] 40)) := (Below.refl _ wr).alloc (Nat.le_refl _) _
       have HZ := Lib.hid (Blk.new wr #[.string ⟨dn.toArray⟩, .int .i64 (dv : Nat), .int .i64 dm, .string ⟨dw.toArray⟩, .bool true] 40)
       have HD2 := Lib.hid (HD.out.step hbA)
       have HR2 := Lib.hid (keeps_decls HR.out (Kept.below hbA))
       clear hbA HD HR c0 c1 c2 c3 c4
       generalize (wr.alloc (.cells #[.string ⟨dn.toArray⟩, .int .i64 (dv : Nat), .int .i64 dm, .string ⟨dw.toArray⟩, .bool true] 40)) = W2 at *
       generalize wr.heap.size = Z at *
       obtain ⟨hcz, hfz⟩ := cells_of HZ.out
       have z0 : W2.cell? ⟨Z, 0, none⟩ = some (.string ⟨dn.toArray⟩) := hcz 0
       have z1 : W2.cell? ⟨Z, 1, none⟩ = some (.int .i64 (dv : Nat)) := hcz 1
       have z2 : W2.cell? ⟨Z, 2, none⟩ = some (.int .i64 dm) := hcz 2
       have z3 : W2.cell? ⟨Z, 3, none⟩ = some (.string ⟨dw.toArray⟩) := hcz 3
       have z4 : W2.cell? ⟨Z, 4, none⟩ = some (.bool true) := hcz 4
       clear hcz hfz HZ
       obtain ⟨i0, hi0, hz0, hz1, hz2⟩ := info_parts infoDecl
       have HOr := Lib.hid HD2.out.2.1.1
       rw [hMM] at HOr
       have HMM := Lib.hid hMM
       have hbz := HD2.out.lt
       have hbA2 : Below W2.heap.size W2 (W2.alloc (.cells #[.string ⟨dn.toArray⟩, .int .i64 (dv : Nat), .int .i64 dm, .string ⟨dw.toArray⟩, .bool true] 40)) := (Below.refl _ W2).alloc (Nat.le_refl _) _
       have HD3 := Lib.hid (HD2.out.step hbA2)
       have HR3 := Lib.hid (keeps_decls HR2.out (Kept.below hbA2))
       clear hbA2 HR2 hMM
       go_wp2_with (at_builtin; refine wpList_append_lies _ rfl _ _ 24 rfl (w.heap.size + 1) 40 i0 _ 5 56 Tryz.underlying24 hi0 hz0 hz1 hz2 rfl (by decide) (.slice ov M cv) M (decCells ac) rfl (HOr.out.alloc _) ⟨W2.heap.size, 0, none⟩ 1 1 [.string ⟨dn.toArray⟩, .int .i64 (dv : Nat), .int .i64 dm, .string ⟨dw.toArray⟩, .bool true] rfl rfl ?c1 ?c2 ?c3 ?c4 ?c5 ?c6 (W2.heap.size + 1) ?c7 ?_)
       case c1 => exact World.news_of_block (heap_alloc_new W2 (.cells #[.string ⟨dn.toArray⟩, .int .i64 (dv : Nat), .int .i64 dm, .string ⟨dw.toArray⟩, .bool true] 40))
       case c2 => simp [Value.oneCell']
       case c3 => omega
       case c4 => unfold maxLen; omega
       case c5 => omega
       case c6 => simp; omega
       case c7 => simp
       intro gg cap2 w5 hown5 hgrow hat hlt5
       have HD5 : Hid (DSt w.heap.size (E + 1) s w (.slice (some ⟨gg, 0, none⟩) (M + 1) cap2) (acc ++ (l.take (k + 1)).map (impD true)) w5) := Lib.hid (by
        rw [HA2.out]
        exact dst_grown HD3.out hgrow (by intro q hq; have := (HOr.out.lt q hq).1; omega) ⟨by
         rw [List.length_append, HMM.out]
         unfold decCells at *
         rw [List.flatMap_append]
         exact hown5, fun h => by simp at h⟩)
       have HR5 : Hid (DeclsAt (fun g => (Value.slice (some ⟨gg, 0, none⟩) (M + 1) cap2).ownBlock ≠ some g) w5 (.slice (some ⟨g, 0, none⟩) N cap) (l.map plainD)) := Lib.hid (keeps_decls HR3.out (kept_grown hgrow (hat.imp id fun h => Nat.le_of_eq h.symm) (by simp)))
       clear hown5 hgrow hat HR3 HD3 HOr HD2
       go_wp2_with fail
       go_roundw
       case rel => exact ⟨k + 1, by go_num, by omega, HD5, HR5⟩
       case measure => simp [intOf]; omega
      ·obtain rfl : N = k := by omega
       have HD5 : Hid (DSt w.heap.size (E + 1) s w u3 (acc ++ l.map (impD true)) wr) := Lib.hid (by
        have h := HD.out
        rwa [List.take_of_length_le (by have := HN.out; omega)] at h)
       have hfin := dst_measure HD5.out
       have hal2 : (acc ++ l.map (impD true)).length ≤ 4 * (E + 1) := by
        rw [List.length_append, List.length_map]; have := HN.out; omega
       have HQ4 := Lib.hid (HQ3.out.trans (List.append_assoc _ _ _).symm)
       clear HD HR HQ3
       go_wp2_with fail
       go_roundw
       case rel => exact ⟨E + 1, _, by omega, HD5, HQ4, hal2⟩
       case measure => exact dmeas hfin c1 hlt (by omega)
  ·have HQF : Hid (q = acc) := Lib.hid (by rw [HQ.out, List.drop_eq_nil_of_le (by omega), S.decls_nil, List.append_nil])
   have hltI : ¬ (i : Int) < (s.length : Int) := by omega
   clear HQ
   go_wp2_with fail
   go_ret
   exact ⟨_, rfl, HD.out.2.2, by rw [HQF.out]; exact HD.out.2.1.base (Nat.le_succ _)⟩
end Y
end Go.Proofs.YtafkeolpadfjfaaGreatDoor

/- The law StyleSides behind its first loop. -/
import Derived.Test.YtafkeolpadfjfaaGreatDoorSty42
import Derived.Test.YtafkeolpadfjfaaGreatDoorSty38
import Derived.Test.YtafkeolpadfjfaaGreatDoorSty28
import Derived.Deep.CutBlock
import Derived.Deep.QuietTactic
import Derived.BigQuiet
set_option linter.unusedVariables false
set_option linter.unusedSimpArgs false
namespace Go.Proofs.YtafkeolpadfjfaaGreatDoor
open Go.RowKit
namespace Y
open H

/-- What is left of a sequence behind its first n statements. -/
def dropSeq : Nat → Code → Code
  | 0, c => c
  | n + 1, .seq _ b => dropSeq n b
  | _ + 1, c => c
noncomputable def sidesRest (n : Nat) : Code := dropSeq n (Tryz.f4.body.getD .skip)

/-- What is known of a slice of strings that came in. -/
def StrArg (w : World) (ao : Option Addr) (len : Nat) (S : Nat → List UInt8) : Prop :=
  0 < len → ∃ b off, ao = some ⟨b, off, none⟩ ∧ b < w.heap.size ∧ ∀ j, j < len → w.cell? ⟨b, off + j, none⟩ = some (.string ⟨(S j).toArray⟩) ∧ (S j).length ≤ 140737488351232

def okV (lh v : List UInt8) : Bool := (S.good lh v).isSome && !S.globals.contains (S.norm v)
def valsOf (len : Nat) (SS : Nat → List UInt8) : List (List UInt8) := (List.range len).map SS
theorem vals_take {len j : Nat} (SS : Nat → List UInt8) (h : j < len) : (valsOf len SS).take (j + 1) = (valsOf len SS).take j ++ [SS j] := by
  unfold valsOf
  rw [List.take_succ_eq_append_getElem (by simpa using h)]
  simp
theorem vals_len (len : Nat) (SS : Nat → List UInt8) : (valsOf len SS).length = len := by unfold valsOf; simp
theorem vals_getD {len j : Nat} (SS : Nat → List UInt8) (h : j < len) : (valsOf len SS).getD j [] = SS j := by
  unfold valsOf
  rw [List.getD_eq_getElem?_getD, List.getElem?_map, List.getElem?_range h]; rfl
theorem glue_snoc (l : List (List UInt8)) (v : List UInt8) : S.glue (l ++ [v]) = S.glue l ++ (32 :: v) := by
  unfold S.glue
  rw [List.flatMap_append]; simp
theorem okAll_eq (lh : List UInt8) (l : List (List UInt8)) : S.okAll lh l = ((decide (0 < l.length) && decide (l.length < 5)) && l.all (okV lh)) := rfl

/-- A value and its error, and whether it is good. -/
theorem pv_good {p v : List UInt8} {x : S.Val} {er : Int} (h : (S.value p v = some (some x) ∧ er = 0) ∨ (S.value p v = some none ∧ x = zval ∧ er = 4) ∨ (S.value p v = none ∧ x = zval ∧ er = 6)) :
    (er = 0 ∧ S.good p v = some x) ∨ ((er = 4 ∨ er = 6) ∧ S.good p v = none) := by
  unfold S.good
  rcases h with ⟨h, e⟩ | ⟨h, _, e⟩ | ⟨h, _, e⟩
  · exact Or.inl ⟨e, by rw [h]; rfl⟩
  · exact Or.inr ⟨Or.inl e, by rw [h]; rfl⟩
  · exact Or.inr ⟨Or.inr e, by rw [h]; rfl⟩
theorem ret_true {w w' : World} (h : Below w.heap.size w w') : TruePost w (.returned (.bool true)) w' := ⟨rfl, h⟩

theorem five_rows (U : World) (A B C D E : Array Value) (T1 T2 : TypeId) : Blk U.heap.size A T1 (((((U.alloc (.cells A T1)).alloc (.cells B T1)).alloc (.cells C T1)).alloc (.cells D T1)).alloc (.cells E T2)) ∧ Blk (U.heap.size + 1) B T1 (((((U.alloc (.cells A T1)).alloc (.cells B T1)).alloc (.cells C T1)).alloc (.cells D T1)).alloc (.cells E T2)) ∧ Blk (U.heap.size + 1 + 1) C T1 (((((U.alloc (.cells A T1)).alloc (.cells B T1)).alloc (.cells C T1)).alloc (.cells D T1)).alloc (.cells E T2)) ∧ Blk (U.heap.size + 1 + 1 + 1) D T1 (((((U.alloc (.cells A T1)).alloc (.cells B T1)).alloc (.cells C T1)).alloc (.cells D T1)).alloc (.cells E T2)) ∧ Below U.heap.size U (((((U.alloc (.cells A T1)).alloc (.cells B T1)).alloc (.cells C T1)).alloc (.cells D T1)).alloc (.cells E T2)) := by
  have h : ∀ (W : World) o, (W.alloc o).heap.size = W.heap.size + 1 := fun W o => by simp
  have hB := Blk.new (U.alloc (.cells A T1)) B T1
  have hC := Blk.new ((U.alloc (.cells A T1)).alloc (.cells B T1)) C T1
  have hD := Blk.new (((U.alloc (.cells A T1)).alloc (.cells B T1)).alloc (.cells C T1)) D T1
  simp only [h] at hB hC hD
  have b1 : Below U.heap.size U (U.alloc (.cells A T1)) := (Below.refl _ U).alloc (Nat.le_refl _) _
  have b2 := b1.alloc b1.size (.cells B T1)
  have b3 := b2.alloc b2.size (.cells C T1)
  have b4 := b3.alloc b3.size (.cells D T1)
  exact ⟨((((Blk.new U A T1).alloc _).alloc _).alloc _).alloc _, ((hB.alloc _).alloc _).alloc _, (hC.alloc _).alloc _, hD.alloc _, b4.alloc b4.size _⟩

theorem map_at {α β : Type} {l : List α} {f : α → β} {m : List Nat} {g : Nat → β} (h : l.map f = m.map g) {i : Nat} (hi : i < l.length) : f l[i] = g (m.getD i 0) := by
  have hm : i < m.length := by have := congrArg List.length h; simp at this; omega
  have h1 : (l.map f)[i]? = (m.map g)[i]? := by rw [h]
  rw [List.getElem?_map, List.getElem?_map, List.getElem?_eq_getElem hi, List.getElem?_eq_getElem hm] at h1
  rw [List.getD_eq_getElem?_getD, List.getElem?_eq_getElem hm]
  exact Option.some.inj h1

set_option maxHeartbeats 32000000 in
set_option maxRecDepth 1000000 in
theorem sides_rest (ao : Option Addr) (len cap K : Nat) (SS : Nat → List UInt8) (imp : Bool) (tx : List UInt8) (G : Bool) (w w8 : World) (hl5 : len ≤ 5) (hK3 : K < 3) (hS : StrArg w ao len SS) (hA : ∀ s : List UInt8, s.length ≤ 1000 → (∀ c ∈ s, c.toNat < 128) → Repairs s s) (hM : HasMax w) (hE : YEnv w) (hB : Below w.heap.size w w8)
    (htx : tx.length ≤ 200) (hT : tx = S.lawName K ++ 58 :: S.glue (valsOf len SS)) (hG : G = ((decide (0 < len) && decide (len < 5)) && (valsOf len SS).all (okV (S.lawLong K)))) (hF : ∀ v ∈ (valsOf len SS), (S.words v).length = 1 ∧ (∀ c ∈ v, S.asc c = true) ∧ v.length ≤ 20)
    (s0 s3 s4 s5 s6 s7 s11 s12 s13 s14 s15 s16 s17 s18 s19 s20 s21 s22 s23 s24 s25 s26 s27 s28 s29 s30 s31 s32 s33 s34 s35 s36 s37 s38 s39 s40 s41 s42 s43 s44 s45 s46 s47 s48 s49 s50 s51 s52 s53 s54 s55 s56 s57 s58 s59 s60 s61 s62 s63 s64 s65 s66 s67 s68 s69 s70 s71 s72 s73 s74 s75 s76 s77 s78 s79 s80 s81 s82 s83 s84 s85 s86 s87 s88 s89 s90 s91 s92 s93 s94 s95 s96 s97 s98 s99 s100 s101 s102 s103 s104 s105 s106 s107 s108 s109 s110 s111 s112 s113 s114 s115 s116 s117 s118 s119 s120 s121 s122 s123 s124 s125 s126 s127 s128 s129 s130 s131 s132 s133 s134 s135 s136 s137 s138 s139 s140 s141 s142 s143 s144 s145 s146 s147 s148 s149 s150 s151 s152 s153 s154 s155 s156 s157 s158 s159 s160 s161 s162 s163 s164 s165 s166 s167 s168 s169 s170 s171 s172 s173 s174 s175 s176 s177 s178 s179 s180 s181 s182 s183 s184 : Value) :
    Code.wp Tryz.prog (sidesRest 6) (bodyPost Tryz.prog Tryz.f4 (TruePost w)) ⟨List.toArray (s0 :: (.slice ao len cap) :: (.bool imp) :: s3 :: s4 :: s5 :: s6 :: s7 :: (.string ⟨(S.lawLong K).toArray⟩) :: (.string ⟨tx.toArray⟩) :: (.bool G) :: s11 :: s12 :: s13 :: s14 :: s15 :: s16 :: s17 :: s18 :: s19 :: s20 :: s21 :: s22 :: s23 :: s24 :: s25 :: s26 :: s27 :: s28 :: s29 :: s30 :: s31 :: s32 :: s33 :: s34 :: s35 :: s36 :: s37 :: s38 :: s39 :: s40 :: s41 :: s42 :: s43 :: s44 :: s45 :: s46 :: s47 :: s48 :: s49 :: s50 :: s51 :: s52 :: s53 :: s54 :: s55 :: s56 :: s57 :: s58 :: s59 :: s60 :: s61 :: s62 :: s63 :: s64 :: s65 :: s66 :: s67 :: s68 :: s69 :: s70 :: s71 :: s72 :: s73 :: s74 :: s75 :: s76 :: s77 :: s78 :: s79 :: s80 :: s81 :: s82 :: s83 :: s84 :: s85 :: s86 :: s87 :: s88 :: s89 :: s90 :: s91 :: s92 :: s93 :: s94 :: s95 :: s96 :: s97 :: s98 :: s99 :: s100 :: s101 :: s102 :: s103 :: s104 :: s105 :: s106 :: s107 :: s108 :: s109 :: s110 :: s111 :: s112 :: s113 :: s114 :: s115 :: s116 :: s117 :: s118 :: s119 :: s120 :: s121 :: s122 :: s123 :: s124 :: s125 :: s126 :: s127 :: s128 :: s129 :: s130 :: s131 :: s132 :: s133 :: s134 :: s135 :: s136 :: s137 :: s138 :: s139 :: s140 :: s141 :: s142 :: s143 :: s144 :: s145 :: s146 :: s147 :: s148 :: s149 :: s150 :: s151 :: s152 :: s153 :: s154 :: s155 :: s156 :: s157 :: s158 :: s159 :: s160 :: s161 :: s162 :: s163 :: s164 :: s165 :: s166 :: s167 :: s168 :: s169 :: s170 :: s171 :: s172 :: s173 :: s174 :: s175 :: s176 :: s177 :: s178 :: s179 :: s180 :: s181 :: s182 :: s183 :: s184 :: []), []⟩ w8 := by
  conv => arg 2; whnf
  have HE := Lib.hid hE
  have HM := Lib.hid hM
  have hg1 := hE.big
  have hg2 := hE.big2
  have hMz := hM.2
  have HA := Lib.hid hA
  have HS := Lib.hid hS
  have HB := Lib.hid hB
  have HT := Lib.hid hT
  have HLaw := Lib.hid (fun ip => S.sides_decls hK3 (vals := (valsOf len SS)) (fun v hv => (hF v hv).1) (fun v hv => (hF v hv).2.1) ip)
  have HMem := Lib.hid (fun ip => S.lawText_mem hK3 (vals := (valsOf len SS)) (fun v hv => (hF v hv).2.1) (imp := ip))
  have HOK : Hid (S.okAll (S.lawLong K) (valsOf len SS) = G) := Lib.hid (by rw [okAll_eq, vals_len]; exact hG.symm)
  have HVl : Hid (∀ i, i < len → (SS i).length ≤ 20) := Lib.hid (fun i hi => (hF (SS i) (by unfold valsOf; exact List.mem_map.2 ⟨i, List.mem_range.2 hi, rfl⟩)).2.2)
  have hz8 := hB.size
  have ztx := bytes_size tx
  clear hE hM hA hS hB hT hG hF
  go_step
  go_cut [10] (fun v10 wx => v10 = .bool (G || S.okOne (valsOf len SS)) ∧ Hid (Below w8.heap.size w8 wx))
  case first =>
    by_cases h1 : len = 1
    · subst h1
      obtain ⟨b, off, rfl, hbl, hcs⟩ := HS.out (by omega)
      have c0 : w8.cell? ⟨b, off, none⟩ = some (.string ⟨(SS 0).toArray⟩) := (HB.out.cell (p := ⟨b, off, none⟩) hbl).trans (hcs 0 (by omega)).1
      have hl0 := HVl.out 0 (by omega)
      have HO1 : Hid (S.okOne (valsOf 1 SS) = S.globals.contains (S.lower (S.trim (SS 0)))) := Lib.hid rfl
      generalize S.okOne (valsOf 1 SS) = o1 at *
      generalize SS 0 = v at *
      have QT := Lib.hid (fun W => V.rtrim v W (by omega))
      have htl := S.trim_len v
      have QL := Lib.hid (fun W => V.rlower (S.trim v) W (by omega))
      generalize S.lower (S.trim v) = nv at *
      generalize S.trim v = tv at *
      clear hcs HLaw HMem HOK
      go_wp2_with fail
      refine (QT.out _).mono ?_
      rintro e w' ⟨rfl, rfl⟩
      go_wp2_with fail
      refine (QL.out _).mono ?_
      rintro e w9 ⟨rfl, hb⟩
      have HB9 := Lib.hid hb
      clear hb QT QL c0
      by_cases n1 : nv = [105, 110, 104, 101, 114, 105, 116]
      · have e1 : (nv == [105, 110, 104, 101, 114, 105, 116]) = true := by simpa using n1
        have HO2 : Hid (o1 = true) := Lib.hid (by rw [HO1.out, n1]; rfl)
        clear n1 HO1
        cases G
        all_goals
          go_wp2_with fail
          go_meet
          exact ⟨congrArg Value.bool (by rw [HO2.out]; rfl), HB9⟩
      · have e1 : (nv == [105, 110, 104, 101, 114, 105, 116]) = false := by simpa using n1
        by_cases n2 : nv = [105, 110, 105, 116, 105, 97, 108]
        · have e2 : (nv == [105, 110, 105, 116, 105, 97, 108]) = true := by simpa using n2
          have HO2 : Hid (o1 = true) := Lib.hid (by rw [HO1.out, n2]; rfl)
          clear n1 n2 HO1
          cases G
          all_goals
            go_wp2_with fail
            go_meet
            exact ⟨congrArg Value.bool (by rw [HO2.out]; rfl), HB9⟩
        · have e2 : (nv == [105, 110, 105, 116, 105, 97, 108]) = false := by simpa using n2
          have HO2 : Hid (o1 = false) := Lib.hid (by
            rw [HO1.out, Bool.eq_false_iff]
            intro h
            have := List.contains_iff_mem.1 h
            simp [S.globals] at this
            rcases this with h | h
            · exact n1 h
            · exact n2 h)
          clear n1 n2 HO1
          cases G
          all_goals
            go_wp2_with fail
            go_meet
            exact ⟨congrArg Value.bool (by rw [HO2.out]; rfl), HB9⟩
    · have z1 : ((len : Int) == 1) = false := by rw [beq_eq_false_iff_ne]; omega
      have z2 : ¬ (len : Int) = 1 := by omega
      have HO1 : Hid (S.okOne (valsOf len SS) = false) := Lib.hid (by
        have hl := vals_len len SS
        generalize (valsOf len SS) = l at *
        match l, hl with
        | [], _ => rfl
        | [a], hl => exact absurd hl.symm (by simpa using h1)
        | _ :: _ :: _, _ => rfl)
      generalize S.okOne (valsOf len SS) = o1 at *
      clear h1
      go_wp2_with fail
      go_meet
      exact ⟨congrArg Value.bool (by rw [HO1.out, Bool.or_false]), Lib.hid (Below.refl _ _)⟩
  case rest =>
  obtain ⟨rfl, HBw⟩ := hcut
  obtain ⟨w9, hw9⟩ : ∃ W, W = wc := ⟨_, rfl⟩
  subst hw9
  have HB9 := Lib.hid (HB.out.trans (HBw.out.mono hz8))
  have HTx : Hid (S.lawText K (valsOf len SS) imp = tx ++ if imp then S.wMark else []) := Lib.hid (by unfold S.lawText; rw [HT.out]; simp)
  clear HB HBw HT hz8
  rename_i KK6 hKK6
  refine hKK6 _ _ ?_
  go_step
  go_cut [9] (fun v9 wx => v9 = .string ⟨(S.lawText K (valsOf len SS) imp).toArray⟩ ∧ wx = w9)
  case first =>
    have hmk : (⟨tx.toArray⟩ : ByteArray) ++ ⟨#[33, 32, 73, 77, 80, 79, 82, 84, 65, 78, 84]⟩ = ⟨(tx ++ S.wMark).toArray⟩ := append_bytes tx S.wMark
    cases imp with
    | true =>
      have HTy : Hid (S.lawText K (valsOf len SS) true = tx ++ S.wMark) := Lib.hid (HTx.out.trans (by simp))
      generalize S.lawText K (valsOf len SS) true = y at *
      generalize tx ++ S.wMark = z at *
      clear HTx
      go_wp2_with fail
      go_meet
      exact ⟨by rw [HTy.out], rfl⟩
    | false =>
      have HTy : Hid (S.lawText K (valsOf len SS) false = tx) := Lib.hid (HTx.out.trans (by simp))
      generalize S.lawText K (valsOf len SS) false = y at *
      clear HTx hmk
      go_wp2_with fail
      go_meet
      exact ⟨by rw [HTy.out], rfl⟩
  case rest =>
  obtain ⟨rfl, hwc⟩ := hcut
  subst hwc
  have hwl : (S.wMark).length = 11 := by decide
  have hyl : (S.lawText K (valsOf len SS) imp).length ≤ 1000 := by rw [HTx.out, List.length_append]; cases imp <;> simp [hwl] <;> omega
  have HRp := Lib.hid (HA.out (S.lawText K (valsOf len SS) imp) hyl (fun c hc => (HMem.out imp c hc).2))
  have hcl := S.clean_le (S.lawText K (valsOf len SS) imp).length 0 (S.lawText K (valsOf len SS) imp) (Nat.le_refl _)
  have QD := Lib.hid (Decls (S.lawText K (valsOf len SS) imp) (S.lawText K (valsOf len SS) imp) wc (by omega) (HRp.out wc) (HM.out.below HB9.out hMz) (HE.out.below HB9.out hg1 hg2) (fun i v W2 hi hv hW => expand _ v W2 (by
    have h1 := (colonP_len (pieceAt (S.clean 0 (S.lawText K (valsOf len SS) imp)) i)).1
    unfold nameAt
    have h2 := S.trim_len (S.lower (S.colonP (pieceAt (S.clean 0 (S.lawText K (valsOf len SS) imp)) i)).1)
    rw [lower_len] at h2
    have h3 : (pieceAt (S.clean 0 (S.lawText K (valsOf len SS) imp)) i).length ≤ (S.clean 0 (S.lawText K (valsOf len SS) imp)).length := by unfold pieceAt; rw [List.length_take, List.length_drop]; omega
    omega) hv hW))
  have HLw := Lib.hid (HLaw.out imp)
  rw [HOK.out] at HLw
  have HLen : Hid ((G || S.okOne (valsOf len SS)) = true → 0 < len ∧ len < 5) := Lib.hid (fun h => by
    rw [Bool.or_eq_true] at h
    rcases h with h | h
    · have h2 := HOK.out
      rw [h, okAll_eq, vals_len, Bool.and_eq_true, Bool.and_eq_true] at h2
      exact ⟨of_decide_eq_true h2.1.1, of_decide_eq_true h2.1.2⟩
    · have hl := vals_len len SS
      generalize (valsOf len SS) = l at *
      match l, h, hl with
      | [a], _, hl => simp at hl; omega)
  have HGd : Hid (∀ i, i < len → (valsOf len SS).getD i [] = SS i) := Lib.hid (fun i hi => vals_getD SS hi)
  have HVn : Hid ((valsOf len SS).length = len) := Lib.hid (vals_len len SS)
  generalize S.decls (S.clean 0 (S.lawText K (valsOf len SS) imp)) = ds at *
  generalize S.lawText K (valsOf len SS) imp = tx9 at *
  generalize (G || S.okOne (valsOf len SS)) = B at *
  clear HA HMem HOK HTx HLaw hyl hcl HRp hwl
  rename_i KK7 hKK7
  refine hKK7 _ _ ?_
  go_wp2_with fail
  refine QD.out.mono ?_
  rintro e w10 ⟨v16, rfl, hb, ho⟩
  have HB10 := Lib.hid (HB9.out.trans (hb.mono HB9.out.size))
  have HO := Lib.hid ho
  obtain ⟨a16, c16, h16⟩ := ho.form
  clear hb ho QD HB9
  cases B with
  | false =>
    have hd0 : ds = [] := HLw.out.1 rfl
    rw [hd0] at h16
    subst h16
    simp only [List.length_nil]
    clear HLw HO hd0
    go_wp2_with fail
    go_ret
    exact ⟨rfl, HB10.out⟩
  | true =>
    have HMp := Lib.hid (HLw.out.2 rfl)
    obtain ⟨hn0, hn5⟩ := HLen.out rfl
    have hdl : ds.length = 4 := by
      have := congrArg List.length HMp.out
      rw [List.length_map, List.length_map, HVn.out] at this
      rw [this]
      rcases (by omega : len = 1 ∨ len = 2 ∨ len = 3 ∨ len = 4) with h | h | h | h <;> rw [h] <;> rfl
    rw [hdl] at h16
    subst h16
    obtain ⟨g16, hg16⟩ := lsl HO.out.list (by omega)
    subst hg16
    have HDs : Hid (∀ i, i < 4 → ∃ d : S.Decl, (some d.val, d.imp) = (S.good (S.lawLong K) (SS ((S.idxs len).getD i 0)), imp) ∧ (S.idxs len).getD i 0 < len ∧ w10.cell? ⟨g16, i * 5 + 1, none⟩ = some (.int .i64 (d.val.kind : Nat)) ∧ w10.cell? ⟨g16, i * 5 + 2, none⟩ = some (.int .i64 d.val.num) ∧ w10.cell? ⟨g16, i * 5 + 3, none⟩ = some (.string ⟨d.val.word.toArray⟩) ∧ w10.cell? ⟨g16, i * 5 + 4, none⟩ = some (.bool d.imp)) := Lib.hid (fun i hi => by
      have hid : i < ds.length := by omega
      obtain ⟨_, _, _, vk, hc, _⟩ := ListAt.at_ cDecl_len HO.out.list hid
      have hil : (S.idxs len).length = 4 := by rcases (by omega : len = 1 ∨ len = 2 ∨ len = 3 ∨ len = 4) with h | h | h | h <;> rw [h] <;> rfl
      have hix : (S.idxs len).getD i 0 < len := by
        rcases (by omega : len = 1 ∨ len = 2 ∨ len = 3 ∨ len = 4) with h | h | h | h <;> subst h <;> rcases (by omega : i = 0 ∨ i = 1 ∨ i = 2 ∨ i = 3) with h | h | h | h <;> subst h <;> decide
      refine ⟨ds[i], ?_, hix, hc 1 (by omega), hc 2 (by omega), hc 3 (by omega), hc 4 (by omega)⟩
      have h2 := map_at HMp.out hid
      rw [HVn.out, HGd.out _ hix] at h2
      exact h2)
    have hgl16 : g16 < w10.heap.size := (ListAt.at_ cDecl_len HO.out.list (k := 0) (by omega)).1
    clear HLw HMp HO HLen HGd HVn hdl
    have HB0 := Lib.hid (fun (U : World) => Below.refl U.heap.size U)
    go_upto_region 25 with fail
    go_cut [17] (fun v17 wx => ∃ g, v17 = .slice (some ⟨g, 0, none⟩) 4 4 ∧ Hid (∀ i, i < 4 → wx.cell? ⟨g, i, none⟩ = some (.int .i64 ((S.idxs len).getD i 0 : Nat))) ∧ g < wx.heap.size ∧ Hid (Below w10.heap.size w10 wx))
    case first =>
      rcases (by omega : len = 1 ∨ len = 2 ∨ len = 3 ∨ len = 4) with h | h | h | h
      all_goals
        subst h
        go_wp2_with fail
        go_meet
      · refine ⟨_, rfl, Lib.hid (fun i hi => ((cells_of (five_rows w10 _ _ _ _ _ _ _).1).1 i).trans ?_), (five_rows w10 _ _ _ _ _ _ _).1.lt, Lib.hid (five_rows w10 _ _ _ _ _ _ _).2.2.2.2⟩
        rcases (by omega : i = 0 ∨ i = 1 ∨ i = 2 ∨ i = 3) with h | h | h | h <;> subst h <;> rfl
      · refine ⟨_, rfl, Lib.hid (fun i hi => ((cells_of (five_rows w10 _ _ _ _ _ _ _).2.1).1 i).trans ?_), (five_rows w10 _ _ _ _ _ _ _).2.1.lt, Lib.hid (five_rows w10 _ _ _ _ _ _ _).2.2.2.2⟩
        rcases (by omega : i = 0 ∨ i = 1 ∨ i = 2 ∨ i = 3) with h | h | h | h <;> subst h <;> rfl
      · refine ⟨_, rfl, Lib.hid (fun i hi => ((cells_of (five_rows w10 _ _ _ _ _ _ _).2.2.1).1 i).trans ?_), (five_rows w10 _ _ _ _ _ _ _).2.2.1.lt, Lib.hid (five_rows w10 _ _ _ _ _ _ _).2.2.2.2⟩
        rcases (by omega : i = 0 ∨ i = 1 ∨ i = 2 ∨ i = 3) with h | h | h | h <;> subst h <;> rfl
      · refine ⟨_, rfl, Lib.hid (fun i hi => ((cells_of (five_rows w10 _ _ _ _ _ _ _).2.2.2.1).1 i).trans ?_), (five_rows w10 _ _ _ _ _ _ _).2.2.2.1.lt, Lib.hid (five_rows w10 _ _ _ _ _ _ _).2.2.2.2⟩
        rcases (by omega : i = 0 ∨ i = 1 ∨ i = 2 ∨ i = 3) with h | h | h | h <;> subst h <;> rfl
    case rest =>
    obtain ⟨g17, rfl, HC17, hg17, HB11⟩ := hcut
    obtain ⟨w11, hw11⟩ : ∃ W, W = wc := ⟨_, rfl⟩
    subst hw11
    have HB12 := Lib.hid (HB10.out.trans (HB11.out.mono HB10.out.size))
    have hz11 := HB12.out.size
    have hz12 := HB11.out.size
    have HDs2 : Hid (∀ i, i < 4 → ∃ d : S.Decl, (some d.val, d.imp) = (S.good (S.lawLong K) (SS ((S.idxs len).getD i 0)), imp) ∧ (S.idxs len).getD i 0 < len ∧ ∀ W, Below w11.heap.size w11 W → W.cell? ⟨g16, i * 5 + 1, none⟩ = some (.int .i64 (d.val.kind : Nat)) ∧ W.cell? ⟨g16, i * 5 + 2, none⟩ = some (.int .i64 d.val.num) ∧ W.cell? ⟨g16, i * 5 + 3, none⟩ = some (.string ⟨d.val.word.toArray⟩) ∧ W.cell? ⟨g16, i * 5 + 4, none⟩ = some (.bool d.imp)) := Lib.hid (fun i hi => by
      obtain ⟨d, h1, h2, c1, c2, c3, c4⟩ := HDs.out i hi
      have hk : ∀ W o, Below w11.heap.size w11 W → W.cell? ⟨g16, o, none⟩ = w10.cell? ⟨g16, o, none⟩ := fun W o hW =>
        (hW.cell (p := ⟨g16, o, none⟩) (Nat.lt_of_lt_of_le hgl16 hz12)).trans (HB11.out.cell (p := ⟨g16, o, none⟩) hgl16)
      exact ⟨d, h1, h2, fun W hW => ⟨(hk W _ hW).trans c1, (hk W _ hW).trans c2, (hk W _ hW).trans c3, (hk W _ hW).trans c4⟩⟩)
    obtain ⟨b, off, rfl, hbl, hcs⟩ := HS.out hn0
    have HV1 : Hid (∀ m, m < len → ∀ W, Below w11.heap.size w11 W → W.cell? ⟨b, off + m, none⟩ = some (.string ⟨(SS m).toArray⟩)) := Lib.hid (fun m hm W hW =>
      (hW.cell (p := ⟨b, off + m, none⟩) (Nat.lt_of_lt_of_le hbl hz11)).trans ((HB12.out.cell (p := ⟨b, off + m, none⟩) hbl).trans (hcs m hm).1))
    have HF1 : Hid (∀ i, i < 4 → ∀ W, Below w11.heap.size w11 W → W.cell? ⟨g17, i, none⟩ = some (.int .i64 ((S.idxs len).getD i 0 : Nat))) := Lib.hid (fun i hi W hW => (hW.cell (p := ⟨g17, i, none⟩) hg17).trans (HC17.out i hi))
    clear HDs HC17 hcs HB11 HB10 HS HB0 hgl16
    rename_i KK8 hKK8
    refine hKK8 _ _ ?_
    go_wp2_with fail
    go_loopw [18] (fun v18 wr => ∃ i : Nat, v18 = .int .i64 i ∧ i ≤ 4 ∧ Hid (Below w11.heap.size w11 wr)) (fun v18 _ => 4 - (intOf v18).toNat)
    case atStart => exact ⟨0, rfl, by omega, Lib.hid (Below.refl _ _)⟩
    case round =>
      obtain ⟨i, rfl, hi, HBr⟩ := hrel
      by_cases hi4 : i < 4
      · have hiI : (i : Int) < 4 := by omega
        obtain ⟨d, hdm, hix, hdc⟩ := HDs2.out i hi4
        have cf := HF1.out i hi4 wr HBr.out
        have HDC := Lib.hid hdc
        have HV2 := Lib.hid (HV1.out _ hix)
        have hvl := HVl.out _ hix
        have HGm : Hid (S.good (S.lawLong K) (SS ((S.idxs len).getD i 0)) = some d.val ∧ d.imp = imp) := Lib.hid ⟨(congrArg Prod.fst hdm).symm, congrArg Prod.snd hdm⟩
        clear hdm hdc
        generalize (S.idxs len).getD i 0 = m at *
        have hmI : (m : Int) < (len : Int) := by omega
        have cv := HV2.out wr HBr.out
        generalize SS m = vv at *
        have QV := Lib.hid (parseValue (S.lawLong K) vv wr (by omega) (HE.out.below (HB12.out.trans (HBr.out.mono hz11)) hg1 hg2))
        have HPg := Lib.hid (fun x er h => pv_good (p := S.lawLong K) (v := vv) (x := x) (er := er) h)
        generalize S.value (S.lawLong K) vv = vo at *
        generalize S.good (S.lawLong K) vv = vg at *
        clear HV2
        go_wp2_with fail
        refine QV.out.mono ?_
        rintro e w12 ⟨⟨vk, vn, vw⟩, er, rfl, hb, ho⟩
        unfold vval vcells
        dsimp only
        have HX := Lib.hid (HPg.out _ _ ho.out)
        have HB13 := Lib.hid (HBr.out.trans (hb.mono HBr.out.size))
        have HB14 := Lib.hid (HB13.out.alloc HB13.out.size (.cells #[.int .i64 (vk : Nat), .int .i64 vn, .string ⟨vw.toArray⟩] 32))
        have HBv := Lib.hid (Blk.new w12 #[.int .i64 (vk : Nat), .int .i64 vn, .string ⟨vw.toArray⟩] 32)
        clear hb QV HPg cf cv ho HB13 HBr
        go_upto_region 30 with fail
        generalize (w12.alloc (.cells #[.int .i64 (vk : Nat), .int .i64 vn, .string ⟨vw.toArray⟩] 32)) = w13 at *
        generalize w12.heap.size = Vb at *
        obtain ⟨hcv, hfv⟩ := cells_of HBv.out
        have v0 : w13.cell? ⟨Vb, 0, none⟩ = some (.int .i64 (vk : Nat)) := hcv 0
        have v1 : w13.cell? ⟨Vb, 1, none⟩ = some (.int .i64 vn) := hcv 1
        have v2 : w13.cell? ⟨Vb, 2, none⟩ = some (.string ⟨vw.toArray⟩) := hcv 2
        obtain ⟨x1, x2, x3, x4⟩ := HDC.out w13 HB14.out
        have heq : er = 0 ∧ d.val = ⟨vk, vn, vw⟩ ∧ d.imp = imp := by
          rcases HX.out with ⟨h1, h2⟩ | ⟨h1, h2⟩
          · rw [HGm.out.1] at h2
            exact ⟨h1, Option.some.inj h2, HGm.out.2⟩
          · rw [HGm.out.1] at h2; cases h2
        obtain ⟨dn, ⟨dk, dnn, dw⟩, di⟩ := d
        dsimp only at heq x1 x2 x3 x4
        obtain ⟨rfl, hdv, rfl⟩ := heq
        injection hdv with q1 q2 q3
        subst q1 q2 q3
        clear hcv hfv HBv HX HDC HGm
        go_quiet (fail)
        go_wp2_with fail
        go_roundw
        case rel => exact ⟨i + 1, by go_num, by omega, Lib.hid (belowN HB14.out _)⟩
        case measure => simp [intOf]; omega
      · obtain rfl : i = 4 := by omega
        have hiI : ¬ ((4 : Nat) : Int) < 4 := by omega
        have HBe := Lib.hid (HB12.out.trans (HBr.out.mono hz11))
        go_wp2_with fail
        go_ret
        exact ⟨rfl, HBe.out⟩

end Y
end Go.Proofs.YtafkeolpadfjfaaGreatDoor

/- What Tokens of the reference for markup comes to; and the statement MarkupTokens: it returns true at every string. -/
import Derived.Test.YtlnginciehjlnaaGreatDoorRefB
import Derived.Test.YtlnginciehjlnaaGreatDoorFin
import Derived.Deep.DeepCutAuto
import Derived.Deep.CutBlock
import Derived.Test.YtlnginciehjlnaaGreatDoorLater
set_option linter.unusedVariables false
set_option linter.unusedSimpArgs false
namespace Go.Proofs.YtlnginciehjlnaaGreatDoor
open Go.RowKit
namespace K

/-- A value that is the reference's row of tokens. -/
def HasRToks (base : Nat) (v : Value) (ts : List M.Tok) (w : World) : Prop :=
  ∃ L : List (M.Tok × Value), L.map (·.1) = ts ∧ w.ownsRow base 33 5 v L.length (tcells L) ∧ ∀ p ∈ L, HasRAttrs base p.2 p.1.attrs w

theorem infoRToken : (Tryz.prog.info? 33).map (fun i => (i.zero, i.size, i.bytes)) = some (some (.agg #[.int .i64 0, .string ⟨#[]⟩, .slice none 0 0, .bool false, .string ⟨#[]⟩]), 5, 72) := by kernel_rfl

/-- 'append' of one token to a row of the call's own. -/
theorem wpList_append_rtok (w : World) {ops : Array Oper} {rest : List Oper} {o : Oper} {a : Act} {Q : Exit → Act → World → Prop} (hgd : o.guard = none) (s x : Operand)
    (ho : o.op = .call { callee := .builtin .append, args := #[s, x], argTypes := #[25, 25] }) (base : Nat) (v : Value) (L : List (M.Tok × Value)) (k n at_ c t : Value)
    (hs : a.eval s = v) (hx : a.eval x = .slice (some ⟨w.heap.size, 0, none⟩) 1 1) (hown : w.ownsRow base 33 5 v L.length (tcells L))
    (h1 : k.oneCell' = true) (h2 : n.oneCell' = true) (h3 : at_.oneCell' = true) (h4 : c.oneCell' = true) (h5 : t.oneCell' = true) (hl : L.length ≤ 1000000) (hb : base ≤ w.heap.size)
    (h : ∀ v' w', w'.ownsRow base 33 5 v' (L.length + 1) (tcells L ++ [k, n, at_, c, t]) → (w.alloc (.cells #[k, n, at_, c, t] 33)).grownBy w' v.ownBlock → wpList Tryz.prog ops Q rest (a.put o.dst v') w') :
    wpList Tryz.prog ops Q (o :: rest) a (w.alloc (.cells #[k, n, at_, c, t] 33)) := by
  obtain ⟨i0, hi0, hz0, hz1, hz2⟩ := info_parts infoRToken
  refine wpList_append_own _ hgd s x 25 ho base 33 i0 _ 5 72 Tryz.underlying25 hi0 hz0 hz1 hz2 rfl (by decide) v L.length (tcells L) hs (hown.alloc _) ⟨w.heap.size, 0, none⟩ 1 1 [k, n, at_, c, t] hx rfl ?_ ?_ ?_ ?_ ?_ (fun v' w' a1 a2 _ => h v' w' a1 a2)
  · exact World.news_of_block (heap_alloc_new _ _)
  · intro u hu
    simp at hu
    rcases hu with rfl | rfl | rfl | rfl | rfl
    · exact h1
    · exact h2
    · exact h3
    · exact h4
    · exact h5
  · unfold maxLen; omega
  · omega
  · simp; omega

/-- One token more. -/
theorem rsnoc {s0 : Nat} {w F w5 : World} {u v' a : Value} {L : List (M.Tok × Value)} {t : M.Tok} {o : Obj} (hB : Below w.heap.size w F) (ho : F.ownsRow w.heap.size 33 5 u L.length (tcells L)) (hA : ∀ p ∈ L, HasRAttrs w.heap.size p.2 p.1.attrs F) (ha : HasRAttrs w.heap.size a t.attrs F)
    (hown : w5.ownsRow w.heap.size 33 5 v' (L.length + 1) (tcells L ++ [.int .i64 t.kind, .string ⟨t.name.toArray⟩, a, .bool t.closed, .string ⟨t.text.toArray⟩])) (hg : (F.alloc o).grownBy w5 u.ownBlock) :
    Below w.heap.size w w5 ∧ w5.ownsRow w.heap.size 33 5 v' (L ++ [(t, a)]).length (tcells (L ++ [(t, a)])) ∧ (∀ p ∈ L ++ [(t, a)], HasRAttrs w.heap.size p.2 p.1.attrs w5) := by
  have hne : 63 ≠ 33 := by decide
  have hBa : Below F.heap.size F (F.alloc o) := (Below.refl _ _).alloc (Nat.le_refl _) _
  have hBF := hB.trans (hBa.mono hB.size)
  have hno := ho.lt
  have hof : (F.alloc o).ownsRow w.heap.size 33 5 u L.length (tcells L) := own_below hBa ho
  refine ⟨⟨hg.os.trans hBF.os, hg.tape.trans hBF.tape, hg.output.trans hBF.output, Nat.le_trans hBF.size hg.size, fun k hk => (hg.block k (Nat.lt_of_lt_of_le hk hBF.size) (fun e => by have := (hno k e.symm).1; omega)).trans (hBF.block k hk)⟩, by rw [tcells_snoc, List.length_append]; exact hown, fun p hp => ?_⟩
  rcases List.mem_append.1 hp with hp | hp
  · have h1 := own_below hBa (hA p hp)
    exact World.ownsRow.kept h1 hg (own_apart h1 hof hne)
  · obtain rfl : p = (t, a) := by simpa using hp
    have h1 := own_below hBa ha
    exact World.ownsRow.kept h1 hg (own_apart h1 hof hne)

theorem no_rattrs (base : Nat) (w : World) : HasRAttrs base (.slice none 0 0) [] w := World.ownsRow_nil _ _ _ _

def RTokPost (ts : List M.Tok) (w : World) (e : Ending) (w' : World) : Prop := ∃ v, e = .returned v ∧ HasRToks w.heap.size v ts w' ∧ Below w.heap.size w w'

/-- At the loop's head. -/
def RtRel (s : List UInt8) (TS : List M.Tok) (w : World) (u v : Value) (wr : World) : Prop :=
  ∃ (i : Nat) (L : List (M.Tok × Value)), v = .int .i64 i ∧ i ≤ s.length ∧ L.length ≤ i ∧ Below w.heap.size w wr ∧ Hid (wr.ownsRow w.heap.size 33 5 u L.length (tcells L)) ∧ Hid (∀ p ∈ L, HasRAttrs w.heap.size p.2 p.1.attrs wr) ∧ Hid (L.map (·.1) ++ M.run [] (s.drop i) = TS)

theorem rt_next {s : List UInt8} {TS : List M.Tok} {w w5 : World} {u : Value} {L L' : List (M.Tok × Value)} {i j : Nat} {r : List M.Tok} (hH : Hid (L.map (·.1) ++ M.run [] (s.drop i) = TS)) (hr : M.run [] (s.drop i) = r ++ M.run [] (s.drop j)) (hL : L'.map (·.1) = L.map (·.1) ++ r) : Hid (L'.map (·.1) ++ M.run [] (s.drop j) = TS) :=
  Lib.hid (by rw [hL, List.append_assoc, ← hr]; exact hH.out)

/-- The body of the first loop of a function's text. -/
def firstLoop : Code → Option Code
  | .loop c => some c
  | .seq a b => match firstLoop a with
    | some c => some c
    | none => firstLoop b
  | .block _ c => firstLoop c
  | .scope c => firstLoop c
  | .cond _ a b => match firstLoop a with
    | some c => some c
    | none => firstLoop b
  | _ => none

set_option maxRecDepth 1000000 in
/-- Behind a round. -/
def RtN (s : List UInt8) (TS : List M.Tok) (w : World) (i : Nat) (c0 c1 c16 c17 c18 c202 : Value) (a : Act) (w' : World) : Prop :=
  ∃ x2 x4 x5 x6 x7 x8 x9 x10 x11 x12 x13 x14 x15 x19 x20 x21 x22 x23 x24 x25 x26 x27 x28 x29 x30 x31 x32 x33 x34 x35 x36 x37 x38 x39 x40 x41 x42 x43 x44 x45 x46 x47 x48 x49 x50 x51 x52 x53 x54 x55 x56 x57 x58 x59 x60 x61 x62 x63 x64 x65 x66 x67 x68 x69 x70 x71 x72 x73 x74 x75 x76 x77 x78 x79 x80 x81 x82 x83 x84 x85 x86 x87 x88 x89 x90 x91 x92 x93 x94 x95 x96 x97 x98 x99 x100 x101 x102 x103 x104 x105 x106 x107 x108 x109 x110 x111 x112 x113 x114 x115 x116 x117 x118 x119 x120 x121 x122 x123 x124 x125 x126 x127 x128 x129 x130 x131 x132 x133 x134 x135 x136 x137 x138 x139 x140 x141 x142 x143 x144 x145 x146 x147 x148 x149 x150 x151 x152 x153 x154 x155 x156 x157 x158 x159 x160 x161 x162 x163 x164 x165 x166 x167 x168 x169 x170 x171 x172 x173 x174 x175 x176 x177 x178 x179 x180 x181 x182 x183 x184 x185 x186 x187 x188 x189 x190 x191 x192 x193 x194 x195 x196 x197 x198 x199 x200 x201 : Value, RtRel s TS w x4 x5 w' ∧ s.length - (intOf x5).toNat < s.length - i ∧ a = ⟨#[c0, c1, x2, (.string ⟨s.toArray⟩), x4, x5, x6, x7, x8, x9, x10, x11, x12, x13, x14, x15, c16, c17, c18, x19, x20, x21, x22, x23, x24, x25, x26, x27, x28, x29, x30, x31, x32, x33, x34, x35, x36, x37, x38, x39, x40, x41, x42, x43, x44, x45, x46, x47, x48, x49, x50, x51, x52, x53, x54, x55, x56, x57, x58, x59, x60, x61, x62, x63, x64, x65, x66, x67, x68, x69, x70, x71, x72, x73, x74, x75, x76, x77, x78, x79, x80, x81, x82, x83, x84, x85, x86, x87, x88, x89, x90, x91, x92, x93, x94, x95, x96, x97, x98, x99, x100, x101, x102, x103, x104, x105, x106, x107, x108, x109, x110, x111, x112, x113, x114, x115, x116, x117, x118, x119, x120, x121, x122, x123, x124, x125, x126, x127, x128, x129, x130, x131, x132, x133, x134, x135, x136, x137, x138, x139, x140, x141, x142, x143, x144, x145, x146, x147, x148, x149, x150, x151, x152, x153, x154, x155, x156, x157, x158, x159, x160, x161, x162, x163, x164, x165, x166, x167, x168, x169, x170, x171, x172, x173, x174, x175, x176, x177, x178, x179, x180, x181, x182, x183, x184, x185, x186, x187, x188, x189, x190, x191, x192, x193, x194, x195, x196, x197, x198, x199, x200, x201, c202], []⟩

set_option maxRecDepth 1000000 in
/-- Where the function returns. -/
def RtR (s : List UInt8) (TS : List M.Tok) (w : World) (c0 c1 c16 c17 c18 c202 : Value) (a : Act) (w' : World) : Prop :=
  ∃ x2 x4 x5 x6 x7 x8 x9 x10 x11 x12 x13 x14 x15 x19 x20 x21 x22 x23 x24 x25 x26 x27 x28 x29 x30 x31 x32 x33 x34 x35 x36 x37 x38 x39 x40 x41 x42 x43 x44 x45 x46 x47 x48 x49 x50 x51 x52 x53 x54 x55 x56 x57 x58 x59 x60 x61 x62 x63 x64 x65 x66 x67 x68 x69 x70 x71 x72 x73 x74 x75 x76 x77 x78 x79 x80 x81 x82 x83 x84 x85 x86 x87 x88 x89 x90 x91 x92 x93 x94 x95 x96 x97 x98 x99 x100 x101 x102 x103 x104 x105 x106 x107 x108 x109 x110 x111 x112 x113 x114 x115 x116 x117 x118 x119 x120 x121 x122 x123 x124 x125 x126 x127 x128 x129 x130 x131 x132 x133 x134 x135 x136 x137 x138 x139 x140 x141 x142 x143 x144 x145 x146 x147 x148 x149 x150 x151 x152 x153 x154 x155 x156 x157 x158 x159 x160 x161 x162 x163 x164 x165 x166 x167 x168 x169 x170 x171 x172 x173 x174 x175 x176 x177 x178 x179 x180 x181 x182 x183 x184 x185 x186 x187 x188 x189 x190 x191 x192 x193 x194 x195 x196 x197 x198 x199 x200 x201 : Value, RTokPost TS w (.returned x2) w' ∧ a = ⟨#[c0, c1, x2, (.string ⟨s.toArray⟩), x4, x5, x6, x7, x8, x9, x10, x11, x12, x13, x14, x15, c16, c17, c18, x19, x20, x21, x22, x23, x24, x25, x26, x27, x28, x29, x30, x31, x32, x33, x34, x35, x36, x37, x38, x39, x40, x41, x42, x43, x44, x45, x46, x47, x48, x49, x50, x51, x52, x53, x54, x55, x56, x57, x58, x59, x60, x61, x62, x63, x64, x65, x66, x67, x68, x69, x70, x71, x72, x73, x74, x75, x76, x77, x78, x79, x80, x81, x82, x83, x84, x85, x86, x87, x88, x89, x90, x91, x92, x93, x94, x95, x96, x97, x98, x99, x100, x101, x102, x103, x104, x105, x106, x107, x108, x109, x110, x111, x112, x113, x114, x115, x116, x117, x118, x119, x120, x121, x122, x123, x124, x125, x126, x127, x128, x129, x130, x131, x132, x133, x134, x135, x136, x137, x138, x139, x140, x141, x142, x143, x144, x145, x146, x147, x148, x149, x150, x151, x152, x153, x154, x155, x156, x157, x158, x159, x160, x161, x162, x163, x164, x165, x166, x167, x168, x169, x170, x171, x172, x173, x174, x175, x176, x177, x178, x179, x180, x181, x182, x183, x184, x185, x186, x187, x188, x189, x190, x191, x192, x193, x194, x195, x196, x197, x198, x199, x200, x201, c202], []⟩
set_option maxHeartbeats 8000000 in
set_option maxRecDepth 1000000 in
theorem rt_A (s : List UInt8) (TS : List M.Tok) (w wo : World) (i : Nat) (L : List (M.Tok × Value)) (Q : Exit → Act → World → Prop) (u0 u1 u2 u4 u6 u7 u8 u9 u10 u11 u12 u13 u14 u15 u16 u17 u18 u19 u20 u21 u22 u23 u24 u25 u26 u27 u28 u29 u30 u31 u32 u33 u34 u35 u36 u37 u38 u39 u40 u41 u42 u43 u44 u45 u46 u47 u48 u49 u50 u51 u52 u53 u54 u55 u56 u57 u58 u59 u60 u61 u62 u63 u64 u65 u66 u67 u68 u69 u70 u71 u72 u73 u74 u75 u76 u77 u78 u79 u80 u81 u82 u83 u84 u85 u86 u87 u88 u89 u90 u91 u92 u93 u94 u95 u96 u97 u98 u99 u100 u101 u102 u103 u104 u105 u106 u107 u108 u109 u110 u111 u112 u113 u114 u115 u116 u117 u118 u119 u120 u121 u122 u123 u124 u125 u126 u127 u128 u129 u130 u131 u132 u133 u134 u135 u136 u137 u138 u139 u140 u141 u142 u143 u144 u145 u146 u147 u148 u149 u150 u151 u152 u153 u154 u155 u156 u157 u158 u159 u160 u161 u162 u163 u164 u165 u166 u167 u168 u169 u170 u171 u172 u173 u174 u175 u176 u177 u178 u179 u180 u181 u182 u183 u184 u185 u186 u187 u188 u189 u190 u191 u192 u193 u194 u195 u196 u197 u198 u199 u200 u201 u202 : Value) (hsl : s.length ≤ 20000) (hlt : i < s.length) (hLi : L.length ≤ i) (hB : Below w.heap.size w wo)
    (HO : Hid (wo.ownsRow w.heap.size 33 5 u4 L.length (tcells L))) (HA : Hid (∀ p ∈ L, HasRAttrs w.heap.size p.2 p.1.attrs wo)) (HH : Hid (L.map (·.1) ++ M.run [] (s.drop i) = TS))
    (e1 : [60, 33, 45, 45].isPrefixOf (s.drop i) = true)
    (hN : ∀ a' w', RtN s TS w i u0 u1 u16 u17 u18 u202 a' w' → Q .normal a' w') (hR : ∀ a' w', RtR s TS w u0 u1 u16 u17 u18 u202 a' w' → Q .ret a' w') :
    Code.wp Tryz.prog ((Tryz.f12.body.bind firstLoop).getD .skip) Q ⟨#[u0, u1, u2, (.string ⟨s.toArray⟩), u4, (.int .i64 i), u6, u7, u8, u9, u10, u11, u12, u13, u14, u15, u16, u17, u18, u19, u20, u21, u22, u23, u24, u25, u26, u27, u28, u29, u30, u31, u32, u33, u34, u35, u36, u37, u38, u39, u40, u41, u42, u43, u44, u45, u46, u47, u48, u49, u50, u51, u52, u53, u54, u55, u56, u57, u58, u59, u60, u61, u62, u63, u64, u65, u66, u67, u68, u69, u70, u71, u72, u73, u74, u75, u76, u77, u78, u79, u80, u81, u82, u83, u84, u85, u86, u87, u88, u89, u90, u91, u92, u93, u94, u95, u96, u97, u98, u99, u100, u101, u102, u103, u104, u105, u106, u107, u108, u109, u110, u111, u112, u113, u114, u115, u116, u117, u118, u119, u120, u121, u122, u123, u124, u125, u126, u127, u128, u129, u130, u131, u132, u133, u134, u135, u136, u137, u138, u139, u140, u141, u142, u143, u144, u145, u146, u147, u148, u149, u150, u151, u152, u153, u154, u155, u156, u157, u158, u159, u160, u161, u162, u163, u164, u165, u166, u167, u168, u169, u170, u171, u172, u173, u174, u175, u176, u177, u178, u179, u180, u181, u182, u183, u184, u185, u186, u187, u188, u189, u190, u191, u192, u193, u194, u195, u196, u197, u198, u199, u200, u201, u202], []⟩ wo := by
  have hlt1 : (i : Int) < (s.length : Int) := by omega
  have hi : i ≤ s.length := by omega
  have hbz := hB.size
  have q1 := fun W => rat s [60, 33, 45, 45] i W (by omega) (by decide) (by decide) (by omega)
  rw [e1] at q1
  have Q1 := Lib.hid q1
  clear q1
  obtain ⟨hi4, hrun⟩ := leafA e1
  have hcl := cutI_le (p := [45, 45, 62]) (s := s) (i := i + 4) (by omega)
  have QF := Lib.hid (fun W => rFindz s [45, 45, 62] (i + 4) ((i : Int) + 4) W (by omega) (by omega) (by decide) (by decide) (by omega))
  have qc := fun W => rcut s [45, 45, 62] (i + 4) ((i : Int) + 4) (findI [45, 45, 62] s (i + 4)) 3 W (by omega) rfl rfl (by omega) (by decide) (by omega)
  unfold tup2 at qc
  have QC := Lib.hid qc
  clear qc
  generalize findI [45, 45, 62] s (i + 4) = fi at *
  generalize hV : (cutI [45, 45, 62] s (i + 4)).1 = V at *
  generalize hJ : (cutI [45, 45, 62] s (i + 4)).2 = J at *
  have zV := T.bytes_size V
  clear hV hJ
  have HRU := Lib.hid hrun
  clear hrun e1
  conv => arg 2; whnf
  go_wp2_with fail
  refine (Q1.out _).mono ?_
  rintro e w' ⟨rfl, rfl⟩
  go_wp2_with fail
  refine (QF.out _).mono ?_
  rintro e w' ⟨rfl, rfl⟩
  go_wp2_with fail
  refine (QC.out _).mono ?_
  rintro e w' ⟨rfl, rfl⟩
  go_wp2_with (at_builtin; refine wpList_append_rtok wo rfl _ _ rfl w.heap.size u4 L _ _ _ _ _ rfl rfl HO.out rfl rfl rfl rfl rfl (by omega) (by omega) ?_)
  intro v5 w5 hown hgr
  have HR5 := Lib.hid (rsnoc (s0 := 0) (t := .txt 4 V) hB HO.out HA.out (no_rattrs _ _) hown hgr)
  clear hown hgr
  go_wp2_with fail
  have HN := rt_next (r := [.txt 4 V]) (L' := L ++ [(.txt 4 V, .slice none 0 0)]) (j := J) (u := v5) (w := w) (w5 := w5) HH HRU.out (by simp)
  have hrel : RtRel s TS w _ (.int .i64 ((J : Nat) : Int)) _ := ⟨J, _, rfl, by omega, by first | omega | (simp; omega), HR5.out.1, Lib.hid HR5.out.2.1, Lib.hid HR5.out.2.2, HN⟩
  have hmu : s.length - (intOf (.int .i64 ((J : Nat) : Int))).toNat < s.length - i := by simp [intOf]; omega
  first
    | (unfold RtN; (repeat apply Exists.intro); exact ⟨hrel, hmu, rfl⟩)
    | (refine hN _ _ ?_; unfold RtN; (repeat apply Exists.intro); exact ⟨hrel, hmu, rfl⟩)
set_option maxHeartbeats 8000000 in
set_option maxRecDepth 1000000 in
theorem rt_Bn (s : List UInt8) (TS : List M.Tok) (w wo : World) (i : Nat) (L : List (M.Tok × Value)) (Q : Exit → Act → World → Prop) (u0 u1 u2 u4 u6 u7 u8 u9 u10 u11 u12 u13 u14 u15 u16 u17 u18 u19 u20 u21 u22 u23 u24 u25 u26 u27 u28 u29 u30 u31 u32 u33 u34 u35 u36 u37 u38 u39 u40 u41 u42 u43 u44 u45 u46 u47 u48 u49 u50 u51 u52 u53 u54 u55 u56 u57 u58 u59 u60 u61 u62 u63 u64 u65 u66 u67 u68 u69 u70 u71 u72 u73 u74 u75 u76 u77 u78 u79 u80 u81 u82 u83 u84 u85 u86 u87 u88 u89 u90 u91 u92 u93 u94 u95 u96 u97 u98 u99 u100 u101 u102 u103 u104 u105 u106 u107 u108 u109 u110 u111 u112 u113 u114 u115 u116 u117 u118 u119 u120 u121 u122 u123 u124 u125 u126 u127 u128 u129 u130 u131 u132 u133 u134 u135 u136 u137 u138 u139 u140 u141 u142 u143 u144 u145 u146 u147 u148 u149 u150 u151 u152 u153 u154 u155 u156 u157 u158 u159 u160 u161 u162 u163 u164 u165 u166 u167 u168 u169 u170 u171 u172 u173 u174 u175 u176 u177 u178 u179 u180 u181 u182 u183 u184 u185 u186 u187 u188 u189 u190 u191 u192 u193 u194 u195 u196 u197 u198 u199 u200 u201 u202 : Value) (hsl : s.length ≤ 20000) (hlt : i < s.length) (hLi : L.length ≤ i) (hB : Below w.heap.size w wo)
    (HO : Hid (wo.ownsRow w.heap.size 33 5 u4 L.length (tcells L))) (HA : Hid (∀ p ∈ L, HasRAttrs w.heap.size p.2 p.1.attrs wo)) (HH : Hid (L.map (·.1) ++ M.run [] (s.drop i) = TS))
    (e1 : [60, 33, 45, 45].isPrefixOf (s.drop i) = false) (e2 : [60, 47].isPrefixOf (s.drop i) = true) (e3 : M.letter (s.getD (i + 2) 0) = true) (hx : M.idx [62] (s.drop i) = none)
    (hN : ∀ a' w', RtN s TS w i u0 u1 u16 u17 u18 u202 a' w' → Q .normal a' w') (hR : ∀ a' w', RtR s TS w u0 u1 u16 u17 u18 u202 a' w' → Q .ret a' w') :
    Code.wp Tryz.prog ((Tryz.f12.body.bind firstLoop).getD .skip) Q ⟨#[u0, u1, u2, (.string ⟨s.toArray⟩), u4, (.int .i64 i), u6, u7, u8, u9, u10, u11, u12, u13, u14, u15, u16, u17, u18, u19, u20, u21, u22, u23, u24, u25, u26, u27, u28, u29, u30, u31, u32, u33, u34, u35, u36, u37, u38, u39, u40, u41, u42, u43, u44, u45, u46, u47, u48, u49, u50, u51, u52, u53, u54, u55, u56, u57, u58, u59, u60, u61, u62, u63, u64, u65, u66, u67, u68, u69, u70, u71, u72, u73, u74, u75, u76, u77, u78, u79, u80, u81, u82, u83, u84, u85, u86, u87, u88, u89, u90, u91, u92, u93, u94, u95, u96, u97, u98, u99, u100, u101, u102, u103, u104, u105, u106, u107, u108, u109, u110, u111, u112, u113, u114, u115, u116, u117, u118, u119, u120, u121, u122, u123, u124, u125, u126, u127, u128, u129, u130, u131, u132, u133, u134, u135, u136, u137, u138, u139, u140, u141, u142, u143, u144, u145, u146, u147, u148, u149, u150, u151, u152, u153, u154, u155, u156, u157, u158, u159, u160, u161, u162, u163, u164, u165, u166, u167, u168, u169, u170, u171, u172, u173, u174, u175, u176, u177, u178, u179, u180, u181, u182, u183, u184, u185, u186, u187, u188, u189, u190, u191, u192, u193, u194, u195, u196, u197, u198, u199, u200, u201, u202], []⟩ wo := by
  have hlt1 : (i : Int) < (s.length : Int) := by omega
  have hi : i ≤ s.length := by omega
  have hbz := hB.size
  have q1 := fun W => rat s [60, 33, 45, 45] i W (by omega) (by decide) (by decide) (by omega)
  rw [e1] at q1
  have Q1 := Lib.hid q1
  clear q1
  have q2 := fun W => rat s [60, 47] i W (by omega) (by decide) (by decide) (by omega)
  rw [e2] at q2
  have Q2 := Lib.hid q2
  clear q2
  have q3 := fun W => rletter s (i + 2) ((i : Int) + 2) W (by omega) (by omega) (by omega)
  rw [e3] at q3
  have Q3 := Lib.hid q3
  clear q3
  obtain ⟨hi2, hB2⟩ := leafB e2 e3
  have qf := fun W => rFind s [62] i W (by omega) (by decide) (by decide) (by omega)
  unfold findI at qf
  rw [hx] at qf hB2
  have QF := Lib.hid (show ∀ W, Calls Tryz.prog 18 #[.string ⟨s.toArray⟩, .int .i64 i, .string ⟨#[62]⟩] W fun e w' => e = .returned (.int .i64 (-1)) ∧ W = w' from qf)
  have HV : Hid (L.map (·.1) = TS) := Lib.hid (by
    have h1 : M.run [] (s.drop i) = [] := hB2
    rw [← HH.out, h1, List.append_nil])
  clear qf hx hB2 e1 e2 e3
  conv => arg 2; whnf
  go_wp2_with fail
  refine (Q1.out _).mono ?_
  rintro e w' ⟨rfl, rfl⟩
  go_wp2_with fail
  refine (Q2.out _).mono ?_
  rintro e w' ⟨rfl, rfl⟩
  go_wp2_with fail
  refine (Q3.out _).mono ?_
  rintro e w' ⟨rfl, rfl⟩
  go_wp2_with fail
  refine (QF.out _).mono ?_
  rintro e w' ⟨rfl, rfl⟩
  go_wp2_with fail
  have hpost := (show RTokPost TS w (.returned u4) wo from by rw [← HV.out]; exact ⟨_, rfl, ⟨L, rfl, HO.out, HA.out⟩, hB⟩)
  first
    | (unfold RtR; (repeat apply Exists.intro); exact ⟨hpost, rfl⟩)
    | (refine hR _ _ ?_; unfold RtR; (repeat apply Exists.intro); exact ⟨hpost, rfl⟩)
set_option maxHeartbeats 8000000 in
set_option maxRecDepth 1000000 in
theorem rt_Bs (s : List UInt8) (TS : List M.Tok) (w wo : World) (i : Nat) (L : List (M.Tok × Value)) (Q : Exit → Act → World → Prop) (u0 u1 u2 u4 u6 u7 u8 u9 u10 u11 u12 u13 u14 u15 u16 u17 u18 u19 u20 u21 u22 u23 u24 u25 u26 u27 u28 u29 u30 u31 u32 u33 u34 u35 u36 u37 u38 u39 u40 u41 u42 u43 u44 u45 u46 u47 u48 u49 u50 u51 u52 u53 u54 u55 u56 u57 u58 u59 u60 u61 u62 u63 u64 u65 u66 u67 u68 u69 u70 u71 u72 u73 u74 u75 u76 u77 u78 u79 u80 u81 u82 u83 u84 u85 u86 u87 u88 u89 u90 u91 u92 u93 u94 u95 u96 u97 u98 u99 u100 u101 u102 u103 u104 u105 u106 u107 u108 u109 u110 u111 u112 u113 u114 u115 u116 u117 u118 u119 u120 u121 u122 u123 u124 u125 u126 u127 u128 u129 u130 u131 u132 u133 u134 u135 u136 u137 u138 u139 u140 u141 u142 u143 u144 u145 u146 u147 u148 u149 u150 u151 u152 u153 u154 u155 u156 u157 u158 u159 u160 u161 u162 u163 u164 u165 u166 u167 u168 u169 u170 u171 u172 u173 u174 u175 u176 u177 u178 u179 u180 u181 u182 u183 u184 u185 u186 u187 u188 u189 u190 u191 u192 u193 u194 u195 u196 u197 u198 u199 u200 u201 u202 : Value) (hsl : s.length ≤ 20000) (hlt : i < s.length) (hLi : L.length ≤ i) (hB : Below w.heap.size w wo)
    (HO : Hid (wo.ownsRow w.heap.size 33 5 u4 L.length (tcells L))) (HA : Hid (∀ p ∈ L, HasRAttrs w.heap.size p.2 p.1.attrs wo)) (HH : Hid (L.map (·.1) ++ M.run [] (s.drop i) = TS))
    (e1 : [60, 33, 45, 45].isPrefixOf (s.drop i) = false) (e2 : [60, 47].isPrefixOf (s.drop i) = true) (e3 : M.letter (s.getD (i + 2) 0) = true) (k : Nat) (hx : M.idx [62] (s.drop i) = some k)
    (hN : ∀ a' w', RtN s TS w i u0 u1 u16 u17 u18 u202 a' w' → Q .normal a' w') (hR : ∀ a' w', RtR s TS w u0 u1 u16 u17 u18 u202 a' w' → Q .ret a' w') :
    Code.wp Tryz.prog ((Tryz.f12.body.bind firstLoop).getD .skip) Q ⟨#[u0, u1, u2, (.string ⟨s.toArray⟩), u4, (.int .i64 i), u6, u7, u8, u9, u10, u11, u12, u13, u14, u15, u16, u17, u18, u19, u20, u21, u22, u23, u24, u25, u26, u27, u28, u29, u30, u31, u32, u33, u34, u35, u36, u37, u38, u39, u40, u41, u42, u43, u44, u45, u46, u47, u48, u49, u50, u51, u52, u53, u54, u55, u56, u57, u58, u59, u60, u61, u62, u63, u64, u65, u66, u67, u68, u69, u70, u71, u72, u73, u74, u75, u76, u77, u78, u79, u80, u81, u82, u83, u84, u85, u86, u87, u88, u89, u90, u91, u92, u93, u94, u95, u96, u97, u98, u99, u100, u101, u102, u103, u104, u105, u106, u107, u108, u109, u110, u111, u112, u113, u114, u115, u116, u117, u118, u119, u120, u121, u122, u123, u124, u125, u126, u127, u128, u129, u130, u131, u132, u133, u134, u135, u136, u137, u138, u139, u140, u141, u142, u143, u144, u145, u146, u147, u148, u149, u150, u151, u152, u153, u154, u155, u156, u157, u158, u159, u160, u161, u162, u163, u164, u165, u166, u167, u168, u169, u170, u171, u172, u173, u174, u175, u176, u177, u178, u179, u180, u181, u182, u183, u184, u185, u186, u187, u188, u189, u190, u191, u192, u193, u194, u195, u196, u197, u198, u199, u200, u201, u202], []⟩ wo := by
  have hlt1 : (i : Int) < (s.length : Int) := by omega
  have hi : i ≤ s.length := by omega
  have hbz := hB.size
  have q1 := fun W => rat s [60, 33, 45, 45] i W (by omega) (by decide) (by decide) (by omega)
  rw [e1] at q1
  have Q1 := Lib.hid q1
  clear q1
  have q2 := fun W => rat s [60, 47] i W (by omega) (by decide) (by decide) (by omega)
  rw [e2] at q2
  have Q2 := Lib.hid q2
  clear q2
  have q3 := fun W => rletter s (i + 2) ((i : Int) + 2) W (by omega) (by omega) (by omega)
  rw [e3] at q3
  have Q3 := Lib.hid q3
  clear q3
  obtain ⟨hi2, hB2⟩ := leafB e2 e3
  have qf := fun W => rFind s [62] i W (by omega) (by decide) (by decide) (by omega)
  unfold findI at qf
  rw [hx] at qf hB2
  have hB2 : i + k < s.length ∧ 1 ≤ k ∧ M.run [] (s.drop i) = ⟨2, M.lower ((s.drop (i + 2)).takeWhile M.goesOn), [], false, []⟩ :: M.run [] (s.drop (i + k + 1)) := hB2
  obtain ⟨hik, hk1, hrun⟩ := hB2
  have QF := Lib.hid (show ∀ W, Calls Tryz.prog 18 #[.string ⟨s.toArray⟩, .int .i64 i, .string ⟨#[62]⟩] W fun e w' => e = .returned (.int .i64 ((i + k : Nat) : Int)) ∧ W = w' from qf)
  have QM := Lib.hid (fun W => rname s (i + 2) ((i : Int) + 2) W (by omega) (by omega) (by omega))
  generalize M.lower ((s.drop (i + 2)).takeWhile M.goesOn) = nm at *
  have hkk : i < i + k := by omega
  generalize i + k = K at *
  have HRU := Lib.hid hrun
  clear qf hx hrun e1 e2 e3 hk1
  conv => arg 2; whnf
  go_wp2_with fail
  refine (Q1.out _).mono ?_
  rintro e w' ⟨rfl, rfl⟩
  go_wp2_with fail
  refine (Q2.out _).mono ?_
  rintro e w' ⟨rfl, rfl⟩
  go_wp2_with fail
  refine (Q3.out _).mono ?_
  rintro e w' ⟨rfl, rfl⟩
  go_wp2_with fail
  refine (QF.out _).mono ?_
  rintro e w' ⟨rfl, rfl⟩
  go_wp2_with fail
  refine (QM.out _).mono ?_
  rintro e w2 ⟨rfl, b2⟩
  have hB2 := hB.trans (b2.mono hbz)
  have HO2 := Lib.hid (own_below b2 HO.out)
  have HA2 := Lib.hid (fun p hp => own_below b2 (HA.out p hp))
  have hz2 := hB2.size
  clear b2
  go_wp2_with (at_builtin; refine wpList_append_rtok w2 rfl _ _ rfl w.heap.size u4 L _ _ _ _ _ rfl rfl HO2.out rfl rfl rfl rfl rfl (by omega) (by omega) ?_)
  intro v5 w5 hown hgr
  have HR5 := Lib.hid (rsnoc (s0 := 0) (t := ⟨2, nm, [], false, []⟩) hB2 HO2.out HA2.out (no_rattrs _ _) hown hgr)
  clear hown hgr
  go_wp2_with fail
  have HN := rt_next (r := [⟨2, nm, [], false, []⟩]) (L' := L ++ [(⟨2, nm, [], false, []⟩, .slice none 0 0)]) (j := K + 1) (u := v5) (w := w) (w5 := w5) HH HRU.out (by simp)
  have hrel : RtRel s TS w _ (.int .i64 ((K + 1 : Nat) : Int)) _ := ⟨K + 1, _, rfl, by omega, by first | omega | (simp; omega), HR5.out.1, Lib.hid HR5.out.2.1, Lib.hid HR5.out.2.2, HN⟩
  have hmu : s.length - (intOf (.int .i64 ((K + 1 : Nat) : Int))).toNat < s.length - i := by simp [intOf]; omega
  first
    | (unfold RtN; (repeat apply Exists.intro); exact ⟨hrel, hmu, rfl⟩)
    | (refine hN _ _ ?_; unfold RtN; (repeat apply Exists.intro); exact ⟨hrel, hmu, rfl⟩)
set_option maxHeartbeats 8000000 in
set_option maxRecDepth 1000000 in
theorem rt_C (s : List UInt8) (TS : List M.Tok) (w wo : World) (i : Nat) (L : List (M.Tok × Value)) (Q : Exit → Act → World → Prop) (u0 u1 u2 u4 u6 u7 u8 u9 u10 u11 u12 u13 u14 u15 u16 u17 u18 u19 u20 u21 u22 u23 u24 u25 u26 u27 u28 u29 u30 u31 u32 u33 u34 u35 u36 u37 u38 u39 u40 u41 u42 u43 u44 u45 u46 u47 u48 u49 u50 u51 u52 u53 u54 u55 u56 u57 u58 u59 u60 u61 u62 u63 u64 u65 u66 u67 u68 u69 u70 u71 u72 u73 u74 u75 u76 u77 u78 u79 u80 u81 u82 u83 u84 u85 u86 u87 u88 u89 u90 u91 u92 u93 u94 u95 u96 u97 u98 u99 u100 u101 u102 u103 u104 u105 u106 u107 u108 u109 u110 u111 u112 u113 u114 u115 u116 u117 u118 u119 u120 u121 u122 u123 u124 u125 u126 u127 u128 u129 u130 u131 u132 u133 u134 u135 u136 u137 u138 u139 u140 u141 u142 u143 u144 u145 u146 u147 u148 u149 u150 u151 u152 u153 u154 u155 u156 u157 u158 u159 u160 u161 u162 u163 u164 u165 u166 u167 u168 u169 u170 u171 u172 u173 u174 u175 u176 u177 u178 u179 u180 u181 u182 u183 u184 u185 u186 u187 u188 u189 u190 u191 u192 u193 u194 u195 u196 u197 u198 u199 u200 u201 u202 : Value) (hsl : s.length ≤ 20000) (hlt : i < s.length) (hLi : L.length ≤ i) (hB : Below w.heap.size w wo)
    (HO : Hid (wo.ownsRow w.heap.size 33 5 u4 L.length (tcells L))) (HA : Hid (∀ p ∈ L, HasRAttrs w.heap.size p.2 p.1.attrs wo)) (HH : Hid (L.map (·.1) ++ M.run [] (s.drop i) = TS))
    (e1 : [60, 33, 45, 45].isPrefixOf (s.drop i) = false) (e2 : [60, 47].isPrefixOf (s.drop i) = true) (e3 : M.letter (s.getD (i + 2) 0) = false) (e4 : [60, 47, 62].isPrefixOf (s.drop i) = true)
    (hN : ∀ a' w', RtN s TS w i u0 u1 u16 u17 u18 u202 a' w' → Q .normal a' w') (hR : ∀ a' w', RtR s TS w u0 u1 u16 u17 u18 u202 a' w' → Q .ret a' w') :
    Code.wp Tryz.prog ((Tryz.f12.body.bind firstLoop).getD .skip) Q ⟨#[u0, u1, u2, (.string ⟨s.toArray⟩), u4, (.int .i64 i), u6, u7, u8, u9, u10, u11, u12, u13, u14, u15, u16, u17, u18, u19, u20, u21, u22, u23, u24, u25, u26, u27, u28, u29, u30, u31, u32, u33, u34, u35, u36, u37, u38, u39, u40, u41, u42, u43, u44, u45, u46, u47, u48, u49, u50, u51, u52, u53, u54, u55, u56, u57, u58, u59, u60, u61, u62, u63, u64, u65, u66, u67, u68, u69, u70, u71, u72, u73, u74, u75, u76, u77, u78, u79, u80, u81, u82, u83, u84, u85, u86, u87, u88, u89, u90, u91, u92, u93, u94, u95, u96, u97, u98, u99, u100, u101, u102, u103, u104, u105, u106, u107, u108, u109, u110, u111, u112, u113, u114, u115, u116, u117, u118, u119, u120, u121, u122, u123, u124, u125, u126, u127, u128, u129, u130, u131, u132, u133, u134, u135, u136, u137, u138, u139, u140, u141, u142, u143, u144, u145, u146, u147, u148, u149, u150, u151, u152, u153, u154, u155, u156, u157, u158, u159, u160, u161, u162, u163, u164, u165, u166, u167, u168, u169, u170, u171, u172, u173, u174, u175, u176, u177, u178, u179, u180, u181, u182, u183, u184, u185, u186, u187, u188, u189, u190, u191, u192, u193, u194, u195, u196, u197, u198, u199, u200, u201, u202], []⟩ wo := by
  have hlt1 : (i : Int) < (s.length : Int) := by omega
  have hi : i ≤ s.length := by omega
  have hbz := hB.size
  have q1 := fun W => rat s [60, 33, 45, 45] i W (by omega) (by decide) (by decide) (by omega)
  rw [e1] at q1
  have Q1 := Lib.hid q1
  clear q1
  have q2 := fun W => rat s [60, 47] i W (by omega) (by decide) (by decide) (by omega)
  rw [e2] at q2
  have Q2 := Lib.hid q2
  clear q2
  have q3 := fun W => rletter s (i + 2) ((i : Int) + 2) W (by omega) (by omega) (by omega)
  rw [e3] at q3
  have Q3 := Lib.hid q3
  clear q3
  have q4 := fun W => rat s [60, 47, 62] i W (by omega) (by decide) (by decide) (by omega)
  rw [e4] at q4
  have Q4 := Lib.hid q4
  clear q4
  obtain ⟨hi3, hrun⟩ := leafC e4
  have HRU := Lib.hid hrun
  clear hrun e1 e2 e3 e4
  conv => arg 2; whnf
  go_wp2_with fail
  refine (Q1.out _).mono ?_
  rintro e w' ⟨rfl, rfl⟩
  go_wp2_with fail
  refine (Q2.out _).mono ?_
  rintro e w' ⟨rfl, rfl⟩
  go_wp2_with fail
  refine (Q3.out _).mono ?_
  rintro e w' ⟨rfl, rfl⟩
  go_wp2_with fail
  refine (Q4.out _).mono ?_
  rintro e w' ⟨rfl, rfl⟩
  go_wp2_with fail
  have HN := (show Hid (L.map (·.1) ++ M.run [] (s.drop (i + 3)) = TS) from Lib.hid (by rw [← HRU.out]; exact HH.out))
  have hrel : RtRel s TS w _ (.int .i64 ((i + 3 : Nat) : Int)) _ := ⟨i + 3, _, rfl, by omega, by first | omega | (simp; omega), hB, HO, HA, HN⟩
  have hmu : s.length - (intOf (.int .i64 ((i + 3 : Nat) : Int))).toNat < s.length - i := by simp [intOf]; omega
  first
    | (unfold RtN; (repeat apply Exists.intro); exact ⟨hrel, hmu, rfl⟩)
    | (refine hN _ _ ?_; unfold RtN; (repeat apply Exists.intro); exact ⟨hrel, hmu, rfl⟩)
set_option maxHeartbeats 8000000 in
set_option maxRecDepth 1000000 in
theorem rt_D47 (s : List UInt8) (TS : List M.Tok) (w wo : World) (i : Nat) (L : List (M.Tok × Value)) (Q : Exit → Act → World → Prop) (u0 u1 u2 u4 u6 u7 u8 u9 u10 u11 u12 u13 u14 u15 u16 u17 u18 u19 u20 u21 u22 u23 u24 u25 u26 u27 u28 u29 u30 u31 u32 u33 u34 u35 u36 u37 u38 u39 u40 u41 u42 u43 u44 u45 u46 u47 u48 u49 u50 u51 u52 u53 u54 u55 u56 u57 u58 u59 u60 u61 u62 u63 u64 u65 u66 u67 u68 u69 u70 u71 u72 u73 u74 u75 u76 u77 u78 u79 u80 u81 u82 u83 u84 u85 u86 u87 u88 u89 u90 u91 u92 u93 u94 u95 u96 u97 u98 u99 u100 u101 u102 u103 u104 u105 u106 u107 u108 u109 u110 u111 u112 u113 u114 u115 u116 u117 u118 u119 u120 u121 u122 u123 u124 u125 u126 u127 u128 u129 u130 u131 u132 u133 u134 u135 u136 u137 u138 u139 u140 u141 u142 u143 u144 u145 u146 u147 u148 u149 u150 u151 u152 u153 u154 u155 u156 u157 u158 u159 u160 u161 u162 u163 u164 u165 u166 u167 u168 u169 u170 u171 u172 u173 u174 u175 u176 u177 u178 u179 u180 u181 u182 u183 u184 u185 u186 u187 u188 u189 u190 u191 u192 u193 u194 u195 u196 u197 u198 u199 u200 u201 u202 : Value) (hsl : s.length ≤ 20000) (hlt : i < s.length) (hLi : L.length ≤ i) (hB : Below w.heap.size w wo)
    (HO : Hid (wo.ownsRow w.heap.size 33 5 u4 L.length (tcells L))) (HA : Hid (∀ p ∈ L, HasRAttrs w.heap.size p.2 p.1.attrs wo)) (HH : Hid (L.map (·.1) ++ M.run [] (s.drop i) = TS))
    (e1 : [60, 33, 45, 45].isPrefixOf (s.drop i) = false) (e2 : [60, 47].isPrefixOf (s.drop i) = true) (e3 : M.letter (s.getD (i + 2) 0) = false) (e4 : [60, 47, 62].isPrefixOf (s.drop i) = false)
    (hN : ∀ a' w', RtN s TS w i u0 u1 u16 u17 u18 u202 a' w' → Q .normal a' w') (hR : ∀ a' w', RtR s TS w u0 u1 u16 u17 u18 u202 a' w' → Q .ret a' w') :
    Code.wp Tryz.prog ((Tryz.f12.body.bind firstLoop).getD .skip) Q ⟨#[u0, u1, u2, (.string ⟨s.toArray⟩), u4, (.int .i64 i), u6, u7, u8, u9, u10, u11, u12, u13, u14, u15, u16, u17, u18, u19, u20, u21, u22, u23, u24, u25, u26, u27, u28, u29, u30, u31, u32, u33, u34, u35, u36, u37, u38, u39, u40, u41, u42, u43, u44, u45, u46, u47, u48, u49, u50, u51, u52, u53, u54, u55, u56, u57, u58, u59, u60, u61, u62, u63, u64, u65, u66, u67, u68, u69, u70, u71, u72, u73, u74, u75, u76, u77, u78, u79, u80, u81, u82, u83, u84, u85, u86, u87, u88, u89, u90, u91, u92, u93, u94, u95, u96, u97, u98, u99, u100, u101, u102, u103, u104, u105, u106, u107, u108, u109, u110, u111, u112, u113, u114, u115, u116, u117, u118, u119, u120, u121, u122, u123, u124, u125, u126, u127, u128, u129, u130, u131, u132, u133, u134, u135, u136, u137, u138, u139, u140, u141, u142, u143, u144, u145, u146, u147, u148, u149, u150, u151, u152, u153, u154, u155, u156, u157, u158, u159, u160, u161, u162, u163, u164, u165, u166, u167, u168, u169, u170, u171, u172, u173, u174, u175, u176, u177, u178, u179, u180, u181, u182, u183, u184, u185, u186, u187, u188, u189, u190, u191, u192, u193, u194, u195, u196, u197, u198, u199, u200, u201, u202], []⟩ wo := by
  have hlt1 : (i : Int) < (s.length : Int) := by omega
  have hi : i ≤ s.length := by omega
  have hbz := hB.size
  have q1 := fun W => rat s [60, 33, 45, 45] i W (by omega) (by decide) (by decide) (by omega)
  rw [e1] at q1
  have Q1 := Lib.hid q1
  clear q1
  have q2 := fun W => rat s [60, 47] i W (by omega) (by decide) (by decide) (by omega)
  rw [e2] at q2
  have Q2 := Lib.hid q2
  clear q2
  have q3 := fun W => rletter s (i + 2) ((i : Int) + 2) W (by omega) (by omega) (by omega)
  rw [e3] at q3
  have Q3 := Lib.hid q3
  clear q3
  have q4 := fun W => rat s [60, 47, 62] i W (by omega) (by decide) (by decide) (by omega)
  rw [e4] at q4
  have Q4 := Lib.hid q4
  clear q4
  have q5 := fun W => rat s [60, 33] i W (by omega) (by decide) (by decide) (by omega)
  have e5 : [60, 33].isPrefixOf (s.drop i) = false := by rw [pre_form e2]; rfl
  rw [e5] at q5
  have Q5 := Lib.hid q5
  clear q5
  have hD := leafD (c := 47) e1 (by decide) e2 (fun _ => e3) (fun _ => e4)
  obtain ⟨hi2, hrun⟩ := hD
  have hcl := cutI_le (p := [62]) (s := s) (i := i + 2) (by omega)
  have QF := Lib.hid (fun W => rFindz s [62] (i + 2) ((i : Int) + 2) W (by omega) (by omega) (by decide) (by decide) (by omega))
  have qc := fun W => rcut s [62] (i + 2) ((i : Int) + 2) (findI [62] s (i + 2)) 1 W (by omega) rfl rfl (by omega) (by decide) (by omega)
  unfold tup2 at qc
  have QC := Lib.hid qc
  clear qc
  generalize findI [62] s (i + 2) = fi at *
  generalize hV : (cutI [62] s (i + 2)).1 = V at *
  generalize hJ : (cutI [62] s (i + 2)).2 = J at *
  have zV := T.bytes_size V
  clear hV hJ
  have hrun : M.run [] (s.drop i) = .txt 4 V :: M.run [] (s.drop J) := hrun
  have HRU := Lib.hid hrun
  clear hrun e1 e2 e3 e4 e5
  conv => arg 2; whnf
  go_wp2_with fail
  refine (Q1.out _).mono ?_
  rintro e w' ⟨rfl, rfl⟩
  go_wp2_with fail
  refine (Q2.out _).mono ?_
  rintro e w' ⟨rfl, rfl⟩
  go_wp2_with fail
  refine (Q3.out _).mono ?_
  rintro e w' ⟨rfl, rfl⟩
  go_wp2_with fail
  refine (Q4.out _).mono ?_
  rintro e w' ⟨rfl, rfl⟩
  go_wp2_with fail
  refine (Q2.out _).mono ?_
  rintro e w' ⟨rfl, rfl⟩
  go_wp2_with fail
  refine (QF.out _).mono ?_
  rintro e w' ⟨rfl, rfl⟩
  go_wp2_with fail
  refine (QC.out _).mono ?_
  rintro e w' ⟨rfl, rfl⟩
  go_wp2_with fail
  refine (Q5.out _).mono ?_
  rintro e w' ⟨rfl, rfl⟩
  go_wp2_with (at_builtin; refine wpList_append_rtok wo rfl _ _ rfl w.heap.size u4 L _ _ _ _ _ rfl rfl HO.out rfl rfl rfl rfl rfl (by omega) (by omega) ?_)
  intro v5 w5 hown hgr
  have HR5 := Lib.hid (rsnoc (s0 := 0) (t := .txt 4 V) hB HO.out HA.out (no_rattrs _ _) hown hgr)
  clear hown hgr
  go_wp2_with fail
  have HN := rt_next (r := [.txt 4 V]) (L' := L ++ [(.txt 4 V, .slice none 0 0)]) (j := J) (u := v5) (w := w) (w5 := w5) HH HRU.out (by simp)
  have hrel : RtRel s TS w _ (.int .i64 ((J : Nat) : Int)) _ := ⟨J, _, rfl, by omega, by first | omega | (simp; omega), HR5.out.1, Lib.hid HR5.out.2.1, Lib.hid HR5.out.2.2, HN⟩
  have hmu : s.length - (intOf (.int .i64 ((J : Nat) : Int))).toNat < s.length - i := by simp [intOf]; omega
  first
    | (unfold RtN; (repeat apply Exists.intro); exact ⟨hrel, hmu, rfl⟩)
    | (refine hN _ _ ?_; unfold RtN; (repeat apply Exists.intro); exact ⟨hrel, hmu, rfl⟩)
set_option maxHeartbeats 8000000 in
set_option maxRecDepth 1000000 in
theorem rt_D63 (s : List UInt8) (TS : List M.Tok) (w wo : World) (i : Nat) (L : List (M.Tok × Value)) (Q : Exit → Act → World → Prop) (u0 u1 u2 u4 u6 u7 u8 u9 u10 u11 u12 u13 u14 u15 u16 u17 u18 u19 u20 u21 u22 u23 u24 u25 u26 u27 u28 u29 u30 u31 u32 u33 u34 u35 u36 u37 u38 u39 u40 u41 u42 u43 u44 u45 u46 u47 u48 u49 u50 u51 u52 u53 u54 u55 u56 u57 u58 u59 u60 u61 u62 u63 u64 u65 u66 u67 u68 u69 u70 u71 u72 u73 u74 u75 u76 u77 u78 u79 u80 u81 u82 u83 u84 u85 u86 u87 u88 u89 u90 u91 u92 u93 u94 u95 u96 u97 u98 u99 u100 u101 u102 u103 u104 u105 u106 u107 u108 u109 u110 u111 u112 u113 u114 u115 u116 u117 u118 u119 u120 u121 u122 u123 u124 u125 u126 u127 u128 u129 u130 u131 u132 u133 u134 u135 u136 u137 u138 u139 u140 u141 u142 u143 u144 u145 u146 u147 u148 u149 u150 u151 u152 u153 u154 u155 u156 u157 u158 u159 u160 u161 u162 u163 u164 u165 u166 u167 u168 u169 u170 u171 u172 u173 u174 u175 u176 u177 u178 u179 u180 u181 u182 u183 u184 u185 u186 u187 u188 u189 u190 u191 u192 u193 u194 u195 u196 u197 u198 u199 u200 u201 u202 : Value) (hsl : s.length ≤ 20000) (hlt : i < s.length) (hLi : L.length ≤ i) (hB : Below w.heap.size w wo)
    (HO : Hid (wo.ownsRow w.heap.size 33 5 u4 L.length (tcells L))) (HA : Hid (∀ p ∈ L, HasRAttrs w.heap.size p.2 p.1.attrs wo)) (HH : Hid (L.map (·.1) ++ M.run [] (s.drop i) = TS))
    (e1 : [60, 33, 45, 45].isPrefixOf (s.drop i) = false) (e2 : [60, 47].isPrefixOf (s.drop i) = false) (e5 : [60, 33].isPrefixOf (s.drop i) = false) (e6 : [60, 63].isPrefixOf (s.drop i) = true)
    (hN : ∀ a' w', RtN s TS w i u0 u1 u16 u17 u18 u202 a' w' → Q .normal a' w') (hR : ∀ a' w', RtR s TS w u0 u1 u16 u17 u18 u202 a' w' → Q .ret a' w') :
    Code.wp Tryz.prog ((Tryz.f12.body.bind firstLoop).getD .skip) Q ⟨#[u0, u1, u2, (.string ⟨s.toArray⟩), u4, (.int .i64 i), u6, u7, u8, u9, u10, u11, u12, u13, u14, u15, u16, u17, u18, u19, u20, u21, u22, u23, u24, u25, u26, u27, u28, u29, u30, u31, u32, u33, u34, u35, u36, u37, u38, u39, u40, u41, u42, u43, u44, u45, u46, u47, u48, u49, u50, u51, u52, u53, u54, u55, u56, u57, u58, u59, u60, u61, u62, u63, u64, u65, u66, u67, u68, u69, u70, u71, u72, u73, u74, u75, u76, u77, u78, u79, u80, u81, u82, u83, u84, u85, u86, u87, u88, u89, u90, u91, u92, u93, u94, u95, u96, u97, u98, u99, u100, u101, u102, u103, u104, u105, u106, u107, u108, u109, u110, u111, u112, u113, u114, u115, u116, u117, u118, u119, u120, u121, u122, u123, u124, u125, u126, u127, u128, u129, u130, u131, u132, u133, u134, u135, u136, u137, u138, u139, u140, u141, u142, u143, u144, u145, u146, u147, u148, u149, u150, u151, u152, u153, u154, u155, u156, u157, u158, u159, u160, u161, u162, u163, u164, u165, u166, u167, u168, u169, u170, u171, u172, u173, u174, u175, u176, u177, u178, u179, u180, u181, u182, u183, u184, u185, u186, u187, u188, u189, u190, u191, u192, u193, u194, u195, u196, u197, u198, u199, u200, u201, u202], []⟩ wo := by
  have hlt1 : (i : Int) < (s.length : Int) := by omega
  have hi : i ≤ s.length := by omega
  have hbz := hB.size
  have e4 : [60, 47, 62].isPrefixOf (s.drop i) = false := by
    cases h : [60, 47, 62].isPrefixOf (s.drop i) with
    | false => rfl
    | true => rw [pre_form h] at e2; cases e2
  have q1 := fun W => rat s [60, 33, 45, 45] i W (by omega) (by decide) (by decide) (by omega)
  rw [e1] at q1
  have Q1 := Lib.hid q1
  clear q1
  have q2 := fun W => rat s [60, 47] i W (by omega) (by decide) (by decide) (by omega)
  rw [e2] at q2
  have Q2 := Lib.hid q2
  clear q2
  have q4 := fun W => rat s [60, 47, 62] i W (by omega) (by decide) (by decide) (by omega)
  rw [e4] at q4
  have Q4 := Lib.hid q4
  clear q4
  have q5 := fun W => rat s [60, 33] i W (by omega) (by decide) (by decide) (by omega)
  rw [e5] at q5
  have Q5 := Lib.hid q5
  clear q5
  have q6 := fun W => rat s [60, 63] i W (by omega) (by decide) (by decide) (by omega)
  rw [e6] at q6
  have Q6 := Lib.hid q6
  clear q6
  have hD := leafD (c := 63) e1 (by decide) e6 (fun h => by cases h) (fun h => by cases h)
  obtain ⟨hi2, hrun⟩ := hD
  have hcl := cutI_le (p := [62]) (s := s) (i := i + 2) (by omega)
  have QF := Lib.hid (fun W => rFindz s [62] (i + 2) ((i : Int) + 2) W (by omega) (by omega) (by decide) (by decide) (by omega))
  have qc := fun W => rcut s [62] (i + 2) ((i : Int) + 2) (findI [62] s (i + 2)) 1 W (by omega) rfl rfl (by omega) (by decide) (by omega)
  unfold tup2 at qc
  have QC := Lib.hid qc
  clear qc
  generalize findI [62] s (i + 2) = fi at *
  generalize hV : (cutI [62] s (i + 2)).1 = V at *
  generalize hJ : (cutI [62] s (i + 2)).2 = J at *
  have zV := T.bytes_size V
  clear hV hJ
  have hrun : M.run [] (s.drop i) = .txt 4 V :: M.run [] (s.drop J) := hrun
  have HRU := Lib.hid hrun
  clear hrun e1 e2 e4 e5 e6
  conv => arg 2; whnf
  go_wp2_with fail
  refine (Q1.out _).mono ?_
  rintro e w' ⟨rfl, rfl⟩
  go_wp2_with fail
  refine (Q2.out _).mono ?_
  rintro e w' ⟨rfl, rfl⟩
  go_wp2_with fail
  refine (Q4.out _).mono ?_
  rintro e w' ⟨rfl, rfl⟩
  go_wp2_with fail
  refine (Q2.out _).mono ?_
  rintro e w' ⟨rfl, rfl⟩
  go_wp2_with fail
  refine (Q5.out _).mono ?_
  rintro e w' ⟨rfl, rfl⟩
  go_wp2_with fail
  refine (Q6.out _).mono ?_
  rintro e w' ⟨rfl, rfl⟩
  go_wp2_with fail
  refine (QF.out _).mono ?_
  rintro e w' ⟨rfl, rfl⟩
  go_wp2_with fail
  refine (QC.out _).mono ?_
  rintro e w' ⟨rfl, rfl⟩
  go_wp2_with fail
  refine (Q5.out _).mono ?_
  rintro e w' ⟨rfl, rfl⟩
  go_wp2_with (at_builtin; refine wpList_append_rtok wo rfl _ _ rfl w.heap.size u4 L _ _ _ _ _ rfl rfl HO.out rfl rfl rfl rfl rfl (by omega) (by omega) ?_)
  intro v5 w5 hown hgr
  have HR5 := Lib.hid (rsnoc (s0 := 0) (t := .txt 4 V) hB HO.out HA.out (no_rattrs _ _) hown hgr)
  clear hown hgr
  go_wp2_with fail
  have HN := rt_next (r := [.txt 4 V]) (L' := L ++ [(.txt 4 V, .slice none 0 0)]) (j := J) (u := v5) (w := w) (w5 := w5) HH HRU.out (by simp)
  have hrel : RtRel s TS w _ (.int .i64 ((J : Nat) : Int)) _ := ⟨J, _, rfl, by omega, by first | omega | (simp; omega), HR5.out.1, Lib.hid HR5.out.2.1, Lib.hid HR5.out.2.2, HN⟩
  have hmu : s.length - (intOf (.int .i64 ((J : Nat) : Int))).toNat < s.length - i := by simp [intOf]; omega
  first
    | (unfold RtN; (repeat apply Exists.intro); exact ⟨hrel, hmu, rfl⟩)
    | (refine hN _ _ ?_; unfold RtN; (repeat apply Exists.intro); exact ⟨hrel, hmu, rfl⟩)
set_option maxHeartbeats 8000000 in
set_option maxRecDepth 1000000 in
theorem rt_D33s (s : List UInt8) (TS : List M.Tok) (w wo : World) (i : Nat) (L : List (M.Tok × Value)) (Q : Exit → Act → World → Prop) (u0 u1 u2 u4 u6 u7 u8 u9 u10 u11 u12 u13 u14 u15 u16 u17 u18 u19 u20 u21 u22 u23 u24 u25 u26 u27 u28 u29 u30 u31 u32 u33 u34 u35 u36 u37 u38 u39 u40 u41 u42 u43 u44 u45 u46 u47 u48 u49 u50 u51 u52 u53 u54 u55 u56 u57 u58 u59 u60 u61 u62 u63 u64 u65 u66 u67 u68 u69 u70 u71 u72 u73 u74 u75 u76 u77 u78 u79 u80 u81 u82 u83 u84 u85 u86 u87 u88 u89 u90 u91 u92 u93 u94 u95 u96 u97 u98 u99 u100 u101 u102 u103 u104 u105 u106 u107 u108 u109 u110 u111 u112 u113 u114 u115 u116 u117 u118 u119 u120 u121 u122 u123 u124 u125 u126 u127 u128 u129 u130 u131 u132 u133 u134 u135 u136 u137 u138 u139 u140 u141 u142 u143 u144 u145 u146 u147 u148 u149 u150 u151 u152 u153 u154 u155 u156 u157 u158 u159 u160 u161 u162 u163 u164 u165 u166 u167 u168 u169 u170 u171 u172 u173 u174 u175 u176 u177 u178 u179 u180 u181 u182 u183 u184 u185 u186 u187 u188 u189 u190 u191 u192 u193 u194 u195 u196 u197 u198 u199 u200 u201 u202 : Value) (hsl : s.length ≤ 20000) (hlt : i < s.length) (hLi : L.length ≤ i) (hB : Below w.heap.size w wo)
    (HO : Hid (wo.ownsRow w.heap.size 33 5 u4 L.length (tcells L))) (HA : Hid (∀ p ∈ L, HasRAttrs w.heap.size p.2 p.1.attrs wo)) (HH : Hid (L.map (·.1) ++ M.run [] (s.drop i) = TS))
    (e1 : [60, 33, 45, 45].isPrefixOf (s.drop i) = false) (e2 : [60, 47].isPrefixOf (s.drop i) = false) (e5 : [60, 33].isPrefixOf (s.drop i) = true) (h7 : ¬ 7 ≤ (cutI [62] s (i + 2)).1.length)
    (hN : ∀ a' w', RtN s TS w i u0 u1 u16 u17 u18 u202 a' w' → Q .normal a' w') (hR : ∀ a' w', RtR s TS w u0 u1 u16 u17 u18 u202 a' w' → Q .ret a' w') :
    Code.wp Tryz.prog ((Tryz.f12.body.bind firstLoop).getD .skip) Q ⟨#[u0, u1, u2, (.string ⟨s.toArray⟩), u4, (.int .i64 i), u6, u7, u8, u9, u10, u11, u12, u13, u14, u15, u16, u17, u18, u19, u20, u21, u22, u23, u24, u25, u26, u27, u28, u29, u30, u31, u32, u33, u34, u35, u36, u37, u38, u39, u40, u41, u42, u43, u44, u45, u46, u47, u48, u49, u50, u51, u52, u53, u54, u55, u56, u57, u58, u59, u60, u61, u62, u63, u64, u65, u66, u67, u68, u69, u70, u71, u72, u73, u74, u75, u76, u77, u78, u79, u80, u81, u82, u83, u84, u85, u86, u87, u88, u89, u90, u91, u92, u93, u94, u95, u96, u97, u98, u99, u100, u101, u102, u103, u104, u105, u106, u107, u108, u109, u110, u111, u112, u113, u114, u115, u116, u117, u118, u119, u120, u121, u122, u123, u124, u125, u126, u127, u128, u129, u130, u131, u132, u133, u134, u135, u136, u137, u138, u139, u140, u141, u142, u143, u144, u145, u146, u147, u148, u149, u150, u151, u152, u153, u154, u155, u156, u157, u158, u159, u160, u161, u162, u163, u164, u165, u166, u167, u168, u169, u170, u171, u172, u173, u174, u175, u176, u177, u178, u179, u180, u181, u182, u183, u184, u185, u186, u187, u188, u189, u190, u191, u192, u193, u194, u195, u196, u197, u198, u199, u200, u201, u202], []⟩ wo := by
  have hlt1 : (i : Int) < (s.length : Int) := by omega
  have hi : i ≤ s.length := by omega
  have hbz := hB.size
  have e4 : [60, 47, 62].isPrefixOf (s.drop i) = false := by
    cases h : [60, 47, 62].isPrefixOf (s.drop i) with
    | false => rfl
    | true => rw [pre_form h] at e2; cases e2
  have q1 := fun W => rat s [60, 33, 45, 45] i W (by omega) (by decide) (by decide) (by omega)
  rw [e1] at q1
  have Q1 := Lib.hid q1
  clear q1
  have q2 := fun W => rat s [60, 47] i W (by omega) (by decide) (by decide) (by omega)
  rw [e2] at q2
  have Q2 := Lib.hid q2
  clear q2
  have q4 := fun W => rat s [60, 47, 62] i W (by omega) (by decide) (by decide) (by omega)
  rw [e4] at q4
  have Q4 := Lib.hid q4
  clear q4
  have q5 := fun W => rat s [60, 33] i W (by omega) (by decide) (by decide) (by omega)
  rw [e5] at q5
  have Q5 := Lib.hid q5
  clear q5
  have hD := leafD (c := 33) e1 (by decide) e5 (fun h => by cases h) (fun h => by cases h)
  obtain ⟨hi2, hrun⟩ := hD
  have hcl := cutI_le (p := [62]) (s := s) (i := i + 2) (by omega)
  have QF := Lib.hid (fun W => rFindz s [62] (i + 2) ((i : Int) + 2) W (by omega) (by omega) (by decide) (by decide) (by omega))
  have qc := fun W => rcut s [62] (i + 2) ((i : Int) + 2) (findI [62] s (i + 2)) 1 W (by omega) rfl rfl (by omega) (by decide) (by omega)
  unfold tup2 at qc
  have QC := Lib.hid qc
  clear qc
  generalize findI [62] s (i + 2) = fi at *
  generalize hV : (cutI [62] s (i + 2)).1 = V at *
  generalize hJ : (cutI [62] s (i + 2)).2 = J at *
  have zV := T.bytes_size V
  clear hV hJ
  have h71 : (V.length : Int) < 7 := by omega
  have hrun : M.run [] (s.drop i) = .txt 4 V :: M.run [] (s.drop J) := by
    rw [decide_eq_false h7] at hrun; exact hrun
  clear h7
  have hrun : M.run [] (s.drop i) = .txt 4 V :: M.run [] (s.drop J) := hrun
  have HRU := Lib.hid hrun
  clear hrun e1 e2 e4 e5
  conv => arg 2; whnf
  go_wp2_with fail
  refine (Q1.out _).mono ?_
  rintro e w' ⟨rfl, rfl⟩
  go_wp2_with fail
  refine (Q2.out _).mono ?_
  rintro e w' ⟨rfl, rfl⟩
  go_wp2_with fail
  refine (Q4.out _).mono ?_
  rintro e w' ⟨rfl, rfl⟩
  go_wp2_with fail
  refine (Q2.out _).mono ?_
  rintro e w' ⟨rfl, rfl⟩
  go_wp2_with fail
  refine (Q5.out _).mono ?_
  rintro e w' ⟨rfl, rfl⟩
  go_wp2_with fail
  refine (QF.out _).mono ?_
  rintro e w' ⟨rfl, rfl⟩
  go_wp2_with fail
  refine (QC.out _).mono ?_
  rintro e w' ⟨rfl, rfl⟩
  go_wp2_with fail
  refine (Q5.out _).mono ?_
  rintro e w' ⟨rfl, rfl⟩
  go_wp2_with (at_builtin; refine wpList_append_rtok wo rfl _ _ rfl w.heap.size u4 L _ _ _ _ _ rfl rfl HO.out rfl rfl rfl rfl rfl (by omega) (by omega) ?_)
  intro v5 w5 hown hgr
  have HR5 := Lib.hid (rsnoc (s0 := 0) (t := .txt 4 V) hB HO.out HA.out (no_rattrs _ _) hown hgr)
  clear hown hgr
  go_wp2_with fail
  have HN := rt_next (r := [.txt 4 V]) (L' := L ++ [(.txt 4 V, .slice none 0 0)]) (j := J) (u := v5) (w := w) (w5 := w5) HH HRU.out (by simp)
  have hrel : RtRel s TS w _ (.int .i64 ((J : Nat) : Int)) _ := ⟨J, _, rfl, by omega, by first | omega | (simp; omega), HR5.out.1, Lib.hid HR5.out.2.1, Lib.hid HR5.out.2.2, HN⟩
  have hmu : s.length - (intOf (.int .i64 ((J : Nat) : Int))).toNat < s.length - i := by simp [intOf]; omega
  first
    | (unfold RtN; (repeat apply Exists.intro); exact ⟨hrel, hmu, rfl⟩)
    | (refine hN _ _ ?_; unfold RtN; (repeat apply Exists.intro); exact ⟨hrel, hmu, rfl⟩)
set_option maxHeartbeats 8000000 in
set_option maxRecDepth 1000000 in
theorem rt_D33d (s : List UInt8) (TS : List M.Tok) (w wo : World) (i : Nat) (L : List (M.Tok × Value)) (Q : Exit → Act → World → Prop) (u0 u1 u2 u4 u6 u7 u8 u9 u10 u11 u12 u13 u14 u15 u16 u17 u18 u19 u20 u21 u22 u23 u24 u25 u26 u27 u28 u29 u30 u31 u32 u33 u34 u35 u36 u37 u38 u39 u40 u41 u42 u43 u44 u45 u46 u47 u48 u49 u50 u51 u52 u53 u54 u55 u56 u57 u58 u59 u60 u61 u62 u63 u64 u65 u66 u67 u68 u69 u70 u71 u72 u73 u74 u75 u76 u77 u78 u79 u80 u81 u82 u83 u84 u85 u86 u87 u88 u89 u90 u91 u92 u93 u94 u95 u96 u97 u98 u99 u100 u101 u102 u103 u104 u105 u106 u107 u108 u109 u110 u111 u112 u113 u114 u115 u116 u117 u118 u119 u120 u121 u122 u123 u124 u125 u126 u127 u128 u129 u130 u131 u132 u133 u134 u135 u136 u137 u138 u139 u140 u141 u142 u143 u144 u145 u146 u147 u148 u149 u150 u151 u152 u153 u154 u155 u156 u157 u158 u159 u160 u161 u162 u163 u164 u165 u166 u167 u168 u169 u170 u171 u172 u173 u174 u175 u176 u177 u178 u179 u180 u181 u182 u183 u184 u185 u186 u187 u188 u189 u190 u191 u192 u193 u194 u195 u196 u197 u198 u199 u200 u201 u202 : Value) (hsl : s.length ≤ 20000) (hlt : i < s.length) (hLi : L.length ≤ i) (hB : Below w.heap.size w wo)
    (HO : Hid (wo.ownsRow w.heap.size 33 5 u4 L.length (tcells L))) (HA : Hid (∀ p ∈ L, HasRAttrs w.heap.size p.2 p.1.attrs wo)) (HH : Hid (L.map (·.1) ++ M.run [] (s.drop i) = TS))
    (e1 : [60, 33, 45, 45].isPrefixOf (s.drop i) = false) (e2 : [60, 47].isPrefixOf (s.drop i) = false) (e5 : [60, 33].isPrefixOf (s.drop i) = true) (h7 : 7 ≤ (cutI [62] s (i + 2)).1.length) (hlw : (M.lower ((cutI [62] s (i + 2)).1.take 7) == [100, 111, 99, 116, 121, 112, 101]) = true)
    (hN : ∀ a' w', RtN s TS w i u0 u1 u16 u17 u18 u202 a' w' → Q .normal a' w') (hR : ∀ a' w', RtR s TS w u0 u1 u16 u17 u18 u202 a' w' → Q .ret a' w') :
    Code.wp Tryz.prog ((Tryz.f12.body.bind firstLoop).getD .skip) Q ⟨#[u0, u1, u2, (.string ⟨s.toArray⟩), u4, (.int .i64 i), u6, u7, u8, u9, u10, u11, u12, u13, u14, u15, u16, u17, u18, u19, u20, u21, u22, u23, u24, u25, u26, u27, u28, u29, u30, u31, u32, u33, u34, u35, u36, u37, u38, u39, u40, u41, u42, u43, u44, u45, u46, u47, u48, u49, u50, u51, u52, u53, u54, u55, u56, u57, u58, u59, u60, u61, u62, u63, u64, u65, u66, u67, u68, u69, u70, u71, u72, u73, u74, u75, u76, u77, u78, u79, u80, u81, u82, u83, u84, u85, u86, u87, u88, u89, u90, u91, u92, u93, u94, u95, u96, u97, u98, u99, u100, u101, u102, u103, u104, u105, u106, u107, u108, u109, u110, u111, u112, u113, u114, u115, u116, u117, u118, u119, u120, u121, u122, u123, u124, u125, u126, u127, u128, u129, u130, u131, u132, u133, u134, u135, u136, u137, u138, u139, u140, u141, u142, u143, u144, u145, u146, u147, u148, u149, u150, u151, u152, u153, u154, u155, u156, u157, u158, u159, u160, u161, u162, u163, u164, u165, u166, u167, u168, u169, u170, u171, u172, u173, u174, u175, u176, u177, u178, u179, u180, u181, u182, u183, u184, u185, u186, u187, u188, u189, u190, u191, u192, u193, u194, u195, u196, u197, u198, u199, u200, u201, u202], []⟩ wo := by
  have hlt1 : (i : Int) < (s.length : Int) := by omega
  have hi : i ≤ s.length := by omega
  have hbz := hB.size
  have e4 : [60, 47, 62].isPrefixOf (s.drop i) = false := by
    cases h : [60, 47, 62].isPrefixOf (s.drop i) with
    | false => rfl
    | true => rw [pre_form h] at e2; cases e2
  have q1 := fun W => rat s [60, 33, 45, 45] i W (by omega) (by decide) (by decide) (by omega)
  rw [e1] at q1
  have Q1 := Lib.hid q1
  clear q1
  have q2 := fun W => rat s [60, 47] i W (by omega) (by decide) (by decide) (by omega)
  rw [e2] at q2
  have Q2 := Lib.hid q2
  clear q2
  have q4 := fun W => rat s [60, 47, 62] i W (by omega) (by decide) (by decide) (by omega)
  rw [e4] at q4
  have Q4 := Lib.hid q4
  clear q4
  have q5 := fun W => rat s [60, 33] i W (by omega) (by decide) (by decide) (by omega)
  rw [e5] at q5
  have Q5 := Lib.hid q5
  clear q5
  have hD := leafD (c := 33) e1 (by decide) e5 (fun h => by cases h) (fun h => by cases h)
  obtain ⟨hi2, hrun⟩ := hD
  have hcl := cutI_le (p := [62]) (s := s) (i := i + 2) (by omega)
  have QF := Lib.hid (fun W => rFindz s [62] (i + 2) ((i : Int) + 2) W (by omega) (by omega) (by decide) (by decide) (by omega))
  have qc := fun W => rcut s [62] (i + 2) ((i : Int) + 2) (findI [62] s (i + 2)) 1 W (by omega) rfl rfl (by omega) (by decide) (by omega)
  unfold tup2 at qc
  have QC := Lib.hid qc
  clear qc
  generalize findI [62] s (i + 2) = fi at *
  generalize hV : (cutI [62] s (i + 2)).1 = V at *
  generalize hJ : (cutI [62] s (i + 2)).2 = J at *
  have zV := T.bytes_size V
  clear hV hJ
  have h71 : (7 : Int) ≤ (V.length : Int) := by omega
  have hx7 := T.slice_str V 0 7 (by omega) h7
  rw [List.drop_zero] at hx7
  have QL := Lib.hid (fun W => refLowerA (V.take 7) W (by rw [List.length_take]; omega))
  have hrun : M.run [] (s.drop i) = (if M.lower (V.take 7) == [100, 111, 99, 116, 121, 112, 101] then .txt 5 (M.trim (V.drop 7)) else .txt 4 V) :: M.run [] (s.drop J) := by
    rw [decide_eq_true h7] at hrun; exact hrun
  have hx8 := T.slice_str V 7 V.length h7 (Nat.le_refl _)
  rw [List.take_of_length_le (by rw [List.length_drop]; omega)] at hx8
  have QT := Lib.hid (fun W => refTrimL (V.drop 7) W (by rw [List.length_drop]; omega))
  generalize V.take 7 = V7 at *
  generalize V.drop 7 = V8 at *
  generalize M.lower V7 = LW at *
  generalize M.trim V8 = TR at *
  rw [hlw, if_pos rfl] at hrun
  have zT := T.bytes_size TR
  have HRU := Lib.hid hrun
  clear hrun e1 e2 e4 e5
  conv => arg 2; whnf
  go_wp2_with fail
  refine (Q1.out _).mono ?_
  rintro e w' ⟨rfl, rfl⟩
  go_wp2_with fail
  refine (Q2.out _).mono ?_
  rintro e w' ⟨rfl, rfl⟩
  go_wp2_with fail
  refine (Q4.out _).mono ?_
  rintro e w' ⟨rfl, rfl⟩
  go_wp2_with fail
  refine (Q2.out _).mono ?_
  rintro e w' ⟨rfl, rfl⟩
  go_wp2_with fail
  refine (Q5.out _).mono ?_
  rintro e w' ⟨rfl, rfl⟩
  go_wp2_with fail
  refine (QF.out _).mono ?_
  rintro e w' ⟨rfl, rfl⟩
  go_wp2_with fail
  refine (QC.out _).mono ?_
  rintro e w' ⟨rfl, rfl⟩
  go_wp2_with fail
  refine (Q5.out _).mono ?_
  rintro e w' ⟨rfl, rfl⟩
  go_wp2_with fail
  refine (QL.out _).mono ?_
  rintro e w2 ⟨rfl, b2⟩
  have hB2 := hB.trans (b2.mono hbz)
  have HO2 := Lib.hid (own_below b2 HO.out)
  have HA2 := Lib.hid (fun p hp => own_below b2 (HA.out p hp))
  have hz2 := hB2.size
  clear b2
  go_wp2_with fail
  refine (QT.out _).mono ?_
  rintro e w' ⟨rfl, rfl⟩
  go_wp2_with (at_builtin; refine wpList_append_rtok w2 rfl _ _ rfl w.heap.size u4 L _ _ _ _ _ rfl rfl HO2.out rfl rfl rfl rfl rfl (by omega) (by omega) ?_)
  intro v5 w5 hown hgr
  have HR5 := Lib.hid (rsnoc (s0 := 0) (t := .txt 5 TR) hB2 HO2.out HA2.out (no_rattrs _ _) hown hgr)
  clear hown hgr
  go_wp2_with fail
  have HN := rt_next (r := [.txt 5 TR]) (L' := L ++ [(.txt 5 TR, .slice none 0 0)]) (j := J) (u := v5) (w := w) (w5 := w5) HH HRU.out (by simp)
  have hrel : RtRel s TS w _ (.int .i64 ((J : Nat) : Int)) _ := ⟨J, _, rfl, by omega, by first | omega | (simp; omega), HR5.out.1, Lib.hid HR5.out.2.1, Lib.hid HR5.out.2.2, HN⟩
  have hmu : s.length - (intOf (.int .i64 ((J : Nat) : Int))).toNat < s.length - i := by simp [intOf]; omega
  first
    | (unfold RtN; (repeat apply Exists.intro); exact ⟨hrel, hmu, rfl⟩)
    | (refine hN _ _ ?_; unfold RtN; (repeat apply Exists.intro); exact ⟨hrel, hmu, rfl⟩)
set_option maxHeartbeats 8000000 in
set_option maxRecDepth 1000000 in
theorem rt_D33c (s : List UInt8) (TS : List M.Tok) (w wo : World) (i : Nat) (L : List (M.Tok × Value)) (Q : Exit → Act → World → Prop) (u0 u1 u2 u4 u6 u7 u8 u9 u10 u11 u12 u13 u14 u15 u16 u17 u18 u19 u20 u21 u22 u23 u24 u25 u26 u27 u28 u29 u30 u31 u32 u33 u34 u35 u36 u37 u38 u39 u40 u41 u42 u43 u44 u45 u46 u47 u48 u49 u50 u51 u52 u53 u54 u55 u56 u57 u58 u59 u60 u61 u62 u63 u64 u65 u66 u67 u68 u69 u70 u71 u72 u73 u74 u75 u76 u77 u78 u79 u80 u81 u82 u83 u84 u85 u86 u87 u88 u89 u90 u91 u92 u93 u94 u95 u96 u97 u98 u99 u100 u101 u102 u103 u104 u105 u106 u107 u108 u109 u110 u111 u112 u113 u114 u115 u116 u117 u118 u119 u120 u121 u122 u123 u124 u125 u126 u127 u128 u129 u130 u131 u132 u133 u134 u135 u136 u137 u138 u139 u140 u141 u142 u143 u144 u145 u146 u147 u148 u149 u150 u151 u152 u153 u154 u155 u156 u157 u158 u159 u160 u161 u162 u163 u164 u165 u166 u167 u168 u169 u170 u171 u172 u173 u174 u175 u176 u177 u178 u179 u180 u181 u182 u183 u184 u185 u186 u187 u188 u189 u190 u191 u192 u193 u194 u195 u196 u197 u198 u199 u200 u201 u202 : Value) (hsl : s.length ≤ 20000) (hlt : i < s.length) (hLi : L.length ≤ i) (hB : Below w.heap.size w wo)
    (HO : Hid (wo.ownsRow w.heap.size 33 5 u4 L.length (tcells L))) (HA : Hid (∀ p ∈ L, HasRAttrs w.heap.size p.2 p.1.attrs wo)) (HH : Hid (L.map (·.1) ++ M.run [] (s.drop i) = TS))
    (e1 : [60, 33, 45, 45].isPrefixOf (s.drop i) = false) (e2 : [60, 47].isPrefixOf (s.drop i) = false) (e5 : [60, 33].isPrefixOf (s.drop i) = true) (h7 : 7 ≤ (cutI [62] s (i + 2)).1.length) (hlw : (M.lower ((cutI [62] s (i + 2)).1.take 7) == [100, 111, 99, 116, 121, 112, 101]) = false)
    (hN : ∀ a' w', RtN s TS w i u0 u1 u16 u17 u18 u202 a' w' → Q .normal a' w') (hR : ∀ a' w', RtR s TS w u0 u1 u16 u17 u18 u202 a' w' → Q .ret a' w') :
    Code.wp Tryz.prog ((Tryz.f12.body.bind firstLoop).getD .skip) Q ⟨#[u0, u1, u2, (.string ⟨s.toArray⟩), u4, (.int .i64 i), u6, u7, u8, u9, u10, u11, u12, u13, u14, u15, u16, u17, u18, u19, u20, u21, u22, u23, u24, u25, u26, u27, u28, u29, u30, u31, u32, u33, u34, u35, u36, u37, u38, u39, u40, u41, u42, u43, u44, u45, u46, u47, u48, u49, u50, u51, u52, u53, u54, u55, u56, u57, u58, u59, u60, u61, u62, u63, u64, u65, u66, u67, u68, u69, u70, u71, u72, u73, u74, u75, u76, u77, u78, u79, u80, u81, u82, u83, u84, u85, u86, u87, u88, u89, u90, u91, u92, u93, u94, u95, u96, u97, u98, u99, u100, u101, u102, u103, u104, u105, u106, u107, u108, u109, u110, u111, u112, u113, u114, u115, u116, u117, u118, u119, u120, u121, u122, u123, u124, u125, u126, u127, u128, u129, u130, u131, u132, u133, u134, u135, u136, u137, u138, u139, u140, u141, u142, u143, u144, u145, u146, u147, u148, u149, u150, u151, u152, u153, u154, u155, u156, u157, u158, u159, u160, u161, u162, u163, u164, u165, u166, u167, u168, u169, u170, u171, u172, u173, u174, u175, u176, u177, u178, u179, u180, u181, u182, u183, u184, u185, u186, u187, u188, u189, u190, u191, u192, u193, u194, u195, u196, u197, u198, u199, u200, u201, u202], []⟩ wo := by
  have hlt1 : (i : Int) < (s.length : Int) := by omega
  have hi : i ≤ s.length := by omega
  have hbz := hB.size
  have e4 : [60, 47, 62].isPrefixOf (s.drop i) = false := by
    cases h : [60, 47, 62].isPrefixOf (s.drop i) with
    | false => rfl
    | true => rw [pre_form h] at e2; cases e2
  have q1 := fun W => rat s [60, 33, 45, 45] i W (by omega) (by decide) (by decide) (by omega)
  rw [e1] at q1
  have Q1 := Lib.hid q1
  clear q1
  have q2 := fun W => rat s [60, 47] i W (by omega) (by decide) (by decide) (by omega)
  rw [e2] at q2
  have Q2 := Lib.hid q2
  clear q2
  have q4 := fun W => rat s [60, 47, 62] i W (by omega) (by decide) (by decide) (by omega)
  rw [e4] at q4
  have Q4 := Lib.hid q4
  clear q4
  have q5 := fun W => rat s [60, 33] i W (by omega) (by decide) (by decide) (by omega)
  rw [e5] at q5
  have Q5 := Lib.hid q5
  clear q5
  have hD := leafD (c := 33) e1 (by decide) e5 (fun h => by cases h) (fun h => by cases h)
  obtain ⟨hi2, hrun⟩ := hD
  have hcl := cutI_le (p := [62]) (s := s) (i := i + 2) (by omega)
  have QF := Lib.hid (fun W => rFindz s [62] (i + 2) ((i : Int) + 2) W (by omega) (by omega) (by decide) (by decide) (by omega))
  have qc := fun W => rcut s [62] (i + 2) ((i : Int) + 2) (findI [62] s (i + 2)) 1 W (by omega) rfl rfl (by omega) (by decide) (by omega)
  unfold tup2 at qc
  have QC := Lib.hid qc
  clear qc
  generalize findI [62] s (i + 2) = fi at *
  generalize hV : (cutI [62] s (i + 2)).1 = V at *
  generalize hJ : (cutI [62] s (i + 2)).2 = J at *
  have zV := T.bytes_size V
  clear hV hJ
  have h71 : (7 : Int) ≤ (V.length : Int) := by omega
  have hx7 := T.slice_str V 0 7 (by omega) h7
  rw [List.drop_zero] at hx7
  have QL := Lib.hid (fun W => refLowerA (V.take 7) W (by rw [List.length_take]; omega))
  have hrun : M.run [] (s.drop i) = (if M.lower (V.take 7) == [100, 111, 99, 116, 121, 112, 101] then .txt 5 (M.trim (V.drop 7)) else .txt 4 V) :: M.run [] (s.drop J) := by
    rw [decide_eq_true h7] at hrun; exact hrun
  have hx8 := T.slice_str V 7 V.length h7 (Nat.le_refl _)
  rw [List.take_of_length_le (by rw [List.length_drop]; omega)] at hx8
  have QT := Lib.hid (fun W => refTrimL (V.drop 7) W (by rw [List.length_drop]; omega))
  generalize V.take 7 = V7 at *
  generalize V.drop 7 = V8 at *
  generalize M.lower V7 = LW at *
  generalize M.trim V8 = TR at *
  rw [hlw, if_neg (by simp)] at hrun
  have HRU := Lib.hid hrun
  clear hrun e1 e2 e4 e5
  conv => arg 2; whnf
  go_wp2_with fail
  refine (Q1.out _).mono ?_
  rintro e w' ⟨rfl, rfl⟩
  go_wp2_with fail
  refine (Q2.out _).mono ?_
  rintro e w' ⟨rfl, rfl⟩
  go_wp2_with fail
  refine (Q4.out _).mono ?_
  rintro e w' ⟨rfl, rfl⟩
  go_wp2_with fail
  refine (Q2.out _).mono ?_
  rintro e w' ⟨rfl, rfl⟩
  go_wp2_with fail
  refine (Q5.out _).mono ?_
  rintro e w' ⟨rfl, rfl⟩
  go_wp2_with fail
  refine (QF.out _).mono ?_
  rintro e w' ⟨rfl, rfl⟩
  go_wp2_with fail
  refine (QC.out _).mono ?_
  rintro e w' ⟨rfl, rfl⟩
  go_wp2_with fail
  refine (Q5.out _).mono ?_
  rintro e w' ⟨rfl, rfl⟩
  go_wp2_with fail
  refine (QL.out _).mono ?_
  rintro e w2 ⟨rfl, b2⟩
  have hB2 := hB.trans (b2.mono hbz)
  have HO2 := Lib.hid (own_below b2 HO.out)
  have HA2 := Lib.hid (fun p hp => own_below b2 (HA.out p hp))
  have hz2 := hB2.size
  clear b2
  go_wp2_with (at_builtin; refine wpList_append_rtok w2 rfl _ _ rfl w.heap.size u4 L _ _ _ _ _ rfl rfl HO2.out rfl rfl rfl rfl rfl (by omega) (by omega) ?_)
  intro v5 w5 hown hgr
  have HR5 := Lib.hid (rsnoc (s0 := 0) (t := .txt 4 V) hB2 HO2.out HA2.out (no_rattrs _ _) hown hgr)
  clear hown hgr
  go_wp2_with fail
  have HN := rt_next (r := [.txt 4 V]) (L' := L ++ [(.txt 4 V, .slice none 0 0)]) (j := J) (u := v5) (w := w) (w5 := w5) HH HRU.out (by simp)
  have hrel : RtRel s TS w _ (.int .i64 ((J : Nat) : Int)) _ := ⟨J, _, rfl, by omega, by first | omega | (simp; omega), HR5.out.1, Lib.hid HR5.out.2.1, Lib.hid HR5.out.2.2, HN⟩
  have hmu : s.length - (intOf (.int .i64 ((J : Nat) : Int))).toNat < s.length - i := by simp [intOf]; omega
  first
    | (unfold RtN; (repeat apply Exists.intro); exact ⟨hrel, hmu, rfl⟩)
    | (refine hN _ _ ?_; unfold RtN; (repeat apply Exists.intro); exact ⟨hrel, hmu, rfl⟩)
set_option maxHeartbeats 8000000 in
set_option maxRecDepth 1000000 in
theorem rt_En (s : List UInt8) (TS : List M.Tok) (w wo : World) (i : Nat) (L : List (M.Tok × Value)) (Q : Exit → Act → World → Prop) (u0 u1 u2 u4 u6 u7 u8 u9 u10 u11 u12 u13 u14 u15 u16 u17 u18 u19 u20 u21 u22 u23 u24 u25 u26 u27 u28 u29 u30 u31 u32 u33 u34 u35 u36 u37 u38 u39 u40 u41 u42 u43 u44 u45 u46 u47 u48 u49 u50 u51 u52 u53 u54 u55 u56 u57 u58 u59 u60 u61 u62 u63 u64 u65 u66 u67 u68 u69 u70 u71 u72 u73 u74 u75 u76 u77 u78 u79 u80 u81 u82 u83 u84 u85 u86 u87 u88 u89 u90 u91 u92 u93 u94 u95 u96 u97 u98 u99 u100 u101 u102 u103 u104 u105 u106 u107 u108 u109 u110 u111 u112 u113 u114 u115 u116 u117 u118 u119 u120 u121 u122 u123 u124 u125 u126 u127 u128 u129 u130 u131 u132 u133 u134 u135 u136 u137 u138 u139 u140 u141 u142 u143 u144 u145 u146 u147 u148 u149 u150 u151 u152 u153 u154 u155 u156 u157 u158 u159 u160 u161 u162 u163 u164 u165 u166 u167 u168 u169 u170 u171 u172 u173 u174 u175 u176 u177 u178 u179 u180 u181 u182 u183 u184 u185 u186 u187 u188 u189 u190 u191 u192 u193 u194 u195 u196 u197 u198 u199 u200 u201 u202 : Value) (hsl : s.length ≤ 20000) (hlt : i < s.length) (hLi : L.length ≤ i) (hB : Below w.heap.size w wo)
    (HO : Hid (wo.ownsRow w.heap.size 33 5 u4 L.length (tcells L))) (HA : Hid (∀ p ∈ L, HasRAttrs w.heap.size p.2 p.1.attrs wo)) (HH : Hid (L.map (·.1) ++ M.run [] (s.drop i) = TS))
    (e1 : [60, 33, 45, 45].isPrefixOf (s.drop i) = false) (e2 : [60, 47].isPrefixOf (s.drop i) = false) (e5 : [60, 33].isPrefixOf (s.drop i) = false) (e6 : [60, 63].isPrefixOf (s.drop i) = false) (e7 : [60].isPrefixOf (s.drop i) = true) (e8 : M.letter (s.getD (i + 1) 0) = true) (hst : M.start (s.drop (i + 1)) = none)
    (hN : ∀ a' w', RtN s TS w i u0 u1 u16 u17 u18 u202 a' w' → Q .normal a' w') (hR : ∀ a' w', RtR s TS w u0 u1 u16 u17 u18 u202 a' w' → Q .ret a' w') :
    Code.wp Tryz.prog ((Tryz.f12.body.bind firstLoop).getD .skip) Q ⟨#[u0, u1, u2, (.string ⟨s.toArray⟩), u4, (.int .i64 i), u6, u7, u8, u9, u10, u11, u12, u13, u14, u15, u16, u17, u18, u19, u20, u21, u22, u23, u24, u25, u26, u27, u28, u29, u30, u31, u32, u33, u34, u35, u36, u37, u38, u39, u40, u41, u42, u43, u44, u45, u46, u47, u48, u49, u50, u51, u52, u53, u54, u55, u56, u57, u58, u59, u60, u61, u62, u63, u64, u65, u66, u67, u68, u69, u70, u71, u72, u73, u74, u75, u76, u77, u78, u79, u80, u81, u82, u83, u84, u85, u86, u87, u88, u89, u90, u91, u92, u93, u94, u95, u96, u97, u98, u99, u100, u101, u102, u103, u104, u105, u106, u107, u108, u109, u110, u111, u112, u113, u114, u115, u116, u117, u118, u119, u120, u121, u122, u123, u124, u125, u126, u127, u128, u129, u130, u131, u132, u133, u134, u135, u136, u137, u138, u139, u140, u141, u142, u143, u144, u145, u146, u147, u148, u149, u150, u151, u152, u153, u154, u155, u156, u157, u158, u159, u160, u161, u162, u163, u164, u165, u166, u167, u168, u169, u170, u171, u172, u173, u174, u175, u176, u177, u178, u179, u180, u181, u182, u183, u184, u185, u186, u187, u188, u189, u190, u191, u192, u193, u194, u195, u196, u197, u198, u199, u200, u201, u202], []⟩ wo := by
  have hlt1 : (i : Int) < (s.length : Int) := by omega
  have hi : i ≤ s.length := by omega
  have hbz := hB.size
  have e4 : [60, 47, 62].isPrefixOf (s.drop i) = false := by
    cases h : [60, 47, 62].isPrefixOf (s.drop i) with
    | false => rfl
    | true => rw [pre_form h] at e2; cases e2
  have q1 := fun W => rat s [60, 33, 45, 45] i W (by omega) (by decide) (by decide) (by omega)
  rw [e1] at q1
  have Q1 := Lib.hid q1
  clear q1
  have q2 := fun W => rat s [60, 47] i W (by omega) (by decide) (by decide) (by omega)
  rw [e2] at q2
  have Q2 := Lib.hid q2
  clear q2
  have q4 := fun W => rat s [60, 47, 62] i W (by omega) (by decide) (by decide) (by omega)
  rw [e4] at q4
  have Q4 := Lib.hid q4
  clear q4
  have q5 := fun W => rat s [60, 33] i W (by omega) (by decide) (by decide) (by omega)
  rw [e5] at q5
  have Q5 := Lib.hid q5
  clear q5
  have q6 := fun W => rat s [60, 63] i W (by omega) (by decide) (by decide) (by omega)
  rw [e6] at q6
  have Q6 := Lib.hid q6
  clear q6
  have q7 := fun W => rat s [60] i W (by omega) (by decide) (by decide) (by omega)
  rw [e7] at q7
  have Q7 := Lib.hid q7
  clear q7
  have q8 := fun W => rletter s (i + 1) ((i : Int) + 1) W (by omega) (by omega) (by omega)
  rw [e8] at q8
  have Q8 := Lib.hid q8
  clear q8
  obtain ⟨hi1, hE⟩ := leafE e7 e8
  have qs := fun W => rstart s (i + 1) ((i : Int) + 1) W (by omega) (by omega) (by omega)
  rw [hst] at qs hE
  have QS := Lib.hid qs
  have HV : Hid (L.map (·.1) = TS) := Lib.hid (by
    have h1 : M.run [] (s.drop i) = [] := hE
    rw [← HH.out, h1, List.append_nil])
  clear qs hst hE e1 e2 e4 e5 e6 e7 e8
  conv => arg 2; whnf
  go_wp2_with fail
  refine (Q1.out _).mono ?_
  rintro e w' ⟨rfl, rfl⟩
  go_wp2_with fail
  refine (Q2.out _).mono ?_
  rintro e w' ⟨rfl, rfl⟩
  go_wp2_with fail
  refine (Q4.out _).mono ?_
  rintro e w' ⟨rfl, rfl⟩
  go_wp2_with fail
  refine (Q2.out _).mono ?_
  rintro e w' ⟨rfl, rfl⟩
  go_wp2_with fail
  refine (Q5.out _).mono ?_
  rintro e w' ⟨rfl, rfl⟩
  go_wp2_with fail
  refine (Q6.out _).mono ?_
  rintro e w' ⟨rfl, rfl⟩
  go_wp2_with fail
  refine (Q7.out _).mono ?_
  rintro e w' ⟨rfl, rfl⟩
  go_wp2_with fail
  refine (Q8.out _).mono ?_
  rintro e w' ⟨rfl, rfl⟩
  go_wp2_with fail
  refine (QS.out _).mono ?_
  rintro e w2 ⟨b2, n', ao', m', cap', rfl⟩
  unfold stupV
  have hB2 := hB.trans (b2.mono hbz)
  have HO2 := Lib.hid (own_below b2 HO.out)
  have HA2 := Lib.hid (fun p hp => own_below b2 (HA.out p hp))
  have hz2 := hB2.size
  clear b2
  have hba : Below w2.heap.size w2 (w2.alloc (.cells #[.int .i64 1, .string ⟨n'.toArray⟩, .slice ao' m' cap', .bool false, .string ⟨#[]⟩] 33)) := (Below.refl _ _).alloc (Nat.le_refl _) _
  go_wp2_with fail
  have hpost := (show RTokPost TS w (.returned u4) (w2.alloc (.cells #[.int .i64 1, .string ⟨n'.toArray⟩, .slice ao' m' cap', .bool false, .string ⟨#[]⟩] 33)) from by rw [← HV.out]; exact ⟨_, rfl, ⟨L, rfl, own_below hba HO2.out, fun p hp => own_below hba (HA2.out p hp)⟩, hB2.trans (hba.mono hz2)⟩)
  first
    | (unfold RtR; (repeat apply Exists.intro); exact ⟨hpost, rfl⟩)
    | (refine hR _ _ ?_; unfold RtR; (repeat apply Exists.intro); exact ⟨hpost, rfl⟩)
set_option maxHeartbeats 8000000 in
set_option maxRecDepth 1000000 in
theorem rt_Eo (s : List UInt8) (TS : List M.Tok) (w wo : World) (i : Nat) (L : List (M.Tok × Value)) (Q : Exit → Act → World → Prop) (u0 u1 u2 u4 u6 u7 u8 u9 u10 u11 u12 u13 u14 u15 u16 u17 u18 u19 u20 u21 u22 u23 u24 u25 u26 u27 u28 u29 u30 u31 u32 u33 u34 u35 u36 u37 u38 u39 u40 u41 u42 u43 u44 u45 u46 u47 u48 u49 u50 u51 u52 u53 u54 u55 u56 u57 u58 u59 u60 u61 u62 u63 u64 u65 u66 u67 u68 u69 u70 u71 u72 u73 u74 u75 u76 u77 u78 u79 u80 u81 u82 u83 u84 u85 u86 u87 u88 u89 u90 u91 u92 u93 u94 u95 u96 u97 u98 u99 u100 u101 u102 u103 u104 u105 u106 u107 u108 u109 u110 u111 u112 u113 u114 u115 u116 u117 u118 u119 u120 u121 u122 u123 u124 u125 u126 u127 u128 u129 u130 u131 u132 u133 u134 u135 u136 u137 u138 u139 u140 u141 u142 u143 u144 u145 u146 u147 u148 u149 u150 u151 u152 u153 u154 u155 u156 u157 u158 u159 u160 u161 u162 u163 u164 u165 u166 u167 u168 u169 u170 u171 u172 u173 u174 u175 u176 u177 u178 u179 u180 u181 u182 u183 u184 u185 u186 u187 u188 u189 u190 u191 u192 u193 u194 u195 u196 u197 u198 u199 u200 u201 u202 : Value) (hsl : s.length ≤ 20000) (hlt : i < s.length) (hLi : L.length ≤ i) (hB : Below w.heap.size w wo)
    (HO : Hid (wo.ownsRow w.heap.size 33 5 u4 L.length (tcells L))) (HA : Hid (∀ p ∈ L, HasRAttrs w.heap.size p.2 p.1.attrs wo)) (HH : Hid (L.map (·.1) ++ M.run [] (s.drop i) = TS))
    (e1 : [60, 33, 45, 45].isPrefixOf (s.drop i) = false) (e2 : [60, 47].isPrefixOf (s.drop i) = false) (e5 : [60, 33].isPrefixOf (s.drop i) = false) (e6 : [60, 63].isPrefixOf (s.drop i) = false) (e7 : [60].isPrefixOf (s.drop i) = true) (e8 : M.letter (s.getD (i + 1) 0) = true) (kk : Nat) (nm : List UInt8) (ats : List (List UInt8 × List UInt8)) (cl : Bool) (tt u : List UInt8) (hst : M.start (s.drop (i + 1)) = some (⟨kk, nm, ats, cl, tt⟩, u)) (hraw : M.isRaw nm = false) (hpl : M.isPlain nm = false)
    (hN : ∀ a' w', RtN s TS w i u0 u1 u16 u17 u18 u202 a' w' → Q .normal a' w') (hR : ∀ a' w', RtR s TS w u0 u1 u16 u17 u18 u202 a' w' → Q .ret a' w') :
    Code.wp Tryz.prog ((Tryz.f12.body.bind firstLoop).getD .skip) Q ⟨#[u0, u1, u2, (.string ⟨s.toArray⟩), u4, (.int .i64 i), u6, u7, u8, u9, u10, u11, u12, u13, u14, u15, u16, u17, u18, u19, u20, u21, u22, u23, u24, u25, u26, u27, u28, u29, u30, u31, u32, u33, u34, u35, u36, u37, u38, u39, u40, u41, u42, u43, u44, u45, u46, u47, u48, u49, u50, u51, u52, u53, u54, u55, u56, u57, u58, u59, u60, u61, u62, u63, u64, u65, u66, u67, u68, u69, u70, u71, u72, u73, u74, u75, u76, u77, u78, u79, u80, u81, u82, u83, u84, u85, u86, u87, u88, u89, u90, u91, u92, u93, u94, u95, u96, u97, u98, u99, u100, u101, u102, u103, u104, u105, u106, u107, u108, u109, u110, u111, u112, u113, u114, u115, u116, u117, u118, u119, u120, u121, u122, u123, u124, u125, u126, u127, u128, u129, u130, u131, u132, u133, u134, u135, u136, u137, u138, u139, u140, u141, u142, u143, u144, u145, u146, u147, u148, u149, u150, u151, u152, u153, u154, u155, u156, u157, u158, u159, u160, u161, u162, u163, u164, u165, u166, u167, u168, u169, u170, u171, u172, u173, u174, u175, u176, u177, u178, u179, u180, u181, u182, u183, u184, u185, u186, u187, u188, u189, u190, u191, u192, u193, u194, u195, u196, u197, u198, u199, u200, u201, u202], []⟩ wo := by
  have hlt1 : (i : Int) < (s.length : Int) := by omega
  have hi : i ≤ s.length := by omega
  have hbz := hB.size
  have e4 : [60, 47, 62].isPrefixOf (s.drop i) = false := by
    cases h : [60, 47, 62].isPrefixOf (s.drop i) with
    | false => rfl
    | true => rw [pre_form h] at e2; cases e2
  have q1 := fun W => rat s [60, 33, 45, 45] i W (by omega) (by decide) (by decide) (by omega)
  rw [e1] at q1
  have Q1 := Lib.hid q1
  clear q1
  have q2 := fun W => rat s [60, 47] i W (by omega) (by decide) (by decide) (by omega)
  rw [e2] at q2
  have Q2 := Lib.hid q2
  clear q2
  have q4 := fun W => rat s [60, 47, 62] i W (by omega) (by decide) (by decide) (by omega)
  rw [e4] at q4
  have Q4 := Lib.hid q4
  clear q4
  have q5 := fun W => rat s [60, 33] i W (by omega) (by decide) (by decide) (by omega)
  rw [e5] at q5
  have Q5 := Lib.hid q5
  clear q5
  have q6 := fun W => rat s [60, 63] i W (by omega) (by decide) (by decide) (by omega)
  rw [e6] at q6
  have Q6 := Lib.hid q6
  clear q6
  have q7 := fun W => rat s [60] i W (by omega) (by decide) (by decide) (by omega)
  rw [e7] at q7
  have Q7 := Lib.hid q7
  clear q7
  have q8 := fun W => rletter s (i + 1) ((i : Int) + 1) W (by omega) (by omega) (by omega)
  rw [e8] at q8
  have Q8 := Lib.hid q8
  clear q8
  obtain ⟨hi1, hE⟩ := leafE e7 e8
  have qs := fun W => rstart s (i + 1) ((i : Int) + 1) W (by omega) (by omega) (by omega)
  rw [hst] at qs hE
  have QS := Lib.hid qs
  have hE : M.run [] (s.drop i) = ⟨kk, nm, ats, cl, tt⟩ :: M.run (if M.isRaw nm || M.isPlain nm then nm else []) u := hE
  have HEE := Lib.hid hE
  have QRA := Lib.hid (fun W => rRaw nm W)
  have QPL := Lib.hid (fun W => rPlain nm W)
  clear qs hst hE e1 e2 e4 e5 e6 e7 e8
  conv => arg 2; whnf
  go_wp2_with fail
  refine (Q1.out _).mono ?_
  rintro e w' ⟨rfl, rfl⟩
  go_wp2_with fail
  refine (Q2.out _).mono ?_
  rintro e w' ⟨rfl, rfl⟩
  go_wp2_with fail
  refine (Q4.out _).mono ?_
  rintro e w' ⟨rfl, rfl⟩
  go_wp2_with fail
  refine (Q2.out _).mono ?_
  rintro e w' ⟨rfl, rfl⟩
  go_wp2_with fail
  refine (Q5.out _).mono ?_
  rintro e w' ⟨rfl, rfl⟩
  go_wp2_with fail
  refine (Q6.out _).mono ?_
  rintro e w' ⟨rfl, rfl⟩
  go_wp2_with fail
  refine (Q7.out _).mono ?_
  rintro e w' ⟨rfl, rfl⟩
  go_wp2_with fail
  refine (Q8.out _).mono ?_
  rintro e w' ⟨rfl, rfl⟩
  go_wp2_with fail
  refine (QS.out _).mono ?_
  rintro e w2 ⟨b2, a, j, rfl, ha, hu, hj1, hj2⟩
  subst hu
  dsimp only at ha
  obtain ⟨ao, cap, ha', hao⟩ := own_slice ha
  subst ha'
  unfold stupV
  have HT2 : Hid (HasRAttrs w.heap.size (.slice ao ats.length cap) ats w2) := Lib.hid (own_mono ha hbz)
  clear ha hao QS
  have hB2 := hB.trans (b2.mono hbz)
  have HO2 := Lib.hid (own_below b2 HO.out)
  have HA2 := Lib.hid (fun p hp => own_below b2 (HA.out p hp))
  have hz2 := hB2.size
  clear b2
  go_upto_region 27 with fail
  refine code_gen ?_
  intro F hF
  have hBF : Below w2.heap.size w2 F := by rw [hF]; exact (Below.refl _ _).alloc (Nat.le_refl _) _
  have hFt : F.heap[w2.heap.size]? = some (.cells #[.int .i64 kk, .string ⟨nm.toArray⟩, .slice ao ats.length cap, .bool cl, .string ⟨tt.toArray⟩] 33 (0, 0)) := by rw [hF]; exact heap_alloc_new _ _
  have hB3 := hB2.trans (hBF.mono hz2)
  have HO3 := Lib.hid (own_below hBF HO2.out)
  have HA3 := Lib.hid (fun p hp => own_below hBF (HA2.out p hp))
  have HT3 := Lib.hid (own_below hBF HT2.out)
  have hz3 := hB3.size
  have hno : ∀ g, u4.ownBlock = some g → g < w2.heap.size := fun g hg => (HO2.out.lt g hg).2
  have HNO := Lib.hid hno
  obtain ⟨X, hX⟩ : ∃ X, X = w2.heap.size := ⟨_, rfl⟩
  rw [← hX] at hFt HNO ⊢
  clear hF hBF HO2 HA2 HT2 hB2 hz2 hno hX
  have HFT := Lib.hid hFt
  have hlX := lt_of_block hFt
  obtain ⟨hcx, hfx⟩ := cells_of hFt
  clear hFt
  go_wp2_with (at_builtin; refine wpList_append_rtok F rfl _ _ rfl w.heap.size u4 L _ _ _ _ _ rfl rfl HO3.out rfl rfl rfl rfl rfl (by omega) (by omega) ?_)
  intro v5 w5 hown hgr
  have HR5 := Lib.hid (rsnoc (s0 := 0) (t := ⟨kk, nm, ats, cl, tt⟩) hB3 HO3.out HA3.out HT3.out hown hgr)
  have hX5 : w5.heap[X]? = some (.cells #[.int .i64 kk, .string ⟨nm.toArray⟩, .slice ao ats.length cap, .bool cl, .string ⟨tt.toArray⟩] 33 (0, 0)) :=
    (hgr.block X (by simp; omega) (fun h => by have := HNO.out X h.symm; omega)).trans (((Below.refl F.heap.size F).alloc (Nat.le_refl _) _).block X hlX |>.trans HFT.out)
  have hz5 : w.heap.size ≤ w5.heap.size := HR5.out.1.size
  have hlX5 := lt_of_block hX5
  have HX5 := Lib.hid hX5
  clear hown hgr hcx hfx HO3 HA3 HT3 HFT
  obtain ⟨hcx, hfx⟩ := cells_of hX5
  clear hX5
  have hrun := HEE.out
  rw [hraw] at QRA hrun
  rw [hpl] at QPL hrun
  simp only [Bool.or_self, Bool.false_eq_true, if_false] at hrun
  have HRU := Lib.hid hrun
  clear hrun hraw hpl HEE
  go_wp2_with fail
  refine (QRA.out _).mono ?_
  rintro e w' ⟨rfl, rfl⟩
  go_wp2_with fail
  refine (QPL.out _).mono ?_
  rintro e w' ⟨rfl, rfl⟩
  go_wp2_with fail
  have HN := rt_next (r := [⟨kk, nm, ats, cl, tt⟩]) (j := j) (u := v5) (w := w) (w5 := w5) (L' := (L ++ [((⟨kk, nm, ats, cl, tt⟩ : M.Tok), (.slice ao ats.length cap : Value))])) HH HRU.out (by simp)
  have hrel : RtRel s TS w _ (.int .i64 ((j : Nat) : Int)) _ := ⟨j, _, rfl, by omega, by first | omega | (simp; omega), HR5.out.1, Lib.hid HR5.out.2.1, Lib.hid HR5.out.2.2, HN⟩
  have hmu : s.length - (intOf (.int .i64 ((j : Nat) : Int))).toNat < s.length - i := by simp [intOf]; omega
  first
    | (unfold RtN; (repeat apply Exists.intro); exact ⟨hrel, hmu, rfl⟩)
    | (refine hN _ _ ?_; unfold RtN; (repeat apply Exists.intro); exact ⟨hrel, hmu, rfl⟩)
set_option maxHeartbeats 8000000 in
set_option maxRecDepth 1000000 in
theorem rt_Er (s : List UInt8) (TS : List M.Tok) (w wo : World) (i : Nat) (L : List (M.Tok × Value)) (Q : Exit → Act → World → Prop) (u0 u1 u2 u4 u6 u7 u8 u9 u10 u11 u12 u13 u14 u15 u16 u17 u18 u19 u20 u21 u22 u23 u24 u25 u26 u27 u28 u29 u30 u31 u32 u33 u34 u35 u36 u37 u38 u39 u40 u41 u42 u43 u44 u45 u46 u47 u48 u49 u50 u51 u52 u53 u54 u55 u56 u57 u58 u59 u60 u61 u62 u63 u64 u65 u66 u67 u68 u69 u70 u71 u72 u73 u74 u75 u76 u77 u78 u79 u80 u81 u82 u83 u84 u85 u86 u87 u88 u89 u90 u91 u92 u93 u94 u95 u96 u97 u98 u99 u100 u101 u102 u103 u104 u105 u106 u107 u108 u109 u110 u111 u112 u113 u114 u115 u116 u117 u118 u119 u120 u121 u122 u123 u124 u125 u126 u127 u128 u129 u130 u131 u132 u133 u134 u135 u136 u137 u138 u139 u140 u141 u142 u143 u144 u145 u146 u147 u148 u149 u150 u151 u152 u153 u154 u155 u156 u157 u158 u159 u160 u161 u162 u163 u164 u165 u166 u167 u168 u169 u170 u171 u172 u173 u174 u175 u176 u177 u178 u179 u180 u181 u182 u183 u184 u185 u186 u187 u188 u189 u190 u191 u192 u193 u194 u195 u196 u197 u198 u199 u200 u201 u202 : Value) (hsl : s.length ≤ 20000) (hlt : i < s.length) (hLi : L.length ≤ i) (hB : Below w.heap.size w wo)
    (HO : Hid (wo.ownsRow w.heap.size 33 5 u4 L.length (tcells L))) (HA : Hid (∀ p ∈ L, HasRAttrs w.heap.size p.2 p.1.attrs wo)) (HH : Hid (L.map (·.1) ++ M.run [] (s.drop i) = TS))
    (e1 : [60, 33, 45, 45].isPrefixOf (s.drop i) = false) (e2 : [60, 47].isPrefixOf (s.drop i) = false) (e5 : [60, 33].isPrefixOf (s.drop i) = false) (e6 : [60, 63].isPrefixOf (s.drop i) = false) (e7 : [60].isPrefixOf (s.drop i) = true) (e8 : M.letter (s.getD (i + 1) 0) = true) (kk : Nat) (nm : List UInt8) (ats : List (List UInt8 × List UInt8)) (cl : Bool) (tt u : List UInt8) (hst : M.start (s.drop (i + 1)) = some (⟨kk, nm, ats, cl, tt⟩, u)) (hraw : M.isRaw nm = true) (hpl : M.isPlain nm = false)
    (hN : ∀ a' w', RtN s TS w i u0 u1 u16 u17 u18 u202 a' w' → Q .normal a' w') (hR : ∀ a' w', RtR s TS w u0 u1 u16 u17 u18 u202 a' w' → Q .ret a' w') :
    Code.wp Tryz.prog ((Tryz.f12.body.bind firstLoop).getD .skip) Q ⟨#[u0, u1, u2, (.string ⟨s.toArray⟩), u4, (.int .i64 i), u6, u7, u8, u9, u10, u11, u12, u13, u14, u15, u16, u17, u18, u19, u20, u21, u22, u23, u24, u25, u26, u27, u28, u29, u30, u31, u32, u33, u34, u35, u36, u37, u38, u39, u40, u41, u42, u43, u44, u45, u46, u47, u48, u49, u50, u51, u52, u53, u54, u55, u56, u57, u58, u59, u60, u61, u62, u63, u64, u65, u66, u67, u68, u69, u70, u71, u72, u73, u74, u75, u76, u77, u78, u79, u80, u81, u82, u83, u84, u85, u86, u87, u88, u89, u90, u91, u92, u93, u94, u95, u96, u97, u98, u99, u100, u101, u102, u103, u104, u105, u106, u107, u108, u109, u110, u111, u112, u113, u114, u115, u116, u117, u118, u119, u120, u121, u122, u123, u124, u125, u126, u127, u128, u129, u130, u131, u132, u133, u134, u135, u136, u137, u138, u139, u140, u141, u142, u143, u144, u145, u146, u147, u148, u149, u150, u151, u152, u153, u154, u155, u156, u157, u158, u159, u160, u161, u162, u163, u164, u165, u166, u167, u168, u169, u170, u171, u172, u173, u174, u175, u176, u177, u178, u179, u180, u181, u182, u183, u184, u185, u186, u187, u188, u189, u190, u191, u192, u193, u194, u195, u196, u197, u198, u199, u200, u201, u202], []⟩ wo := by
  have hlt1 : (i : Int) < (s.length : Int) := by omega
  have hi : i ≤ s.length := by omega
  have hbz := hB.size
  have e4 : [60, 47, 62].isPrefixOf (s.drop i) = false := by
    cases h : [60, 47, 62].isPrefixOf (s.drop i) with
    | false => rfl
    | true => rw [pre_form h] at e2; cases e2
  have q1 := fun W => rat s [60, 33, 45, 45] i W (by omega) (by decide) (by decide) (by omega)
  rw [e1] at q1
  have Q1 := Lib.hid q1
  clear q1
  have q2 := fun W => rat s [60, 47] i W (by omega) (by decide) (by decide) (by omega)
  rw [e2] at q2
  have Q2 := Lib.hid q2
  clear q2
  have q4 := fun W => rat s [60, 47, 62] i W (by omega) (by decide) (by decide) (by omega)
  rw [e4] at q4
  have Q4 := Lib.hid q4
  clear q4
  have q5 := fun W => rat s [60, 33] i W (by omega) (by decide) (by decide) (by omega)
  rw [e5] at q5
  have Q5 := Lib.hid q5
  clear q5
  have q6 := fun W => rat s [60, 63] i W (by omega) (by decide) (by decide) (by omega)
  rw [e6] at q6
  have Q6 := Lib.hid q6
  clear q6
  have q7 := fun W => rat s [60] i W (by omega) (by decide) (by decide) (by omega)
  rw [e7] at q7
  have Q7 := Lib.hid q7
  clear q7
  have q8 := fun W => rletter s (i + 1) ((i : Int) + 1) W (by omega) (by omega) (by omega)
  rw [e8] at q8
  have Q8 := Lib.hid q8
  clear q8
  obtain ⟨hi1, hE⟩ := leafE e7 e8
  have qs := fun W => rstart s (i + 1) ((i : Int) + 1) W (by omega) (by omega) (by omega)
  rw [hst] at qs hE
  have QS := Lib.hid qs
  have hE : M.run [] (s.drop i) = ⟨kk, nm, ats, cl, tt⟩ :: M.run (if M.isRaw nm || M.isPlain nm then nm else []) u := hE
  have HEE := Lib.hid hE
  have QRA := Lib.hid (fun W => rRaw nm W)
  have QPL := Lib.hid (fun W => rPlain nm W)
  clear qs hst hE e1 e2 e4 e5 e6 e7 e8
  conv => arg 2; whnf
  go_wp2_with fail
  refine (Q1.out _).mono ?_
  rintro e w' ⟨rfl, rfl⟩
  go_wp2_with fail
  refine (Q2.out _).mono ?_
  rintro e w' ⟨rfl, rfl⟩
  go_wp2_with fail
  refine (Q4.out _).mono ?_
  rintro e w' ⟨rfl, rfl⟩
  go_wp2_with fail
  refine (Q2.out _).mono ?_
  rintro e w' ⟨rfl, rfl⟩
  go_wp2_with fail
  refine (Q5.out _).mono ?_
  rintro e w' ⟨rfl, rfl⟩
  go_wp2_with fail
  refine (Q6.out _).mono ?_
  rintro e w' ⟨rfl, rfl⟩
  go_wp2_with fail
  refine (Q7.out _).mono ?_
  rintro e w' ⟨rfl, rfl⟩
  go_wp2_with fail
  refine (Q8.out _).mono ?_
  rintro e w' ⟨rfl, rfl⟩
  go_wp2_with fail
  refine (QS.out _).mono ?_
  rintro e w2 ⟨b2, a, j, rfl, ha, hu, hj1, hj2⟩
  subst hu
  dsimp only at ha
  obtain ⟨ao, cap, ha', hao⟩ := own_slice ha
  subst ha'
  unfold stupV
  have HT2 : Hid (HasRAttrs w.heap.size (.slice ao ats.length cap) ats w2) := Lib.hid (own_mono ha hbz)
  clear ha hao QS
  have hB2 := hB.trans (b2.mono hbz)
  have HO2 := Lib.hid (own_below b2 HO.out)
  have HA2 := Lib.hid (fun p hp => own_below b2 (HA.out p hp))
  have hz2 := hB2.size
  clear b2
  go_upto_region 27 with fail
  refine code_gen ?_
  intro F hF
  have hBF : Below w2.heap.size w2 F := by rw [hF]; exact (Below.refl _ _).alloc (Nat.le_refl _) _
  have hFt : F.heap[w2.heap.size]? = some (.cells #[.int .i64 kk, .string ⟨nm.toArray⟩, .slice ao ats.length cap, .bool cl, .string ⟨tt.toArray⟩] 33 (0, 0)) := by rw [hF]; exact heap_alloc_new _ _
  have hB3 := hB2.trans (hBF.mono hz2)
  have HO3 := Lib.hid (own_below hBF HO2.out)
  have HA3 := Lib.hid (fun p hp => own_below hBF (HA2.out p hp))
  have HT3 := Lib.hid (own_below hBF HT2.out)
  have hz3 := hB3.size
  have hno : ∀ g, u4.ownBlock = some g → g < w2.heap.size := fun g hg => (HO2.out.lt g hg).2
  have HNO := Lib.hid hno
  obtain ⟨X, hX⟩ : ∃ X, X = w2.heap.size := ⟨_, rfl⟩
  rw [← hX] at hFt HNO ⊢
  clear hF hBF HO2 HA2 HT2 hB2 hz2 hno hX
  have HFT := Lib.hid hFt
  have hlX := lt_of_block hFt
  obtain ⟨hcx, hfx⟩ := cells_of hFt
  clear hFt
  go_wp2_with (at_builtin; refine wpList_append_rtok F rfl _ _ rfl w.heap.size u4 L _ _ _ _ _ rfl rfl HO3.out rfl rfl rfl rfl rfl (by omega) (by omega) ?_)
  intro v5 w5 hown hgr
  have HR5 := Lib.hid (rsnoc (s0 := 0) (t := ⟨kk, nm, ats, cl, tt⟩) hB3 HO3.out HA3.out HT3.out hown hgr)
  have hX5 : w5.heap[X]? = some (.cells #[.int .i64 kk, .string ⟨nm.toArray⟩, .slice ao ats.length cap, .bool cl, .string ⟨tt.toArray⟩] 33 (0, 0)) :=
    (hgr.block X (by simp; omega) (fun h => by have := HNO.out X h.symm; omega)).trans (((Below.refl F.heap.size F).alloc (Nat.le_refl _) _).block X hlX |>.trans HFT.out)
  have hz5 : w.heap.size ≤ w5.heap.size := HR5.out.1.size
  have hlX5 := lt_of_block hX5
  have HX5 := Lib.hid hX5
  clear hown hgr hcx hfx HO3 HA3 HT3 HFT
  obtain ⟨hcx, hfx⟩ := cells_of hX5
  clear hX5
  have hml : nm.length ≤ 1000 := by
    unfold M.isRaw at hraw
    simp only [Bool.or_eq_true, beq_iff_eq] at hraw
    rcases hraw with rfl | rfl <;> decide
  have hR0 := leafR (s := s) (j := j) (Or.inl hraw)
  simp only [hpl, Bool.false_eq_true, if_false] at hR0
  have hrun := HEE.out
  rw [hraw] at QRA hrun
  rw [hpl] at QPL hrun
  simp only [Bool.true_or, if_true] at hrun
  rw [hR0] at hrun
  have hsl2 := shutI_le (tag := nm) hj1
  have QCL := Lib.hid (fun W => rclosing s nm j W (by omega) hml hj1)
  obtain ⟨EE, hEE⟩ : ∃ EE, shutI nm s j = EE := ⟨_, rfl⟩
  rw [hEE] at hsl2 QCL hrun
  obtain ⟨hs1, hs2⟩ := hsl2
  have hxs := T.slice_str s j EE hs1 hs2
  have htl : ((s.drop j).take (EE - j)).length ≤ 20000 := by rw [List.length_take, List.length_drop]; omega
  generalize (s.drop j).take (EE - j) = TX at *
  have zT := T.bytes_size TX
  have hj3 : (j : Int) ≤ (EE : Int) := by omega
  have hj4 : (EE : Int) ≤ (s.length : Int) := by omega
  have HRX := Lib.hid hrun
  clear hR0 hEE hraw hpl HEE hrun
  go_wp2_with fail
  refine (QRA.out _).mono ?_
  rintro e w' ⟨rfl, rfl⟩
  go_wp2_with fail
  refine (QCL.out _).mono ?_
  rintro e w6 ⟨rfl, b6⟩
  have hX6 := (b6.block X hlX5).trans HX5.out
  clear hcx hfx
  obtain ⟨hcx, hfx⟩ := cells_of hX6
  have hB6 := HR5.out.1.trans (b6.mono hz5)
  have HO6 := Lib.hid (own_below b6 HR5.out.2.1)
  have HA6 := Lib.hid (fun p hp => own_below b6 (HR5.out.2.2 p hp))
  have hz6 := hB6.size
  clear b6 hX6
  go_wp2_with fail
  refine (QPL.out _).mono ?_
  rintro e w' ⟨rfl, rfl⟩
  clear hcx hfx
  by_cases hte : TX = []
  · have hrun := HRX.out
    rw [if_pos hte] at hrun
    have HRU := Lib.hid hrun
    clear hrun
    subst hte
    clear HRX
    go_wp2_with fail
    have HN := rt_next (u := v5) (w := w) (w5 := w6) (L' := (L ++ [((⟨kk, nm, ats, cl, tt⟩ : M.Tok), (.slice ao ats.length cap : Value))])) (r := [⟨kk, nm, ats, cl, tt⟩]) (j := EE) HH (by rw [HRU.out]; rfl) (by simp)
    have hrel : RtRel s TS w _ (.int .i64 ((EE : Nat) : Int)) _ := ⟨EE, _, rfl, by omega, by first | omega | (simp; omega), hB6, HO6, HA6, HN⟩
    have hmu : s.length - (intOf (.int .i64 ((EE : Nat) : Int))).toNat < s.length - i := by simp [intOf]; omega
    first
      | (unfold RtN; (repeat apply Exists.intro); exact ⟨hrel, hmu, rfl⟩)
      | (refine hN _ _ ?_; unfold RtN; (repeat apply Exists.intro); exact ⟨hrel, hmu, rfl⟩)
  · have hrun := HRX.out
    rw [if_neg hte] at hrun
    have HRU := Lib.hid hrun
    have hve := hte
    have hvi : TX.isEmpty = false := by cases hh : TX with | nil => exact absurd hh hve | cons _ _ => rfl
    clear hrun hte hve HRX
    have hll : (L ++ [((⟨kk, nm, ats, cl, tt⟩ : M.Tok), (.slice ao ats.length cap : Value))]).length ≤ 1000000 := by simp; omega
    go_wp2_with (at_builtin; refine wpList_append_rtok w6 rfl _ _ rfl w.heap.size v5 (L ++ [((⟨kk, nm, ats, cl, tt⟩ : M.Tok), (.slice ao ats.length cap : Value))]) _ _ _ _ _ rfl rfl HO6.out rfl rfl rfl rfl rfl hll (by omega) ?_)
    intro v8 w8 hown8 hgr8
    rw [show L.length + 1 + 1 = (L ++ [((⟨kk, nm, ats, cl, tt⟩ : M.Tok), (.slice ao ats.length cap : Value))]).length + 1 by simp] at hown8
    have HR8 := Lib.hid (rsnoc (s0 := 0) (t := .txt 3 TX) hB6 HO6.out HA6.out (no_rattrs _ _) hown8 hgr8)
    clear hown8 hgr8
    go_wp2_with fail
    have HN := rt_next (u := v8) (w := w) (w5 := w8) (L' := (L ++ [((⟨kk, nm, ats, cl, tt⟩ : M.Tok), (.slice ao ats.length cap : Value))]) ++ [(.txt 3 TX, .slice none 0 0)]) (r := [⟨kk, nm, ats, cl, tt⟩, .txt 3 TX]) (j := EE) HH (by rw [HRU.out]; rfl) (by simp)
    have hrel : RtRel s TS w _ (.int .i64 ((EE : Nat) : Int)) _ := ⟨EE, _, rfl, by omega, by first | omega | (simp; omega), HR8.out.1, Lib.hid HR8.out.2.1, Lib.hid HR8.out.2.2, HN⟩
    have hmu : s.length - (intOf (.int .i64 ((EE : Nat) : Int))).toNat < s.length - i := by simp [intOf]; omega
    first
      | (unfold RtN; (repeat apply Exists.intro); exact ⟨hrel, hmu, rfl⟩)
      | (refine hN _ _ ?_; unfold RtN; (repeat apply Exists.intro); exact ⟨hrel, hmu, rfl⟩)
set_option maxHeartbeats 8000000 in
set_option maxRecDepth 1000000 in
theorem rt_Ep (s : List UInt8) (TS : List M.Tok) (w wo : World) (i : Nat) (L : List (M.Tok × Value)) (Q : Exit → Act → World → Prop) (u0 u1 u2 u4 u6 u7 u8 u9 u10 u11 u12 u13 u14 u15 u16 u17 u18 u19 u20 u21 u22 u23 u24 u25 u26 u27 u28 u29 u30 u31 u32 u33 u34 u35 u36 u37 u38 u39 u40 u41 u42 u43 u44 u45 u46 u47 u48 u49 u50 u51 u52 u53 u54 u55 u56 u57 u58 u59 u60 u61 u62 u63 u64 u65 u66 u67 u68 u69 u70 u71 u72 u73 u74 u75 u76 u77 u78 u79 u80 u81 u82 u83 u84 u85 u86 u87 u88 u89 u90 u91 u92 u93 u94 u95 u96 u97 u98 u99 u100 u101 u102 u103 u104 u105 u106 u107 u108 u109 u110 u111 u112 u113 u114 u115 u116 u117 u118 u119 u120 u121 u122 u123 u124 u125 u126 u127 u128 u129 u130 u131 u132 u133 u134 u135 u136 u137 u138 u139 u140 u141 u142 u143 u144 u145 u146 u147 u148 u149 u150 u151 u152 u153 u154 u155 u156 u157 u158 u159 u160 u161 u162 u163 u164 u165 u166 u167 u168 u169 u170 u171 u172 u173 u174 u175 u176 u177 u178 u179 u180 u181 u182 u183 u184 u185 u186 u187 u188 u189 u190 u191 u192 u193 u194 u195 u196 u197 u198 u199 u200 u201 u202 : Value) (hsl : s.length ≤ 20000) (hlt : i < s.length) (hLi : L.length ≤ i) (hB : Below w.heap.size w wo)
    (HO : Hid (wo.ownsRow w.heap.size 33 5 u4 L.length (tcells L))) (HA : Hid (∀ p ∈ L, HasRAttrs w.heap.size p.2 p.1.attrs wo)) (HH : Hid (L.map (·.1) ++ M.run [] (s.drop i) = TS))
    (e1 : [60, 33, 45, 45].isPrefixOf (s.drop i) = false) (e2 : [60, 47].isPrefixOf (s.drop i) = false) (e5 : [60, 33].isPrefixOf (s.drop i) = false) (e6 : [60, 63].isPrefixOf (s.drop i) = false) (e7 : [60].isPrefixOf (s.drop i) = true) (e8 : M.letter (s.getD (i + 1) 0) = true) (kk : Nat) (nm : List UInt8) (ats : List (List UInt8 × List UInt8)) (cl : Bool) (tt u : List UInt8) (hst : M.start (s.drop (i + 1)) = some (⟨kk, nm, ats, cl, tt⟩, u)) (hraw : M.isRaw nm = false) (hpl : M.isPlain nm = true)
    (hN : ∀ a' w', RtN s TS w i u0 u1 u16 u17 u18 u202 a' w' → Q .normal a' w') (hR : ∀ a' w', RtR s TS w u0 u1 u16 u17 u18 u202 a' w' → Q .ret a' w') :
    Code.wp Tryz.prog ((Tryz.f12.body.bind firstLoop).getD .skip) Q ⟨#[u0, u1, u2, (.string ⟨s.toArray⟩), u4, (.int .i64 i), u6, u7, u8, u9, u10, u11, u12, u13, u14, u15, u16, u17, u18, u19, u20, u21, u22, u23, u24, u25, u26, u27, u28, u29, u30, u31, u32, u33, u34, u35, u36, u37, u38, u39, u40, u41, u42, u43, u44, u45, u46, u47, u48, u49, u50, u51, u52, u53, u54, u55, u56, u57, u58, u59, u60, u61, u62, u63, u64, u65, u66, u67, u68, u69, u70, u71, u72, u73, u74, u75, u76, u77, u78, u79, u80, u81, u82, u83, u84, u85, u86, u87, u88, u89, u90, u91, u92, u93, u94, u95, u96, u97, u98, u99, u100, u101, u102, u103, u104, u105, u106, u107, u108, u109, u110, u111, u112, u113, u114, u115, u116, u117, u118, u119, u120, u121, u122, u123, u124, u125, u126, u127, u128, u129, u130, u131, u132, u133, u134, u135, u136, u137, u138, u139, u140, u141, u142, u143, u144, u145, u146, u147, u148, u149, u150, u151, u152, u153, u154, u155, u156, u157, u158, u159, u160, u161, u162, u163, u164, u165, u166, u167, u168, u169, u170, u171, u172, u173, u174, u175, u176, u177, u178, u179, u180, u181, u182, u183, u184, u185, u186, u187, u188, u189, u190, u191, u192, u193, u194, u195, u196, u197, u198, u199, u200, u201, u202], []⟩ wo := by
  have hlt1 : (i : Int) < (s.length : Int) := by omega
  have hi : i ≤ s.length := by omega
  have hbz := hB.size
  have e4 : [60, 47, 62].isPrefixOf (s.drop i) = false := by
    cases h : [60, 47, 62].isPrefixOf (s.drop i) with
    | false => rfl
    | true => rw [pre_form h] at e2; cases e2
  have q1 := fun W => rat s [60, 33, 45, 45] i W (by omega) (by decide) (by decide) (by omega)
  rw [e1] at q1
  have Q1 := Lib.hid q1
  clear q1
  have q2 := fun W => rat s [60, 47] i W (by omega) (by decide) (by decide) (by omega)
  rw [e2] at q2
  have Q2 := Lib.hid q2
  clear q2
  have q4 := fun W => rat s [60, 47, 62] i W (by omega) (by decide) (by decide) (by omega)
  rw [e4] at q4
  have Q4 := Lib.hid q4
  clear q4
  have q5 := fun W => rat s [60, 33] i W (by omega) (by decide) (by decide) (by omega)
  rw [e5] at q5
  have Q5 := Lib.hid q5
  clear q5
  have q6 := fun W => rat s [60, 63] i W (by omega) (by decide) (by decide) (by omega)
  rw [e6] at q6
  have Q6 := Lib.hid q6
  clear q6
  have q7 := fun W => rat s [60] i W (by omega) (by decide) (by decide) (by omega)
  rw [e7] at q7
  have Q7 := Lib.hid q7
  clear q7
  have q8 := fun W => rletter s (i + 1) ((i : Int) + 1) W (by omega) (by omega) (by omega)
  rw [e8] at q8
  have Q8 := Lib.hid q8
  clear q8
  obtain ⟨hi1, hE⟩ := leafE e7 e8
  have qs := fun W => rstart s (i + 1) ((i : Int) + 1) W (by omega) (by omega) (by omega)
  rw [hst] at qs hE
  have QS := Lib.hid qs
  have hE : M.run [] (s.drop i) = ⟨kk, nm, ats, cl, tt⟩ :: M.run (if M.isRaw nm || M.isPlain nm then nm else []) u := hE
  have HEE := Lib.hid hE
  have QRA := Lib.hid (fun W => rRaw nm W)
  have QPL := Lib.hid (fun W => rPlain nm W)
  clear qs hst hE e1 e2 e4 e5 e6 e7 e8
  conv => arg 2; whnf
  go_wp2_with fail
  refine (Q1.out _).mono ?_
  rintro e w' ⟨rfl, rfl⟩
  go_wp2_with fail
  refine (Q2.out _).mono ?_
  rintro e w' ⟨rfl, rfl⟩
  go_wp2_with fail
  refine (Q4.out _).mono ?_
  rintro e w' ⟨rfl, rfl⟩
  go_wp2_with fail
  refine (Q2.out _).mono ?_
  rintro e w' ⟨rfl, rfl⟩
  go_wp2_with fail
  refine (Q5.out _).mono ?_
  rintro e w' ⟨rfl, rfl⟩
  go_wp2_with fail
  refine (Q6.out _).mono ?_
  rintro e w' ⟨rfl, rfl⟩
  go_wp2_with fail
  refine (Q7.out _).mono ?_
  rintro e w' ⟨rfl, rfl⟩
  go_wp2_with fail
  refine (Q8.out _).mono ?_
  rintro e w' ⟨rfl, rfl⟩
  go_wp2_with fail
  refine (QS.out _).mono ?_
  rintro e w2 ⟨b2, a, j, rfl, ha, hu, hj1, hj2⟩
  subst hu
  dsimp only at ha
  obtain ⟨ao, cap, ha', hao⟩ := own_slice ha
  subst ha'
  unfold stupV
  have HT2 : Hid (HasRAttrs w.heap.size (.slice ao ats.length cap) ats w2) := Lib.hid (own_mono ha hbz)
  clear ha hao QS
  have hB2 := hB.trans (b2.mono hbz)
  have HO2 := Lib.hid (own_below b2 HO.out)
  have HA2 := Lib.hid (fun p hp => own_below b2 (HA.out p hp))
  have hz2 := hB2.size
  clear b2
  go_upto_region 27 with fail
  refine code_gen ?_
  intro F hF
  have hBF : Below w2.heap.size w2 F := by rw [hF]; exact (Below.refl _ _).alloc (Nat.le_refl _) _
  have hFt : F.heap[w2.heap.size]? = some (.cells #[.int .i64 kk, .string ⟨nm.toArray⟩, .slice ao ats.length cap, .bool cl, .string ⟨tt.toArray⟩] 33 (0, 0)) := by rw [hF]; exact heap_alloc_new _ _
  have hB3 := hB2.trans (hBF.mono hz2)
  have HO3 := Lib.hid (own_below hBF HO2.out)
  have HA3 := Lib.hid (fun p hp => own_below hBF (HA2.out p hp))
  have HT3 := Lib.hid (own_below hBF HT2.out)
  have hz3 := hB3.size
  have hno : ∀ g, u4.ownBlock = some g → g < w2.heap.size := fun g hg => (HO2.out.lt g hg).2
  have HNO := Lib.hid hno
  obtain ⟨X, hX⟩ : ∃ X, X = w2.heap.size := ⟨_, rfl⟩
  rw [← hX] at hFt HNO ⊢
  clear hF hBF HO2 HA2 HT2 hB2 hz2 hno hX
  have HFT := Lib.hid hFt
  have hlX := lt_of_block hFt
  obtain ⟨hcx, hfx⟩ := cells_of hFt
  clear hFt
  go_wp2_with (at_builtin; refine wpList_append_rtok F rfl _ _ rfl w.heap.size u4 L _ _ _ _ _ rfl rfl HO3.out rfl rfl rfl rfl rfl (by omega) (by omega) ?_)
  intro v5 w5 hown hgr
  have HR5 := Lib.hid (rsnoc (s0 := 0) (t := ⟨kk, nm, ats, cl, tt⟩) hB3 HO3.out HA3.out HT3.out hown hgr)
  have hX5 : w5.heap[X]? = some (.cells #[.int .i64 kk, .string ⟨nm.toArray⟩, .slice ao ats.length cap, .bool cl, .string ⟨tt.toArray⟩] 33 (0, 0)) :=
    (hgr.block X (by simp; omega) (fun h => by have := HNO.out X h.symm; omega)).trans (((Below.refl F.heap.size F).alloc (Nat.le_refl _) _).block X hlX |>.trans HFT.out)
  have hz5 : w.heap.size ≤ w5.heap.size := HR5.out.1.size
  have hlX5 := lt_of_block hX5
  have HX5 := Lib.hid hX5
  clear hown hgr hcx hfx HO3 HA3 HT3 HFT
  obtain ⟨hcx, hfx⟩ := cells_of hX5
  clear hX5
  have hml : nm.length ≤ 1000 := by
    unfold M.isPlain at hpl
    simp only [Bool.or_eq_true, beq_iff_eq] at hpl
    rcases hpl with rfl | rfl <;> decide
  have hR0 := leafR (s := s) (j := j) (Or.inr hpl)
  simp only [hpl, if_true] at hR0
  have hrun := HEE.out
  rw [hraw] at QRA hrun
  rw [hpl] at QPL hrun
  simp only [Bool.false_or, if_true] at hrun
  rw [hR0] at hrun
  have hsl2 := shutI_le (tag := nm) hj1
  have QCL := Lib.hid (fun W => rclosing s nm j W (by omega) hml hj1)
  obtain ⟨EE, hEE⟩ : ∃ EE, shutI nm s j = EE := ⟨_, rfl⟩
  rw [hEE] at hsl2 QCL hrun
  obtain ⟨hs1, hs2⟩ := hsl2
  have hxs := T.slice_str s j EE hs1 hs2
  have htl : ((s.drop j).take (EE - j)).length ≤ 20000 := by rw [List.length_take, List.length_drop]; omega
  have QD := Lib.hid (fun W => refDecode ((s.drop j).take (EE - j)) W (by omega))
  generalize (s.drop j).take (EE - j) = TX at *
  have zT := T.bytes_size TX
  have hj3 : (j : Int) ≤ (EE : Int) := by omega
  have hj4 : (EE : Int) ≤ (s.length : Int) := by omega
  have HRX := Lib.hid hrun
  clear hR0 hEE hraw hpl HEE hrun
  have hdn : E.decode TX = [] ↔ TX = [] := ⟨fun h => Decidable.byContradiction fun h2 => M.decode_ne h2 h, fun h => by rw [h]; exact E.decode_nil⟩
  generalize E.decode TX = V at *
  have zV := T.bytes_size V
  have HDN := Lib.hid hdn
  clear hdn
  go_wp2_with fail
  refine (QRA.out _).mono ?_
  rintro e w' ⟨rfl, rfl⟩
  go_wp2_with fail
  refine (QPL.out _).mono ?_
  rintro e w' ⟨rfl, rfl⟩
  go_wp2_with fail
  refine (QCL.out _).mono ?_
  rintro e w6 ⟨rfl, b6⟩
  have hX6 := (b6.block X hlX5).trans HX5.out
  clear hcx hfx
  obtain ⟨hcx, hfx⟩ := cells_of hX6
  have hB6 := HR5.out.1.trans (b6.mono hz5)
  have HO6 := Lib.hid (own_below b6 HR5.out.2.1)
  have HA6 := Lib.hid (fun p hp => own_below b6 (HR5.out.2.2 p hp))
  have hz6 := hB6.size
  clear b6 hX6
  go_wp2_with fail
  refine (QPL.out _).mono ?_
  rintro e w' ⟨rfl, rfl⟩
  go_wp2_with fail
  refine (QD.out _).mono ?_
  rintro e w7 ⟨rfl, b7⟩
  have hB7 := hB6.trans (b7.mono hz6)
  have HO7 := Lib.hid (own_below b7 HO6.out)
  have HA7 := Lib.hid (fun p hp => own_below b7 (HA6.out p hp))
  have hz7 := hB7.size
  clear b7 HO6 HA6
  clear hcx hfx
  by_cases hte : TX = []
  · have hrun := HRX.out
    rw [if_pos hte] at hrun
    have HRU := Lib.hid hrun
    clear hrun
    obtain rfl : V = [] := HDN.out.2 hte
    subst hte
    clear HRX HDN
    go_wp2_with fail
    have HN := rt_next (u := v5) (w := w) (w5 := w7) (L' := (L ++ [((⟨kk, nm, ats, cl, tt⟩ : M.Tok), (.slice ao ats.length cap : Value))])) (r := [⟨kk, nm, ats, cl, tt⟩]) (j := EE) HH (by rw [HRU.out]; rfl) (by simp)
    have hrel : RtRel s TS w _ (.int .i64 ((EE : Nat) : Int)) _ := ⟨EE, _, rfl, by omega, by first | omega | (simp; omega), hB7, HO7, HA7, HN⟩
    have hmu : s.length - (intOf (.int .i64 ((EE : Nat) : Int))).toNat < s.length - i := by simp [intOf]; omega
    first
      | (unfold RtN; (repeat apply Exists.intro); exact ⟨hrel, hmu, rfl⟩)
      | (refine hN _ _ ?_; unfold RtN; (repeat apply Exists.intro); exact ⟨hrel, hmu, rfl⟩)
  · have hrun := HRX.out
    rw [if_neg hte] at hrun
    have HRU := Lib.hid hrun
    have hve : V ≠ [] := fun h => hte (HDN.out.1 h)
    have hvi : V.isEmpty = false := by cases hh : V with | nil => exact absurd hh hve | cons _ _ => rfl
    clear hrun hte hve HRX HDN
    have hll : (L ++ [((⟨kk, nm, ats, cl, tt⟩ : M.Tok), (.slice ao ats.length cap : Value))]).length ≤ 1000000 := by simp; omega
    go_wp2_with (at_builtin; refine wpList_append_rtok w7 rfl _ _ rfl w.heap.size v5 (L ++ [((⟨kk, nm, ats, cl, tt⟩ : M.Tok), (.slice ao ats.length cap : Value))]) _ _ _ _ _ rfl rfl HO7.out rfl rfl rfl rfl rfl hll (by omega) ?_)
    intro v8 w8 hown8 hgr8
    rw [show L.length + 1 + 1 = (L ++ [((⟨kk, nm, ats, cl, tt⟩ : M.Tok), (.slice ao ats.length cap : Value))]).length + 1 by simp] at hown8
    have HR8 := Lib.hid (rsnoc (s0 := 0) (t := .txt 3 V) hB7 HO7.out HA7.out (no_rattrs _ _) hown8 hgr8)
    clear hown8 hgr8
    go_wp2_with fail
    have HN := rt_next (u := v8) (w := w) (w5 := w8) (L' := (L ++ [((⟨kk, nm, ats, cl, tt⟩ : M.Tok), (.slice ao ats.length cap : Value))]) ++ [(.txt 3 V, .slice none 0 0)]) (r := [⟨kk, nm, ats, cl, tt⟩, .txt 3 V]) (j := EE) HH (by rw [HRU.out]; rfl) (by simp)
    have hrel : RtRel s TS w _ (.int .i64 ((EE : Nat) : Int)) _ := ⟨EE, _, rfl, by omega, by first | omega | (simp; omega), HR8.out.1, Lib.hid HR8.out.2.1, Lib.hid HR8.out.2.2, HN⟩
    have hmu : s.length - (intOf (.int .i64 ((EE : Nat) : Int))).toNat < s.length - i := by simp [intOf]; omega
    first
      | (unfold RtN; (repeat apply Exists.intro); exact ⟨hrel, hmu, rfl⟩)
      | (refine hN _ _ ?_; unfold RtN; (repeat apply Exists.intro); exact ⟨hrel, hmu, rfl⟩)
set_option maxHeartbeats 8000000 in
set_option maxRecDepth 1000000 in
theorem rt_F1 (s : List UInt8) (TS : List M.Tok) (w wo : World) (i : Nat) (L : List (M.Tok × Value)) (Q : Exit → Act → World → Prop) (u0 u1 u2 u4 u6 u7 u8 u9 u10 u11 u12 u13 u14 u15 u16 u17 u18 u19 u20 u21 u22 u23 u24 u25 u26 u27 u28 u29 u30 u31 u32 u33 u34 u35 u36 u37 u38 u39 u40 u41 u42 u43 u44 u45 u46 u47 u48 u49 u50 u51 u52 u53 u54 u55 u56 u57 u58 u59 u60 u61 u62 u63 u64 u65 u66 u67 u68 u69 u70 u71 u72 u73 u74 u75 u76 u77 u78 u79 u80 u81 u82 u83 u84 u85 u86 u87 u88 u89 u90 u91 u92 u93 u94 u95 u96 u97 u98 u99 u100 u101 u102 u103 u104 u105 u106 u107 u108 u109 u110 u111 u112 u113 u114 u115 u116 u117 u118 u119 u120 u121 u122 u123 u124 u125 u126 u127 u128 u129 u130 u131 u132 u133 u134 u135 u136 u137 u138 u139 u140 u141 u142 u143 u144 u145 u146 u147 u148 u149 u150 u151 u152 u153 u154 u155 u156 u157 u158 u159 u160 u161 u162 u163 u164 u165 u166 u167 u168 u169 u170 u171 u172 u173 u174 u175 u176 u177 u178 u179 u180 u181 u182 u183 u184 u185 u186 u187 u188 u189 u190 u191 u192 u193 u194 u195 u196 u197 u198 u199 u200 u201 u202 : Value) (hsl : s.length ≤ 20000) (hlt : i < s.length) (hLi : L.length ≤ i) (hB : Below w.heap.size w wo)
    (HO : Hid (wo.ownsRow w.heap.size 33 5 u4 L.length (tcells L))) (HA : Hid (∀ p ∈ L, HasRAttrs w.heap.size p.2 p.1.attrs wo)) (HH : Hid (L.map (·.1) ++ M.run [] (s.drop i) = TS))
    (e1 : [60, 33, 45, 45].isPrefixOf (s.drop i) = false) (e2 : [60, 47].isPrefixOf (s.drop i) = false) (e5 : [60, 33].isPrefixOf (s.drop i) = false) (e6 : [60, 63].isPrefixOf (s.drop i) = false) (e7 : [60].isPrefixOf (s.drop i) = false)
    (hN : ∀ a' w', RtN s TS w i u0 u1 u16 u17 u18 u202 a' w' → Q .normal a' w') (hR : ∀ a' w', RtR s TS w u0 u1 u16 u17 u18 u202 a' w' → Q .ret a' w') :
    Code.wp Tryz.prog ((Tryz.f12.body.bind firstLoop).getD .skip) Q ⟨#[u0, u1, u2, (.string ⟨s.toArray⟩), u4, (.int .i64 i), u6, u7, u8, u9, u10, u11, u12, u13, u14, u15, u16, u17, u18, u19, u20, u21, u22, u23, u24, u25, u26, u27, u28, u29, u30, u31, u32, u33, u34, u35, u36, u37, u38, u39, u40, u41, u42, u43, u44, u45, u46, u47, u48, u49, u50, u51, u52, u53, u54, u55, u56, u57, u58, u59, u60, u61, u62, u63, u64, u65, u66, u67, u68, u69, u70, u71, u72, u73, u74, u75, u76, u77, u78, u79, u80, u81, u82, u83, u84, u85, u86, u87, u88, u89, u90, u91, u92, u93, u94, u95, u96, u97, u98, u99, u100, u101, u102, u103, u104, u105, u106, u107, u108, u109, u110, u111, u112, u113, u114, u115, u116, u117, u118, u119, u120, u121, u122, u123, u124, u125, u126, u127, u128, u129, u130, u131, u132, u133, u134, u135, u136, u137, u138, u139, u140, u141, u142, u143, u144, u145, u146, u147, u148, u149, u150, u151, u152, u153, u154, u155, u156, u157, u158, u159, u160, u161, u162, u163, u164, u165, u166, u167, u168, u169, u170, u171, u172, u173, u174, u175, u176, u177, u178, u179, u180, u181, u182, u183, u184, u185, u186, u187, u188, u189, u190, u191, u192, u193, u194, u195, u196, u197, u198, u199, u200, u201, u202], []⟩ wo := by
  have hlt1 : (i : Int) < (s.length : Int) := by omega
  have hi : i ≤ s.length := by omega
  have hbz := hB.size
  have e4 : [60, 47, 62].isPrefixOf (s.drop i) = false := by
    cases h : [60, 47, 62].isPrefixOf (s.drop i) with
    | false => rfl
    | true => rw [pre_form h] at e2; cases e2
  have q1 := fun W => rat s [60, 33, 45, 45] i W (by omega) (by decide) (by decide) (by omega)
  rw [e1] at q1
  have Q1 := Lib.hid q1
  clear q1
  have q2 := fun W => rat s [60, 47] i W (by omega) (by decide) (by decide) (by omega)
  rw [e2] at q2
  have Q2 := Lib.hid q2
  clear q2
  have q4 := fun W => rat s [60, 47, 62] i W (by omega) (by decide) (by decide) (by omega)
  rw [e4] at q4
  have Q4 := Lib.hid q4
  clear q4
  have q5 := fun W => rat s [60, 33] i W (by omega) (by decide) (by decide) (by omega)
  rw [e5] at q5
  have Q5 := Lib.hid q5
  clear q5
  have q6 := fun W => rat s [60, 63] i W (by omega) (by decide) (by decide) (by omega)
  rw [e6] at q6
  have Q6 := Lib.hid q6
  clear q6
  have q7 := fun W => rat s [60] i W (by omega) (by decide) (by decide) (by omega)
  rw [e7] at q7
  have Q7 := Lib.hid q7
  clear q7
  have hrun := leafF hlt (by rw [e7]; rfl) e2 e5 e6
  have htl := textI_le (s := s) (k := i + 1) (by omega)
  obtain ⟨TI, hTI⟩ : ∃ TI, textI s (i + 1) = TI := ⟨_, rfl⟩
  have HTI := Lib.hid hTI
  rw [hTI] at hrun htl
  have hxs := T.slice_str s i TI (by omega) htl.2
  have QD := Lib.hid (fun W => refDecode ((s.drop i).take (TI - i)) W (by rw [List.length_take, List.length_drop]; omega))
  generalize (s.drop i).take (TI - i) = X at *
  generalize E.decode X = V at *
  have zV := T.bytes_size V
  have HRU := Lib.hid hrun
  have HXS := Lib.hid hxs
  clear hrun hTI hxs e1 e2 e4 e5 e6 e7
  conv => arg 2; whnf
  go_wp2_with fail
  refine (Q1.out _).mono ?_
  rintro e w' ⟨rfl, rfl⟩
  go_wp2_with fail
  refine (Q2.out _).mono ?_
  rintro e w' ⟨rfl, rfl⟩
  go_wp2_with fail
  refine (Q4.out _).mono ?_
  rintro e w' ⟨rfl, rfl⟩
  go_wp2_with fail
  refine (Q2.out _).mono ?_
  rintro e w' ⟨rfl, rfl⟩
  go_wp2_with fail
  refine (Q5.out _).mono ?_
  rintro e w' ⟨rfl, rfl⟩
  go_wp2_with fail
  refine (Q6.out _).mono ?_
  rintro e w' ⟨rfl, rfl⟩
  go_wp2_with fail
  refine (Q7.out _).mono ?_
  rintro e w' ⟨rfl, rfl⟩
  go_wp2_with fail
  go_loopw [15] (fun u wx => ∃ k : Nat, u = .int .i64 k ∧ i + 1 ≤ k ∧ k ≤ s.length ∧ wo = wx ∧ Hid (textI s k = TI)) (fun u _ => s.length - (intOf u).toNat)
  case atStart => exact ⟨i + 1, by go_num, Nat.le_refl _, by omega, rfl, HTI⟩
  case round =>
    obtain ⟨k, rfl, hk1, hk2, rfl, HK⟩ := hrel
    by_cases hgo : k < s.length ∧ M.begins (s.drop k) = false
    · obtain ⟨hkl, hbg⟩ := hgo
      have hkl1 : (k : Int) < (s.length : Int) := by omega
      have qb := fun W => rBegins s k k W rfl (by omega) (by omega)
      rw [hbg] at qb
      have QB := Lib.hid qb
      have HK' := Lib.hid ((textI_no hkl hbg).symm.trans HK.out)
      clear qb hbg HK
      go_wp2_with fail
      refine (QB.out _).mono ?_
      rintro e w' ⟨rfl, rfl⟩
      go_wp2_with fail
      go_roundw
      case rel => first | exact ⟨k + 1, by go_num, by omega, by omega, trivial, HK'⟩ | ((repeat apply Exists.intro); exact ⟨⟨k + 1, by go_num, by omega, by omega, by trivial, HK'⟩, rfl⟩)
      case measure => simp [intOf]; omega
    · have hTk : k = TI := by
        by_cases hkl : k < s.length
        · have hb : M.begins (s.drop k) = true := by
            cases h : M.begins (s.drop k) with
            | true => rfl
            | false => exact absurd ⟨hkl, h⟩ hgo
          exact (textI_yes hkl hb).symm.trans HK.out
        · exact (textI_end (s := s) (by omega)).symm.trans HK.out
      subst hTk
      have hxs := HXS.out
      rcases Nat.lt_or_ge k s.length with hkl | hkl
      case' inl =>
        have hkl1 : (k : Int) < (s.length : Int) := by omega
        have hb : M.begins (s.drop k) = true := by
          cases h : M.begins (s.drop k) with
          | true => rfl
          | false => exact absurd ⟨hkl, h⟩ hgo
        have qb := fun W => rBegins s k k W rfl (by omega) (by omega)
        rw [hb] at qb
        have QB := Lib.hid qb
        clear qb hb hgo HK HTI
        go_wp2_with fail
        refine (QB.out _).mono ?_
        rintro e w' ⟨rfl, rfl⟩
      case' inr =>
        have hkl1 : (s.length : Int) ≤ (k : Int) := by omega
        clear hgo HK HTI
      all_goals
        go_wp2_with fail
        refine (QD.out _).mono ?_
        rintro e w2 ⟨rfl, b2⟩
        have hB2 := hB.trans (b2.mono hbz)
        have HO2 := Lib.hid (own_below b2 HO.out)
        have HA2 := Lib.hid (fun p hp => own_below b2 (HA.out p hp))
        have hz2 := hB2.size
        clear b2
        go_wp2_with (at_builtin; refine wpList_append_rtok w2 rfl _ _ rfl w.heap.size u4 L _ _ _ _ _ rfl rfl HO2.out rfl rfl rfl rfl rfl (by omega) (by omega) ?_)
        intro v5 w5 hown hgr
        have HR5 := Lib.hid (rsnoc (s0 := 0) (t := .txt 3 V) hB2 HO2.out HA2.out (no_rattrs _ _) hown hgr)
        clear hown hgr
        go_wp2_with fail
        have HN := rt_next (r := [.txt 3 V]) (L' := L ++ [(.txt 3 V, .slice none 0 0)]) (j := k) (u := v5) (w := w) (w5 := w5) HH HRU.out (by simp)
        have hrel : RtRel s TS w _ (.int .i64 ((k : Nat) : Int)) _ := ⟨k, _, rfl, by omega, by first | omega | (simp; omega), HR5.out.1, Lib.hid HR5.out.2.1, Lib.hid HR5.out.2.2, HN⟩
        have hmu : s.length - (intOf (.int .i64 ((k : Nat) : Int))).toNat < s.length - i := by simp [intOf]; omega
        first
          | (unfold RtN; (repeat apply Exists.intro); exact ⟨hrel, hmu, rfl⟩)
          | (refine hN _ _ ?_; unfold RtN; (repeat apply Exists.intro); exact ⟨hrel, hmu, rfl⟩)
set_option maxHeartbeats 8000000 in
set_option maxRecDepth 1000000 in
theorem rt_F2 (s : List UInt8) (TS : List M.Tok) (w wo : World) (i : Nat) (L : List (M.Tok × Value)) (Q : Exit → Act → World → Prop) (u0 u1 u2 u4 u6 u7 u8 u9 u10 u11 u12 u13 u14 u15 u16 u17 u18 u19 u20 u21 u22 u23 u24 u25 u26 u27 u28 u29 u30 u31 u32 u33 u34 u35 u36 u37 u38 u39 u40 u41 u42 u43 u44 u45 u46 u47 u48 u49 u50 u51 u52 u53 u54 u55 u56 u57 u58 u59 u60 u61 u62 u63 u64 u65 u66 u67 u68 u69 u70 u71 u72 u73 u74 u75 u76 u77 u78 u79 u80 u81 u82 u83 u84 u85 u86 u87 u88 u89 u90 u91 u92 u93 u94 u95 u96 u97 u98 u99 u100 u101 u102 u103 u104 u105 u106 u107 u108 u109 u110 u111 u112 u113 u114 u115 u116 u117 u118 u119 u120 u121 u122 u123 u124 u125 u126 u127 u128 u129 u130 u131 u132 u133 u134 u135 u136 u137 u138 u139 u140 u141 u142 u143 u144 u145 u146 u147 u148 u149 u150 u151 u152 u153 u154 u155 u156 u157 u158 u159 u160 u161 u162 u163 u164 u165 u166 u167 u168 u169 u170 u171 u172 u173 u174 u175 u176 u177 u178 u179 u180 u181 u182 u183 u184 u185 u186 u187 u188 u189 u190 u191 u192 u193 u194 u195 u196 u197 u198 u199 u200 u201 u202 : Value) (hsl : s.length ≤ 20000) (hlt : i < s.length) (hLi : L.length ≤ i) (hB : Below w.heap.size w wo)
    (HO : Hid (wo.ownsRow w.heap.size 33 5 u4 L.length (tcells L))) (HA : Hid (∀ p ∈ L, HasRAttrs w.heap.size p.2 p.1.attrs wo)) (HH : Hid (L.map (·.1) ++ M.run [] (s.drop i) = TS))
    (e1 : [60, 33, 45, 45].isPrefixOf (s.drop i) = false) (e2 : [60, 47].isPrefixOf (s.drop i) = false) (e5 : [60, 33].isPrefixOf (s.drop i) = false) (e6 : [60, 63].isPrefixOf (s.drop i) = false) (e7 : [60].isPrefixOf (s.drop i) = true) (e8 : M.letter (s.getD (i + 1) 0) = false)
    (hN : ∀ a' w', RtN s TS w i u0 u1 u16 u17 u18 u202 a' w' → Q .normal a' w') (hR : ∀ a' w', RtR s TS w u0 u1 u16 u17 u18 u202 a' w' → Q .ret a' w') :
    Code.wp Tryz.prog ((Tryz.f12.body.bind firstLoop).getD .skip) Q ⟨#[u0, u1, u2, (.string ⟨s.toArray⟩), u4, (.int .i64 i), u6, u7, u8, u9, u10, u11, u12, u13, u14, u15, u16, u17, u18, u19, u20, u21, u22, u23, u24, u25, u26, u27, u28, u29, u30, u31, u32, u33, u34, u35, u36, u37, u38, u39, u40, u41, u42, u43, u44, u45, u46, u47, u48, u49, u50, u51, u52, u53, u54, u55, u56, u57, u58, u59, u60, u61, u62, u63, u64, u65, u66, u67, u68, u69, u70, u71, u72, u73, u74, u75, u76, u77, u78, u79, u80, u81, u82, u83, u84, u85, u86, u87, u88, u89, u90, u91, u92, u93, u94, u95, u96, u97, u98, u99, u100, u101, u102, u103, u104, u105, u106, u107, u108, u109, u110, u111, u112, u113, u114, u115, u116, u117, u118, u119, u120, u121, u122, u123, u124, u125, u126, u127, u128, u129, u130, u131, u132, u133, u134, u135, u136, u137, u138, u139, u140, u141, u142, u143, u144, u145, u146, u147, u148, u149, u150, u151, u152, u153, u154, u155, u156, u157, u158, u159, u160, u161, u162, u163, u164, u165, u166, u167, u168, u169, u170, u171, u172, u173, u174, u175, u176, u177, u178, u179, u180, u181, u182, u183, u184, u185, u186, u187, u188, u189, u190, u191, u192, u193, u194, u195, u196, u197, u198, u199, u200, u201, u202], []⟩ wo := by
  have hlt1 : (i : Int) < (s.length : Int) := by omega
  have hi : i ≤ s.length := by omega
  have hbz := hB.size
  have e4 : [60, 47, 62].isPrefixOf (s.drop i) = false := by
    cases h : [60, 47, 62].isPrefixOf (s.drop i) with
    | false => rfl
    | true => rw [pre_form h] at e2; cases e2
  have q1 := fun W => rat s [60, 33, 45, 45] i W (by omega) (by decide) (by decide) (by omega)
  rw [e1] at q1
  have Q1 := Lib.hid q1
  clear q1
  have q2 := fun W => rat s [60, 47] i W (by omega) (by decide) (by decide) (by omega)
  rw [e2] at q2
  have Q2 := Lib.hid q2
  clear q2
  have q4 := fun W => rat s [60, 47, 62] i W (by omega) (by decide) (by decide) (by omega)
  rw [e4] at q4
  have Q4 := Lib.hid q4
  clear q4
  have q5 := fun W => rat s [60, 33] i W (by omega) (by decide) (by decide) (by omega)
  rw [e5] at q5
  have Q5 := Lib.hid q5
  clear q5
  have q6 := fun W => rat s [60, 63] i W (by omega) (by decide) (by decide) (by omega)
  rw [e6] at q6
  have Q6 := Lib.hid q6
  clear q6
  have q7 := fun W => rat s [60] i W (by omega) (by decide) (by decide) (by omega)
  rw [e7] at q7
  have Q7 := Lib.hid q7
  clear q7
  have q8 := fun W => rletter s (i + 1) ((i : Int) + 1) W (by omega) (by omega) (by omega)
  rw [e8] at q8
  have Q8 := Lib.hid q8
  clear q8
  have hrun := leafF hlt (by rw [e7, e8]; rfl) e2 e5 e6
  have htl := textI_le (s := s) (k := i + 1) (by omega)
  obtain ⟨TI, hTI⟩ : ∃ TI, textI s (i + 1) = TI := ⟨_, rfl⟩
  have HTI := Lib.hid hTI
  rw [hTI] at hrun htl
  have hxs := T.slice_str s i TI (by omega) htl.2
  have QD := Lib.hid (fun W => refDecode ((s.drop i).take (TI - i)) W (by rw [List.length_take, List.length_drop]; omega))
  generalize (s.drop i).take (TI - i) = X at *
  generalize E.decode X = V at *
  have zV := T.bytes_size V
  have HRU := Lib.hid hrun
  have HXS := Lib.hid hxs
  clear hrun hTI hxs e1 e2 e4 e5 e6 e7 e8
  conv => arg 2; whnf
  go_wp2_with fail
  refine (Q1.out _).mono ?_
  rintro e w' ⟨rfl, rfl⟩
  go_wp2_with fail
  refine (Q2.out _).mono ?_
  rintro e w' ⟨rfl, rfl⟩
  go_wp2_with fail
  refine (Q4.out _).mono ?_
  rintro e w' ⟨rfl, rfl⟩
  go_wp2_with fail
  refine (Q2.out _).mono ?_
  rintro e w' ⟨rfl, rfl⟩
  go_wp2_with fail
  refine (Q5.out _).mono ?_
  rintro e w' ⟨rfl, rfl⟩
  go_wp2_with fail
  refine (Q6.out _).mono ?_
  rintro e w' ⟨rfl, rfl⟩
  go_wp2_with fail
  refine (Q7.out _).mono ?_
  rintro e w' ⟨rfl, rfl⟩
  go_wp2_with fail
  refine (Q8.out _).mono ?_
  rintro e w' ⟨rfl, rfl⟩
  go_wp2_with fail
  go_loopw [15] (fun u wx => ∃ k : Nat, u = .int .i64 k ∧ i + 1 ≤ k ∧ k ≤ s.length ∧ wo = wx ∧ Hid (textI s k = TI)) (fun u _ => s.length - (intOf u).toNat)
  case atStart => exact ⟨i + 1, by go_num, Nat.le_refl _, by omega, rfl, HTI⟩
  case round =>
    obtain ⟨k, rfl, hk1, hk2, rfl, HK⟩ := hrel
    by_cases hgo : k < s.length ∧ M.begins (s.drop k) = false
    · obtain ⟨hkl, hbg⟩ := hgo
      have hkl1 : (k : Int) < (s.length : Int) := by omega
      have qb := fun W => rBegins s k k W rfl (by omega) (by omega)
      rw [hbg] at qb
      have QB := Lib.hid qb
      have HK' := Lib.hid ((textI_no hkl hbg).symm.trans HK.out)
      clear qb hbg HK
      go_wp2_with fail
      refine (QB.out _).mono ?_
      rintro e w' ⟨rfl, rfl⟩
      go_wp2_with fail
      go_roundw
      case rel => first | exact ⟨k + 1, by go_num, by omega, by omega, trivial, HK'⟩ | ((repeat apply Exists.intro); exact ⟨⟨k + 1, by go_num, by omega, by omega, by trivial, HK'⟩, rfl⟩)
      case measure => simp [intOf]; omega
    · have hTk : k = TI := by
        by_cases hkl : k < s.length
        · have hb : M.begins (s.drop k) = true := by
            cases h : M.begins (s.drop k) with
            | true => rfl
            | false => exact absurd ⟨hkl, h⟩ hgo
          exact (textI_yes hkl hb).symm.trans HK.out
        · exact (textI_end (s := s) (by omega)).symm.trans HK.out
      subst hTk
      have hxs := HXS.out
      rcases Nat.lt_or_ge k s.length with hkl | hkl
      case' inl =>
        have hkl1 : (k : Int) < (s.length : Int) := by omega
        have hb : M.begins (s.drop k) = true := by
          cases h : M.begins (s.drop k) with
          | true => rfl
          | false => exact absurd ⟨hkl, h⟩ hgo
        have qb := fun W => rBegins s k k W rfl (by omega) (by omega)
        rw [hb] at qb
        have QB := Lib.hid qb
        clear qb hb hgo HK HTI
        go_wp2_with fail
        refine (QB.out _).mono ?_
        rintro e w' ⟨rfl, rfl⟩
      case' inr =>
        have hkl1 : (s.length : Int) ≤ (k : Int) := by omega
        clear hgo HK HTI
      all_goals
        go_wp2_with fail
        refine (QD.out _).mono ?_
        rintro e w2 ⟨rfl, b2⟩
        have hB2 := hB.trans (b2.mono hbz)
        have HO2 := Lib.hid (own_below b2 HO.out)
        have HA2 := Lib.hid (fun p hp => own_below b2 (HA.out p hp))
        have hz2 := hB2.size
        clear b2
        go_wp2_with (at_builtin; refine wpList_append_rtok w2 rfl _ _ rfl w.heap.size u4 L _ _ _ _ _ rfl rfl HO2.out rfl rfl rfl rfl rfl (by omega) (by omega) ?_)
        intro v5 w5 hown hgr
        have HR5 := Lib.hid (rsnoc (s0 := 0) (t := .txt 3 V) hB2 HO2.out HA2.out (no_rattrs _ _) hown hgr)
        clear hown hgr
        go_wp2_with fail
        have HN := rt_next (r := [.txt 3 V]) (L' := L ++ [(.txt 3 V, .slice none 0 0)]) (j := k) (u := v5) (w := w) (w5 := w5) HH HRU.out (by simp)
        have hrel : RtRel s TS w _ (.int .i64 ((k : Nat) : Int)) _ := ⟨k, _, rfl, by omega, by first | omega | (simp; omega), HR5.out.1, Lib.hid HR5.out.2.1, Lib.hid HR5.out.2.2, HN⟩
        have hmu : s.length - (intOf (.int .i64 ((k : Nat) : Int))).toNat < s.length - i := by simp [intOf]; omega
        first
          | (unfold RtN; (repeat apply Exists.intro); exact ⟨hrel, hmu, rfl⟩)
          | (refine hN _ _ ?_; unfold RtN; (repeat apply Exists.intro); exact ⟨hrel, hmu, rfl⟩)
set_option maxRecDepth 1000000 in
theorem rt_round (s : List UInt8) (TS : List M.Tok) (w wo : World) (i : Nat) (L : List (M.Tok × Value)) (Q : Exit → Act → World → Prop) (u0 u1 u2 u4 u6 u7 u8 u9 u10 u11 u12 u13 u14 u15 u16 u17 u18 u19 u20 u21 u22 u23 u24 u25 u26 u27 u28 u29 u30 u31 u32 u33 u34 u35 u36 u37 u38 u39 u40 u41 u42 u43 u44 u45 u46 u47 u48 u49 u50 u51 u52 u53 u54 u55 u56 u57 u58 u59 u60 u61 u62 u63 u64 u65 u66 u67 u68 u69 u70 u71 u72 u73 u74 u75 u76 u77 u78 u79 u80 u81 u82 u83 u84 u85 u86 u87 u88 u89 u90 u91 u92 u93 u94 u95 u96 u97 u98 u99 u100 u101 u102 u103 u104 u105 u106 u107 u108 u109 u110 u111 u112 u113 u114 u115 u116 u117 u118 u119 u120 u121 u122 u123 u124 u125 u126 u127 u128 u129 u130 u131 u132 u133 u134 u135 u136 u137 u138 u139 u140 u141 u142 u143 u144 u145 u146 u147 u148 u149 u150 u151 u152 u153 u154 u155 u156 u157 u158 u159 u160 u161 u162 u163 u164 u165 u166 u167 u168 u169 u170 u171 u172 u173 u174 u175 u176 u177 u178 u179 u180 u181 u182 u183 u184 u185 u186 u187 u188 u189 u190 u191 u192 u193 u194 u195 u196 u197 u198 u199 u200 u201 u202 : Value) (hsl : s.length ≤ 20000) (hlt : i < s.length) (hLi : L.length ≤ i) (hB : Below w.heap.size w wo)
    (HO : Hid (wo.ownsRow w.heap.size 33 5 u4 L.length (tcells L))) (HA : Hid (∀ p ∈ L, HasRAttrs w.heap.size p.2 p.1.attrs wo)) (HH : Hid (L.map (·.1) ++ M.run [] (s.drop i) = TS))
    (hN : ∀ a' w', RtN s TS w i u0 u1 u16 u17 u18 u202 a' w' → Q .normal a' w') (hR : ∀ a' w', RtR s TS w u0 u1 u16 u17 u18 u202 a' w' → Q .ret a' w') :
    Code.wp Tryz.prog ((Tryz.f12.body.bind firstLoop).getD .skip) Q ⟨#[u0, u1, u2, (.string ⟨s.toArray⟩), u4, (.int .i64 i), u6, u7, u8, u9, u10, u11, u12, u13, u14, u15, u16, u17, u18, u19, u20, u21, u22, u23, u24, u25, u26, u27, u28, u29, u30, u31, u32, u33, u34, u35, u36, u37, u38, u39, u40, u41, u42, u43, u44, u45, u46, u47, u48, u49, u50, u51, u52, u53, u54, u55, u56, u57, u58, u59, u60, u61, u62, u63, u64, u65, u66, u67, u68, u69, u70, u71, u72, u73, u74, u75, u76, u77, u78, u79, u80, u81, u82, u83, u84, u85, u86, u87, u88, u89, u90, u91, u92, u93, u94, u95, u96, u97, u98, u99, u100, u101, u102, u103, u104, u105, u106, u107, u108, u109, u110, u111, u112, u113, u114, u115, u116, u117, u118, u119, u120, u121, u122, u123, u124, u125, u126, u127, u128, u129, u130, u131, u132, u133, u134, u135, u136, u137, u138, u139, u140, u141, u142, u143, u144, u145, u146, u147, u148, u149, u150, u151, u152, u153, u154, u155, u156, u157, u158, u159, u160, u161, u162, u163, u164, u165, u166, u167, u168, u169, u170, u171, u172, u173, u174, u175, u176, u177, u178, u179, u180, u181, u182, u183, u184, u185, u186, u187, u188, u189, u190, u191, u192, u193, u194, u195, u196, u197, u198, u199, u200, u201, u202], []⟩ wo := by
  cases e1 : [60, 33, 45, 45].isPrefixOf (s.drop i) with
  | true => exact rt_A s TS w wo i L Q u0 u1 u2 u4 u6 u7 u8 u9 u10 u11 u12 u13 u14 u15 u16 u17 u18 u19 u20 u21 u22 u23 u24 u25 u26 u27 u28 u29 u30 u31 u32 u33 u34 u35 u36 u37 u38 u39 u40 u41 u42 u43 u44 u45 u46 u47 u48 u49 u50 u51 u52 u53 u54 u55 u56 u57 u58 u59 u60 u61 u62 u63 u64 u65 u66 u67 u68 u69 u70 u71 u72 u73 u74 u75 u76 u77 u78 u79 u80 u81 u82 u83 u84 u85 u86 u87 u88 u89 u90 u91 u92 u93 u94 u95 u96 u97 u98 u99 u100 u101 u102 u103 u104 u105 u106 u107 u108 u109 u110 u111 u112 u113 u114 u115 u116 u117 u118 u119 u120 u121 u122 u123 u124 u125 u126 u127 u128 u129 u130 u131 u132 u133 u134 u135 u136 u137 u138 u139 u140 u141 u142 u143 u144 u145 u146 u147 u148 u149 u150 u151 u152 u153 u154 u155 u156 u157 u158 u159 u160 u161 u162 u163 u164 u165 u166 u167 u168 u169 u170 u171 u172 u173 u174 u175 u176 u177 u178 u179 u180 u181 u182 u183 u184 u185 u186 u187 u188 u189 u190 u191 u192 u193 u194 u195 u196 u197 u198 u199 u200 u201 u202 hsl hlt hLi hB HO HA HH e1 hN hR
  | false =>
    cases e2 : [60, 47].isPrefixOf (s.drop i) with
    | true =>
      cases e3 : M.letter (s.getD (i + 2) 0) with
      | true =>
        cases hx : M.idx [62] (s.drop i) with
        | none => exact rt_Bn s TS w wo i L Q u0 u1 u2 u4 u6 u7 u8 u9 u10 u11 u12 u13 u14 u15 u16 u17 u18 u19 u20 u21 u22 u23 u24 u25 u26 u27 u28 u29 u30 u31 u32 u33 u34 u35 u36 u37 u38 u39 u40 u41 u42 u43 u44 u45 u46 u47 u48 u49 u50 u51 u52 u53 u54 u55 u56 u57 u58 u59 u60 u61 u62 u63 u64 u65 u66 u67 u68 u69 u70 u71 u72 u73 u74 u75 u76 u77 u78 u79 u80 u81 u82 u83 u84 u85 u86 u87 u88 u89 u90 u91 u92 u93 u94 u95 u96 u97 u98 u99 u100 u101 u102 u103 u104 u105 u106 u107 u108 u109 u110 u111 u112 u113 u114 u115 u116 u117 u118 u119 u120 u121 u122 u123 u124 u125 u126 u127 u128 u129 u130 u131 u132 u133 u134 u135 u136 u137 u138 u139 u140 u141 u142 u143 u144 u145 u146 u147 u148 u149 u150 u151 u152 u153 u154 u155 u156 u157 u158 u159 u160 u161 u162 u163 u164 u165 u166 u167 u168 u169 u170 u171 u172 u173 u174 u175 u176 u177 u178 u179 u180 u181 u182 u183 u184 u185 u186 u187 u188 u189 u190 u191 u192 u193 u194 u195 u196 u197 u198 u199 u200 u201 u202 hsl hlt hLi hB HO HA HH e1 e2 e3 hx hN hR
        | some k => exact rt_Bs s TS w wo i L Q u0 u1 u2 u4 u6 u7 u8 u9 u10 u11 u12 u13 u14 u15 u16 u17 u18 u19 u20 u21 u22 u23 u24 u25 u26 u27 u28 u29 u30 u31 u32 u33 u34 u35 u36 u37 u38 u39 u40 u41 u42 u43 u44 u45 u46 u47 u48 u49 u50 u51 u52 u53 u54 u55 u56 u57 u58 u59 u60 u61 u62 u63 u64 u65 u66 u67 u68 u69 u70 u71 u72 u73 u74 u75 u76 u77 u78 u79 u80 u81 u82 u83 u84 u85 u86 u87 u88 u89 u90 u91 u92 u93 u94 u95 u96 u97 u98 u99 u100 u101 u102 u103 u104 u105 u106 u107 u108 u109 u110 u111 u112 u113 u114 u115 u116 u117 u118 u119 u120 u121 u122 u123 u124 u125 u126 u127 u128 u129 u130 u131 u132 u133 u134 u135 u136 u137 u138 u139 u140 u141 u142 u143 u144 u145 u146 u147 u148 u149 u150 u151 u152 u153 u154 u155 u156 u157 u158 u159 u160 u161 u162 u163 u164 u165 u166 u167 u168 u169 u170 u171 u172 u173 u174 u175 u176 u177 u178 u179 u180 u181 u182 u183 u184 u185 u186 u187 u188 u189 u190 u191 u192 u193 u194 u195 u196 u197 u198 u199 u200 u201 u202 hsl hlt hLi hB HO HA HH e1 e2 e3 k hx hN hR
      | false =>
        cases e4 : [60, 47, 62].isPrefixOf (s.drop i) with
        | true => exact rt_C s TS w wo i L Q u0 u1 u2 u4 u6 u7 u8 u9 u10 u11 u12 u13 u14 u15 u16 u17 u18 u19 u20 u21 u22 u23 u24 u25 u26 u27 u28 u29 u30 u31 u32 u33 u34 u35 u36 u37 u38 u39 u40 u41 u42 u43 u44 u45 u46 u47 u48 u49 u50 u51 u52 u53 u54 u55 u56 u57 u58 u59 u60 u61 u62 u63 u64 u65 u66 u67 u68 u69 u70 u71 u72 u73 u74 u75 u76 u77 u78 u79 u80 u81 u82 u83 u84 u85 u86 u87 u88 u89 u90 u91 u92 u93 u94 u95 u96 u97 u98 u99 u100 u101 u102 u103 u104 u105 u106 u107 u108 u109 u110 u111 u112 u113 u114 u115 u116 u117 u118 u119 u120 u121 u122 u123 u124 u125 u126 u127 u128 u129 u130 u131 u132 u133 u134 u135 u136 u137 u138 u139 u140 u141 u142 u143 u144 u145 u146 u147 u148 u149 u150 u151 u152 u153 u154 u155 u156 u157 u158 u159 u160 u161 u162 u163 u164 u165 u166 u167 u168 u169 u170 u171 u172 u173 u174 u175 u176 u177 u178 u179 u180 u181 u182 u183 u184 u185 u186 u187 u188 u189 u190 u191 u192 u193 u194 u195 u196 u197 u198 u199 u200 u201 u202 hsl hlt hLi hB HO HA HH e1 e2 e3 e4 hN hR
        | false => exact rt_D47 s TS w wo i L Q u0 u1 u2 u4 u6 u7 u8 u9 u10 u11 u12 u13 u14 u15 u16 u17 u18 u19 u20 u21 u22 u23 u24 u25 u26 u27 u28 u29 u30 u31 u32 u33 u34 u35 u36 u37 u38 u39 u40 u41 u42 u43 u44 u45 u46 u47 u48 u49 u50 u51 u52 u53 u54 u55 u56 u57 u58 u59 u60 u61 u62 u63 u64 u65 u66 u67 u68 u69 u70 u71 u72 u73 u74 u75 u76 u77 u78 u79 u80 u81 u82 u83 u84 u85 u86 u87 u88 u89 u90 u91 u92 u93 u94 u95 u96 u97 u98 u99 u100 u101 u102 u103 u104 u105 u106 u107 u108 u109 u110 u111 u112 u113 u114 u115 u116 u117 u118 u119 u120 u121 u122 u123 u124 u125 u126 u127 u128 u129 u130 u131 u132 u133 u134 u135 u136 u137 u138 u139 u140 u141 u142 u143 u144 u145 u146 u147 u148 u149 u150 u151 u152 u153 u154 u155 u156 u157 u158 u159 u160 u161 u162 u163 u164 u165 u166 u167 u168 u169 u170 u171 u172 u173 u174 u175 u176 u177 u178 u179 u180 u181 u182 u183 u184 u185 u186 u187 u188 u189 u190 u191 u192 u193 u194 u195 u196 u197 u198 u199 u200 u201 u202 hsl hlt hLi hB HO HA HH e1 e2 e3 e4 hN hR
    | false =>
      cases e5 : [60, 33].isPrefixOf (s.drop i) with
      | true =>
        by_cases h7 : 7 ≤ (cutI [62] s (i + 2)).1.length
        · cases hlw : (M.lower ((cutI [62] s (i + 2)).1.take 7) == [100, 111, 99, 116, 121, 112, 101]) with
          | true => exact rt_D33d s TS w wo i L Q u0 u1 u2 u4 u6 u7 u8 u9 u10 u11 u12 u13 u14 u15 u16 u17 u18 u19 u20 u21 u22 u23 u24 u25 u26 u27 u28 u29 u30 u31 u32 u33 u34 u35 u36 u37 u38 u39 u40 u41 u42 u43 u44 u45 u46 u47 u48 u49 u50 u51 u52 u53 u54 u55 u56 u57 u58 u59 u60 u61 u62 u63 u64 u65 u66 u67 u68 u69 u70 u71 u72 u73 u74 u75 u76 u77 u78 u79 u80 u81 u82 u83 u84 u85 u86 u87 u88 u89 u90 u91 u92 u93 u94 u95 u96 u97 u98 u99 u100 u101 u102 u103 u104 u105 u106 u107 u108 u109 u110 u111 u112 u113 u114 u115 u116 u117 u118 u119 u120 u121 u122 u123 u124 u125 u126 u127 u128 u129 u130 u131 u132 u133 u134 u135 u136 u137 u138 u139 u140 u141 u142 u143 u144 u145 u146 u147 u148 u149 u150 u151 u152 u153 u154 u155 u156 u157 u158 u159 u160 u161 u162 u163 u164 u165 u166 u167 u168 u169 u170 u171 u172 u173 u174 u175 u176 u177 u178 u179 u180 u181 u182 u183 u184 u185 u186 u187 u188 u189 u190 u191 u192 u193 u194 u195 u196 u197 u198 u199 u200 u201 u202 hsl hlt hLi hB HO HA HH e1 e2 e5 h7 hlw hN hR
          | false => exact rt_D33c s TS w wo i L Q u0 u1 u2 u4 u6 u7 u8 u9 u10 u11 u12 u13 u14 u15 u16 u17 u18 u19 u20 u21 u22 u23 u24 u25 u26 u27 u28 u29 u30 u31 u32 u33 u34 u35 u36 u37 u38 u39 u40 u41 u42 u43 u44 u45 u46 u47 u48 u49 u50 u51 u52 u53 u54 u55 u56 u57 u58 u59 u60 u61 u62 u63 u64 u65 u66 u67 u68 u69 u70 u71 u72 u73 u74 u75 u76 u77 u78 u79 u80 u81 u82 u83 u84 u85 u86 u87 u88 u89 u90 u91 u92 u93 u94 u95 u96 u97 u98 u99 u100 u101 u102 u103 u104 u105 u106 u107 u108 u109 u110 u111 u112 u113 u114 u115 u116 u117 u118 u119 u120 u121 u122 u123 u124 u125 u126 u127 u128 u129 u130 u131 u132 u133 u134 u135 u136 u137 u138 u139 u140 u141 u142 u143 u144 u145 u146 u147 u148 u149 u150 u151 u152 u153 u154 u155 u156 u157 u158 u159 u160 u161 u162 u163 u164 u165 u166 u167 u168 u169 u170 u171 u172 u173 u174 u175 u176 u177 u178 u179 u180 u181 u182 u183 u184 u185 u186 u187 u188 u189 u190 u191 u192 u193 u194 u195 u196 u197 u198 u199 u200 u201 u202 hsl hlt hLi hB HO HA HH e1 e2 e5 h7 hlw hN hR
        · exact rt_D33s s TS w wo i L Q u0 u1 u2 u4 u6 u7 u8 u9 u10 u11 u12 u13 u14 u15 u16 u17 u18 u19 u20 u21 u22 u23 u24 u25 u26 u27 u28 u29 u30 u31 u32 u33 u34 u35 u36 u37 u38 u39 u40 u41 u42 u43 u44 u45 u46 u47 u48 u49 u50 u51 u52 u53 u54 u55 u56 u57 u58 u59 u60 u61 u62 u63 u64 u65 u66 u67 u68 u69 u70 u71 u72 u73 u74 u75 u76 u77 u78 u79 u80 u81 u82 u83 u84 u85 u86 u87 u88 u89 u90 u91 u92 u93 u94 u95 u96 u97 u98 u99 u100 u101 u102 u103 u104 u105 u106 u107 u108 u109 u110 u111 u112 u113 u114 u115 u116 u117 u118 u119 u120 u121 u122 u123 u124 u125 u126 u127 u128 u129 u130 u131 u132 u133 u134 u135 u136 u137 u138 u139 u140 u141 u142 u143 u144 u145 u146 u147 u148 u149 u150 u151 u152 u153 u154 u155 u156 u157 u158 u159 u160 u161 u162 u163 u164 u165 u166 u167 u168 u169 u170 u171 u172 u173 u174 u175 u176 u177 u178 u179 u180 u181 u182 u183 u184 u185 u186 u187 u188 u189 u190 u191 u192 u193 u194 u195 u196 u197 u198 u199 u200 u201 u202 hsl hlt hLi hB HO HA HH e1 e2 e5 h7 hN hR
      | false =>
        cases e6 : [60, 63].isPrefixOf (s.drop i) with
        | true => exact rt_D63 s TS w wo i L Q u0 u1 u2 u4 u6 u7 u8 u9 u10 u11 u12 u13 u14 u15 u16 u17 u18 u19 u20 u21 u22 u23 u24 u25 u26 u27 u28 u29 u30 u31 u32 u33 u34 u35 u36 u37 u38 u39 u40 u41 u42 u43 u44 u45 u46 u47 u48 u49 u50 u51 u52 u53 u54 u55 u56 u57 u58 u59 u60 u61 u62 u63 u64 u65 u66 u67 u68 u69 u70 u71 u72 u73 u74 u75 u76 u77 u78 u79 u80 u81 u82 u83 u84 u85 u86 u87 u88 u89 u90 u91 u92 u93 u94 u95 u96 u97 u98 u99 u100 u101 u102 u103 u104 u105 u106 u107 u108 u109 u110 u111 u112 u113 u114 u115 u116 u117 u118 u119 u120 u121 u122 u123 u124 u125 u126 u127 u128 u129 u130 u131 u132 u133 u134 u135 u136 u137 u138 u139 u140 u141 u142 u143 u144 u145 u146 u147 u148 u149 u150 u151 u152 u153 u154 u155 u156 u157 u158 u159 u160 u161 u162 u163 u164 u165 u166 u167 u168 u169 u170 u171 u172 u173 u174 u175 u176 u177 u178 u179 u180 u181 u182 u183 u184 u185 u186 u187 u188 u189 u190 u191 u192 u193 u194 u195 u196 u197 u198 u199 u200 u201 u202 hsl hlt hLi hB HO HA HH e1 e2 e5 e6 hN hR
        | false =>
          cases e7 : [60].isPrefixOf (s.drop i) with
          | true =>
            cases e8 : M.letter (s.getD (i + 1) 0) with
            | true =>
              cases hst : M.start (s.drop (i + 1)) with
              | none => exact rt_En s TS w wo i L Q u0 u1 u2 u4 u6 u7 u8 u9 u10 u11 u12 u13 u14 u15 u16 u17 u18 u19 u20 u21 u22 u23 u24 u25 u26 u27 u28 u29 u30 u31 u32 u33 u34 u35 u36 u37 u38 u39 u40 u41 u42 u43 u44 u45 u46 u47 u48 u49 u50 u51 u52 u53 u54 u55 u56 u57 u58 u59 u60 u61 u62 u63 u64 u65 u66 u67 u68 u69 u70 u71 u72 u73 u74 u75 u76 u77 u78 u79 u80 u81 u82 u83 u84 u85 u86 u87 u88 u89 u90 u91 u92 u93 u94 u95 u96 u97 u98 u99 u100 u101 u102 u103 u104 u105 u106 u107 u108 u109 u110 u111 u112 u113 u114 u115 u116 u117 u118 u119 u120 u121 u122 u123 u124 u125 u126 u127 u128 u129 u130 u131 u132 u133 u134 u135 u136 u137 u138 u139 u140 u141 u142 u143 u144 u145 u146 u147 u148 u149 u150 u151 u152 u153 u154 u155 u156 u157 u158 u159 u160 u161 u162 u163 u164 u165 u166 u167 u168 u169 u170 u171 u172 u173 u174 u175 u176 u177 u178 u179 u180 u181 u182 u183 u184 u185 u186 u187 u188 u189 u190 u191 u192 u193 u194 u195 u196 u197 u198 u199 u200 u201 u202 hsl hlt hLi hB HO HA HH e1 e2 e5 e6 e7 e8 hst hN hR
              | some tu =>
                obtain ⟨⟨kk, nm, ats, cl, tt⟩, u⟩ := tu
                cases hraw : M.isRaw nm with
                | true =>
                  have hpl : M.isPlain nm = false := by
                    unfold M.isRaw at hraw
                    simp only [Bool.or_eq_true, beq_iff_eq] at hraw
                    rcases hraw with rfl | rfl <;> rfl
                  exact rt_Er s TS w wo i L Q u0 u1 u2 u4 u6 u7 u8 u9 u10 u11 u12 u13 u14 u15 u16 u17 u18 u19 u20 u21 u22 u23 u24 u25 u26 u27 u28 u29 u30 u31 u32 u33 u34 u35 u36 u37 u38 u39 u40 u41 u42 u43 u44 u45 u46 u47 u48 u49 u50 u51 u52 u53 u54 u55 u56 u57 u58 u59 u60 u61 u62 u63 u64 u65 u66 u67 u68 u69 u70 u71 u72 u73 u74 u75 u76 u77 u78 u79 u80 u81 u82 u83 u84 u85 u86 u87 u88 u89 u90 u91 u92 u93 u94 u95 u96 u97 u98 u99 u100 u101 u102 u103 u104 u105 u106 u107 u108 u109 u110 u111 u112 u113 u114 u115 u116 u117 u118 u119 u120 u121 u122 u123 u124 u125 u126 u127 u128 u129 u130 u131 u132 u133 u134 u135 u136 u137 u138 u139 u140 u141 u142 u143 u144 u145 u146 u147 u148 u149 u150 u151 u152 u153 u154 u155 u156 u157 u158 u159 u160 u161 u162 u163 u164 u165 u166 u167 u168 u169 u170 u171 u172 u173 u174 u175 u176 u177 u178 u179 u180 u181 u182 u183 u184 u185 u186 u187 u188 u189 u190 u191 u192 u193 u194 u195 u196 u197 u198 u199 u200 u201 u202 hsl hlt hLi hB HO HA HH e1 e2 e5 e6 e7 e8 kk nm ats cl tt u hst hraw hpl hN hR
                | false =>
                  cases hpl : M.isPlain nm with
                  | true => exact rt_Ep s TS w wo i L Q u0 u1 u2 u4 u6 u7 u8 u9 u10 u11 u12 u13 u14 u15 u16 u17 u18 u19 u20 u21 u22 u23 u24 u25 u26 u27 u28 u29 u30 u31 u32 u33 u34 u35 u36 u37 u38 u39 u40 u41 u42 u43 u44 u45 u46 u47 u48 u49 u50 u51 u52 u53 u54 u55 u56 u57 u58 u59 u60 u61 u62 u63 u64 u65 u66 u67 u68 u69 u70 u71 u72 u73 u74 u75 u76 u77 u78 u79 u80 u81 u82 u83 u84 u85 u86 u87 u88 u89 u90 u91 u92 u93 u94 u95 u96 u97 u98 u99 u100 u101 u102 u103 u104 u105 u106 u107 u108 u109 u110 u111 u112 u113 u114 u115 u116 u117 u118 u119 u120 u121 u122 u123 u124 u125 u126 u127 u128 u129 u130 u131 u132 u133 u134 u135 u136 u137 u138 u139 u140 u141 u142 u143 u144 u145 u146 u147 u148 u149 u150 u151 u152 u153 u154 u155 u156 u157 u158 u159 u160 u161 u162 u163 u164 u165 u166 u167 u168 u169 u170 u171 u172 u173 u174 u175 u176 u177 u178 u179 u180 u181 u182 u183 u184 u185 u186 u187 u188 u189 u190 u191 u192 u193 u194 u195 u196 u197 u198 u199 u200 u201 u202 hsl hlt hLi hB HO HA HH e1 e2 e5 e6 e7 e8 kk nm ats cl tt u hst hraw hpl hN hR
                  | false => exact rt_Eo s TS w wo i L Q u0 u1 u2 u4 u6 u7 u8 u9 u10 u11 u12 u13 u14 u15 u16 u17 u18 u19 u20 u21 u22 u23 u24 u25 u26 u27 u28 u29 u30 u31 u32 u33 u34 u35 u36 u37 u38 u39 u40 u41 u42 u43 u44 u45 u46 u47 u48 u49 u50 u51 u52 u53 u54 u55 u56 u57 u58 u59 u60 u61 u62 u63 u64 u65 u66 u67 u68 u69 u70 u71 u72 u73 u74 u75 u76 u77 u78 u79 u80 u81 u82 u83 u84 u85 u86 u87 u88 u89 u90 u91 u92 u93 u94 u95 u96 u97 u98 u99 u100 u101 u102 u103 u104 u105 u106 u107 u108 u109 u110 u111 u112 u113 u114 u115 u116 u117 u118 u119 u120 u121 u122 u123 u124 u125 u126 u127 u128 u129 u130 u131 u132 u133 u134 u135 u136 u137 u138 u139 u140 u141 u142 u143 u144 u145 u146 u147 u148 u149 u150 u151 u152 u153 u154 u155 u156 u157 u158 u159 u160 u161 u162 u163 u164 u165 u166 u167 u168 u169 u170 u171 u172 u173 u174 u175 u176 u177 u178 u179 u180 u181 u182 u183 u184 u185 u186 u187 u188 u189 u190 u191 u192 u193 u194 u195 u196 u197 u198 u199 u200 u201 u202 hsl hlt hLi hB HO HA HH e1 e2 e5 e6 e7 e8 kk nm ats cl tt u hst hraw hpl hN hR
            | false => exact rt_F2 s TS w wo i L Q u0 u1 u2 u4 u6 u7 u8 u9 u10 u11 u12 u13 u14 u15 u16 u17 u18 u19 u20 u21 u22 u23 u24 u25 u26 u27 u28 u29 u30 u31 u32 u33 u34 u35 u36 u37 u38 u39 u40 u41 u42 u43 u44 u45 u46 u47 u48 u49 u50 u51 u52 u53 u54 u55 u56 u57 u58 u59 u60 u61 u62 u63 u64 u65 u66 u67 u68 u69 u70 u71 u72 u73 u74 u75 u76 u77 u78 u79 u80 u81 u82 u83 u84 u85 u86 u87 u88 u89 u90 u91 u92 u93 u94 u95 u96 u97 u98 u99 u100 u101 u102 u103 u104 u105 u106 u107 u108 u109 u110 u111 u112 u113 u114 u115 u116 u117 u118 u119 u120 u121 u122 u123 u124 u125 u126 u127 u128 u129 u130 u131 u132 u133 u134 u135 u136 u137 u138 u139 u140 u141 u142 u143 u144 u145 u146 u147 u148 u149 u150 u151 u152 u153 u154 u155 u156 u157 u158 u159 u160 u161 u162 u163 u164 u165 u166 u167 u168 u169 u170 u171 u172 u173 u174 u175 u176 u177 u178 u179 u180 u181 u182 u183 u184 u185 u186 u187 u188 u189 u190 u191 u192 u193 u194 u195 u196 u197 u198 u199 u200 u201 u202 hsl hlt hLi hB HO HA HH e1 e2 e5 e6 e7 e8 hN hR
          | false => exact rt_F1 s TS w wo i L Q u0 u1 u2 u4 u6 u7 u8 u9 u10 u11 u12 u13 u14 u15 u16 u17 u18 u19 u20 u21 u22 u23 u24 u25 u26 u27 u28 u29 u30 u31 u32 u33 u34 u35 u36 u37 u38 u39 u40 u41 u42 u43 u44 u45 u46 u47 u48 u49 u50 u51 u52 u53 u54 u55 u56 u57 u58 u59 u60 u61 u62 u63 u64 u65 u66 u67 u68 u69 u70 u71 u72 u73 u74 u75 u76 u77 u78 u79 u80 u81 u82 u83 u84 u85 u86 u87 u88 u89 u90 u91 u92 u93 u94 u95 u96 u97 u98 u99 u100 u101 u102 u103 u104 u105 u106 u107 u108 u109 u110 u111 u112 u113 u114 u115 u116 u117 u118 u119 u120 u121 u122 u123 u124 u125 u126 u127 u128 u129 u130 u131 u132 u133 u134 u135 u136 u137 u138 u139 u140 u141 u142 u143 u144 u145 u146 u147 u148 u149 u150 u151 u152 u153 u154 u155 u156 u157 u158 u159 u160 u161 u162 u163 u164 u165 u166 u167 u168 u169 u170 u171 u172 u173 u174 u175 u176 u177 u178 u179 u180 u181 u182 u183 u184 u185 u186 u187 u188 u189 u190 u191 u192 u193 u194 u195 u196 u197 u198 u199 u200 u201 u202 hsl hlt hLi hB HO HA HH e1 e2 e5 e6 e7 hN hR

set_option maxHeartbeats 8000000 in
set_option maxRecDepth 1000000 in
theorem rTokens (doc : List UInt8) (w : World) (hs : doc.length ≤ 6000) :
    Calls Tryz.prog 12 #[.string ⟨doc.toArray⟩] w (RTokPost (toks doc) w) := by
  have hl1 := U.rep_le doc
  have hl2 := U.nlr_length (U.rep doc) false
  have QR := Lib.hid (fun W => refRepairS doc W (by omega))
  have QN := Lib.hid (fun W => refNewlinesS (U.rep doc) W (by omega))
  have HTS : Hid (M.run [] (U.nlr false (U.rep doc)) = toks doc) := Lib.hid rfl
  generalize toks doc = TS at *
  generalize U.nlr false (U.rep doc) = s at *
  generalize U.rep doc = d2 at *
  have hsl : s.length ≤ 20000 := by omega
  clear hl1 hl2 hs
  go_enter Tryz.func12, Tryz.ntmps12
  go_wp2_with fail
  refine (QR.out _).mono ?_
  rintro e w1 ⟨rfl, b1⟩
  go_wp2_with fail
  refine (QN.out _).mono ?_
  rintro e w' ⟨rfl, rfl⟩
  go_wp2_with fail
  go_loopw [4, 5] (fun u v wr => RtRel s TS w u v wr) (fun _ v _ => s.length - (intOf v).toNat)
  case atStart => exact ⟨0, [], rfl, Nat.zero_le _, Nat.le_refl _, b1, Lib.hid (World.ownsRow_nil _ _ _ _), Lib.hid (fun p h => by cases h), Lib.hid (by rw [List.drop_zero, HTS.out]; rfl)⟩
  case round =>
    obtain ⟨i, L, rfl, hi, hLi, hB, HO, HA, HH⟩ := hrel
    by_cases hlt : i < s.length
    · refine rt_round s TS w wr i L _ _ _ _ _ _ _ _ _ _ _ _ _ _ _ _ _ _ _ _ _ _ _ _ _ _ _ _ _ _ _ _ _ _ _ _ _ _ _ _ _ _ _ _ _ _ _ _ _ _ _ _ _ _ _ _ _ _ _ _ _ _ _ _ _ _ _ _ _ _ _ _ _ _ _ _ _ _ _ _ _ _ _ _ _ _ _ _ _ _ _ _ _ _ _ _ _ _ _ _ _ _ _ _ _ _ _ _ _ _ _ _ _ _ _ _ _ _ _ _ _ _ _ _ _ _ _ _ _ _ _ _ _ _ _ _ _ _ _ _ _ _ _ _ _ _ _ _ _ _ _ _ _ _ _ _ _ _ _ _ _ _ _ _ _ _ _ _ _ _ _ _ _ _ _ _ _ _ _ _ _ _ _ _ _ _ _ _ _ _ _ _ _ _ _ _ _ _ _ _ _ _ hsl hlt hLi hB HO HA HH ?_ ?_
      · intro a' w' hn
        unfold RtN at hn
        obtain ⟨x2, hn⟩ := hn
        obtain ⟨x4, hn⟩ := hn
        obtain ⟨x5, hn⟩ := hn
        obtain ⟨x6, hn⟩ := hn
        obtain ⟨x7, hn⟩ := hn
        obtain ⟨x8, hn⟩ := hn
        obtain ⟨x9, hn⟩ := hn
        obtain ⟨x10, hn⟩ := hn
        obtain ⟨x11, hn⟩ := hn
        obtain ⟨x12, hn⟩ := hn
        obtain ⟨x13, hn⟩ := hn
        obtain ⟨x14, hn⟩ := hn
        obtain ⟨x15, hn⟩ := hn
        obtain ⟨x19, hn⟩ := hn
        obtain ⟨x20, hn⟩ := hn
        obtain ⟨x21, hn⟩ := hn
        obtain ⟨x22, hn⟩ := hn
        obtain ⟨x23, hn⟩ := hn
        obtain ⟨x24, hn⟩ := hn
        obtain ⟨x25, hn⟩ := hn
        obtain ⟨x26, hn⟩ := hn
        obtain ⟨x27, hn⟩ := hn
        obtain ⟨x28, hn⟩ := hn
        obtain ⟨x29, hn⟩ := hn
        obtain ⟨x30, hn⟩ := hn
        obtain ⟨x31, hn⟩ := hn
        obtain ⟨x32, hn⟩ := hn
        obtain ⟨x33, hn⟩ := hn
        obtain ⟨x34, hn⟩ := hn
        obtain ⟨x35, hn⟩ := hn
        obtain ⟨x36, hn⟩ := hn
        obtain ⟨x37, hn⟩ := hn
        obtain ⟨x38, hn⟩ := hn
        obtain ⟨x39, hn⟩ := hn
        obtain ⟨x40, hn⟩ := hn
        obtain ⟨x41, hn⟩ := hn
        obtain ⟨x42, hn⟩ := hn
        obtain ⟨x43, hn⟩ := hn
        obtain ⟨x44, hn⟩ := hn
        obtain ⟨x45, hn⟩ := hn
        obtain ⟨x46, hn⟩ := hn
        obtain ⟨x47, hn⟩ := hn
        obtain ⟨x48, hn⟩ := hn
        obtain ⟨x49, hn⟩ := hn
        obtain ⟨x50, hn⟩ := hn
        obtain ⟨x51, hn⟩ := hn
        obtain ⟨x52, hn⟩ := hn
        obtain ⟨x53, hn⟩ := hn
        obtain ⟨x54, hn⟩ := hn
        obtain ⟨x55, hn⟩ := hn
        obtain ⟨x56, hn⟩ := hn
        obtain ⟨x57, hn⟩ := hn
        obtain ⟨x58, hn⟩ := hn
        obtain ⟨x59, hn⟩ := hn
        obtain ⟨x60, hn⟩ := hn
        obtain ⟨x61, hn⟩ := hn
        obtain ⟨x62, hn⟩ := hn
        obtain ⟨x63, hn⟩ := hn
        obtain ⟨x64, hn⟩ := hn
        obtain ⟨x65, hn⟩ := hn
        obtain ⟨x66, hn⟩ := hn
        obtain ⟨x67, hn⟩ := hn
        obtain ⟨x68, hn⟩ := hn
        obtain ⟨x69, hn⟩ := hn
        obtain ⟨x70, hn⟩ := hn
        obtain ⟨x71, hn⟩ := hn
        obtain ⟨x72, hn⟩ := hn
        obtain ⟨x73, hn⟩ := hn
        obtain ⟨x74, hn⟩ := hn
        obtain ⟨x75, hn⟩ := hn
        obtain ⟨x76, hn⟩ := hn
        obtain ⟨x77, hn⟩ := hn
        obtain ⟨x78, hn⟩ := hn
        obtain ⟨x79, hn⟩ := hn
        obtain ⟨x80, hn⟩ := hn
        obtain ⟨x81, hn⟩ := hn
        obtain ⟨x82, hn⟩ := hn
        obtain ⟨x83, hn⟩ := hn
        obtain ⟨x84, hn⟩ := hn
        obtain ⟨x85, hn⟩ := hn
        obtain ⟨x86, hn⟩ := hn
        obtain ⟨x87, hn⟩ := hn
        obtain ⟨x88, hn⟩ := hn
        obtain ⟨x89, hn⟩ := hn
        obtain ⟨x90, hn⟩ := hn
        obtain ⟨x91, hn⟩ := hn
        obtain ⟨x92, hn⟩ := hn
        obtain ⟨x93, hn⟩ := hn
        obtain ⟨x94, hn⟩ := hn
        obtain ⟨x95, hn⟩ := hn
        obtain ⟨x96, hn⟩ := hn
        obtain ⟨x97, hn⟩ := hn
        obtain ⟨x98, hn⟩ := hn
        obtain ⟨x99, hn⟩ := hn
        obtain ⟨x100, hn⟩ := hn
        obtain ⟨x101, hn⟩ := hn
        obtain ⟨x102, hn⟩ := hn
        obtain ⟨x103, hn⟩ := hn
        obtain ⟨x104, hn⟩ := hn
        obtain ⟨x105, hn⟩ := hn
        obtain ⟨x106, hn⟩ := hn
        obtain ⟨x107, hn⟩ := hn
        obtain ⟨x108, hn⟩ := hn
        obtain ⟨x109, hn⟩ := hn
        obtain ⟨x110, hn⟩ := hn
        obtain ⟨x111, hn⟩ := hn
        obtain ⟨x112, hn⟩ := hn
        obtain ⟨x113, hn⟩ := hn
        obtain ⟨x114, hn⟩ := hn
        obtain ⟨x115, hn⟩ := hn
        obtain ⟨x116, hn⟩ := hn
        obtain ⟨x117, hn⟩ := hn
        obtain ⟨x118, hn⟩ := hn
        obtain ⟨x119, hn⟩ := hn
        obtain ⟨x120, hn⟩ := hn
        obtain ⟨x121, hn⟩ := hn
        obtain ⟨x122, hn⟩ := hn
        obtain ⟨x123, hn⟩ := hn
        obtain ⟨x124, hn⟩ := hn
        obtain ⟨x125, hn⟩ := hn
        obtain ⟨x126, hn⟩ := hn
        obtain ⟨x127, hn⟩ := hn
        obtain ⟨x128, hn⟩ := hn
        obtain ⟨x129, hn⟩ := hn
        obtain ⟨x130, hn⟩ := hn
        obtain ⟨x131, hn⟩ := hn
        obtain ⟨x132, hn⟩ := hn
        obtain ⟨x133, hn⟩ := hn
        obtain ⟨x134, hn⟩ := hn
        obtain ⟨x135, hn⟩ := hn
        obtain ⟨x136, hn⟩ := hn
        obtain ⟨x137, hn⟩ := hn
        obtain ⟨x138, hn⟩ := hn
        obtain ⟨x139, hn⟩ := hn
        obtain ⟨x140, hn⟩ := hn
        obtain ⟨x141, hn⟩ := hn
        obtain ⟨x142, hn⟩ := hn
        obtain ⟨x143, hn⟩ := hn
        obtain ⟨x144, hn⟩ := hn
        obtain ⟨x145, hn⟩ := hn
        obtain ⟨x146, hn⟩ := hn
        obtain ⟨x147, hn⟩ := hn
        obtain ⟨x148, hn⟩ := hn
        obtain ⟨x149, hn⟩ := hn
        obtain ⟨x150, hn⟩ := hn
        obtain ⟨x151, hn⟩ := hn
        obtain ⟨x152, hn⟩ := hn
        obtain ⟨x153, hn⟩ := hn
        obtain ⟨x154, hn⟩ := hn
        obtain ⟨x155, hn⟩ := hn
        obtain ⟨x156, hn⟩ := hn
        obtain ⟨x157, hn⟩ := hn
        obtain ⟨x158, hn⟩ := hn
        obtain ⟨x159, hn⟩ := hn
        obtain ⟨x160, hn⟩ := hn
        obtain ⟨x161, hn⟩ := hn
        obtain ⟨x162, hn⟩ := hn
        obtain ⟨x163, hn⟩ := hn
        obtain ⟨x164, hn⟩ := hn
        obtain ⟨x165, hn⟩ := hn
        obtain ⟨x166, hn⟩ := hn
        obtain ⟨x167, hn⟩ := hn
        obtain ⟨x168, hn⟩ := hn
        obtain ⟨x169, hn⟩ := hn
        obtain ⟨x170, hn⟩ := hn
        obtain ⟨x171, hn⟩ := hn
        obtain ⟨x172, hn⟩ := hn
        obtain ⟨x173, hn⟩ := hn
        obtain ⟨x174, hn⟩ := hn
        obtain ⟨x175, hn⟩ := hn
        obtain ⟨x176, hn⟩ := hn
        obtain ⟨x177, hn⟩ := hn
        obtain ⟨x178, hn⟩ := hn
        obtain ⟨x179, hn⟩ := hn
        obtain ⟨x180, hn⟩ := hn
        obtain ⟨x181, hn⟩ := hn
        obtain ⟨x182, hn⟩ := hn
        obtain ⟨x183, hn⟩ := hn
        obtain ⟨x184, hn⟩ := hn
        obtain ⟨x185, hn⟩ := hn
        obtain ⟨x186, hn⟩ := hn
        obtain ⟨x187, hn⟩ := hn
        obtain ⟨x188, hn⟩ := hn
        obtain ⟨x189, hn⟩ := hn
        obtain ⟨x190, hn⟩ := hn
        obtain ⟨x191, hn⟩ := hn
        obtain ⟨x192, hn⟩ := hn
        obtain ⟨x193, hn⟩ := hn
        obtain ⟨x194, hn⟩ := hn
        obtain ⟨x195, hn⟩ := hn
        obtain ⟨x196, hn⟩ := hn
        obtain ⟨x197, hn⟩ := hn
        obtain ⟨x198, hn⟩ := hn
        obtain ⟨x199, hn⟩ := hn
        obtain ⟨x200, hn⟩ := hn
        obtain ⟨x201, hn⟩ := hn
        obtain ⟨hrel, hmu, rfl⟩ := hn
        go_roundw
        case rel => first | exact hrel | ((repeat apply Exists.intro); exact ⟨hrel, rfl⟩)
        case measure => simpa [intOf] using hmu
      · intro a' w' hn
        unfold RtR at hn
        obtain ⟨x2, hn⟩ := hn
        obtain ⟨x4, hn⟩ := hn
        obtain ⟨x5, hn⟩ := hn
        obtain ⟨x6, hn⟩ := hn
        obtain ⟨x7, hn⟩ := hn
        obtain ⟨x8, hn⟩ := hn
        obtain ⟨x9, hn⟩ := hn
        obtain ⟨x10, hn⟩ := hn
        obtain ⟨x11, hn⟩ := hn
        obtain ⟨x12, hn⟩ := hn
        obtain ⟨x13, hn⟩ := hn
        obtain ⟨x14, hn⟩ := hn
        obtain ⟨x15, hn⟩ := hn
        obtain ⟨x19, hn⟩ := hn
        obtain ⟨x20, hn⟩ := hn
        obtain ⟨x21, hn⟩ := hn
        obtain ⟨x22, hn⟩ := hn
        obtain ⟨x23, hn⟩ := hn
        obtain ⟨x24, hn⟩ := hn
        obtain ⟨x25, hn⟩ := hn
        obtain ⟨x26, hn⟩ := hn
        obtain ⟨x27, hn⟩ := hn
        obtain ⟨x28, hn⟩ := hn
        obtain ⟨x29, hn⟩ := hn
        obtain ⟨x30, hn⟩ := hn
        obtain ⟨x31, hn⟩ := hn
        obtain ⟨x32, hn⟩ := hn
        obtain ⟨x33, hn⟩ := hn
        obtain ⟨x34, hn⟩ := hn
        obtain ⟨x35, hn⟩ := hn
        obtain ⟨x36, hn⟩ := hn
        obtain ⟨x37, hn⟩ := hn
        obtain ⟨x38, hn⟩ := hn
        obtain ⟨x39, hn⟩ := hn
        obtain ⟨x40, hn⟩ := hn
        obtain ⟨x41, hn⟩ := hn
        obtain ⟨x42, hn⟩ := hn
        obtain ⟨x43, hn⟩ := hn
        obtain ⟨x44, hn⟩ := hn
        obtain ⟨x45, hn⟩ := hn
        obtain ⟨x46, hn⟩ := hn
        obtain ⟨x47, hn⟩ := hn
        obtain ⟨x48, hn⟩ := hn
        obtain ⟨x49, hn⟩ := hn
        obtain ⟨x50, hn⟩ := hn
        obtain ⟨x51, hn⟩ := hn
        obtain ⟨x52, hn⟩ := hn
        obtain ⟨x53, hn⟩ := hn
        obtain ⟨x54, hn⟩ := hn
        obtain ⟨x55, hn⟩ := hn
        obtain ⟨x56, hn⟩ := hn
        obtain ⟨x57, hn⟩ := hn
        obtain ⟨x58, hn⟩ := hn
        obtain ⟨x59, hn⟩ := hn
        obtain ⟨x60, hn⟩ := hn
        obtain ⟨x61, hn⟩ := hn
        obtain ⟨x62, hn⟩ := hn
        obtain ⟨x63, hn⟩ := hn
        obtain ⟨x64, hn⟩ := hn
        obtain ⟨x65, hn⟩ := hn
        obtain ⟨x66, hn⟩ := hn
        obtain ⟨x67, hn⟩ := hn
        obtain ⟨x68, hn⟩ := hn
        obtain ⟨x69, hn⟩ := hn
        obtain ⟨x70, hn⟩ := hn
        obtain ⟨x71, hn⟩ := hn
        obtain ⟨x72, hn⟩ := hn
        obtain ⟨x73, hn⟩ := hn
        obtain ⟨x74, hn⟩ := hn
        obtain ⟨x75, hn⟩ := hn
        obtain ⟨x76, hn⟩ := hn
        obtain ⟨x77, hn⟩ := hn
        obtain ⟨x78, hn⟩ := hn
        obtain ⟨x79, hn⟩ := hn
        obtain ⟨x80, hn⟩ := hn
        obtain ⟨x81, hn⟩ := hn
        obtain ⟨x82, hn⟩ := hn
        obtain ⟨x83, hn⟩ := hn
        obtain ⟨x84, hn⟩ := hn
        obtain ⟨x85, hn⟩ := hn
        obtain ⟨x86, hn⟩ := hn
        obtain ⟨x87, hn⟩ := hn
        obtain ⟨x88, hn⟩ := hn
        obtain ⟨x89, hn⟩ := hn
        obtain ⟨x90, hn⟩ := hn
        obtain ⟨x91, hn⟩ := hn
        obtain ⟨x92, hn⟩ := hn
        obtain ⟨x93, hn⟩ := hn
        obtain ⟨x94, hn⟩ := hn
        obtain ⟨x95, hn⟩ := hn
        obtain ⟨x96, hn⟩ := hn
        obtain ⟨x97, hn⟩ := hn
        obtain ⟨x98, hn⟩ := hn
        obtain ⟨x99, hn⟩ := hn
        obtain ⟨x100, hn⟩ := hn
        obtain ⟨x101, hn⟩ := hn
        obtain ⟨x102, hn⟩ := hn
        obtain ⟨x103, hn⟩ := hn
        obtain ⟨x104, hn⟩ := hn
        obtain ⟨x105, hn⟩ := hn
        obtain ⟨x106, hn⟩ := hn
        obtain ⟨x107, hn⟩ := hn
        obtain ⟨x108, hn⟩ := hn
        obtain ⟨x109, hn⟩ := hn
        obtain ⟨x110, hn⟩ := hn
        obtain ⟨x111, hn⟩ := hn
        obtain ⟨x112, hn⟩ := hn
        obtain ⟨x113, hn⟩ := hn
        obtain ⟨x114, hn⟩ := hn
        obtain ⟨x115, hn⟩ := hn
        obtain ⟨x116, hn⟩ := hn
        obtain ⟨x117, hn⟩ := hn
        obtain ⟨x118, hn⟩ := hn
        obtain ⟨x119, hn⟩ := hn
        obtain ⟨x120, hn⟩ := hn
        obtain ⟨x121, hn⟩ := hn
        obtain ⟨x122, hn⟩ := hn
        obtain ⟨x123, hn⟩ := hn
        obtain ⟨x124, hn⟩ := hn
        obtain ⟨x125, hn⟩ := hn
        obtain ⟨x126, hn⟩ := hn
        obtain ⟨x127, hn⟩ := hn
        obtain ⟨x128, hn⟩ := hn
        obtain ⟨x129, hn⟩ := hn
        obtain ⟨x130, hn⟩ := hn
        obtain ⟨x131, hn⟩ := hn
        obtain ⟨x132, hn⟩ := hn
        obtain ⟨x133, hn⟩ := hn
        obtain ⟨x134, hn⟩ := hn
        obtain ⟨x135, hn⟩ := hn
        obtain ⟨x136, hn⟩ := hn
        obtain ⟨x137, hn⟩ := hn
        obtain ⟨x138, hn⟩ := hn
        obtain ⟨x139, hn⟩ := hn
        obtain ⟨x140, hn⟩ := hn
        obtain ⟨x141, hn⟩ := hn
        obtain ⟨x142, hn⟩ := hn
        obtain ⟨x143, hn⟩ := hn
        obtain ⟨x144, hn⟩ := hn
        obtain ⟨x145, hn⟩ := hn
        obtain ⟨x146, hn⟩ := hn
        obtain ⟨x147, hn⟩ := hn
        obtain ⟨x148, hn⟩ := hn
        obtain ⟨x149, hn⟩ := hn
        obtain ⟨x150, hn⟩ := hn
        obtain ⟨x151, hn⟩ := hn
        obtain ⟨x152, hn⟩ := hn
        obtain ⟨x153, hn⟩ := hn
        obtain ⟨x154, hn⟩ := hn
        obtain ⟨x155, hn⟩ := hn
        obtain ⟨x156, hn⟩ := hn
        obtain ⟨x157, hn⟩ := hn
        obtain ⟨x158, hn⟩ := hn
        obtain ⟨x159, hn⟩ := hn
        obtain ⟨x160, hn⟩ := hn
        obtain ⟨x161, hn⟩ := hn
        obtain ⟨x162, hn⟩ := hn
        obtain ⟨x163, hn⟩ := hn
        obtain ⟨x164, hn⟩ := hn
        obtain ⟨x165, hn⟩ := hn
        obtain ⟨x166, hn⟩ := hn
        obtain ⟨x167, hn⟩ := hn
        obtain ⟨x168, hn⟩ := hn
        obtain ⟨x169, hn⟩ := hn
        obtain ⟨x170, hn⟩ := hn
        obtain ⟨x171, hn⟩ := hn
        obtain ⟨x172, hn⟩ := hn
        obtain ⟨x173, hn⟩ := hn
        obtain ⟨x174, hn⟩ := hn
        obtain ⟨x175, hn⟩ := hn
        obtain ⟨x176, hn⟩ := hn
        obtain ⟨x177, hn⟩ := hn
        obtain ⟨x178, hn⟩ := hn
        obtain ⟨x179, hn⟩ := hn
        obtain ⟨x180, hn⟩ := hn
        obtain ⟨x181, hn⟩ := hn
        obtain ⟨x182, hn⟩ := hn
        obtain ⟨x183, hn⟩ := hn
        obtain ⟨x184, hn⟩ := hn
        obtain ⟨x185, hn⟩ := hn
        obtain ⟨x186, hn⟩ := hn
        obtain ⟨x187, hn⟩ := hn
        obtain ⟨x188, hn⟩ := hn
        obtain ⟨x189, hn⟩ := hn
        obtain ⟨x190, hn⟩ := hn
        obtain ⟨x191, hn⟩ := hn
        obtain ⟨x192, hn⟩ := hn
        obtain ⟨x193, hn⟩ := hn
        obtain ⟨x194, hn⟩ := hn
        obtain ⟨x195, hn⟩ := hn
        obtain ⟨x196, hn⟩ := hn
        obtain ⟨x197, hn⟩ := hn
        obtain ⟨x198, hn⟩ := hn
        obtain ⟨x199, hn⟩ := hn
        obtain ⟨x200, hn⟩ := hn
        obtain ⟨x201, hn⟩ := hn
        obtain ⟨hpost, rfl⟩ := hn
        go_ret
        exact hpost
    · obtain rfl : i = s.length := by omega
      have HV : Hid (L.map (·.1) = TS) := Lib.hid (by
        have h1 := HH.out
        rw [List.drop_length, M.run_nil, List.append_nil] at h1
        exact h1)
      go_wp2_with fail
      go_ret
      rw [← HV.out]
      exact ⟨_, rfl, ⟨L, rfl, HO.out, HA.out⟩, hB⟩

end K
end Go.Proofs.YtlnginciehjlnaaGreatDoor

namespace Go.Proofs.YtlnginciehjlnaaGreatDoor
open Go.RowKit
namespace M
theorem all_lenT : ∀ (n : Nat) (raw s : List UInt8), (all n raw s).length ≤ s.length
  | 0, _, _ => by unfold all; simp
  | n + 1, raw, s => by
    unfold all
    split
    · simp
    · rename_i hs
      have hf := step_fits raw s true (ne_len hs) (step_true raw s)
      have ih := all_lenT n (step raw s true).2 (s.drop (step raw s true).1.n)
      rw [List.length_drop] at ih
      split
      · omega
      · rw [List.length_cons]; omega
theorem run_lenT (raw s : List UInt8) : (run raw s).length ≤ s.length := all_lenT _ raw s
end M
namespace K

theorem rattrs_at {base : Nat} {v : Value} {l : List (List UInt8 × List UInt8)} {w : World} (h : HasRAttrs base v l w) {k : Nat} (hk : k < l.length) : ∃ g, AttrAt v l w k l[k] g := by
  unfold HasRAttrs at h
  obtain ⟨ao, cap, rfl, hao⟩ := own_slice h
  obtain ⟨g, rfl, _⟩ := hao (by omega)
  refine ⟨g, ⟨cap, rfl⟩, (h.lt g rfl).2, ?_, ?_⟩
  · rw [h.cellAt (k * 2) (by omega)]
    exact acells_at l k hk rfl 0 (by omega)
  · rw [h.cellAt (k * 2 + 1) (by omega)]
    exact acells_at l k hk rfl 1 (by omega)

theorem rtoks_at {base : Nat} {v : Value} {ts : List M.Tok} {w : World} (h : HasRToks base v ts w) {k : Nat} (hk : k < ts.length) : ∃ g x, TokAt v ts w k ts[k] g x ∧ HasRAttrs base x ts[k].attrs w := by
  obtain ⟨L, rfl, ho, hA⟩ := h
  have hk' : k < L.length := by simpa using hk
  obtain ⟨ao, cap, rfl, hao⟩ := own_slice ho
  obtain ⟨g, rfl, _⟩ := hao (by omega)
  have hg := (ho.lt g rfl).2
  obtain ⟨t, a, hq⟩ : ∃ t a, L[k] = (t, a) := ⟨L[k].1, L[k].2, rfl⟩
  have et : (L.map (·.1))[k] = t := by rw [List.getElem_map, hq]
  rw [et]
  have hc : ∀ o, o < 5 → w.cell? ⟨g, k * 5 + o, none⟩ = cell5 t a o := fun o ho' => by
    rw [ho.cellAt (k * 5 + o) (by omega)]
    exact tcells_at L k hk' hq o ho'
  refine ⟨g, a, ⟨⟨cap, by rw [List.length_map]⟩, hg, hc 0 (by omega), hc 1 (by omega), hc 2 (by omega), hc 3 (by omega), hc 4 (by omega)⟩, ?_⟩
  exact hA (t, a) (by rw [← hq]; exact List.getElem_mem hk')

theorem rtoks_form {base : Nat} {v : Value} {ts : List M.Tok} {w : World} (h : HasRToks base v ts w) : ∃ ao cap, v = .slice ao ts.length cap := by
  obtain ⟨L, rfl, ho, hA⟩ := h
  obtain ⟨ao, cap, hv, _⟩ := own_slice ho
  exact ⟨ao, cap, by rw [List.length_map]; exact hv⟩
theorem HasRToks.below {base : Nat} {v : Value} {ts : List M.Tok} {w w' : World} (h : HasRToks base v ts w) (b : Below w.heap.size w w') : HasRToks base v ts w' := by
  obtain ⟨L, e, ho, hA⟩ := h
  exact ⟨L, e, own_below b ho, fun p hp => own_below b (hA p hp)⟩

def tokAgg (t : M.Tok) (x : Value) : Value := .agg #[.int .i64 t.kind, .string ⟨t.name.toArray⟩, x, .bool t.closed, .string ⟨t.text.toArray⟩]

set_option maxHeartbeats 4000000 in
set_option maxRecDepth 100000 in
theorem Same (b1 b2 : Nat) (tk : Nat) (tn : List UInt8) (ta : List (List UInt8 × List UInt8)) (tc : Bool) (tt : List UInt8) (x1 x2 : Value) (w : World) (h1 : HasAttrs b1 x1 ta w) (h2 : HasRAttrs b2 x2 ta w) (hl : ta.length ≤ 1000000) :
    Calls Tryz.prog 13 #[.agg #[.int .i64 tk, .string ⟨tn.toArray⟩, x1, .bool tc, .string ⟨tt.toArray⟩], .agg #[.int .i64 tk, .string ⟨tn.toArray⟩, x2, .bool tc, .string ⟨tt.toArray⟩]] w fun e w' => e = .returned (.bool true) ∧ Below w.heap.size w w' := by
  have H1 := Lib.hid h1
  have H2 := Lib.hid h2
  obtain ⟨ao1, cap1, rfl⟩ := attrs_form h1
  obtain ⟨ao2, cap2, hv2, _⟩ := own_slice h2
  subst hv2
  clear h1 h2
  go_enter Tryz.func13, Tryz.ntmps13
  go_wp2_with fail
  obtain ⟨W, hW⟩ : ∃ W, W = (w.alloc (.cells #[.int .i64 tk, .string ⟨tn.toArray⟩, .slice ao1 ta.length cap1, .bool tc, .string ⟨tt.toArray⟩] 30)).alloc (.cells #[.int .i64 tk, .string ⟨tn.toArray⟩, .slice ao2 ta.length cap2, .bool tc, .string ⟨tt.toArray⟩] 33) := ⟨_, rfl⟩
  rw [← hW]
  have hbW : Below w.heap.size w W := by rw [hW]; exact ((Below.refl _ _).alloc (Nat.le_refl _) _).alloc (by simp) _
  have hC1 : W.heap[w.heap.size]? = some (.cells #[.int .i64 tk, .string ⟨tn.toArray⟩, .slice ao1 ta.length cap1, .bool tc, .string ⟨tt.toArray⟩] 30 (0, 0)) := by
    rw [hW, Below.heap_alloc _ _ _ (by simp)]; exact heap_alloc_new _ _
  have hC2 : W.heap[w.heap.size + 1]? = some (.cells #[.int .i64 tk, .string ⟨tn.toArray⟩, .slice ao2 ta.length cap2, .bool tc, .string ⟨tt.toArray⟩] 33 (0, 0)) := by
    have := heap_alloc_new (w.alloc (.cells #[.int .i64 tk, .string ⟨tn.toArray⟩, .slice ao1 ta.length cap1, .bool tc, .string ⟨tt.toArray⟩] 30)) (.cells #[.int .i64 tk, .string ⟨tn.toArray⟩, .slice ao2 ta.length cap2, .bool tc, .string ⟨tt.toArray⟩] 33)
    rw [World.size_alloc] at this
    rw [hW]; exact this
  have HA1 : Hid (HasAttrs b1 (.slice ao1 ta.length cap1) ta W) := Lib.hid (own_below hbW H1.out)
  have HA2 : Hid (HasRAttrs b2 (.slice ao2 ta.length cap2) ta W) := Lib.hid (own_below hbW H2.out)
  have hz1 := lt_of_block hC1
  have hz2 := lt_of_block hC2
  have HC1 := Lib.hid hC1
  have HC2 := Lib.hid hC2
  obtain ⟨hc1, hf1⟩ := cells_of hC1
  obtain ⟨hc2, hf2⟩ := cells_of hC2
  clear hW hC1 hC2 H1 H2
  generalize hBe : w.heap.size = B at *
  have HBE := Lib.hid hBe
  clear hBe
  go_wp2_with fail
  go_loopw [5] (fun u wr => ∃ m : Nat, u = .int .i64 m ∧ m ≤ ta.length ∧ Below W.heap.size W wr) (fun u _ => ta.length - (intOf u).toNat)
  case atStart => exact ⟨0, rfl, Nat.zero_le _, Below.refl _ _⟩
  case round =>
    obtain ⟨m, rfl, hm, hBm⟩ := hrel
    clear hc1 hf1 hc2 hf2
    have j1 : wr.cell? ⟨B, 2, none⟩ = some (.slice ao1 ta.length cap1) := (hBm.cell (p := ⟨B, 2, none⟩) hz1).trans ((cells_of HC1.out).1 2)
    have j2 : wr.cell? ⟨B + 1, 2, none⟩ = some (.slice ao2 ta.length cap2) := (hBm.cell (p := ⟨B + 1, 2, none⟩) hz2).trans ((cells_of HC2.out).1 2)
    by_cases hlm : m < ta.length
    · have hlm0 : (0 : Int) ≤ (m : Int) := by omega
      have hlm1 : (m : Int) < (ta.length : Int) := by omega
      obtain ⟨q1, z1⟩ := attrs_at HA1.out hlm
      obtain ⟨q2, z2⟩ := rattrs_at HA2.out hlm
      generalize ta[m] = p at *
      obtain ⟨pn, pv⟩ := p
      obtain ⟨⟨d3, f3⟩, l3, r0, r1⟩ := z1.below hBm
      obtain ⟨⟨d4, f4⟩, l4, s0, s1⟩ := z2.below hBm
      dsimp only at r0 r1 s0 s1
      injection f3 with f3 _ f3'
      injection f4 with f4 _ f4'
      subst f3 f3' f4 f4'
      go_wp2_with fail
      go_quiet (fail)
      go_wp2_with fail
      go_roundw
      case rel => exact ⟨m + 1, by go_num, by omega, Below.trans hBm ⟨rfl, rfl, rfl, Nat.le_refl _, fun _ _ => rfl⟩⟩
      case measure => simp [intOf]; omega
    · have hge : (ta.length : Int) ≤ (m : Int) := by omega
      go_wp2_with fail
      go_ret
      exact ⟨rfl, by rw [HBE.out]; exact hbW.trans (hBm.mono (by omega))⟩

set_option maxHeartbeats 4000000 in
set_option maxRecDepth 100000 in
theorem MarkupTokens (s : List UInt8) (w : World) (hs0 : s.length ≤ 9223372036854775807) (hE : Env w) :
    Calls Tryz.prog 3 #[.string ⟨s.toArray⟩] w fun e w' => e = .returned (.bool true) ∧ Below w.heap.size w w' := by
  have HE := Lib.hid hE
  clear hE
  by_cases hs : s.length ≤ 1500
  · have hs1 : (s.length : Int) ≤ 1500 := by omega
    have QT := Lib.hid (fun W h => Tokens s W (by omega) h)
    have QR := Lib.hid (fun W => rTokens s W (by omega))
    have htl : (toks s).length ≤ 10000 := by
      have h1 := M.run_lenT [] (U.nlr false (U.rep s))
      have h2 := U.nlr_length (U.rep s) false
      have h3 := U.rep_le s
      unfold toks
      omega
    have HG : Hid (∀ t ∈ toks s, M.Good t) := Lib.hid (M.run_good _)
    generalize toks s = TS at *
    go_enter Tryz.func3, Tryz.ntmps3
    go_wp2_with fail
    refine (awake _ HE.out).mono ?_
    rintro e w1 ⟨rfl, b1⟩
    have HE1 := Lib.hid (HE.out.same b1)
    go_wp2_with fail
    refine (QT.out _ HE1.out).mono ?_
    rintro e w2 ⟨v, rfl, hts, b2⟩
    have hb12 := b1.trans (b2.mono b1.size)
    have HTS := Lib.hid hts
    obtain ⟨ao, cap, rfl⟩ := toks_form hts
    clear hts
    go_wp2_with fail
    refine (QR.out _).mono ?_
    rintro e w3 ⟨v, rfl, hrs, b3⟩
    have HTS3 := Lib.hid (HTS.out.below b3)
    have hb13 := hb12.trans (b3.mono hb12.size)
    have HRS := Lib.hid hrs
    obtain ⟨ao2, cap2, rfl⟩ := rtoks_form hrs
    clear hrs QT QR HTS
    go_wp2_with fail
    go_loopw [5] (fun u wr => ∃ k : Nat, u = .int .i64 k ∧ k ≤ TS.length ∧ Below w3.heap.size w3 wr) (fun u _ => TS.length - (intOf u).toNat)
    case atStart => exact ⟨0, rfl, Nat.zero_le _, Below.refl _ _⟩
    case round =>
      obtain ⟨k, rfl, hk, hB⟩ := hrel
      obtain ⟨wo, rfl⟩ : ∃ wo : World, wo = wr := ⟨_, rfl⟩
      by_cases hlt : k < TS.length
      · have hlt0 : (0 : Int) ≤ (k : Int) := by omega
        have hlt1 : (k : Int) < (TS.length : Int) := by omega
        obtain ⟨g1, x1, t1, ha1⟩ := toks_at (HTS3.out.below hB) hlt
        obtain ⟨g2, x2, t2, ha2⟩ := rtoks_at (HRS.out.below hB) hlt
        have hal : TS[k].attrs.length ≤ 1000000 := by
          obtain ⟨_, _, _, _, _, _, gat⟩ := HG.out _ (List.getElem_mem hlt)
          have := gat.len
          omega
        generalize TS[k] = t at *
        obtain ⟨tk, tn, ta, tc, tt⟩ := t
        dsimp only at ha1 ha2 hal
        have QS := Lib.hid (fun W h1 h2 => Same w1.heap.size w2.heap.size tk tn ta tc tt x1 x2 W h1 h2 hal)
        obtain ⟨y1, c1, rfl⟩ := attrs_form ha1
        obtain ⟨y2, c2, hv2, _⟩ := own_slice ha2
        subst hv2
        have HA1 := Lib.hid ha1
        have HA2 := Lib.hid ha2
        obtain ⟨⟨d1, f1⟩, l1, e0, e1, e2, e3, e4⟩ := t1
        obtain ⟨⟨d2, f2⟩, l2, i0, i1, i2, i3, i4⟩ := t2
        dsimp only at e0 e1 e3 e4 i0 i1 i3 i4
        injection f1 with f1 _ f1'
        injection f2 with f2 _ f2'
        subst f1 f1' f2 f2'
        have E0 := fun d : Later wo.heap.size wo => Later.cell e0 l1 d
        have E1 := fun d : Later wo.heap.size wo => Later.cell e1 l1 d
        have E2 := fun d : Later wo.heap.size wo => Later.cell e2 l1 d
        have E3 := fun d : Later wo.heap.size wo => Later.cell e3 l1 d
        have E4 := fun d : Later wo.heap.size wo => Later.cell e4 l1 d
        have I0 := fun d : Later wo.heap.size wo => Later.cell i0 l2 d
        have I1 := fun d : Later wo.heap.size wo => Later.cell i1 l2 d
        have I2 := fun d : Later wo.heap.size wo => Later.cell i2 l2 d
        have I3 := fun d : Later wo.heap.size wo => Later.cell i3 l2 d
        have I4 := fun d : Later wo.heap.size wo => Later.cell i4 l2 d
        clear ha1 ha2 e0 e1 e2 e3 e4 i0 i1 i2 i3 i4
        go_wp2_with fail
        refine wp_region_later (by kernel_rfl) (by kernel_rfl) ?_
        repeat (go_big_quiet_step ((go_at_call 13; exact Calls.later (QS.out _ (own_below (Later.h _) HA1.out) (own_below (Later.h _) HA2.out)))))
        refine wpQuiet_nil ?_
        intro _ hw'
        obtain ⟨dq, hw''⟩ := hw'
        subst hw''
        go_wp2_with fail
        go_roundw
        case rel => exact ⟨k + 1, by go_num, by omega, hB.trans (dq.h.mono hB.size)⟩
        case measure => simp [intOf]; omega
      · have hge : (TS.length : Int) ≤ (k : Int) := by omega
        go_wp2_with fail
        go_ret
        exact ⟨rfl, hb13.trans (hB.mono hb13.size)⟩
  · have hs1 : 1500 < (s.length : Int) := by omega
    clear hs
    go_enter Tryz.func3, Tryz.ntmps3
    go_wp2_with fail
    refine (awake _ HE.out).mono ?_
    rintro e w1 ⟨rfl, b1⟩
    have HE1 := Lib.hid (HE.out.same b1)
    go_wp2_with fail
    refine (awake _ HE1.out).mono ?_
    rintro e w2 ⟨rfl, b2⟩
    go_wp2_with fail
    go_ret
    exact ⟨rfl, b1.trans (b2.mono b1.size)⟩

end K
end Go.Proofs.YtlnginciehjlnaaGreatDoor

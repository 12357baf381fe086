/- What the writing functions of the reference come to: Format. -/
import Derived.Test.YtafkeolpadfjfaaGreatDoorRwr3
import Derived.Deep.RegionHeld3
import Derived.Deep.DeepCutAuto
set_option linter.unusedVariables false
set_option linter.unusedSimpArgs false
namespace Go.Proofs.YtafkeolpadfjfaaGreatDoor
open Go.RowKit Go.Sort
namespace F
open H K
def FTestOk (t : L.Test) : Prop := TestOk t ∧ KindOk t.t.kind ∧ ∀ u ∈ t.nots, KindOk u.kind
def FPartOk (p : L.Part) : Prop := (∀ t ∈ p.tests, FTestOk t) ∧ p.tests.length ≤ 1000000 ∧ p.join ≤ 4
def FSelOk (ps : List L.Part) : Prop := (∀ p ∈ ps, FPartOk p) ∧ ps.length ≤ 1000000
theorem plain_text (name : List UInt8) (v : Value) (w : World) (S : Nat → Prop) (hT : TestsAt S w v []) (hsz : (L.fpart name []).length ≤ 1000000000) :
  Calls Tryz.prog 58 #[.string ⟨name.toArray⟩, v] w (TextPost (L.fpart name []) w) :=
 part_text name v [] w S hT (Nat.zero_le _) hsz (fun t ht => (by cases ht))
theorem not_text (name : List UInt8) (v : Value) (nots : List L.Tst) (w : World) (S : Nat → Prop) (hN : NotsAt S w v nots) (hok : ∀ u ∈ nots, TstOk u) (hkd : ∀ u ∈ nots, KindOk u.kind) (hl : nots.length ≤ 1000000) (hsz : (L.fpart name (nots.map L.ftst)).length ≤ 1000000000) :
  Calls Tryz.prog 58 #[.string ⟨name.toArray⟩, v] w (TextPost (L.fpart name (nots.map L.ftst)) w) := by
 have e : L.fTests name (nots.map (fun t => (⟨t, []⟩ : L.Test))) = L.fpart name (nots.map L.ftst) := by
  unfold L.fTests; rw [List.map_map]; rfl
 have := part_text name v (nots.map (fun t => ⟨t, []⟩)) w S hN.tests (by simpa using hl) (by rw [e]; exact hsz) ?_
 ·rw [e] at this; exact this
 ·intro t ht nv W hI
  have hle := len_test (ty := name) ht
  rw [e] at hle
  obtain ⟨u, hu, rfl⟩ := List.mem_map.1 ht
  have hI' : NotsAt S W nv [] := hI
  refine test_of u nv [] W S hI' (hok u hu) (hkd u hu) (by omega) ?_
  intro hk W2 hB
  refine plain_text u.name nv W2 S (keeps_tests (NotsAt.tests hI') (Kept.below hB)) ?_
  have := len_fpart (t := u) [] hk
  have hle2 : (L.ftest u []).length ≤ (L.fpart name (nots.map L.ftst)).length := hle
  omega
theorem test_text (t : L.Test) (nv : Value) (w : World) (S : Nat → Prop) (hN : NotsAt S w nv t.nots) (hok : FTestOk t) (hsz : (L.fTest t).length ≤ 1000000000) :
  Calls Tryz.prog 97 #[tval t.t nv] w (TextPost (L.fTest t) w) := by
 refine test_of t.t nv t.nots w S hN hok.1.1 hok.2.1 hsz ?_
 intro hk W hB
 refine not_text t.t.name nv t.nots W S (keeps_nots hN (Kept.below hB)) hok.1.2.1 hok.2.2 hok.1.2.2 ?_
 have := len_fpart (t := t.t) (t.nots.map L.ftst) hk
 have h2 : (L.ftest t.t (t.nots.map L.ftst)).length ≤ 1000000000 := hsz
 omega
theorem part_full (p : L.Part) (v : Value) (w : World) (S : Nat → Prop) (hT : TestsAt S w v p.tests) (hok : FPartOk p) (hsz : (L.fPart p).length ≤ 1000000000) :
  Calls Tryz.prog 58 #[.string ⟨p.type.toArray⟩, v] w (TextPost (L.fPart p) w) := by
 refine part_text p.type v p.tests w S hT hok.2.1 hsz ?_
 intro t ht nv W hI
 have := len_test (ty := p.type) ht
 have h2 : (L.fTests p.type p.tests).length ≤ 1000000000 := hsz
 exact test_text t nv W S hI (hok.1 t ht) (by omega)
/-- What follows the first selectors of a list. -/
def fRest (l : List (List L.Part)) : List UInt8 := l.flatMap fun x => 44 :: 32 :: L.fSel x
theorem fList_cons (x : List L.Part) : ∀ r, L.fList (x :: r) = L.fSel x ++ fRest r
 | [] => by simp [L.fList, fRest]
 | y :: r => by
  unfold L.fList
  rw [fList_cons y r]
  simp [fRest]
def fTail (l : List (List L.Part)) (k : Nat) : List UInt8 := if k = 0 then L.fList l else fRest (l.drop k)
theorem fTail_zero (l : List (List L.Part)) (h : 0 < l.length) : fTail l 0 = L.fSel l[0] ++ fTail l 1 := by
 cases l with
 | nil => cases h
 | cons x r => unfold fTail; rw [if_pos rfl, fList_cons, if_neg (by omega)]; rfl
theorem fTail_more (l : List (List L.Part)) {k : Nat} (h : k < l.length) (hk : 0 < k) : fTail l k = 44 :: 32 :: (L.fSel l[k] ++ fTail l (k + 1)) := by
 unfold fTail
 rw [if_neg (by omega), if_neg (by omega), List.drop_eq_getElem_cons h]
 unfold fRest
 rw [List.flatMap_cons]
 rfl
theorem fTail_end (l : List (List L.Part)) : fTail l l.length = [] := by
 unfold fTail
 cases l with
 | nil => rfl
 | cons x r => rw [if_neg (by simp), List.drop_length]; rfl
theorem slice_blk {α : Type} {c : α → Value → List Value} {I : (Nat → Prop) → World → Value → α → Prop} {S : Nat → Prop} {w : World} {a : Option Addr} {n cap : Nat} {l : List α} (h : ListAt c I S w (.slice a n cap) l) (hn : 0 < l.length) : ∃ g, a = some ⟨g, 0, none⟩ := by
 cases a with
 | none => have := ListAt.none_ h; rw [this] at hn; simp at hn
 | some aa =>
  obtain ⟨ps, h1, h2, h3⟩ := h
  rcases h2 with ⟨hv, hn⟩ | ⟨g, cap', hv, _⟩
  ·cases hv
  ·simp only [Value.slice.injEq, Option.some.injEq] at hv
   exact ⟨g, by rw [hv.1]⟩
theorem sep_at {w : World} {Y : Nat} {T : TypeId} (h : Blk Y #[.string ⟨#[]⟩, .string ⟨#[32]⟩, .string ⟨#[32, 62, 32]⟩, .string ⟨#[32, 43, 32]⟩, .string ⟨#[32, 126, 32]⟩] T w) {jn : Nat} (hj : jn ≤ 4) : w.cell? ⟨Y, jn, none⟩ = some (.string ⟨(L.fjoin jn).toArray⟩) := by
 obtain ⟨hc, _⟩ := cells_of h
 rcases (by omega : jn = 0 ∨ jn = 1 ∨ jn = 2 ∨ jn = 3 ∨ jn = 4) with rfl | rfl | rfl | rfl | rfl
 ·exact hc 0
 ·exact hc 1
 ·exact hc 2
 ·exact hc 3
 ·exact hc 4
set_option maxHeartbeats 8000000 in
set_option maxRecDepth 100000 in
theorem format (v : Value) (l : List (List L.Part)) (w : World) (S : Nat → Prop) (hS : SelsAt S w v l) (hl : l.length ≤ 1000000) (hok : ∀ ps ∈ l, FSelOk ps) (hsz : (L.fList l).length ≤ 100000000) :
  Calls Tryz.prog 26 #[v] w (TextPost (L.fList l) w) := by
 have HS := Lib.hid hS
 have HOk := Lib.hid hok
 obtain ⟨ao, cap, hv⟩ := hS.form
 generalize hNN : l.length = N at hv hl
 have HN := Lib.hid hNN
 subst hv
 have HB0 := Lib.hid (Below.refl w.heap.size w)
 have HA0 : Hid (L.fList l = [] ++ fTail l 0) := Lib.hid rfl
 generalize L.fList l = q at *
 have HSz := Lib.hid hsz
 clear hS hok hsz hNN
 go_enter Tryz.func26, Tryz.ntmps26
 go_wp2_with fail
 go_loopw [3, 4] (fun v3 v4 wr => ∃ k : Nat, v4 = .int .i64 k ∧ k ≤ N ∧ (∃ acc : List UInt8, v3 = .string ⟨acc.toArray⟩ ∧ Hid (q = acc ++ fTail l k)) ∧ Hid (Below w.heap.size w wr)) (fun _ v4 _ => N - (intOf v4).toNat)
 case atStart => exact ⟨0, rfl, Nat.zero_le _, ⟨[], rfl, HA0⟩, HB0⟩
 case round =>
  obtain ⟨k, rfl, hk, ⟨acc, rfl, HA⟩, HB⟩ := hrel
  clear HB0 HA0
  by_cases hkN : k < N
  ·have hkl : k < l.length := by rw [HN.out]; exact hkN
   have hkI : (k : Int) < (N : Int) := by omega
   have hsl := keeps_sels HS.out (Kept.below HB.out)
   obtain ⟨g, hg⟩ := slice_blk hsl (by omega)
   subst hg
   obtain ⟨hlt, hnl, hsS, vk, hc, hp⟩ := ListAt.at_ cSel_len hsl hkl
   have c0 := hc 0 (by omega)
   simp only [Nat.mul_one, Nat.add_zero] at c0
   have c1 : wr.cell? ⟨g, k, none⟩ = some vk := c0
   have hsep : ∃ sep : List UInt8, Hid (q = (acc ++ sep) ++ (L.fSel l[k] ++ fTail l (k + 1))) ∧ ((k = 0 ∧ sep = []) ∨ (0 < k ∧ sep = [44, 32])) := by
    by_cases hk0 : k = 0
    ·subst hk0
     exact ⟨[], Lib.hid (by rw [HA.out, fTail_zero l hkl]; simp), Or.inl ⟨rfl, rfl⟩⟩
    ·exact ⟨[44, 32], Lib.hid (by rw [HA.out, fTail_more l hkl (by omega)]; simp), Or.inr ⟨by omega, rfl⟩⟩
   obtain ⟨sep, HA1, hsep⟩ := hsep
   have hsok := HOk.out l[k] (List.getElem_mem hkl)
   clear hc c0 hnl hsS hsl HA
   generalize l[k] = ps at *
   have HPs := Lib.hid hp
   have HSok := Lib.hid hsok
   obtain ⟨ap, cp, hvk⟩ := hp.form
   generalize hMM : ps.length = M at hvk
   have HM := Lib.hid hMM
   subst hvk
   have hM1 : M ≤ 1000000 := by have := HSok.out.2; omega
   have hacc : acc.length + sep.length + (L.fSel ps).length ≤ 100000000 := by
    have h1 := HSz.out
    rw [HA1.out] at h1
    simp only [List.length_append] at h1
    omega
   have za := bytes_size acc
   clear hp hsok hMM hkl
   generalize hTl : fTail l (k + 1) = tl at HA1
   have HTl := Lib.hid hTl
   clear hTl
   have HAcc := Lib.hid hacc
   go_upto_if 14 with fail
   go_cut [3] (fun s3 wx => s3 = .string ⟨(acc ++ sep).toArray⟩ ∧ wx = wr)
   case first =>
    rcases hsep with ⟨rfl, rfl⟩ | ⟨hk0, rfl⟩
    ·go_wp2_with fail
     go_meet
     exact ⟨by simp, rfl⟩
    ·have e1 : decide ((0 : Int) < (k : Int)) = true := decide_eq_true (by omega)
     go_wp2_with fail
     go_meet
     exact ⟨congrArg Value.string (by apply ByteArray.ext; simp [ByteArray.data_append]), rfl⟩
   case rest =>
    obtain ⟨rfl, rfl⟩ := hcut
    have HA2 : Hid (q = (acc ++ sep) ++ (L.fSel (ps.drop 0) ++ tl)) := HA1
    have hacc1 : (acc ++ sep).length ≤ 100000000 := by rw [List.length_append]; omega
    clear HA1 hsep za hacc HAcc
    generalize acc ++ sep = acc1 at *
    have HI0 := Lib.hid (Below.refl wc.heap.size wc)
    go_wp2_with fail
    go_loopw [3, 5] (fun v3 v5 wi => ∃ m : Nat, v5 = .int .i64 m ∧ m ≤ M ∧ (∃ a2 : List UInt8, v3 = .string ⟨a2.toArray⟩ ∧ Hid (q = a2 ++ (L.fSel (ps.drop m) ++ tl))) ∧ Hid (Below wc.heap.size wc wi)) (fun _ v5 _ => M - (intOf v5).toNat)
    case atStart => exact ⟨0, rfl, Nat.zero_le _, ⟨acc1, rfl, HA2⟩, HI0⟩
    case round =>
     obtain ⟨m, rfl, hm, ⟨a2, rfl, HA⟩, HI⟩ := hrel
     clear HI0 HA2
     have c1r : wr.cell? ⟨g, k, none⟩ = some (.slice ap M cp) := (HI.out.cell (p := ⟨g, k, none⟩) hlt).trans c1
     have hltr : g < wr.heap.size := Nat.lt_of_lt_of_le hlt HI.out.size
     by_cases hmM : m < M
     ·have hml : m < ps.length := by rw [HM.out]; exact hmM
      have hmI : (m : Int) < (M : Int) := by omega
      have hpl := keeps_parts HPs.out (Kept.below HI.out)
      obtain ⟨g2, hg2⟩ := slice_blk hpl (by omega)
      subst hg2
      obtain ⟨hlt2, hnl, hsS, vm, hc, hp⟩ := ListAt.at_ cPart_len hpl hml
      have hsplit : L.fSel (ps.drop m) = (L.fjoin ps[m].join ++ L.fPart ps[m]) ++ L.fSel (ps.drop (m + 1)) := by
       rw [List.drop_eq_getElem_cons hml]; rfl
      have HA2 : Hid (q = ((a2 ++ L.fjoin ps[m].join) ++ L.fPart ps[m]) ++ (L.fSel (ps.drop (m + 1)) ++ tl)) := Lib.hid (HA.out.trans (by rw [hsplit]; simp))
      have hpok := HSok.out.1 ps[m] (List.getElem_mem hml)
      clear hnl hsS hpl hsplit HA
      generalize ps[m] = p at *
      have hlen : a2.length + (L.fjoin p.join).length + (L.fPart p).length ≤ 100000000 := by
       have h1 := HSz.out
       rw [HA2.out] at h1
       simp only [List.length_append] at h1
       omega
      have hp2 : TestsAt S wr vm p.tests := hp
      obtain ⟨aq, cq, hvm⟩ := hp2.form
      generalize p.tests.length = nq at hvm
      have HPm := Lib.hid hp2
      have HPok := Lib.hid hpok
      have d0 : wr.cell? ⟨g2, m * 3 + 0, none⟩ = some (.int .i64 p.join) := hc 0 (by omega)
      have d1 : wr.cell? ⟨g2, m * 3 + 1, none⟩ = some (.string ⟨p.type.toArray⟩) := hc 1 (by omega)
      have d2 : wr.cell? ⟨g2, m * 3 + 2, none⟩ = some vm := hc 2 (by omega)
      simp only [Nat.add_zero] at d0
      subst hvm
      have hjl := hpok.2.2
      have Q := Lib.hid (fun W (hB : Below wr.heap.size wr W) => part_full p (.slice aq nq cq) W S (keeps_tests HPm.out (Kept.below hB)) HPok.out (by omega))
      clear hc hp hp2 hpok hml HPm HPok
      generalize L.fPart p = ft at *
      have zf := bytes_size ft
      have za := bytes_size a2
      obtain ⟨jn, ty, ts⟩ := p
      dsimp only at *
      go_upto_region 11 with fail
      clear d0 d1 d2 c1r
      have HX : Hid (Blk wr.heap.size #[.int .i64 jn, .string ⟨ty.toArray⟩, .slice aq nq cq] 105 (wr.alloc (.cells #[.int .i64 jn, .string ⟨ty.toArray⟩, .slice aq nq cq] 105))) := Lib.hid (Blk.new wr _ _)
      have HBW : Hid (Below wr.heap.size wr (wr.alloc (.cells #[.int .i64 jn, .string ⟨ty.toArray⟩, .slice aq nq cq] 105))) := Lib.hid ((Below.refl _ wr).alloc (Nat.le_refl _) _)
      generalize (wr.alloc (.cells #[.int .i64 jn, .string ⟨ty.toArray⟩, .slice aq nq cq] 105)) = W1 at *
      obtain ⟨hcx, hfx⟩ := cells_of HX.out
      have hlx := HX.out.lt
      have hle : wr.heap.size ≤ W1.heap.size := by omega
      have hs1 : a2.length + ft.length ≤ 100000000 := by omega
      have hs2 : ft.length ≤ 100000000 := by omega
      have hs3 : a2.length ≤ 100000000 := by omega
      have zj := bytes_size (L.fjoin jn)
      have o1 : ¬ 9223372036854775807 < (L.fjoin jn).length + ft.length := by omega
      have o2 : ¬ 9223372036854775807 < a2.length + ((L.fjoin jn).length + ft.length) := by omega
      have x0 : W1.cell? ⟨wr.heap.size, 0, none⟩ = some (.int .i64 jn) := hcx 0
      have x1 : W1.cell? ⟨wr.heap.size, 1, none⟩ = some (.string ⟨ty.toArray⟩) := hcx 1
      have x2 : W1.cell? ⟨wr.heap.size, 2, none⟩ = some (.slice aq nq cq) := hcx 2
      have hj0 : (0 : Int) ≤ (jn : Int) := by omega
      have hj5 : (jn : Int) < 5 := by omega
      have hj4 : jn ≤ 4 := by omega
      have HX2 : Hid (Blk _ _ _ W1.drew) := Lib.hid (HX.out.drewN 1)
      have HBW2 : Hid (Below _ _ W1.drew) := Lib.hid (belowN HBW.out 1)
      clear HX HBW hcx hfx hlx hle hs1 hs2 hs3
      have HX := HX2
      have HU := HBW2
      clear HX2 HBW2
      have x0 : W1.drew.cell? ⟨wr.heap.size, 0, none⟩ = some (.int .i64 jn) := x0
      have x1 : W1.drew.cell? ⟨wr.heap.size, 1, none⟩ = some (.string ⟨ty.toArray⟩) := x1
      have x2 : W1.drew.cell? ⟨wr.heap.size, 2, none⟩ = some (.slice aq nq cq) := x2
      -- REGION 11 (printed by genfmt4.py)
      refine wp_region_held_drew (S := fun w' => w'.cell? ⟨wr.heap.size, 0, none⟩ = some (.int .i64 jn) ∧ w'.cell? ⟨wr.heap.size, 1, none⟩ = some (.string ⟨ty.toArray⟩) ∧ w'.cell? ⟨wr.heap.size, 2, none⟩ = some (.slice aq nq cq)) (by kernel_rfl) ⟨x0, x1, x2⟩ (fun hS => ?_)
      generalize W1.drew = W2 at *
      refine wpAnyH_take (i := 0) (oi := { dst := some 35, op := .move (.tmp 3), type := 9, pos := "ref.go:312", after := #[], guard := none }) (v := .string ⟨a2.toArray⟩) rfl (by kernel_rfl) (by kernel_rfl) (by kernel_rfl) (fun _ _ _ h => h) (Or.inl ⟨by rfl, ?_⟩) hS ?_
      ·intro W hSw; obtain ⟨y0, y1, y2⟩ := hSw; go_simp
      try simp only [Act.put, List.setIfInBounds_toArray, List.set_cons_zero, List.set_cons_succ]
      refine wpAnyH_take (i := 2) (oi := { dst := some 37, op := .fieldAddr 105 (.tmp 6) 0, type := 0, pos := "ref.go:312", after := #[], guard := none }) (v := .pointer (some ⟨wr.heap.size, 0, none⟩)) rfl (by kernel_rfl) (by kernel_rfl) (by kernel_rfl) (fun _ _ _ h => h) (Or.inl ⟨by rfl, ?_⟩) hS ?_
      ·intro W hSw; obtain ⟨y0, y1, y2⟩ := hSw; go_simp
      try simp only [Act.put, List.setIfInBounds_toArray, List.set_cons_zero, List.set_cons_succ]
      refine wpAnyH_take (i := 3) (oi := { dst := some 38, op := .load 3 (.tmp 37), type := 3, pos := "ref.go:312", after := #[{ on := 2, ground := .data }], guard := none }) (v := .int .i64 jn) rfl (by kernel_rfl) (by kernel_rfl) (by kernel_rfl) (fun _ _ _ h => h) (Or.inl ⟨by rfl, ?_⟩) hS ?_
      ·intro W hSw; obtain ⟨y0, y1, y2⟩ := hSw; go_simp
      try simp only [Act.put, List.setIfInBounds_toArray, List.set_cons_zero, List.set_cons_succ]
      refine wpAnyH_take (i := 6) (oi := { dst := some 41, op := .fieldAddr 105 (.tmp 6) 1, type := 0, pos := "ref.go:312", after := #[], guard := none }) (v := .pointer (some ⟨wr.heap.size, 1, none⟩)) rfl (by kernel_rfl) (by kernel_rfl) (by kernel_rfl) (fun _ _ _ h => h) (Or.inl ⟨by rfl, ?_⟩) hS ?_
      ·intro W hSw; obtain ⟨y0, y1, y2⟩ := hSw; go_simp
      try simp only [Act.put, List.setIfInBounds_toArray, List.set_cons_zero, List.set_cons_succ]
      refine wpAnyH_take (i := 7) (oi := { dst := some 42, op := .load 9 (.tmp 41), type := 9, pos := "ref.go:312", after := #[{ on := 6, ground := .data }], guard := none }) (v := .string ⟨ty.toArray⟩) rfl (by kernel_rfl) (by kernel_rfl) (by kernel_rfl) (fun _ _ _ h => h) (Or.inl ⟨by rfl, ?_⟩) hS ?_
      ·intro W hSw; obtain ⟨y0, y1, y2⟩ := hSw; go_simp
      try simp only [Act.put, List.setIfInBounds_toArray, List.set_cons_zero, List.set_cons_succ]
      refine wpAnyH_take (i := 8) (oi := { dst := some 43, op := .fieldAddr 105 (.tmp 6) 2, type := 0, pos := "ref.go:312", after := #[], guard := none }) (v := .pointer (some ⟨wr.heap.size, 2, none⟩)) rfl (by kernel_rfl) (by kernel_rfl) (by kernel_rfl) (fun _ _ _ h => h) (Or.inl ⟨by rfl, ?_⟩) hS ?_
      ·intro W hSw; obtain ⟨y0, y1, y2⟩ := hSw; go_simp
      try simp only [Act.put, List.setIfInBounds_toArray, List.set_cons_zero, List.set_cons_succ]
      refine wpAnyH_take (i := 9) (oi := { dst := some 44, op := .load 103 (.tmp 43), type := 103, pos := "ref.go:312", after := #[{ on := 8, ground := .data }], guard := none }) (v := .slice aq nq cq) rfl (by kernel_rfl) (by kernel_rfl) (by kernel_rfl) (fun _ _ _ h => h) (Or.inl ⟨by rfl, ?_⟩) hS ?_
      ·intro W hSw; obtain ⟨y0, y1, y2⟩ := hSw; go_simp
      try simp only [Act.put, List.setIfInBounds_toArray, List.set_cons_zero, List.set_cons_succ]
      refine wpAnyH_ready (rs := [1, 10]) (by kernel_rfl) (by simp) ?_
      refine AllReadyH.cons (o := { dst := some 36, op := .buildSlice 29 5 #[(0, .const (.string { data := #[] })), (1, .const (.string { data := #[32] })), (2, .const (.string { data := #[32, 62, 32] })), (3, .const (.string { data := #[32, 43, 32] })), (4, .const (.string { data := #[32, 126, 32] }))], type := 29, pos := "ref.go:312", after := #[], guard := none }) rfl (fun K hK => ?_) ?_
      ·skip
       go_simp
       have HX5 := Lib.hid (HX.out.alloc (.cells #[.string ⟨#[]⟩, .string ⟨#[32]⟩, .string ⟨#[32, 62, 32]⟩, .string ⟨#[32, 43, 32]⟩, .string ⟨#[32, 126, 32]⟩] 9))
       have HY5 := Lib.hid (Blk.new W2 #[.string ⟨#[]⟩, .string ⟨#[32]⟩, .string ⟨#[32, 62, 32]⟩, .string ⟨#[32, 43, 32]⟩, .string ⟨#[32, 126, 32]⟩] 9)
       have HU5 := Lib.hid (HU.out.alloc HU.out.size (.cells #[.string ⟨#[]⟩, .string ⟨#[32]⟩, .string ⟨#[32, 62, 32]⟩, .string ⟨#[32, 43, 32]⟩, .string ⟨#[32, 126, 32]⟩] 9))
       generalize W2.alloc (.cells #[.string ⟨#[]⟩, .string ⟨#[32]⟩, .string ⟨#[32, 62, 32]⟩, .string ⟨#[32, 43, 32]⟩, .string ⟨#[32, 126, 32]⟩] 9) = W5 at *
       obtain ⟨hx5, gx5⟩ := cells_of HX5.out
       have hy5 := sep_at HY5.out hj4
       refine hK.out _ _ ⟨hx5 0, hx5 1, hx5 2⟩ (fun hS5 => ?_)
       clear hK K
       try simp only [Act.put, List.setIfInBounds_toArray, List.set_cons_zero, List.set_cons_succ]
       refine wpAnyH_take (i := 4) (oi := { dst := some 39, op := .indexAddr 29 (.tmp 36) (.tmp 38), type := 0, pos := "ref.go:312", after := #[{ on := 1, ground := .data }, { on := 3, ground := .data }], guard := none }) (v := .pointer (some ⟨W2.heap.size, jn, none⟩)) rfl (by kernel_rfl) (by kernel_rfl) (by kernel_rfl) (fun _ _ _ h => h) (Or.inl ⟨by rfl, ?_⟩) hS5 ?_
       ·intro W hSw; obtain ⟨y0, y1, y2⟩ := hSw; go_simp
       try simp only [Act.put, List.setIfInBounds_toArray, List.set_cons_zero, List.set_cons_succ]
       refine wpAnyH_ready (rs := [5, 10]) (by kernel_rfl) (by simp) ?_
       refine AllReadyH.cons (o := { dst := some 40, op := .load 9 (.tmp 39), type := 9, pos := "ref.go:312", after := #[{ on := 4, ground := .data }], guard := none }) rfl (fun K hK => ?_) ?_
       ·skip
        go_simp
        refine hK.out _ _ hS5 (fun hS6 => ?_)
        clear hK K
        try simp only [Act.put, List.setIfInBounds_toArray, List.set_cons_zero, List.set_cons_succ]
        refine wpAnyH_ready (rs := [10]) (by kernel_rfl) (by simp) ?_
        refine AllReadyH.cons (o := { dst := some 45, op := .call { callee := .value (.func 58), args := #[.tmp 42, .tmp 44], argTypes := #[9, 103] }, type := 9, pos := "ref.go:312", after := #[{ on := 7, ground := .data }, { on := 9, ground := .data }], guard := none }) rfl (fun K hK => ?_) ?_
        ·skip
         go_simp
         go_at_call 58
         refine (Q.out W5 HU5.out).mono ?_
         rintro e w2 ⟨rfl, hb2⟩
         try go_wp2_with fail
         have HX6 := Lib.hid (HX5.out.below hb2)
         have HU := Lib.hid (HU5.out.trans (hb2.mono HU5.out.size))
         obtain ⟨hx6, gx6⟩ := cells_of HX6.out
         refine hK.out _ _ ⟨hx6 0, hx6 1, hx6 2⟩ (fun hS => ?_)
         clear hK K
         try simp only [Act.put, List.setIfInBounds_toArray, List.set_cons_zero, List.set_cons_succ]
         refine wpAnyH_take (i := 11) (oi := { dst := some 46, op := .binOp .add 9 (.tmp 40) (.tmp 45) 9, type := 9, pos := "ref.go:312", after := #[{ on := 5, ground := .data }, { on := 10, ground := .data }], guard := none }) (v := .string (⟨(L.fjoin jn).toArray⟩ ++ ⟨ft.toArray⟩)) rfl (by kernel_rfl) (by kernel_rfl) (by kernel_rfl) (fun _ _ _ h => h) (Or.inl ⟨by rfl, ?_⟩) hS ?_
         ·intro W hSw; obtain ⟨y0, y1, y2⟩ := hSw; go_simp
         try simp only [Act.put, List.setIfInBounds_toArray, List.set_cons_zero, List.set_cons_succ]
         refine wpAnyH_take (i := 12) (oi := { dst := some 47, op := .binOp .add 9 (.tmp 35) (.tmp 46) 9, type := 9, pos := "ref.go:312", after := #[{ on := 0, ground := .data }, { on := 11, ground := .data }], guard := none }) (v := .string (⟨a2.toArray⟩ ++ (⟨(L.fjoin jn).toArray⟩ ++ ⟨ft.toArray⟩))) rfl (by kernel_rfl) (by kernel_rfl) (by kernel_rfl) (fun _ _ _ h => h) (Or.inl ⟨by rfl, ?_⟩) hS ?_
         ·intro W hSw; obtain ⟨y0, y1, y2⟩ := hSw; go_simp
         try simp only [Act.put, List.setIfInBounds_toArray, List.set_cons_zero, List.set_cons_succ]
         refine wpAnyH_take (i := 13) (oi := { dst := some 3, op := .assign (.tmp 47), type := 9, pos := "ref.go:312", after := #[{ on := 12, ground := .data }, { on := 10, ground := .chain }, { on := 0, ground := .phase }, { on := 1, ground := .phase }, { on := 2, ground := .phase }, { on := 3, ground := .phase }, { on := 4, ground := .phase }, { on := 5, ground := .phase }, { on := 6, ground := .phase }, { on := 7, ground := .phase }, { on := 8, ground := .phase }, { on := 9, ground := .phase }, { on := 10, ground := .phase }, { on := 11, ground := .phase }, { on := 12, ground := .phase }], guard := none }) (v := .string (⟨a2.toArray⟩ ++ (⟨(L.fjoin jn).toArray⟩ ++ ⟨ft.toArray⟩))) rfl (by kernel_rfl) (by kernel_rfl) (by kernel_rfl) (fun _ _ _ h => h) (Or.inl ⟨by rfl, ?_⟩) hS ?_
         ·intro W hSw; obtain ⟨y0, y1, y2⟩ := hSw; go_simp
         try simp only [Act.put, List.setIfInBounds_toArray, List.set_cons_zero, List.set_cons_succ]
         refine wpAnyH_done (by kernel_rfl) ?_ _
         have HI4 : Hid (Below wc.heap.size wc w2) := Lib.hid (HI.out.trans (HU.out.mono HI.out.size))
         go_wp2_with fail
         go_roundw
         case rel => exact ⟨m + 1, by go_num, by omega, ⟨a2 ++ (L.fjoin jn ++ ft), congrArg Value.string (by rw [append_bytes, append_bytes]), Lib.hid (by rw [HA2.out]; simp)⟩, HI4⟩
         case measure => simp [intOf]; omega
        exact AllReadyH.nil
       refine AllReadyH.cons (o := { dst := some 45, op := .call { callee := .value (.func 58), args := #[.tmp 42, .tmp 44], argTypes := #[9, 103] }, type := 9, pos := "ref.go:312", after := #[{ on := 7, ground := .data }, { on := 9, ground := .data }], guard := none }) rfl (fun K hK => ?_) ?_
       ·skip
        go_simp
        go_at_call 58
        refine (Q.out W5 HU5.out).mono ?_
        rintro e w2 ⟨rfl, hb2⟩
        try go_wp2_with fail
        have HX6 := Lib.hid (HX5.out.below hb2)
        have HY6 := Lib.hid (HY5.out.below hb2)
        have HU := Lib.hid (HU5.out.trans (hb2.mono HU5.out.size))
        obtain ⟨hx6, gx6⟩ := cells_of HX6.out
        have hy6 := sep_at HY6.out hj4
        refine hK.out _ _ ⟨hx6 0, hx6 1, hx6 2⟩ (fun hS6 => ?_)
        clear hK K
        try simp only [Act.put, List.setIfInBounds_toArray, List.set_cons_zero, List.set_cons_succ]
        refine wpAnyH_ready (rs := [5]) (by kernel_rfl) (by simp) ?_
        refine AllReadyH.cons (o := { dst := some 40, op := .load 9 (.tmp 39), type := 9, pos := "ref.go:312", after := #[{ on := 4, ground := .data }], guard := none }) rfl (fun K hK => ?_) ?_
        ·skip
         go_simp
         refine hK.out _ _ hS6 (fun hS => ?_)
         clear hK K
         try simp only [Act.put, List.setIfInBounds_toArray, List.set_cons_zero, List.set_cons_succ]
         refine wpAnyH_take (i := 11) (oi := { dst := some 46, op := .binOp .add 9 (.tmp 40) (.tmp 45) 9, type := 9, pos := "ref.go:312", after := #[{ on := 5, ground := .data }, { on := 10, ground := .data }], guard := none }) (v := .string (⟨(L.fjoin jn).toArray⟩ ++ ⟨ft.toArray⟩)) rfl (by kernel_rfl) (by kernel_rfl) (by kernel_rfl) (fun _ _ _ h => h) (Or.inl ⟨by rfl, ?_⟩) hS ?_
         ·intro W hSw; obtain ⟨y0, y1, y2⟩ := hSw; go_simp
         try simp only [Act.put, List.setIfInBounds_toArray, List.set_cons_zero, List.set_cons_succ]
         refine wpAnyH_take (i := 12) (oi := { dst := some 47, op := .binOp .add 9 (.tmp 35) (.tmp 46) 9, type := 9, pos := "ref.go:312", after := #[{ on := 0, ground := .data }, { on := 11, ground := .data }], guard := none }) (v := .string (⟨a2.toArray⟩ ++ (⟨(L.fjoin jn).toArray⟩ ++ ⟨ft.toArray⟩))) rfl (by kernel_rfl) (by kernel_rfl) (by kernel_rfl) (fun _ _ _ h => h) (Or.inl ⟨by rfl, ?_⟩) hS ?_
         ·intro W hSw; obtain ⟨y0, y1, y2⟩ := hSw; go_simp
         try simp only [Act.put, List.setIfInBounds_toArray, List.set_cons_zero, List.set_cons_succ]
         refine wpAnyH_take (i := 13) (oi := { dst := some 3, op := .assign (.tmp 47), type := 9, pos := "ref.go:312", after := #[{ on := 12, ground := .data }, { on := 10, ground := .chain }, { on := 0, ground := .phase }, { on := 1, ground := .phase }, { on := 2, ground := .phase }, { on := 3, ground := .phase }, { on := 4, ground := .phase }, { on := 5, ground := .phase }, { on := 6, ground := .phase }, { on := 7, ground := .phase }, { on := 8, ground := .phase }, { on := 9, ground := .phase }, { on := 10, ground := .phase }, { on := 11, ground := .phase }, { on := 12, ground := .phase }], guard := none }) (v := .string (⟨a2.toArray⟩ ++ (⟨(L.fjoin jn).toArray⟩ ++ ⟨ft.toArray⟩))) rfl (by kernel_rfl) (by kernel_rfl) (by kernel_rfl) (fun _ _ _ h => h) (Or.inl ⟨by rfl, ?_⟩) hS ?_
         ·intro W hSw; obtain ⟨y0, y1, y2⟩ := hSw; go_simp
         try simp only [Act.put, List.setIfInBounds_toArray, List.set_cons_zero, List.set_cons_succ]
         refine wpAnyH_done (by kernel_rfl) ?_ _
         have HI4 : Hid (Below wc.heap.size wc w2) := Lib.hid (HI.out.trans (HU.out.mono HI.out.size))
         go_wp2_with fail
         go_roundw
         case rel => exact ⟨m + 1, by go_num, by omega, ⟨a2 ++ (L.fjoin jn ++ ft), congrArg Value.string (by rw [append_bytes, append_bytes]), Lib.hid (by rw [HA2.out]; simp)⟩, HI4⟩
         case measure => simp [intOf]; omega
        exact AllReadyH.nil
       exact AllReadyH.nil
      refine AllReadyH.cons (o := { dst := some 45, op := .call { callee := .value (.func 58), args := #[.tmp 42, .tmp 44], argTypes := #[9, 103] }, type := 9, pos := "ref.go:312", after := #[{ on := 7, ground := .data }, { on := 9, ground := .data }], guard := none }) rfl (fun K hK => ?_) ?_
      ·skip
       go_simp
       go_at_call 58
       refine (Q.out W2 HU.out).mono ?_
       rintro e w2 ⟨rfl, hb2⟩
       try go_wp2_with fail
       have HX6 := Lib.hid (HX.out.below hb2)
       have HU6 := Lib.hid (HU.out.trans (hb2.mono HU.out.size))
       obtain ⟨hx6, gx6⟩ := cells_of HX6.out
       refine hK.out _ _ ⟨hx6 0, hx6 1, hx6 2⟩ (fun hS6 => ?_)
       clear hK K
       try simp only [Act.put, List.setIfInBounds_toArray, List.set_cons_zero, List.set_cons_succ]
       clear HX HU
       have HX := HX6
       have HU := HU6
       refine wpAnyH_ready (rs := [1]) (by kernel_rfl) (by simp) ?_
       refine AllReadyH.cons (o := { dst := some 36, op := .buildSlice 29 5 #[(0, .const (.string { data := #[] })), (1, .const (.string { data := #[32] })), (2, .const (.string { data := #[32, 62, 32] })), (3, .const (.string { data := #[32, 43, 32] })), (4, .const (.string { data := #[32, 126, 32] }))], type := 29, pos := "ref.go:312", after := #[], guard := none }) rfl (fun K hK => ?_) ?_
       ·skip
        go_simp
        have HX7 := Lib.hid (HX.out.alloc (.cells #[.string ⟨#[]⟩, .string ⟨#[32]⟩, .string ⟨#[32, 62, 32]⟩, .string ⟨#[32, 43, 32]⟩, .string ⟨#[32, 126, 32]⟩] 9))
        have HY7 := Lib.hid (Blk.new w2 #[.string ⟨#[]⟩, .string ⟨#[32]⟩, .string ⟨#[32, 62, 32]⟩, .string ⟨#[32, 43, 32]⟩, .string ⟨#[32, 126, 32]⟩] 9)
        have HU7 := Lib.hid (HU.out.alloc HU.out.size (.cells #[.string ⟨#[]⟩, .string ⟨#[32]⟩, .string ⟨#[32, 62, 32]⟩, .string ⟨#[32, 43, 32]⟩, .string ⟨#[32, 126, 32]⟩] 9))
        generalize w2.alloc (.cells #[.string ⟨#[]⟩, .string ⟨#[32]⟩, .string ⟨#[32, 62, 32]⟩, .string ⟨#[32, 43, 32]⟩, .string ⟨#[32, 126, 32]⟩] 9) = W7 at *
        obtain ⟨hx7, gx7⟩ := cells_of HX7.out
        have hy7 := sep_at HY7.out hj4
        refine hK.out _ _ ⟨hx7 0, hx7 1, hx7 2⟩ (fun hS7 => ?_)
        clear hK K
        try simp only [Act.put, List.setIfInBounds_toArray, List.set_cons_zero, List.set_cons_succ]
        refine wpAnyH_take (i := 4) (oi := { dst := some 39, op := .indexAddr 29 (.tmp 36) (.tmp 38), type := 0, pos := "ref.go:312", after := #[{ on := 1, ground := .data }, { on := 3, ground := .data }], guard := none }) (v := .pointer (some ⟨w2.heap.size, jn, none⟩)) rfl (by kernel_rfl) (by kernel_rfl) (by kernel_rfl) (fun _ _ _ h => h) (Or.inl ⟨by rfl, ?_⟩) hS7 ?_
        ·intro W hSw; obtain ⟨y0, y1, y2⟩ := hSw; go_simp
        try simp only [Act.put, List.setIfInBounds_toArray, List.set_cons_zero, List.set_cons_succ]
        refine wpAnyH_ready (rs := [5]) (by kernel_rfl) (by simp) ?_
        refine AllReadyH.cons (o := { dst := some 40, op := .load 9 (.tmp 39), type := 9, pos := "ref.go:312", after := #[{ on := 4, ground := .data }], guard := none }) rfl (fun K hK => ?_) ?_
        ·skip
         go_simp
         refine hK.out _ _ hS7 (fun hS => ?_)
         clear hK K
         try simp only [Act.put, List.setIfInBounds_toArray, List.set_cons_zero, List.set_cons_succ]
         clear HU
         have HU := HU7
         refine wpAnyH_take (i := 11) (oi := { dst := some 46, op := .binOp .add 9 (.tmp 40) (.tmp 45) 9, type := 9, pos := "ref.go:312", after := #[{ on := 5, ground := .data }, { on := 10, ground := .data }], guard := none }) (v := .string (⟨(L.fjoin jn).toArray⟩ ++ ⟨ft.toArray⟩)) rfl (by kernel_rfl) (by kernel_rfl) (by kernel_rfl) (fun _ _ _ h => h) (Or.inl ⟨by rfl, ?_⟩) hS ?_
         ·intro W hSw; obtain ⟨y0, y1, y2⟩ := hSw; go_simp
         try simp only [Act.put, List.setIfInBounds_toArray, List.set_cons_zero, List.set_cons_succ]
         refine wpAnyH_take (i := 12) (oi := { dst := some 47, op := .binOp .add 9 (.tmp 35) (.tmp 46) 9, type := 9, pos := "ref.go:312", after := #[{ on := 0, ground := .data }, { on := 11, ground := .data }], guard := none }) (v := .string (⟨a2.toArray⟩ ++ (⟨(L.fjoin jn).toArray⟩ ++ ⟨ft.toArray⟩))) rfl (by kernel_rfl) (by kernel_rfl) (by kernel_rfl) (fun _ _ _ h => h) (Or.inl ⟨by rfl, ?_⟩) hS ?_
         ·intro W hSw; obtain ⟨y0, y1, y2⟩ := hSw; go_simp
         try simp only [Act.put, List.setIfInBounds_toArray, List.set_cons_zero, List.set_cons_succ]
         refine wpAnyH_take (i := 13) (oi := { dst := some 3, op := .assign (.tmp 47), type := 9, pos := "ref.go:312", after := #[{ on := 12, ground := .data }, { on := 10, ground := .chain }, { on := 0, ground := .phase }, { on := 1, ground := .phase }, { on := 2, ground := .phase }, { on := 3, ground := .phase }, { on := 4, ground := .phase }, { on := 5, ground := .phase }, { on := 6, ground := .phase }, { on := 7, ground := .phase }, { on := 8, ground := .phase }, { on := 9, ground := .phase }, { on := 10, ground := .phase }, { on := 11, ground := .phase }, { on := 12, ground := .phase }], guard := none }) (v := .string (⟨a2.toArray⟩ ++ (⟨(L.fjoin jn).toArray⟩ ++ ⟨ft.toArray⟩))) rfl (by kernel_rfl) (by kernel_rfl) (by kernel_rfl) (fun _ _ _ h => h) (Or.inl ⟨by rfl, ?_⟩) hS ?_
         ·intro W hSw; obtain ⟨y0, y1, y2⟩ := hSw; go_simp
         try simp only [Act.put, List.setIfInBounds_toArray, List.set_cons_zero, List.set_cons_succ]
         refine wpAnyH_done (by kernel_rfl) ?_ _
         have HI4 : Hid (Below wc.heap.size wc W7) := Lib.hid (HI.out.trans (HU.out.mono HI.out.size))
         go_wp2_with fail
         go_roundw
         case rel => exact ⟨m + 1, by go_num, by omega, ⟨a2 ++ (L.fjoin jn ++ ft), congrArg Value.string (by rw [append_bytes, append_bytes]), Lib.hid (by rw [HA2.out]; simp)⟩, HI4⟩
         case measure => simp [intOf]; omega
        exact AllReadyH.nil
       exact AllReadyH.nil
      exact AllReadyH.nil
      -- END OF REGION 11
     ·obtain rfl : m = M := by omega
      have HA2 : Hid (q = a2 ++ tl) := Lib.hid (by
       have h := HA.out
       rw [← HM.out, List.drop_length] at h
       simpa [L.fSel] using h)
      clear HA
      go_wp2_with fail
      go_roundw
      case rel => exact ⟨k + 1, by go_num, by omega, ⟨a2, rfl, Lib.hid (by rw [HTl.out]; exact HA2.out)⟩, Lib.hid (HB.out.trans (HI.out.mono HB.out.size))⟩
      case measure => simp [intOf]; omega
  ·obtain rfl : k = N := by omega
   have HA2 : Hid (q = acc) := Lib.hid (by
    have h := HA.out
    rw [← HN.out, fTail_end] at h
    simpa using h)
   clear HA
   go_wp2_with fail
   go_ret
   exact ⟨ret_str (by rw [HA2.out]), HB.out⟩
end F
end Go.Proofs.YtafkeolpadfjfaaGreatDoor

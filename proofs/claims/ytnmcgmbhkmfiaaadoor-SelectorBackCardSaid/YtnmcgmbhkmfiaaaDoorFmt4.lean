/- The text of a part, whatever its tests. -/
import Derived.Test.YtnmcgmbhkmfiaaaDoorFmt3
import Derived.Lib.Join
set_option linter.unusedVariables false
set_option linter.unusedSimpArgs false
namespace Go.Proofs.YtnmcgmbhkmfiaaaDoor
open Go.RowKit Go.Sort
namespace K
open H

def TestOk (t : L.Test) : Prop := TstOk t.t ∧ (∀ u ∈ t.nots, TstOk u) ∧ t.nots.length ≤ 1000000
def PartOk (p : L.Part) : Prop := (∀ t ∈ p.tests, TestOk t) ∧ p.tests.length ≤ 1000000 ∧ p.join ≤ 4
def SelOk (ps : List L.Part) : Prop := (∀ p ∈ ps, PartOk p) ∧ ps.length ≤ 1000000

theorem NotsAt.tests {S : Nat → Prop} {w : World} {v : Value} {l : List L.Tst} (h : NotsAt S w v l) : TestsAt S w v (l.map (fun t => ⟨t, []⟩)) := by
  obtain ⟨ps, rfl, h2, h3⟩ := h
  refine ⟨ps.map (fun p => (⟨p.1, []⟩, p.2)), by simp, ?_, ?_⟩
  · rw [List.flatMap_map]
    simpa [cTest] using h2
  · intro p hp
    obtain ⟨q, hq, rfl⟩ := List.mem_map.1 hp
    have h4 := h3 q hq
    show NotsAt S w q.2 []
    dsimp only at h4
    rw [h4]
    exact ListAt.nil

theorem len_flat {α : Type} (f : α → List UInt8) {l : List α} {x : α} (h : x ∈ l) : (f x).length ≤ (l.map f).flatten.length := by
  induction l with
  | nil => cases h
  | cons y r ih =>
    rw [List.map_cons, List.flatten_cons, List.length_append]
    rcases List.mem_cons.1 h with rfl | h
    · omega
    · have := ih h; omega

theorem le_fpart (ty : List UInt8) (fs : List (List UInt8)) : fs.flatten.length ≤ (L.fpart ty fs).length := by
  unfold L.fpart
  split
  · rename_i h; rw [h.2]; simp
  · rw [List.length_append]; omega
theorem len_test {ty : List UInt8} {l : List L.Test} {t : L.Test} (h : t ∈ l) : (L.fTest t).length ≤ (L.fTests ty l).length := Nat.le_trans (len_flat L.fTest h) (le_fpart ty _)
theorem len_fpart {t : L.Tst} (fs : List (List UInt8)) (h : t.kind = 14) : (L.fpart t.name fs).length ≤ (L.ftest t fs).length := by
  unfold L.ftest
  rw [if_neg (by omega), if_neg (by omega), if_neg (by omega), if_neg (by omega), if_neg (by omega), if_neg (by omega), if_neg (by omega), if_pos h]
  simp
  omega

theorem plain_text (name : List UInt8) (v : Value) (w : World) (S : Nat → Prop) (hT : TestsAt S w v []) (hsz : (L.fpart name []).length ≤ 1000000000) (hE : FEnv w) :
    Calls Tryd.prog 14 #[.agg #[.int .i64 0, .string ⟨name.toArray⟩, v]] w (TextPost (L.fpart name []) w) :=
  part_text 0 name v [] w S hT (Nat.zero_le _) hsz hE (fun t ht => (by cases ht))

theorem not_text (name : List UInt8) (v : Value) (nots : List L.Tst) (w : World) (S : Nat → Prop) (hN : NotsAt S w v nots) (hok : ∀ u ∈ nots, TstOk u) (hl : nots.length ≤ 1000000) (hsz : (L.fpart name (nots.map L.ftst)).length ≤ 1000000000) (hE : FEnv w) :
    Calls Tryd.prog 14 #[.agg #[.int .i64 0, .string ⟨name.toArray⟩, v]] w (TextPost (L.fpart name (nots.map L.ftst)) w) := by
  have e : L.fTests name (nots.map (fun t => (⟨t, []⟩ : L.Test))) = L.fpart name (nots.map L.ftst) := by
    unfold L.fTests; rw [List.map_map]; rfl
  have := part_text 0 name v (nots.map (fun t => ⟨t, []⟩)) w S hN.tests (by simpa using hl) (by rw [e]; exact hsz) hE ?_
  · rw [e] at this; exact this
  · intro t ht nv W hI hEW
    have hle := len_test (ty := name) ht
    rw [e] at hle
    obtain ⟨u, hu, rfl⟩ := List.mem_map.1 ht
    have hI' : NotsAt S W nv [] := hI
    refine test_of u nv [] W S hI' (hok u hu) (by omega) hEW ?_
    intro hk W2 hB
    refine plain_text u.name nv W2 S (keeps_tests (NotsAt.tests hI') (Kept.below hB)) ?_ (hEW.below hB)
    have := len_fpart (t := u) [] hk
    have hle2 : (L.ftest u []).length ≤ (L.fpart name (nots.map L.ftst)).length := hle
    omega

theorem test_text (t : L.Test) (nv : Value) (w : World) (S : Nat → Prop) (hN : NotsAt S w nv t.nots) (hok : TestOk t) (hsz : (L.fTest t).length ≤ 1000000000) (hE : FEnv w) :
    Calls Tryd.prog 26 #[tval t.t nv] w (TextPost (L.fTest t) w) := by
  refine test_of t.t nv t.nots w S hN hok.1 hsz hE ?_
  intro hk W hB
  refine not_text t.t.name nv t.nots W S (keeps_nots hN (Kept.below hB)) hok.2.1 hok.2.2 ?_ (hE.below hB)
  have := len_fpart (t := t.t) (t.nots.map L.ftst) hk
  have h2 : (L.ftest t.t (t.nots.map L.ftst)).length ≤ 1000000000 := hsz
  omega

theorem part_full (j : Int) (p : L.Part) (v : Value) (w : World) (S : Nat → Prop) (hT : TestsAt S w v p.tests) (hok : PartOk p) (hsz : (L.fPart p).length ≤ 1000000000) (hE : FEnv w) :
    Calls Tryd.prog 14 #[.agg #[.int .i64 j, .string ⟨p.type.toArray⟩, v]] w (TextPost (L.fPart p) w) := by
  refine part_text j p.type v p.tests w S hT hok.2.1 hsz hE ?_
  intro t ht nv W hI hEW
  have := len_test (ty := p.type) ht
  have h2 : (L.fTests p.type p.tests).length ≤ 1000000000 := hsz
  exact test_text t nv W S hI (hok.1 t ht) (by omega) hEW

theorem fList_join : ∀ l : List (List L.Part), L.fList l = Lib.join (l.map L.fSel) [44, 32]
  | [] => rfl
  | [x] => by simp [L.fList, Lib.join, List.intercalate]
  | x :: y :: r => by
    have ih := fList_join (y :: r)
    unfold L.fList
    rw [ih, List.map_cons, List.map_cons, Lib.join_cons, Lib.join_cons]
    simp [Lib.joinTail]

theorem len_sel {l : List (List L.Part)} {x : List L.Part} (h : x ∈ l) : (L.fSel x).length ≤ (L.fList l).length := by
  induction l with
  | nil => cases h
  | cons y r ih =>
    cases r with
    | nil =>
      rw [List.mem_singleton.1 h]; exact Nat.le_refl _
    | cons z r =>
      unfold L.fList
      rw [List.length_append, List.length_cons, List.length_cons]
      rcases List.mem_cons.1 h with rfl | h
      · omega
      · have := ih h; omega

end K
end Go.Proofs.YtnmcgmbhkmfiaaaDoor

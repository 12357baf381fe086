/- The statement MarkupTexts: it returns true at every string. -/
import Derived.Test.YtlnginciehjlnaaGreatDoorFin
import Derived.Test.YtlnginciehjlnaaGreatDoorRef5
set_option linter.unusedVariables false
set_option linter.unusedSimpArgs false
namespace Go.Proofs.YtlnginciehjlnaaGreatDoor
open Go.RowKit
namespace K

set_option maxHeartbeats 4000000 in
set_option maxRecDepth 100000 in
theorem MarkupTexts (s : List UInt8) (w : World) (hs0 : s.length ≤ 9223372036854775807) (hE : Env w) :
    Calls Tryz.prog 5 #[.string ⟨s.toArray⟩] w fun e w' => e = .returned (.bool true) ∧ Below w.heap.size w w' := by
  have HE := Lib.hid hE
  clear hE
  by_cases hs : s.length ≤ 1500
  · have hs1 : (s.length : Int) ≤ 1500 := by omega
    have QR := Lib.hid (fun W => refRepairS s W (by omega))
    have QN := Lib.hid (fun W => refNewlinesS s W (by omega))
    cases hr : (U.rep s == s) with
    | false =>
      generalize U.rep s = r at *
      go_enter Tryz.func5, Tryz.ntmps5
      go_wp2_with fail
      refine (awake _ HE.out).mono ?_
      rintro e w1 ⟨rfl, b1⟩
      go_wp2_with fail
      refine (QR.out _).mono ?_
      rintro e w2 ⟨rfl, b2⟩
      have HE2 := Lib.hid ((HE.out.same b1).same b2)
      go_wp2_with fail
      refine (awake _ HE2.out).mono ?_
      rintro e w3 ⟨rfl, b3⟩
      go_wp2_with fail
      go_ret
      have z1 := b1.size
      have z2 := b2.size
      exact ⟨rfl, (b1.trans (b2.mono z1)).trans (b3.mono (by omega))⟩
    | true =>
      have hr2 : U.rep s = s := by simpa using hr
      rw [hr2] at QR
      clear hr
      cases hn : (U.nlr false s == s) with
      | false =>
        clear hr2
        generalize U.nlr false s = r at *
        go_enter Tryz.func5, Tryz.ntmps5
        go_wp2_with fail
        refine (awake _ HE.out).mono ?_
        rintro e w1 ⟨rfl, b1⟩
        go_wp2_with fail
        refine (QR.out _).mono ?_
        rintro e w2 ⟨rfl, b2⟩
        have HE2 := Lib.hid ((HE.out.same b1).same b2)
        go_wp2_with fail
        refine (QN.out _).mono ?_
        rintro e w2' ⟨rfl, rfl⟩
        go_wp2_with fail
        refine (awake _ HE2.out).mono ?_
        rintro e w3 ⟨rfl, b3⟩
        go_wp2_with fail
        go_ret
        have z1 := b1.size
        have z2 := b2.size
        exact ⟨rfl, (b1.trans (b2.mono z1)).trans (b3.mono (by omega))⟩
      | true =>
        have hn2 : U.nlr false s = s := by simpa using hn
        rw [hn2] at QN
        clear hn
        have QE := Lib.hid (fun W => refEscape false s W (by omega))
        have hel := E.escape_len false s
        have ht : toks (M.textDoc s) = if s = [] then [M.P, M.Q] else [M.P, .txt 3 s, M.Q] := (toks_plain (M.textDoc_rep s hr2) (M.textDoc_no13 s)).trans (M.run_texts s)
        have a1 : (⟨#[60, 112, 62]⟩ : ByteArray) ++ ⟨(E.escape false s).toArray⟩ = ⟨([60, 112, 62] ++ E.escape false s).toArray⟩ := T.append_bytes [60, 112, 62] _
        have a2 : (⟨([60, 112, 62] ++ E.escape false s).toArray⟩ : ByteArray) ++ ⟨#[60, 47, 112, 62]⟩ = ⟨(M.textDoc s).toArray⟩ := (T.append_bytes _ [60, 47, 112, 62]).trans (by unfold M.textDoc; rw [List.append_assoc])
        have hdl : (M.textDoc s).length ≤ 10000 := by
          unfold M.textDoc
          simp only [List.length_append, List.length_cons, List.length_nil]
          omega
        have hml : ([60, 112, 62] ++ E.escape false s).length ≤ 10000 := by
          simp only [List.length_append, List.length_cons, List.length_nil]
          omega
        have QT := Lib.hid (fun W h => Tokens (M.textDoc s) W (by omega) h)
        rw [ht] at QT
        clear ht hr2 hn2
        generalize M.textDoc s = doc at *
        generalize [60, 112, 62] ++ E.escape false s = mid at *
        generalize E.escape false s = es at *
        have z1 := T.bytes_size es
        have z2 := T.bytes_size mid
        go_enter Tryz.func5, Tryz.ntmps5
        go_wp2_with fail
        refine (awake _ HE.out).mono ?_
        rintro e w1 ⟨rfl, b1⟩
        go_wp2_with fail
        refine (QR.out _).mono ?_
        rintro e w2 ⟨rfl, b2⟩
        have HE2 := Lib.hid ((HE.out.same b1).same b2)
        go_wp2_with fail
        refine (QN.out _).mono ?_
        rintro e w2' ⟨rfl, rfl⟩
        go_wp2_with fail
        refine (QE.out _).mono ?_
        rintro e w2' ⟨rfl, rfl⟩
        go_wp2_with fail
        refine (QT.out _ HE2.out).mono ?_
        rintro e w3 ⟨v, rfl, ⟨L, hL, ho, hA⟩, b3⟩
        clear hA
        have hbw : Below w.heap.size w w3 := (b1.trans (b2.mono b1.size)).trans (b3.mono (by have := b1.size; have := b2.size; omega))
        by_cases h0 : s = []
        · subst h0
          rw [if_pos rfl] at hL
          obtain ⟨ao, cap, rfl, _⟩ := own_slice ho
          have hl : L.length = 2 := by simpa using congrArg List.length hL
          rw [hl]
          clear hL ho hl
          go_wp2_with fail
          go_ret
          exact ⟨rfl, hbw⟩
        · rw [if_neg h0] at hL
          have hne : s.isEmpty = false := by cases s with | nil => exact absurd rfl h0 | cons _ _ => rfl
          have h3 : L.length = 3 := by simpa using congrArg List.length hL
          obtain ⟨p0, p1, p2, rfl⟩ := list_three h3
          · have hp1 : p1.1 = M.Tok.txt 3 s := by simp at hL; exact hL.2.1
            obtain ⟨ao, cap, rfl, hao⟩ := own_slice ho
            obtain ⟨g, rfl, _⟩ := hao (by simp)
            have c5 : w3.cell? ⟨g, 5, none⟩ = some (.int .i64 3) := by rw [tok_cells ho 5 (by simp)]; simp [tcells, hp1, M.Tok.txt]
            have c9 : w3.cell? ⟨g, 9, none⟩ = some (.string ⟨s.toArray⟩) := by rw [tok_cells ho 9 (by simp)]; simp [tcells, hp1, M.Tok.txt]
            clear ho hL hp1 hao
            go_wp2_with fail
            go_ret
            exact ⟨rfl, hbw⟩
  · have hs1 : 1500 < (s.length : Int) := by omega
    clear hs
    go_enter Tryz.func5, Tryz.ntmps5
    go_wp2_with fail
    refine (awake _ HE.out).mono ?_
    rintro e w1 ⟨rfl, b1⟩
    have HE1 := Lib.hid (HE.out.same b1)
    go_wp2_with fail
    refine (awake _ HE1.out).mono ?_
    rintro e w2 ⟨rfl, b2⟩
    go_wp2_with fail
    go_ret
    exact ⟨rfl, b1.trans (b2.mono b1.size)⟩

end K
end Go.Proofs.YtlnginciehjlnaaGreatDoor

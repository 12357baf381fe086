/- Tests in memory; the reader of selectors: pseudo. -/
import Derived.Test.YtnmcgmbhkmfiaaaGreatDoorPse
set_option linter.unusedVariables false
set_option linter.unusedSimpArgs false
namespace Go.Proofs.YtnmcgmbhkmfiaaaGreatDoor
namespace L

/-- What follows a colon. -/
def pseudo (np : Option (List UInt8 → Option ((List UInt8 × List Tst) × List UInt8))) (r : List UInt8) : Option (Test × List UInt8) :=
  match ident r with
  | none => none
  | some (n, u) => match pseudos.find? (fun p => p.1 == lower n) with
    | some p => some (⟨tst p.2 [], []⟩, u)
    | none =>
      if lower n = nthChild then (match need [40] u with
        | none => none
        | some x => match nth (space x) with
          | none => none
          | some (t, y) => match need [41] (space y) with | none => none | some z => some (⟨t, []⟩, z))
      else if lower n = not_ then (match np, need [40] u with
        | some f, some x => (match f (space x) with
          | none => none
          | some ((ty, ts), y) => match need [41] (space y) with | none => none | some z => some (⟨tst 14 ty, ts⟩, z))
        | _, _ => none)
      else none

theorem one_58 (np : Option (List UInt8 → Option ((List UInt8 × List Tst) × List UInt8))) (r : List UInt8) : one np (58 :: r) = some (pseudo np r) := rfl

section
variable {np : Option (List UInt8 → Option ((List UInt8 × List Tst) × List UInt8))} {r n u : List UInt8}
theorem pseudo_no (h : ident r = none) : pseudo np r = none := by unfold pseudo; rw [h]
theorem pseudo_word {m : List UInt8} {k : Nat} (h : ident r = some (n, u)) (hf : pseudos.find? (fun p => p.1 == lower n) = some (m, k)) : pseudo np r = some (⟨tst k [], []⟩, u) := by
  unfold pseudo; rw [h]; dsimp only; rw [hf]
theorem pseudo_nth (h : ident r = some (n, u)) (hl : lower n = nthChild) : pseudo np r = (match need [40] u with
    | none => none
    | some x => match nth (space x) with
      | none => none
      | some (t, y) => match need [41] (space y) with | none => none | some z => some (⟨t, []⟩, z)) := by
  unfold pseudo; rw [h]; dsimp only; rw [hl]
  rw [if_pos rfl]
  rfl
theorem pseudo_not (h : ident r = some (n, u)) (hl : lower n = not_) : pseudo (some inner) r = (match need [40] u with
    | none => none
    | some x => match inner (space x) with
      | none => none
      | some ((ty, ts), y) => match need [41] (space y) with | none => none | some z => some (⟨tst 14 ty, ts⟩, z)) := by
  unfold pseudo; rw [h]; dsimp only; rw [hl]
  rw [if_neg (by decide), if_pos rfl]
  cases need [40] u <;> rfl
theorem pseudo_other (h : ident r = some (n, u)) (hf : pseudos.find? (fun p => p.1 == lower n) = none) (h1 : lower n ≠ nthChild) (h2 : lower n = not_ → np = none) : pseudo np r = none := by
  unfold pseudo; rw [h]; dsimp only; rw [hf]; dsimp only
  rw [if_neg h1]
  by_cases h3 : lower n = not_
  · rw [if_pos h3, h2 h3]
  · rw [if_neg h3]
end

end L
open Go.RowKit
namespace K
open H

/-- What the package's variables hold. -/
structure Env (w : World) : Prop where
  err : ErrEnv w
  psn : ∀ k, k < 6 → w.cell? ⟨2, k * 2, none⟩ = some (.string ⟨(pname k).toArray⟩)
  psk : ∀ k, k < 6 → w.cell? ⟨2, k * 2 + 1, none⟩ = some (.int .i64 (pkind k))

theorem Env.but {b : Nat} {w w' : World} (h : Env w) (hb : But b w w') (ht : top ≤ b) : Env w' := by
  have ht' := ht
  unfold top at ht'
  exact ⟨h.err.but hb ht, fun k hk => cell_but (h.psn k hk) hb (by omega), fun k hk => cell_but (h.psk k hk) hb (by omega)⟩

theorem find_word {nm : List UInt8} {k : Nat} (hk : k < 6) (hn : ∀ m, m < k → pname m ≠ nm) (h : pname k = nm) : L.pseudos.find? (fun p => p.1 == nm) = some (nm, pkind k) := by
  have hc : ∀ m, m < k → (pname m == nm) = false := fun m hm => by simpa using hn m hm
  have ht : (pname k == nm) = true := by simpa using h
  rcases (by omega : k = 0 ∨ k = 1 ∨ k = 2 ∨ k = 3 ∨ k = 4 ∨ k = 5) with rfl | rfl | rfl | rfl | rfl | rfl
  all_goals
    subst h
    rfl

theorem find_none {nm : List UInt8} (hn : ∀ m, m < 6 → pname m ≠ nm) : L.pseudos.find? (fun p => p.1 == nm) = none := by
  have hc : ∀ m, m < 6 → (pname m == nm) = false := fun m hm => by simpa using hn m hm
  have h0 := hc 0 (by omega); have h1 := hc 1 (by omega); have h2 := hc 2 (by omega); have h3 := hc 3 (by omega); have h4 := hc 4 (by omega); have h5 := hc 5 (by omega)
  have e : L.pseudos = [(pname 0, pkind 0), (pname 1, pkind 1), (pname 2, pkind 2), (pname 3, pkind 3), (pname 4, pkind 4), (pname 5, pkind 5)] := rfl
  rw [e]
  simp [List.find?_cons, h0, h1, h2, h3, h4, h5]

set_option maxHeartbeats 4000000 in
set_option maxRecDepth 100000 in
theorem pseudo (b : Nat) (s : List UInt8) (i : Nat) (inner : Bool) (w : World) (hs : s.length ≤ 1000000) (hi : i ≤ s.length) (hR : IsRdr b s i false w) (hE : Env w) (ht : top ≤ b)
    (h2 : inner = false → ∀ i w, i ≤ s.length → IsRdr b s i false w → Env w → Calls Tryz.prog 29 #[.pointer (some ⟨b, 0, none⟩), .bool true] w (PartPost b s i true (L.part none (s.drop i)) w)) :
    Calls Tryz.prog 48 #[.pointer (some ⟨b, 0, none⟩), .bool inner] w (TestPost b s i inner (L.pseudo (npOf inner) (s.drop i)) w) := by
  have HR := Lib.hid hR
  have HE := Lib.hid hE
  have H2 := Lib.hid h2
  have hlb := lt_of_block hR
  clear hR hE h2
  go_enter Tryz.func48, Tryz.ntmps48
  go_wp2_with fail
  have st0 := RdSt.new HR.out tzero 77
  refine (name_any b s i _ hs hi st0.rdr).mono ?_
  rintro e w1 ⟨t, j1, bad1, rfl, hr1, hb1, g1, g1', htl, HN⟩
  have ST1 := Lib.hid (st0.step hr1 hb1)
  clear st0 hr1 hb1 HR
  go_wp2_with fail
  refine (LowerS t _ (by omega)).mono ?_
  rintro e w2 ⟨rfl, b2⟩
  have ST2 := Lib.hid (ST1.out.below b2)
  have HE2 := Lib.hid (HE.out.but ST2.out.but ht)
  obtain ⟨nm, hnm⟩ : ∃ nm, L.lower t = nm := ⟨_, rfl⟩
  have HNM := Lib.hid hnm
  rw [hnm]
  clear b2 ST1 hnm
  have n0 := HE2.out.psn 0 (by omega); have n1 := HE2.out.psn 1 (by omega); have n2 := HE2.out.psn 2 (by omega); have n3 := HE2.out.psn 3 (by omega); have n4 := HE2.out.psn 4 (by omega); have n5 := HE2.out.psn 5 (by omega)
  have k0 := HE2.out.psk 0 (by omega); have k1 := HE2.out.psk 1 (by omega); have k2 := HE2.out.psk 2 (by omega); have k3 := HE2.out.psk 3 (by omega); have k4 := HE2.out.psk 4 (by omega); have k5 := HE2.out.psk 5 (by omega)
  go_wp2_with fail
  clear n0 n1 n2 n3 n4 n5 k0 k1 k2 k3 k4 k5
  have HW0 : Hid (∀ m, m < 0 → pname m ≠ nm) := Lib.hid (fun m hm => by omega)
  generalize hRR : w.heap.size = R at *
  have hbR : b ≠ R := by omega
  have hRb : R ≠ b := by omega
  go_loopw [14] (fun ix wr => ∃ k : Nat, ix = .int .i64 k ∧ k ≤ 6 ∧ Hid (RdSt b s j1 bad1 R tzero 77 w wr) ∧ Hid (∀ m, m < k → pname m ≠ nm)) (fun ix _ => 6 - (intOf ix).toNat)
  case atStart => exact ⟨0, rfl, by omega, ST2, HW0⟩
  case round =>
    obtain ⟨k, rfl, hk, HSt, HW⟩ := hrel
    clear HW0
    by_cases hk6 : k < 6
    · have HF := Lib.hid (fun h => find_word (nm := nm) hk6 HW.out h)
      have HNx := Lib.hid (fun (h : pname k ≠ nm) (m : Nat) (hm : m < k + 1) => (show pname m ≠ nm from (Nat.lt_or_ge m k).elim (fun h1 => HW.out m h1) (fun h1 => (show m = k by omega) ▸ h)))
      obtain ⟨hcr, hfr⟩ := cells_of HSt.out.res
      have hl3 := HSt.out.res.lt
      unfold tzero at hcr hfr
      clear HW
      have HP := Lib.hid (fun (w : World) => pseudo_at hk6 .i64 w)
      unfold pcells at HP
      have hk6' : (k : Int) < 6 := by omega
      go_wp2_with fail
      rw [HP.out]
      simp only [Result.andThen]
      rw [Oper.upon_value]
      clear HP
      cases hq : (pname k == nm) with
      | true =>
        have HF2 := Lib.hid (HF.out (by simpa using hq))
        have HN2 := HN.out
        have n0 : R ≠ wr.heap.size := by omega
        have n1 : wr.heap.size ≠ R := by omega
        clear HF HNx
        go_wp2_with fail
        refine bodyPost_ret (v := tval ⟨pkind k, [], [], 0, 0⟩ (.slice none 0 0)) (by simp [results, Tryz.results48, go_sem, tval, tcells, hcr, n0, n1, hl3, World.cell?_alloc_old]) rfl ⟨⟨⟨pkind k, [], [], 0, 0⟩, []⟩, _, j1, bad1, rfl, Lib.hid ListAt.nil, ?_, ?_, g1, g1', Lib.hid (fun _ => rfl), Lib.hid ?_⟩
        · exact (HSt.out.six _ _ _ _ _ _).1.alloc _
        · exact (HSt.out.six _ _ _ _ _ _).2.alloc _
        · rcases HN2 with ⟨rfl, h⟩ | ⟨rfl, h⟩
          · exact Got.no (L.pseudo_no h)
          · exact Got.yes (L.pseudo_word h (by rw [HNM.out]; exact HF2.out))
      | false =>
        have HW2 := Lib.hid (HNx.out (by simpa using hq))
        clear HF HNx
        go_wp2_with fail
        go_roundw
        case rel => exact ⟨k + 1, by go_num, by omega, Lib.hid (HSt.out.alloc _), HW2⟩
        case measure => simp [intOf]; omega
    · obtain rfl : k = 6 := by omega
      have HNO := Lib.hid (find_none HW.out)
      have hRX : R < wr.heap.size := HSt.out.res.lt
      have hbX : b < wr.heap.size := by omega
      have n1 : b ≠ wr.heap.size := by omega
      have n2 : wr.heap.size ≠ b := by omega
      have n3 : R ≠ wr.heap.size := by omega
      have n4 : wr.heap.size ≠ R := by omega
      clear HW ST2 hk hk6
      have hbad : ¬ (nm = L.nthChild) → ¬ (nm = L.not_ ∧ inner = false) → Got true (L.pseudo (npOf inner) (s.drop i)) ((⟨⟨0, [], [], 0, 0⟩, []⟩ : L.Test), s.drop j1) := by
        intro g1 g2
        rcases HN.out with ⟨rfl, h⟩ | ⟨rfl, h⟩
        · exact Got.no (L.pseudo_no h)
        · refine Got.no (L.pseudo_other h (by rw [HNM.out]; exact HNO.out) (by rw [HNM.out]; exact g1) ?_)
          rw [HNM.out]
          intro hq
          cases inner
          · exact absurd ⟨hq, rfl⟩ g2
          · rfl
      have HBAD := Lib.hid hbad
      clear hbad
      by_cases h1 : nm = L.nthChild
      · subst h1
        have ST3 := Lib.hid (HSt.out.alloc (.cells tzero 77))
        have X3 := Lib.hid (Blk.new wr tzero 77)
        clear HBAD
        unfold L.nthChild at HNO HNM
        unfold L.nthChild
        go_wp2_with fail
        clear HSt
        refine (take_any b s [40] j1 bad1 _ hs (by decide) g1' ST3.out.rdr).mono ?_
        rintro e w3 (⟨rfl, hr5, hb5, HT⟩ | ⟨rfl, hr5, hb5, HT⟩)
        case inl =>
          have hjk : j1 + 1 ≤ s.length := by
            have := prefix_len HT.out.2
            rw [List.length_drop] at this; simp at this; omega
          obtain rfl : bad1 = false := HT.out.1
          have hid0 : L.ident (s.drop i) = some (t, s.drop j1) := by
            rcases HN.out with ⟨h, _⟩ | ⟨_, h⟩
            · cases h
            · exact h
          have hnd : L.need [40] (s.drop j1) = some (s.drop (j1 + 1)) := by rw [need_some HT.out.2, List.drop_drop]; rfl
          have hps := L.pseudo_nth (np := npOf inner) hid0 HNM.out
          rw [hnd] at hps
          have HPS := Lib.hid hps
          clear hid0 hnd hps HT
          have ST4 := Lib.hid (ST3.out.step hr5 hb5)
          have X4 := Lib.hid (X3.out.but hb5 n2)
          clear ST3 X3 hr5 hb5
          generalize wr.heap.size = X at *
          have hXw : w.heap.size ≤ X := by omega
          go_wp2_with fail
          refine (space_any b s (j1 + 1) false _ hs hjk ST4.out.rdr).mono ?_
          rintro e w4 ⟨j2, rfl, hr4, hb4, h4, h4', HJ2⟩
          have ST5 := Lib.hid (ST4.out.step hr4 hb4)
          have X5 := Lib.hid (X4.out.but hb4 n2)
          clear hr4 hb4 ST4 X4
          go_wp2_with fail
          refine (nth b s j2 _ hs h4' ST5.out.rdr (HE.out.but ST5.out.but ht).err ht).mono ?_
          rintro e w5 ⟨TT, J, BAD, rfl, hr5, hb5, h5, hJl, HGn⟩
          have st6 := ST5.out.step hr5 hb5
          have x6 := X5.out.but hb5 n2
          obtain ⟨hcx, hfx⟩ := cells_of x6
          unfold tzero at hcx hfx
          have hlx := x6.lt
          have STW := Lib.hid (st6.farSix hXw (by omega) (.int .i64 TT.kind) (.string ⟨TT.name.toArray⟩) (.string ⟨TT.value.toArray⟩) (.int .i64 TT.a) (.int .i64 TT.b) (.slice none 0 0))
          have XW : Hid (Blk X (tcells TT (.slice none 0 0)) 77 _) := Lib.hid (Blk.six x6 (.int .i64 TT.kind) (.string ⟨TT.name.toArray⟩) (.string ⟨TT.value.toArray⟩) (.int .i64 TT.a) (.int .i64 TT.b) (.slice none 0 0))
          clear hr5 hb5 st6 x6 ST5 X5
          unfold tval tcells
          go_wp2_with fail
          clear hcx hfx hlx
          generalize ((((((w5.setCell ⟨X, 0, none⟩ (.int .i64 TT.kind)).setCell ⟨X, 1, none⟩ (.string ⟨TT.name.toArray⟩)).setCell ⟨X, 2, none⟩ (.string ⟨TT.value.toArray⟩)).setCell ⟨X, 3, none⟩ (.int .i64 TT.a)).setCell ⟨X, 4, none⟩ (.int .i64 TT.b)).setCell ⟨X, 5, none⟩ (.slice none 0 0)) = W at *
          obtain ⟨NS, hNS⟩ : ∃ NS : List L.Tst, NS = [] := ⟨_, rfl⟩
          have NTW : Hid (NotsAt (R + 1 ≤ ·) W (.slice none 0 0) NS) := Lib.hid (by rw [hNS]; exact ListAt.nil)
          have HI : Hid (inner = true → NS = []) := Lib.hid (fun _ => hNS)
          have HG : Hid (∀ j' bad', ((BAD = true → bad' = true) ∧ (BAD = false → Got bad' (L.need [41] (L.space (s.drop J))) (s.drop j'))) → Got bad' (L.pseudo (npOf inner) (s.drop i)) ((⟨TT, NS⟩ : L.Test), s.drop j')) := Lib.hid (by
            intro j' bad' hd
            rw [HPS.out]
            have hj2 := HJ2.out
            rcases HGn.out with ⟨rfl, h⟩ | ⟨rfl, h⟩
            · rw [hd.1 rfl]
              refine Got.no ?_
              try dsimp only
              rw [← hj2, h]
            · try dsimp only
              rw [← hj2, h]
              try dsimp only
              rw [hNS]
              rcases hd.2 rfl with ⟨rfl, h3⟩ | ⟨rfl, h3⟩
              · rw [h3]; exact Got.no rfl
              · rw [h3]; exact Got.yes rfl)
          have HNil := Lib.hid hNS
          clear hNS HPS HJ2 HGn
          refine (space_any b s J BAD _ hs hJl STW.out.rdr).mono ?_
          rintro e w7 ⟨j7, rfl, hr7, hb7, h7, h7', HJ7⟩
          have ST7 := Lib.hid (STW.out.step hr7 hb7)
          have X7 := Lib.hid (XW.out.but hb7 n2)
          have NT7 := Lib.hid (keeps_nots NTW.out (Kept.but hb7 (by omega)))
          clear hr7 hb7 STW XW NTW
          go_wp2_with fail
          refine (need_any b s [41] j7 BAD _ hs (by decide) h7' ST7.out.rdr).mono ?_
          rintro e w8 ⟨j8, bad8, rfl, hr8, hb8, h8, h8', HD⟩
          have st8 := ST7.out.step hr8 hb8
          have x8 := X7.out.but hb8 n2
          have NT8 := Lib.hid (keeps_nots NT7.out (Kept.but hb8 (by omega)))
          obtain ⟨hcx, hfx⟩ := cells_of x8
          obtain ⟨hcr, hfr⟩ := cells_of st8.res
          unfold tcells at hcx hfx
          unfold tzero at hcr hfr
          have hlr := st8.res.lt
          have hlx := x8.lt
          have ST8 := Lib.hid st8
          have HGG := Lib.hid (HG.out j8 bad8 (HJ7.out ▸ HD.out))
          clear hr8 hb8 st8 x8 ST7 X7 NT7 HD HG HJ7
          go_wp2_with fail
          refine bodyPost_ret (v := tval TT (.slice none 0 0)) (by simp [results, Tryz.results48, go_sem, tval, tcells, hcr, hcx, n3, n4]) rfl ⟨⟨TT, NS⟩, _, j8, bad8, rfl, Lib.hid (by rw [HNil.out]; exact ListAt.nil), ?_, ?_, by omega, h8', HI, HGG⟩
          · exact (ST8.out.six _ _ _ _ _ _).1
          · exact (ST8.out.six _ _ _ _ _ _).2
        case inr =>
          have st4 := ST3.out.step hr5 hb5
          have x4 := X3.out.but hb5 n2
          clear ST3 X3 hr5 hb5
          generalize wr.heap.size = X at *
          obtain ⟨hcb, hfb⟩ := cells_of st4.rdr
          obtain ⟨hcx, hfx⟩ := cells_of x4
          obtain ⟨hcr, hfr⟩ := cells_of st4.res
          unfold tzero at hcx hfx hcr hfr
          have hlr := st4.res.lt
          have hlx := x4.lt
          have hlb4 := st4.lt
          have ST4 := Lib.hid st4
          clear st4 x4
          go_wp2_with fail
          refine bodyPost_ret (v := tval ⟨0, [], [], 0, 0⟩ (.slice none 0 0)) (by simp [results, Tryz.results48, go_sem, tval, tcells, hcr, hcx, hcb, hRb, hbR]) rfl ⟨⟨⟨0, [], [], 0, 0⟩, []⟩, _, j1, true, rfl, Lib.hid ListAt.nil, ?_, ?_, g1, g1', Lib.hid (fun _ => rfl), Lib.hid ?_⟩
          · exact (ST4.out.fail.six _ _ _ _ _ _).1
          · exact (ST4.out.fail.six _ _ _ _ _ _).2
          · rcases HN.out with ⟨rfl, h⟩ | ⟨rfl, h⟩
            · exact Got.no (L.pseudo_no h)
            · refine Got.no ?_
              rw [L.pseudo_nth h HNM.out, need_none (by rcases HT.out with h | h; exact absurd h (by decide); exact h)]
      · by_cases h2 : nm = L.not_ ∧ inner = false
        · obtain ⟨h2, hin⟩ := h2
          subst h2
          subst hin
          have ST3 := Lib.hid (HSt.out.alloc (.cells tzero 77))
          have X3 := Lib.hid (Blk.new wr tzero 77)
          clear HBAD h1
          unfold L.not_ at HNO HNM
          unfold L.not_
          go_wp2_with fail
          clear HSt
          refine (take_any b s [40] j1 bad1 _ hs (by decide) g1' ST3.out.rdr).mono ?_
          rintro e w3 (⟨rfl, hr5, hb5, HT⟩ | ⟨rfl, hr5, hb5, HT⟩)
          case inl =>
            have hjk : j1 + 1 ≤ s.length := by
              have := prefix_len HT.out.2
              rw [List.length_drop] at this; simp at this; omega
            obtain rfl : bad1 = false := HT.out.1
            have hid0 : L.ident (s.drop i) = some (t, s.drop j1) := by
              rcases HN.out with ⟨h, _⟩ | ⟨_, h⟩
              · cases h
              · exact h
            have hnd : L.need [40] (s.drop j1) = some (s.drop (j1 + 1)) := by rw [need_some HT.out.2, List.drop_drop]; rfl
            have hps := L.pseudo_not hid0 HNM.out
            rw [hnd] at hps
            have HPS := Lib.hid hps
            clear hid0 hnd hps HT
            have ST4 := Lib.hid (ST3.out.step hr5 hb5)
            have X4 := Lib.hid (X3.out.but hb5 n2)
            clear ST3 X3 hr5 hb5
            generalize wr.heap.size = X at *
            have hXw : w.heap.size ≤ X := by omega
            go_wp2_with fail
            refine (space_any b s (j1 + 1) false _ hs hjk ST4.out.rdr).mono ?_
            rintro e w4 ⟨j2, rfl, hr4, hb4, h4, h4', HJ2⟩
            have ST5 := Lib.hid (ST4.out.step hr4 hb4)
            have X5 := Lib.hid (X4.out.but hb4 n2)
            clear hr4 hb4 ST4 X4
            go_wp2_with fail
            refine (H2.out (by simp) j2 _ h4' ST5.out.rdr (HE.out.but ST5.out.but ht)).mono ?_
            rintro e w5 ⟨ty, V, ts, J, BAD, rfl, HTS, hr5, hb5, h5, hJl, hty, htl5, HNo, HGn⟩
            obtain ⟨ao, cap, hV⟩ := HTS.out.form
            generalize hnn : ts.length = nn at hV
            subst hV
            have z5 := hb5.size
            have hX4 : X < w4.heap.size := X5.out.lt
            have hR4 : R < w4.heap.size := ST5.out.res.lt
            have NT5 := Lib.hid (HTS.out.nots (HNo.out rfl))
            have st6 := ST5.out.step hr5 hb5
            have x6 := X5.out.but hb5 n2
            obtain ⟨hcx, hfx⟩ := cells_of x6
            unfold tzero at hcx hfx
            have hlx := x6.lt
            have STW := Lib.hid ((st6.farSix hXw (by omega) (.int .i64 14) (.string ⟨ty.toArray⟩) (.string ⟨#[]⟩) (.int .i64 0) (.int .i64 0) (.slice ao nn cap)).alloc (.cells #[.int .i64 0, .string ⟨ty.toArray⟩, .slice ao nn cap] 57))
            have XW : Hid (Blk X (tcells ⟨14, ty, [], 0, 0⟩ (.slice ao nn cap)) 77 _) := Lib.hid ((Blk.six x6 (.int .i64 14) (.string ⟨ty.toArray⟩) (.string ⟨#[]⟩) (.int .i64 0) (.int .i64 0) (.slice ao nn cap)).alloc (.cells #[.int .i64 0, .string ⟨ty.toArray⟩, .slice ao nn cap] 57))
            have NTW := Lib.hid (keeps_nots (keeps_nots NT5.out (((Kept.refl w5).six (k := X) (by omega) (.int .i64 14) (.string ⟨ty.toArray⟩) (.string ⟨#[]⟩) (.int .i64 0) (.int .i64 0) (.slice ao nn cap)).alloc (.cells #[.int .i64 0, .string ⟨ty.toArray⟩, .slice ao nn cap] 57))) (Kept.late (B' := R + 1) (by omega)))
            clear hr5 hb5 st6 x6 ST5 X5 NT5 HTS HNo
            go_wp2_with fail
            clear hcx hfx hlx
            generalize (((((((w5.setCell ⟨X, 0, none⟩ (.int .i64 14)).setCell ⟨X, 1, none⟩ (.string ⟨ty.toArray⟩)).setCell ⟨X, 2, none⟩ (.string ⟨#[]⟩)).setCell ⟨X, 3, none⟩ (.int .i64 0)).setCell ⟨X, 4, none⟩ (.int .i64 0)).setCell ⟨X, 5, none⟩ (.slice ao nn cap)).alloc (.cells #[.int .i64 0, .string ⟨ty.toArray⟩, .slice ao nn cap] 57)) = W at *
            obtain ⟨NS, hNS⟩ : ∃ NS : List L.Tst, NS = ts.map (·.t) := ⟨_, rfl⟩
            rw [← hNS] at NTW
            obtain ⟨TT, hTT⟩ : ∃ TT : L.Tst, TT = ⟨14, ty, [], 0, 0⟩ := ⟨_, rfl⟩
            rw [← hTT] at XW
            have HI : Hid (false = true → NS = []) := Lib.hid (fun h => (by cases h))
            have HG : Hid (∀ j' bad', ((BAD = true → bad' = true) ∧ (BAD = false → Got bad' (L.need [41] (L.space (s.drop J))) (s.drop j'))) → Got bad' (L.pseudo (npOf false) (s.drop i)) ((⟨TT, NS⟩ : L.Test), s.drop j')) := Lib.hid (by
              intro j' bad' hd
              rw [show npOf false = some L.inner from rfl, HPS.out]
              have hj2 := HJ2.out
              rcases HGn.out with ⟨rfl, h⟩ | ⟨rfl, h⟩
              · rw [hd.1 rfl]
                refine Got.no ?_
                try dsimp only
                rw [← hj2, show L.inner (s.drop j2) = none from by unfold L.inner; rw [h]]
              · try dsimp only
                rw [← hj2, show L.inner (s.drop j2) = some ((ty, NS), s.drop J) from by unfold L.inner; rw [h, hNS]]
                dsimp only
                rw [hTT]
                rcases hd.2 rfl with ⟨rfl, h3⟩ | ⟨rfl, h3⟩
                · rw [h3]; exact Got.no rfl
                · rw [h3]; exact Got.yes rfl)
            clear hNS hTT HPS HJ2 HGn
            refine (space_any b s J BAD _ hs hJl STW.out.rdr).mono ?_
            rintro e w7 ⟨j7, rfl, hr7, hb7, h7, h7', HJ7⟩
            have ST7 := Lib.hid (STW.out.step hr7 hb7)
            have X7 := Lib.hid (XW.out.but hb7 n2)
            have NT7 := Lib.hid (keeps_nots NTW.out (Kept.but hb7 (by omega)))
            clear hr7 hb7 STW XW NTW
            go_wp2_with fail
            refine (need_any b s [41] j7 BAD _ hs (by decide) h7' ST7.out.rdr).mono ?_
            rintro e w8 ⟨j8, bad8, rfl, hr8, hb8, h8, h8', HD⟩
            have st8 := ST7.out.step hr8 hb8
            have x8 := X7.out.but hb8 n2
            have NT8 := Lib.hid (keeps_nots NT7.out (Kept.but hb8 (by omega)))
            obtain ⟨hcx, hfx⟩ := cells_of x8
            obtain ⟨hcr, hfr⟩ := cells_of st8.res
            unfold tcells at hcx hfx
            unfold tzero at hcr hfr
            have hlr := st8.res.lt
            have hlx := x8.lt
            have ST8 := Lib.hid st8
            have HGG := Lib.hid (HG.out j8 bad8 (HJ7.out ▸ HD.out))
            clear hr8 hb8 st8 x8 ST7 X7 NT7 HD HG HJ7
            go_wp2_with fail
            refine bodyPost_ret (v := tval TT (.slice ao nn cap)) (by simp [results, Tryz.results48, go_sem, tval, tcells, hcr, hcx, n3, n4]) rfl ⟨⟨TT, NS⟩, _, j8, bad8, rfl, ?_, ?_, ?_, by omega, h8', HI, HGG⟩
            · exact Lib.hid (keeps_nots (keeps_nots NT8.out (Kept.six (Kept.refl (S := (R + 1 ≤ ·)) _) (k := R) (by omega) _ _ _ _ _ _)) (Kept.late (by omega)))
            · exact (ST8.out.six _ _ _ _ _ _).1
            · exact (ST8.out.six _ _ _ _ _ _).2
          case inr =>
            have st4 := ST3.out.step hr5 hb5
            have x4 := X3.out.but hb5 n2
            clear ST3 X3 hr5 hb5
            generalize wr.heap.size = X at *
            obtain ⟨hcb, hfb⟩ := cells_of st4.rdr
            obtain ⟨hcx, hfx⟩ := cells_of x4
            obtain ⟨hcr, hfr⟩ := cells_of st4.res
            unfold tzero at hcx hfx hcr hfr
            have hlr := st4.res.lt
            have hlx := x4.lt
            have hlb4 := st4.lt
            have ST4 := Lib.hid st4
            clear st4 x4
            go_wp2_with fail
            refine bodyPost_ret (v := tval ⟨0, [], [], 0, 0⟩ (.slice none 0 0)) (by simp [results, Tryz.results48, go_sem, tval, tcells, hcr, hcx, hcb, hRb, hbR]) rfl ⟨⟨⟨0, [], [], 0, 0⟩, []⟩, _, j1, true, rfl, Lib.hid ListAt.nil, ?_, ?_, g1, g1', Lib.hid (fun _ => rfl), Lib.hid ?_⟩
            · exact (ST4.out.fail.six _ _ _ _ _ _).1
            · exact (ST4.out.fail.six _ _ _ _ _ _).2
            · rcases HN.out with ⟨rfl, h⟩ | ⟨rfl, h⟩
              · exact Got.no (L.pseudo_no h)
              · refine Got.no ?_
                rw [show npOf false = some L.inner from rfl, L.pseudo_not h HNM.out, need_none (by rcases HT.out with h | h; exact absurd h (by decide); exact h)]
        · have HB := Lib.hid (HBAD.out h1 h2)
          clear HBAD
          have ST4 := Lib.hid (HSt.out)
          obtain ⟨hcb, hfb⟩ := cells_of HSt.out.rdr
          obtain ⟨hcr, hfr⟩ := cells_of HSt.out.res
          unfold tzero at hcr hfr
          have hlb4 := HSt.out.lt
          have HC : Hid (nm ≠ [110, 116, 104, 45, 99, 104, 105, 108, 100] ∧ (inner = true ∨ nm ≠ [110, 111, 116])) := Lib.hid ⟨h1, by
            cases inner
            · right; intro h; exact h2 ⟨h, rfl⟩
            · left; rfl⟩
          have fin : ∀ (wf : World), wf = (wr.alloc (.cells tzero 77)).setCell ⟨b, 2, none⟩ (.bool true) → True := fun _ _ => trivial
          clear h1 h2 HSt
          have e1 : (nm == [110, 116, 104, 45, 99, 104, 105, 108, 100]) = false := by simpa using HC.out.1
          rcases HC.out.2 with rfl | h3
          all_goals
            first
              | (have e2 : (nm == [110, 111, 116]) = false := by simpa using h3)
              | skip
            cases e3 : (nm == [110, 111, 116])
            all_goals
              go_wp2_with fail
              refine bodyPost_ret (v := tval ⟨0, [], [], 0, 0⟩ (.slice none 0 0)) (by simp [results, Tryz.results48, go_sem, tval, tcells, hcr, hcb, hRb, hbR, hRX, n3, n4]) rfl ⟨⟨⟨0, [], [], 0, 0⟩, []⟩, _, j1, true, rfl, Lib.hid ListAt.nil, ?_, ?_, g1, g1', Lib.hid (fun _ => rfl), HB⟩
              · exact ((ST4.out.fail.six _ _ _ _ _ _).1.alloc _)
              · exact ((ST4.out.fail.six _ _ _ _ _ _).2.alloc _)

end K
end Go.Proofs.YtnmcgmbhkmfiaaaGreatDoor

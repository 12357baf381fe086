/- What paint comes to. -/
import Derived.Test.YtafkeolpadfjfaaGreatDoorSty4
import Derived.Test.YtafkeolpadfjfaaGreatDoorLater
import Derived.Deep.DeepCutAuto
set_option linter.unusedVariables false
set_option linter.unusedSimpArgs false
namespace Go.Proofs.YtafkeolpadfjfaaGreatDoor
open Go.RowKit
namespace Y
open H

theorem tab_below {w w' : World} {B : Nat} (h : Lib.TabIs Tryz.prog w "strings.asciiSpace" .u8 Lib.asciiSpaceTab) (b : Below B w w') (hB : 1 < B) : Lib.TabIs Tryz.prog w' "strings.asciiSpace" .u8 Lib.asciiSpaceTab := by
  have hgn : Tryz.prog.globalNamed "strings.asciiSpace" = some 1 := by kernel_rfl
  unfold Lib.TabIs World.var? at h ⊢
  rw [hgn] at h ⊢
  simp only [Option.bind_some] at h ⊢
  rw [b.block _ hB]
  exact h

theorem CutPrefixY (s p : List UInt8) (b : Bool) (w : World) (hb : p.isPrefixOf s = b) :
    Calls Tryz.prog 75 #[.string ⟨s.toArray⟩, .string ⟨p.toArray⟩] w fun e w' => e = .returned (.tuple #[.string ⟨(if b then s.drop p.length else s).toArray⟩, .bool b]) ∧ w = w' := by
  have := Tryz.strings_CutPrefix ⟨s.toArray⟩ ⟨p.toArray⟩ w
  rw [bytes_toList, bytes_toList] at this
  unfold Lib.trimPrefix Lib.hasPrefix at this
  rw [hb] at this
  exact this.mono fun e w' ⟨h1, h2⟩ => ⟨h1, h2.symm⟩

theorem rep2 (c : UInt8) (w : World) : Calls Tryz.prog 77 #[.string ⟨#[c]⟩, .int .i64 2] w fun e w' => e = .returned (.string ⟨#[c, c]⟩) ∧ Below w.heap.size w w' := by
  have := Tryz.strings_Repeat ⟨#[c]⟩ 2 w (by omega) (by show 1 * 2 ≤ _; omega)
  exact this

def ctext : List UInt8 := [98, 108, 97, 99, 107, 32, 48, 48, 48, 48, 48, 48, 32, 98, 108, 117, 101, 32, 48, 48, 48, 48, 102, 102, 32, 103, 114, 97, 121, 32, 56, 48, 56, 48, 56, 48, 32, 103, 114, 101, 101, 110, 32, 48, 48, 56, 48, 48, 48, 32, 109, 97, 114, 111, 111, 110, 32, 56, 48, 48, 48, 48, 48, 32, 110, 97, 118, 121, 32, 48, 48, 48, 48, 56, 48, 32, 111, 114, 97, 110, 103, 101, 32, 102, 102, 97, 53, 48, 48, 32, 112, 117, 114, 112, 108, 101, 32, 56, 48, 48, 48, 56, 48, 32, 114, 101, 100, 32, 102, 102, 48, 48, 48, 48, 32, 115, 105, 108, 118, 101, 114, 32, 99, 48, 99, 48, 99, 48, 32, 119, 104, 105, 116, 101, 32, 102, 102, 102, 102, 102, 102, 32, 121, 101, 108, 108, 111, 119, 32, 102, 102, 102, 102, 48, 48]
def cwords : List (List UInt8) := S.colors.flatMap (fun p => [p.1, p.2])
theorem ctext_words : Lib.fields ctext = cwords := by decide +kernel
theorem cwords_len : cwords.length = 24 := by decide
def cname (k : Nat) : List UInt8 := (S.colors.getD k ([], [])).1
def cdig (k : Nat) : List UInt8 := (S.colors.getD k ([], [])).2
theorem cword_even (k : Nat) (hk : k < 12) : cwords[2 * k]? = some (cname k) := by
  have h : ∀ n : Fin 12, cwords[2 * n.val]? = some (cname n.val) := by decide +kernel
  exact h ⟨k, hk⟩
theorem cword_odd (k : Nat) (hk : k < 12) : cwords[2 * k + 1]? = some (cdig k) := by
  have h : ∀ n : Fin 12, cwords[2 * n.val + 1]? = some (cdig n.val) := by decide +kernel
  exact h ⟨k, hk⟩
theorem colors_at (k : Nat) (hk : k < 12) : S.colors[k]? = some (cname k, cdig k) := by
  have h : ∀ n : Fin 12, S.colors[n.val]? = some (cname n.val, cdig n.val) := by decide +kernel
  exact h ⟨k, hk⟩
theorem named_at {s : List UInt8} {k : Nat} (hk : k < 12) (hn : ∀ m, m < k → cname m ≠ s) (h : cname k = s) : S.named s = some ⟨6, 0, 35 :: cdig k⟩ := by
  have hl : S.colors.length = 12 := by decide
  have : S.colors.find? (fun p => p.1 == s) = some (cname k, cdig k) := by
    rw [List.find?_eq_some_iff_getElem]
    refine ⟨by simpa using h, k, by omega, ?_, fun m hm => ?_⟩
    · have := colors_at k hk
      rw [List.getElem?_eq_getElem (by omega)] at this
      simpa using this
    · have h1 := colors_at m (by omega)
      rw [List.getElem?_eq_getElem (by omega)] at h1
      simp only [Option.some.injEq] at h1
      rw [h1]
      simpa using hn m hm
  unfold S.named
  rw [this]
theorem named_none {s : List UInt8} (hn : ∀ m, m < 12 → cname m ≠ s) : S.named s = none := by
  have hl : S.colors.length = 12 := by decide
  have : S.colors.find? (fun p => p.1 == s) = none := by
    rw [List.find?_eq_none]
    intro x hx
    obtain ⟨k, hk, rfl⟩ := List.getElem_of_mem hx
    have h1 := colors_at k (by omega)
    rw [List.getElem?_eq_getElem (by omega)] at h1
    simp only [Option.some.injEq] at h1
    rw [h1]
    simpa using hn k (by omega)
  unfold S.named
  rw [this]

set_option maxHeartbeats 16000000 in
set_option maxRecDepth 100000 in
/-- A color by its name. -/
theorem paint_named (s : List UInt8) (w : World) (hs : s.length ≤ 100000) (hE : Asc w) (hbig : 1 < w.heap.size) (hno : S.paint s = S.named s) (hp : [35].isPrefixOf s = false ∨ ∃ d, s = 35 :: d ∧ d.all S.isHex = false) :
    Calls Tryz.prog 40 #[.string ⟨s.toArray⟩] w (ValPost (S.paint s) w) := by
  have HE := Lib.hid hE
  have HO := Lib.hid hno
  generalize S.paint s = o at *
  clear hE hno
  have zs := bytes_size s
  go_enter Tryz.func40, Tryz.ntmps40
  go_upto_region 1 with fail
  have HX0 : Hid (Blk w.heap.size #[.int .i64 0, .int .i64 0, .string ⟨#[]⟩] 32 (w.alloc (.cells #[.int .i64 0, .int .i64 0, .string ⟨#[]⟩] 32))) := Lib.hid (Blk.new w _ _)
  have HU0 : Hid (Below w.heap.size w (w.alloc (.cells #[.int .i64 0, .int .i64 0, .string ⟨#[]⟩] 32))) := Lib.hid ((Below.refl _ w).alloc (Nat.le_refl _) _)
  generalize (w.alloc (.cells #[.int .i64 0, .int .i64 0, .string ⟨#[]⟩] 32)) = W0 at *
  rcases hp with hp | ⟨d, rfl, hd⟩
  case' inl =>
    go_wp2_with fail
    refine (CutPrefixY s [35] false _ hp).mono ?_
    rintro e w' ⟨rfl, rfl⟩
    obtain ⟨w1, rfl⟩ : ∃ w1, w1 = W0 := ⟨_, rfl⟩
    have HX := HX0
    have HU := HU0
    clear HX0 HU0
    go_wp2_with fail
  case' inr =>
    have QH := Lib.hid (fun W => hex d W (by simp at hs; omega))
    rw [hd] at QH
    go_wp2_with fail
    refine (CutPrefixY (35 :: d) [35] true _ (by simp [List.isPrefixOf])).mono ?_
    rintro e w' ⟨rfl, rfl⟩
    simp only [List.length_cons, List.length_nil, Nat.zero_add, List.drop_succ_cons, List.drop_zero, if_true]
    go_wp2_with fail
    refine (QH.out _).mono ?_
    rintro e w1 ⟨rfl, hb⟩
    have HX := Lib.hid (HX0.out.below hb)
    have HU := Lib.hid (HU0.out.trans (hb.mono HU0.out.size))
    clear hb HX0 HU0 QH hd
    generalize 35 :: d = s at *
    go_wp2_with fail
  all_goals
    have q := Tryz.strings_Fields_laid ⟨ctext.toArray⟩ w1 (by rw [bytes_size]; decide) (by rw [bytes_toList]; exact ascii_of_all (by decide)) (tab_below HE.out HU.out hbig)
    rw [bytes_toList, ctext_words, cwords_len] at q
    refine q.mono ?_
    rintro e w2 ⟨rfl, rfl⟩
    clear q
    have HC : Hid (∀ m, m < 24 → (w1.alloc (.cells (cwords.map fun l => Value.string ⟨l.toArray⟩).toArray 9)).cell? ⟨w1.heap.size, m, none⟩ = (cwords[m]?).map (fun l => Value.string ⟨l.toArray⟩)) := Lib.hid (fun m hm => by
      rw [World.cell?_alloc_at _ _ _ _ rfl]
      simp)
    have hlt := HX.out.lt
    have HX2 := Lib.hid (HX.out.alloc (.cells (cwords.map fun l => Value.string ⟨l.toArray⟩).toArray 9))
    have HU2 := Lib.hid (HU.out.alloc (by omega) (.cells (cwords.map fun l => Value.string ⟨l.toArray⟩).toArray 9))
    generalize (w1.alloc (.cells (cwords.map fun l => Value.string ⟨l.toArray⟩).toArray 9)) = w2 at *
    clear HX HU
    have HX := HX2
    have HU := HU2
    clear HX2 HU2
    generalize w1.heap.size = G at *
    have HN0 : Hid (∀ m, m < 0 → cname m ≠ s) := Lib.hid (fun m hm => by omega)
    go_wp2_with fail
    go_loopw [7] (fun v7 wr => ∃ k : Nat, v7 = .int .i64 ((2 * k : Nat) : Int) ∧ k ≤ 12 ∧ Hid (∀ m, m < k → cname m ≠ s) ∧ Hid (w2 = wr)) (fun v7 _ => 24 - (intOf v7).toNat)
    case atStart => exact ⟨0, rfl, by omega, HN0, Lib.hid (by first | rfl | trivial)⟩
    case round =>
      obtain ⟨k, rfl, hk, HNk, HW⟩ := hrel
      obtain rfl := HW.out
      clear HW HN0
      by_cases hk12 : k < 12
      · have e1 : ((2 * k : Nat) : Int) < 24 := by omega
        have e0 : (0 : Int) ≤ ((2 * k : Nat) : Int) := by omega
        have e2 : ((2 * k : Nat) : Int) + 1 < 24 := by omega
        have c1 : w2.cell? ⟨G, 2 * k, none⟩ = some (.string ⟨(cname k).toArray⟩) := by rw [HC.out _ (by omega), cword_even k hk12]; rfl
        have c2 : w2.cell? ⟨G, 2 * k + 1, none⟩ = some (.string ⟨(cdig k).toArray⟩) := by rw [HC.out _ (by omega), cword_odd k hk12]; rfl
        by_cases hnm : cname k = s
        · have HO2 := Lib.hid (HO.out.trans (named_at hk12 HNk.out hnm))
          have hap : (⟨#[35]⟩ : ByteArray) ++ ⟨(cdig k).toArray⟩ = ⟨(35 :: cdig k).toArray⟩ := append_bytes [35] (cdig k)
          have hd6 : (cdig k).length ≤ 6 := by
            have h : ∀ n : Fin 12, (cdig n.val).length ≤ 6 := by decide +kernel
            exact h ⟨k, hk12⟩
          have zd := bytes_size (cdig k)
          generalize cdig k = dg at *
          rw [hnm] at c1
          obtain ⟨hcx, hfx⟩ := cells_of HX.out
          have x0 : w2.cell? ⟨w.heap.size, 0, none⟩ = some (.int .i64 0) := hcx 0
          have x1 : w2.cell? ⟨w.heap.size, 1, none⟩ = some (.int .i64 0) := hcx 1
          have x2 : w2.cell? ⟨w.heap.size, 2, none⟩ = some (.string ⟨#[]⟩) := hcx 2
          have f0 : w2.frozen? ⟨w.heap.size, 0, none⟩ = false := hfx 0 (by show 0 < 3; omega)
          have f1 : w2.frozen? ⟨w.heap.size, 1, none⟩ = false := hfx 1 (by show 1 < 3; omega)
          have f2 : w2.frozen? ⟨w.heap.size, 2, none⟩ = false := hfx 2 (by show 2 < 3; omega)
          clear hcx hfx
          clear HO HNk hnm
          go_wp2_with fail
          have HXR := Lib.hid (blk3 HX.out (.int .i64 6) (.int .i64 0) (.string ⟨(35 :: dg).toArray⟩))
          have HUR := Lib.hid (below_three HU.out (Nat.le_refl _) (.int .i64 6) (.int .i64 0) (.string ⟨(35 :: dg).toArray⟩))
          generalize (((w2.setCell ⟨w.heap.size, 0, none⟩ (.int .i64 6)).setCell ⟨w.heap.size, 1, none⟩ (.int .i64 0)).setCell ⟨w.heap.size, 2, none⟩ (.string ⟨(35 :: dg).toArray⟩)) = WR at *
          obtain ⟨hcr, hfr⟩ := cells_of HXR.out
          have r0 : WR.cell? ⟨w.heap.size, 0, none⟩ = some (.int .i64 6) := hcr 0
          have r1 : WR.cell? ⟨w.heap.size, 1, none⟩ = some (.int .i64 0) := hcr 1
          have r2 : WR.cell? ⟨w.heap.size, 2, none⟩ = some (.string ⟨(35 :: dg).toArray⟩) := hcr 2
          clear hcr hfr
          (try simp only [Exit.inBlock, Exit.then])
          refine bodyPost_ret (v := .tuple #[vval ⟨6, 0, 35 :: dg⟩, .bool true]) (by simp [results, Tryz.results40, go_sem, r0, r1, r2, vval, vcells]) rfl ⟨⟨6, 0, 35 :: dg⟩, _, rfl, HUR.out, Lib.hid (fun _ => HO2.out), Lib.hid (fun h => by cases h)⟩
        · have g0 : (cname k == s) = false := by simpa using hnm
          have HN2 : Hid (∀ m, m < k + 1 → cname m ≠ s) := Lib.hid (fun m hm => (Nat.lt_or_ge m k).elim (fun h1 => HNk.out m h1) (fun h1 => (show m = k by omega) ▸ hnm))
          clear HNk hnm
          generalize cname k = cn at *
          go_wp2_with fail
          go_roundw
          case rel => exact ⟨k + 1, by go_num, by omega, HN2, Lib.hid (by first | rfl | trivial)⟩
          case measure => simp [intOf]; omega
      · have HO2 := Lib.hid (HO.out.trans (named_none (fun m hm => HNk.out m (by omega))))
        have e1 : ¬ ((2 * k : Nat) : Int) < 24 := by omega
        obtain ⟨hcx, hfx⟩ := cells_of HX.out
        have x0 : w2.cell? ⟨w.heap.size, 0, none⟩ = some (.int .i64 0) := hcx 0
        have x1 : w2.cell? ⟨w.heap.size, 1, none⟩ = some (.int .i64 0) := hcx 1
        have x2 : w2.cell? ⟨w.heap.size, 2, none⟩ = some (.string ⟨#[]⟩) := hcx 2
        have f0 : w2.frozen? ⟨w.heap.size, 0, none⟩ = false := hfx 0 (by show 0 < 3; omega)
        have f1 : w2.frozen? ⟨w.heap.size, 1, none⟩ = false := hfx 1 (by show 1 < 3; omega)
        have f2 : w2.frozen? ⟨w.heap.size, 2, none⟩ = false := hfx 2 (by show 2 < 3; omega)
        clear hcx hfx
        go_wp2_with fail
        have HXR := Lib.hid (blk3 HX.out (.int .i64 0) (.int .i64 0) (.string ⟨#[]⟩))
        have HUR := Lib.hid (below_three HU.out (Nat.le_refl _) (.int .i64 0) (.int .i64 0) (.string ⟨#[]⟩))
        generalize (((w2.setCell ⟨w.heap.size, 0, none⟩ (.int .i64 0)).setCell ⟨w.heap.size, 1, none⟩ (.int .i64 0)).setCell ⟨w.heap.size, 2, none⟩ (.string ⟨#[]⟩)) = WR at *
        obtain ⟨hcr, hfr⟩ := cells_of HXR.out
        have r0 : WR.cell? ⟨w.heap.size, 0, none⟩ = some (.int .i64 0) := hcr 0
        have r1 : WR.cell? ⟨w.heap.size, 1, none⟩ = some (.int .i64 0) := hcr 1
        have r2 : WR.cell? ⟨w.heap.size, 2, none⟩ = some (.string ⟨#[]⟩) := hcr 2
        clear hcr hfr
        (try simp only [Exit.inBlock, Exit.then])
        refine bodyPost_ret (v := .tuple #[vval ⟨0, 0, []⟩, .bool false]) (by simp [results, Tryz.results40, go_sem, r0, r1, r2, vval, vcells]) rfl ⟨⟨0, 0, []⟩, _, rfl, HUR.out, Lib.hid (fun h => by cases h), Lib.hid (fun _ => HO2.out)⟩

end Y
end Go.Proofs.YtafkeolpadfjfaaGreatDoor

/- What plain of package markup comes to. -/
import Derived.Test.YtlnginciehjlnaaGreatDoorDecode
set_option linter.unusedVariables false
set_option linter.unusedSimpArgs false
namespace Go.Proofs.YtlnginciehjlnaaGreatDoor
open Go.RowKit
namespace K

def z7 : Obj := .cells #[.int .i64 0, .string ⟨#[]⟩, .slice none 0 0, .bool false, .string ⟨#[]⟩, .int .i64 0, .bool false] 84

def PlRel (s : List UInt8) (w1 : World) (v : Value) (wr : World) : Prop :=
  ∃ k : Nat, v = .int .i64 k ∧ 1 ≤ k ∧ k ≤ s.length ∧ Hid (M.nextAt (s.drop 1) = (M.nextAt (s.drop k)).map (· + (k - 1))) ∧ wr = w1

theorem nextAt_yes {l : List UInt8} (h : M.begins l = true) : M.nextAt l = some 0 := by
  cases l with
  | nil => simp [M.begins] at h
  | cons c r => simp [M.nextAt, h]
theorem nextAt_no {c : UInt8} {r : List UInt8} (h : M.begins (c :: r) = false) : M.nextAt (c :: r) = (M.nextAt r).map (· + 1) := by simp [M.nextAt, h]

set_option maxHeartbeats 1000000 in
theorem plain (s : List UInt8) (e : Bool) (w : World) (hs : s.length ≤ 800000) (h1 : 1 ≤ s.length) (hE : Env w) :
    Calls Tryz.prog 81 #[.string ⟨s.toArray⟩, .bool e] w fun en w' => en = .returned (resV (M.plain s e) (.slice none 0 0)) ∧ Below w.heap.size w w' := by
  have HE := Lib.hid hE
  clear hE
  have HE1 := Lib.hid (HE.out.same ((Below.refl _ w).alloc (Nat.le_refl _) z7))
  unfold z7 at HE1
  go_enter Tryz.func81, Tryz.ntmps81
  go_wp2_with fail
  go_loopw [5] (fun v wr => PlRel s (w.alloc (.cells #[.int .i64 0, .string ⟨#[]⟩, .slice none 0 0, .bool false, .string ⟨#[]⟩, .int .i64 0, .bool false] 84)) v wr) (fun v _ => s.length - (intOf v).toNat)
  case atStart => exact ⟨1, rfl, by omega, h1, Lib.hid (by simp), rfl⟩
  case round =>
    obtain ⟨k, rfl, hk1, hk2, HF, rfl⟩ := hrel
    by_cases hlt : k < s.length
    · have hlt1 : (k : Int) < (s.length : Int) := by omega
      have Q := fun W => begins s k W (by omega) hlt
      obtain ⟨c, r, hd⟩ := drop_cons hlt
      cases hb : M.begins (s.drop k) with
      | true =>
        rw [hb] at Q
        have QB := Lib.hid Q
        have HV : Hid (M.plain s e = ⟨.txt 3 (E.decode (s.take k)), k, true⟩) := Lib.hid (by
          unfold M.plain
          rw [HF.out, nextAt_yes hb]
          simp only [Option.map_some, Nat.zero_add]
          rw [show k - 1 + 1 = k by omega])
        have hx := T.slice_str s 0 k (Nat.zero_le _) hk2
        rw [List.drop_zero, Nat.sub_zero] at hx
        have QD := Lib.hid (Decode (s.take k) _ (by rw [List.length_take]; omega) HE1.out)
        generalize E.decode (s.take k) = D at *
        clear hd hb HF Q
        go_wp2_with fail
        refine (QB.out _).mono ?_
        rintro en w1 ⟨rfl, rfl⟩
        go_wp2_with fail
        refine QD.out.mono ?_
        rintro en w1 ⟨rfl, b1⟩
        have hblk := new_after b1
        obtain ⟨hcl, hfr⟩ := cells_of hblk
        clear hblk
        go_wp2_with fail
        rw [HV.out]
        refine bodyPost_ret (v := resV _ (.slice none 0 0)) (by simp [results, Tryz.results81, go_sem, resV, M.Tok.txt, hcl]) rfl ⟨rfl, ?_⟩
        iterate 7 refine bset ?_ (Nat.le_refl _)
        exact ((Below.refl _ _).alloc (Nat.le_refl _) _).trans (b1.mono (by simp))
      | false =>
        rw [hb] at Q
        have QB := Lib.hid Q
        have HR : Hid (M.nextAt (s.drop 1) = (M.nextAt (s.drop (k + 1))).map (· + (k + 1 - 1))) := Lib.hid (by
          rw [HF.out, hd, nextAt_no (by rw [← hd]; exact hb), drop_more hd, Option.map_map]
          congr 1
          funext x
          show x + 1 + (k - 1) = x + (k + 1 - 1)
          omega)
        clear hd hb HF Q
        go_wp2_with fail
        refine (QB.out _).mono ?_
        rintro en w1 ⟨rfl, rfl⟩
        go_wp2_with fail
        go_roundw
        case rel => exact ⟨k + 1, by go_num, by omega, by omega, HR, rfl⟩
        case measure => simp [intOf]; omega
    · obtain rfl : k = s.length := by omega
      have HV : Hid (M.plain s e = ⟨.txt 3 (E.decode s), s.length, e⟩) := Lib.hid (by
        unfold M.plain
        rw [HF.out, List.drop_length]
        rfl)
      have QD := Lib.hid (Decode s _ (by omega) HE1.out)
      generalize E.decode s = D at *
      clear HF
      go_wp2_with fail
      refine QD.out.mono ?_
      rintro en w1 ⟨rfl, b1⟩
      have hblk := new_after b1
      obtain ⟨hcl, hfr⟩ := cells_of hblk
      clear hblk
      go_wp2_with fail
      rw [HV.out]
      refine bodyPost_ret (v := resV _ (.slice none 0 0)) (by simp [results, Tryz.results81, go_sem, resV, M.Tok.txt, hcl]) rfl ⟨rfl, ?_⟩
      iterate 7 refine bset ?_ (Nat.le_refl _)
      exact ((Below.refl _ _).alloc (Nat.le_refl _) _).trans (b1.mono (by simp))

end K
end Go.Proofs.YtlnginciehjlnaaGreatDoor

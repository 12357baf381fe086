/- What among, inner, the decoder's methods on the tokenizer, and raw come to. -/
import Derived.Test.YtlnginciehjlnaaGreatDoorNormal
set_option linter.unusedVariables false
set_option linter.unusedSimpArgs false
namespace Go.Proofs.YtlnginciehjlnaaGreatDoor
open Go.RowKit
namespace K

def AmRel (name : List UInt8) (L : List (List UInt8)) (u : Value) : Prop := ∃ k : Nat, u = .int .i64 k ∧ k ≤ L.length ∧ Hid (L.any (fun x => x == name) = (L.drop k).any (fun x => x == name))

set_option maxHeartbeats 1000000 in
theorem among (name ws : List UInt8) (L : List (List UInt8)) (w : World) (hL : Lib.fields ws = L) (hl : L.length ≤ 1000) (hw : ws.length ≤ 1000) (ha : ∀ b ∈ ws, b.toNat < 128) (hE : Env w) :
    Calls Tryz.prog 46 #[.string ⟨name.toArray⟩, .string ⟨ws.toArray⟩] w fun e w' => e = .returned (.bool (L.any (fun x => x == name))) ∧ Below w.heap.size w w' := by
  have q := Tryz.strings_Fields_laid ⟨ws.toArray⟩ w (by rw [T.bytes_size]; omega) (fun j b h => by rw [T.bytes_toList] at h; exact ha b (List.mem_of_getElem? h)) hE.asc
  rw [T.bytes_toList, hL] at q
  have Q := Lib.hid q
  clear q hL ha hE
  obtain ⟨R, hR⟩ : ∃ R, L.any (fun x => x == name) = R := ⟨_, rfl⟩
  have HR := Lib.hid hR
  rw [hR]
  clear hR
  go_enter Tryz.func46, Tryz.ntmps46
  go_wp2_with fail
  refine Q.out.mono ?_
  rintro e w1 ⟨rfl, rfl⟩
  have HC : Hid (∀ k (h : k < L.length), (w.alloc (.cells (L.map fun l => Value.string ⟨l.toArray⟩).toArray 9)).cell? ⟨w.heap.size, k, none⟩ = some (.string ⟨L[k].toArray⟩)) := Lib.hid (fun k h => by
    rw [World.cell?_alloc_at _ _ _ _ rfl]
    simp [h])
  have hB : Below w.heap.size w (w.alloc (.cells (L.map fun l => Value.string ⟨l.toArray⟩).toArray 9)) := (Below.refl _ _).alloc (Nat.le_refl _) _
  generalize (w.alloc (.cells (L.map fun l => Value.string ⟨l.toArray⟩).toArray 9)) = W at HC hB ⊢
  go_wp2_with fail
  go_loop [10] (fun u => AmRel name L u) (fun u => L.length - (intOf u).toNat)
  case atStart => exact ⟨0, rfl, Nat.zero_le _, Lib.hid rfl⟩
  case round =>
    obtain ⟨k, rfl, hk, HK⟩ := hrel
    by_cases hlt : k < L.length
    · have hlt1 : (k : Int) < (L.length : Int) := by omega
      have hc := HC.out k hlt
      have hdr : L.drop k = L[k] :: L.drop (k + 1) := List.drop_eq_getElem_cons hlt
      cases hx : (L[k] == name) with
      | true =>
        have HV : Hid (R = true) := Lib.hid (by rw [← HR.out, HK.out, hdr, List.any_cons, hx, Bool.true_or])
        clear hdr HK
        generalize L[k] = x at *
        go_wp2_with fail
        go_ret
        rw [HV.out]
        exact ⟨rfl, hB⟩
      | false =>
        have HK' : Hid (L.any (fun x => x == name) = (L.drop (k + 1)).any (fun x => x == name)) := Lib.hid (by rw [HK.out, hdr, List.any_cons, hx, Bool.false_or])
        clear hdr HK
        generalize L[k] = x at *
        go_wp2_with fail
        go_round
        case rel => exact ⟨k + 1, by go_num, by omega, HK'⟩
        case measure => simp [intOf]; omega
    · have HV : Hid (R = false) := Lib.hid (by rw [← HR.out, HK.out, List.drop_eq_nil_of_le (by omega)]; rfl)
      have hge : (L.length : Int) ≤ (k : Int) := by omega
      go_wp2_with fail
      go_ret
      rw [HV.out]
      exact ⟨rfl, hB⟩

theorem beq_flip (a b : List UInt8) : (a == b) = (b == a) := by
  rw [Bool.eq_iff_iff, beq_iff_eq, beq_iff_eq]; exact ⟨fun h => h.symm, fun h => h.symm⟩

set_option maxHeartbeats 400000 in
theorem IsRaw (n : List UInt8) (w : World) (hE : Env w) :
    Calls Tryz.prog 28 #[.string ⟨n.toArray⟩] w fun e w' => e = .returned (.bool (M.isRaw n)) ∧ Below w.heap.size w w' := by
  have q := among n [115, 99, 114, 105, 112, 116, 32, 115, 116, 121, 108, 101] [[115, 99, 114, 105, 112, 116], [115, 116, 121, 108, 101]] w (by decide) (by decide) (by decide) (by decide) hE
  have hv : ([[115, 99, 114, 105, 112, 116], [115, 116, 121, 108, 101]] : List (List UInt8)).any (fun x => x == n) = M.isRaw n := by
    simp only [List.any_cons, List.any_nil, Bool.or_false, M.isRaw]
    rw [beq_flip _ n, beq_flip _ n]
  rw [hv] at q
  have Q := Lib.hid q
  clear q hv
  generalize M.isRaw n = R at *
  go_enter Tryz.func28, Tryz.ntmps28
  go_wp2_with fail
  refine Q.out.mono ?_
  rintro e w1 ⟨rfl, b⟩
  go_wp2_with fail
  go_ret
  exact ⟨rfl, b⟩

set_option maxHeartbeats 400000 in
theorem IsPlain (n : List UInt8) (w : World) (hE : Env w) :
    Calls Tryz.prog 30 #[.string ⟨n.toArray⟩] w fun e w' => e = .returned (.bool (M.isPlain n)) ∧ Below w.heap.size w w' := by
  have q := among n [116, 105, 116, 108, 101, 32, 116, 101, 120, 116, 97, 114, 101, 97] [[116, 105, 116, 108, 101], [116, 101, 120, 116, 97, 114, 101, 97]] w (by decide) (by decide) (by decide) (by decide) hE
  have hv : ([[116, 105, 116, 108, 101], [116, 101, 120, 116, 97, 114, 101, 97]] : List (List UInt8)).any (fun x => x == n) = M.isPlain n := by
    simp only [List.any_cons, List.any_nil, Bool.or_false, M.isPlain]
    rw [beq_flip _ n, beq_flip _ n]
  rw [hv] at q
  have Q := Lib.hid q
  clear q hv
  generalize M.isPlain n = R at *
  go_enter Tryz.func30, Tryz.ntmps30
  go_wp2_with fail
  refine Q.out.mono ?_
  rintro e w1 ⟨rfl, b⟩
  go_wp2_with fail
  go_ret
  exact ⟨rfl, b⟩

end K
end Go.Proofs.YtlnginciehjlnaaGreatDoor

namespace Go.Proofs.YtlnginciehjlnaaGreatDoor
open Go.RowKit
namespace K

/-- The tokenizer: the decoder's rest, the text, the mode, and whether a carriage return came last. -/
def IsTz (tb : Nat) (d rest raw : List UInt8) (ret : Bool) (w : World) : Prop :=
  w.heap[tb]? = some (.cells #[.string ⟨d.toArray⟩, .string ⟨rest.toArray⟩, .string ⟨raw.toArray⟩, .bool ret] 46 (0, 0))

theorem IsTz.below {tb : Nat} {d rest raw : List UInt8} {ret : Bool} {w w' : World} (h : IsTz tb d rest raw ret w) (b : Below w.heap.size w w') : IsTz tb d rest raw ret w' := (b.block tb (lt_of_block h)).trans h

set_option maxHeartbeats 2000000 in
theorem inner (tb : Nat) (d rest raw s : List UInt8) (ret ok : Bool) (w : World) (hs : s.length ≤ 800000) (hE : Env w) (hT : IsTz tb d rest raw ret w) :
    Calls Tryz.prog 75 #[.pointer (some ⟨tb, 0, none⟩), .string ⟨s.toArray⟩, .bool ok] w (ResPost (M.inner raw s ok) w) := by
  obtain ⟨W, hW⟩ : ∃ W, W = (w.alloc (.cells zeroCells 84)).alloc (.cells #[.int .i64 3, .string ⟨#[]⟩, .slice none 0 0, .bool false, .string ⟨s.toArray⟩, .int .i64 s.length, .bool ok] 84) := ⟨_, rfl⟩
  have hBW : Below w.heap.size w W := by rw [hW]; exact ((Below.refl _ _).alloc (Nat.le_refl _) _).alloc (by simp) _
  have hr0 : W.heap[w.heap.size]? = some (.cells zeroCells 84 (0, 0)) := by
    rw [hW, Below.heap_alloc _ _ _ (by simp)]; exact heap_alloc_new _ _
  have hv0 : W.heap[w.heap.size + 1]? = some (.cells #[.int .i64 3, .string ⟨#[]⟩, .slice none 0 0, .bool false, .string ⟨s.toArray⟩, .int .i64 s.length, .bool ok] 84 (0, 0)) := by
    rw [hW]
    have := heap_alloc_new (w.alloc (.cells zeroCells 84)) (.cells #[.int .i64 3, .string ⟨#[]⟩, .slice none 0 0, .bool false, .string ⟨s.toArray⟩, .int .i64 s.length, .bool ok] 84)
    simpa using this
  have hTW := hT.below hBW
  obtain ⟨hct, hft⟩ := cells_of hTW
  have HEW := Lib.hid (hE.same hBW)
  have htl := lt_of_block hT
  have hzW : w.heap.size + 2 = W.heap.size := by rw [hW]; simp
  have htc : w.cell? ⟨tb, 2, none⟩ = some (.string ⟨raw.toArray⟩) := (cells_of hT).1 2
  have HW := Lib.hid hW
  have HR0 := Lib.hid hr0
  have HV0 := Lib.hid hv0
  clear hW hr0 hv0 hE hT hTW
  have hne1 : tb ≠ w.heap.size := by omega
  have hne2 : tb ≠ w.heap.size + 1 := by omega
  have QP := Lib.hid (fun W h => IsPlain raw W h)
  cases hp : M.isPlain raw with
  | true =>
    rw [hp] at QP
    have HV : Hid (M.inner raw s ok = ⟨.txt 3 (E.decode s), s.length, ok⟩) := Lib.hid (by unfold M.inner; rw [hp]; rfl)
    clear hp
    go_enter Tryz.func75, Tryz.ntmps75
    go_wp2_with fail
    have hWW := HW.out
    unfold zeroCells at hWW
    rw [← hWW]
    clear hWW
    refine (QP.out _ HEW.out).mono ?_
    rintro e w1 ⟨rfl, b1⟩
    have HE1 := Lib.hid (HEW.out.same b1)
    go_wp2_with fail
    refine (Decode s _ hs HE1.out).mono ?_
    rintro e w2 ⟨rfl, b2⟩
    have hz1 := b1.size
    have hz2 := b2.size
    have hr2 := (b2.block w.heap.size (by omega)).trans ((b1.block w.heap.size (by omega)).trans HR0.out)
    have hv2 := (b2.block (w.heap.size + 1) (by omega)).trans ((b1.block (w.heap.size + 1) (by omega)).trans HV0.out)
    obtain ⟨hcr, hfr⟩ := cells_of hr2
    obtain ⟨hcv, hfv⟩ := cells_of hv2
    unfold zeroCells at hcr hfr
    clear hr2 hv2
    generalize E.decode s = D at *
    go_wp2_with fail
    rw [HV.out]
    refine bodyPost_ret (v := resV _ (.slice none 0 0)) (by simp [results, Tryz.results75, go_sem, resV, M.Tok.txt, hcr, hcv]) rfl ⟨_, rfl, no_attrs _ _, ?_⟩
    iterate 7 refine bset ?_ (Nat.le_refl _)
    refine bset ?_ (by omega)
    exact (hBW.trans (b1.mono (by omega))).trans (b2.mono (by omega))
  | false =>
    rw [hp] at QP
    have HV : Hid (M.inner raw s ok = ⟨.txt 3 s, s.length, ok⟩) := Lib.hid (by unfold M.inner; rw [hp]; rfl)
    clear hp
    go_enter Tryz.func75, Tryz.ntmps75
    go_wp2_with fail
    have hWW := HW.out
    unfold zeroCells at hWW
    rw [← hWW]
    clear hWW
    refine (QP.out _ HEW.out).mono ?_
    rintro e w1 ⟨rfl, b1⟩
    have hz1 := b1.size
    have hr2 := (b1.block w.heap.size (by omega)).trans HR0.out
    have hv2 := (b1.block (w.heap.size + 1) (by omega)).trans HV0.out
    obtain ⟨hcr, hfr⟩ := cells_of hr2
    obtain ⟨hcv, hfv⟩ := cells_of hv2
    unfold zeroCells at hcr hfr
    clear hr2 hv2
    go_wp2_with fail
    rw [HV.out]
    refine bodyPost_ret (v := resV _ (.slice none 0 0)) (by simp [results, Tryz.results75, go_sem, resV, M.Tok.txt, hcr, hcv]) rfl ⟨_, rfl, no_attrs _ _, ?_⟩
    iterate 7 refine bset ?_ (Nat.le_refl _)
    exact hBW.trans (b1.mono (by omega))

end K
end Go.Proofs.YtlnginciehjlnaaGreatDoor

namespace Go.Proofs.YtlnginciehjlnaaGreatDoor
open Go.RowKit
namespace K

theorem FullAt (t : List UInt8) (k : Nat) (b : Bool) (w : World) (hz : t.length ≤ 100000) (hk : k ≤ t.length) (hT : T.Tabs w) (hb : U.full (t.drop k) = b) :
    Calls Tryz.prog 61 #[.string ((⟨t.toArray⟩ : ByteArray).extract k t.length)] w fun e w' => e = .returned (.bool b) ∧ Below w.heap.size w w' := by
  rw [T.slice_str t k t.length hk (Nat.le_refl _), List.take_of_length_le (by rw [List.length_drop]; omega)]
  have := T.FullRune ⟨(t.drop k).toArray⟩ w (by rw [T.bytes_size, List.length_drop]; omega) hT
  rw [T.bytes_toList, hb] at this
  exact this

theorem RepairAt (t : List UInt8) (k : Nat) (w : World) (hz : t.length ≤ 100000) (hk : k ≤ t.length) (hT : T.Tabs w) :
    Calls Tryz.prog 62 #[.string ((⟨t.toArray⟩ : ByteArray).extract 0 k)] w fun e w' => e = .returned (.string ⟨(U.rep (t.take k)).toArray⟩) ∧ Below w.heap.size w w' := by
  rw [T.slice_str t 0 k (Nat.zero_le _) hk, List.drop_zero, Nat.sub_zero]
  have := T.Repair ⟨(t.take k).toArray⟩ w (by rw [T.bytes_size, List.length_take]; omega) hT
  rw [T.bytes_toList] at this
  exact this

theorem IsTz.dec {tb : Nat} {d rest raw : List UInt8} {ret : Bool} {w : World} (h : IsTz tb d rest raw ret w) (d' : List UInt8) : IsTz tb d' rest raw ret (w.setCell ⟨tb, 0, none⟩ (.string ⟨d'.toArray⟩)) := block_set h
theorem IsTz.rest {tb : Nat} {d rest raw : List UInt8} {ret : Bool} {w : World} (h : IsTz tb d rest raw ret w) (r' : List UInt8) : IsTz tb d r' raw ret (w.setCell ⟨tb, 1, none⟩ (.string ⟨r'.toArray⟩)) := block_set h
theorem IsTz.raw {tb : Nat} {d rest raw : List UInt8} {ret : Bool} {w : World} (h : IsTz tb d rest raw ret w) (r' : List UInt8) : IsTz tb d rest r' ret (w.setCell ⟨tb, 2, none⟩ (.string ⟨r'.toArray⟩)) := block_set h
theorem IsTz.ret {tb : Nat} {d rest raw : List UInt8} {ret : Bool} {w : World} (h : IsTz tb d rest raw ret w) (r' : Bool) : IsTz tb d rest raw r' (w.setCell ⟨tb, 3, none⟩ (.bool r')) := block_set h

theorem Env.but {tb : Nat} {w w' : World} (h : Env w) (b : But tb w w') (ht : top ≤ tb) (hl : tb < w.heap.size) : Env w' := h.below (b.below hl) ht

def FeedPost (tb : Nat) (t rest raw : List UInt8) (ret : Bool) (w : World) (e : Ending) (w' : World) : Prop :=
  e = .returned (.string ⟨(U.rep (t.take (U.fcut t))).toArray⟩) ∧ IsTz tb (t.drop (U.fcut t)) rest raw ret w' ∧ But tb w w'

set_option maxHeartbeats 2000000 in
set_option maxRecDepth 100000 in
theorem DFeed (tb : Nat) (d s rest raw : List UInt8) (ret : Bool) (w : World) (hz : d.length + s.length ≤ 100000) (hE : Env w) (ht : top ≤ tb) (hd : IsTz tb d rest raw ret w) :
    Calls Tryz.prog 43 #[.pointer (some ⟨tb, 0, none⟩), .string ⟨s.toArray⟩] w (FeedPost tb (d ++ s) rest raw ret w) := by
  have hcell := (cells_of hd).1 0
  have hal := lt_of_block hd
  have hab := T.append_bytes d s
  have zr := T.bytes_size d
  have zs := T.bytes_size s
  have zt : (d ++ s).length ≤ 100000 := by rw [List.length_append]; omega
  generalize d ++ s = t at *
  have HE := Lib.hid hE
  have HD := Lib.hid hd
  clear hE hd
  go_enter Tryz.func43, Tryz.ntmps43
  go_wp2_with fail
  clear hcell hab zr zs hz
  go_loopw [5, 6] (fun v u wr => T.FeedRel t w v u wr) (fun _ u _ => t.length - (intOf u).toNat)
  case atStart => exact ⟨t.length - 3, rfl, by congr 1; omega, by omega, Lib.hid rfl, Below.refl _ _⟩
  case round =>
    obtain ⟨k, rfl, rfl, hk, HF, hb⟩ := hrel
    have HE1 := Lib.hid (HE.out.same hb)
    have hd1 := HD.out.below hb
    obtain ⟨hcell1, hfree1⟩ := cells_of hd1
    have hal1 := lt_of_block hd1
    have HD1 := Lib.hid hd1
    clear hd1
    by_cases hlt : k < t.length
    · cases hf : U.full (t.drop k) with
      | true =>
        have HFU := Lib.hid hf
        clear hf
        go_wp2_with fail
        refine (FullAt t k true wr zt hk HE1.out.tabs HFU.out).mono ?_
        rintro e w1 ⟨rfl, b1⟩
        go_wp2_with fail
        go_roundw
        case rel => exact ⟨k + 1, rfl, by go_num, by omega, Lib.hid ((U.fend_full t k hlt HFU.out).symm.trans HF.out), hb.trans (b1.mono hb.size)⟩
        case measure => simp [intOf]; omega
      | false =>
        have HFU := Lib.hid hf
        clear hf
        go_wp2_with fail
        refine (FullAt t k false wr zt hk HE1.out.tabs HFU.out).mono ?_
        rintro e w1 ⟨rfl, b1⟩
        clear hcell1 hfree1
        have hd2 := HD1.out.below b1
        obtain ⟨hcell2, hfree2⟩ := cells_of hd2
        have HD2 := Lib.hid hd2
        clear hd2
        have hbw : But tb w w1 := But.of (hb.trans (b1.mono hb.size))
        have hbs : But tb w (w1.setCell ⟨tb, 0, none⟩ (.string ((⟨t.toArray⟩ : ByteArray).extract k t.length))) := hbw.trans (But.set _ _ _)
        have HE3 := Lib.hid (HE.out.but hbs ht hal)
        go_wp2_with fail
        refine (RepairAt t k _ zt hk HE3.out.tabs).mono ?_
        rintro e w2 ⟨rfl, b2⟩
        go_wp2_with fail
        go_ret
        have hE : U.fcut t = k := HF.out.symm.trans (U.fend_stop t k hlt HFU.out)
        refine ⟨by rw [hE]; rfl, ?_, hbs.trans (But.of b2)⟩
        have h3 : IsTz tb (t.drop k) rest raw ret (w1.setCell ⟨tb, 0, none⟩ (.string ((⟨t.toArray⟩ : ByteArray).extract k t.length))) := by
          rw [T.slice_str t k t.length hk (Nat.le_refl _), List.take_of_length_le (by rw [List.length_drop]; omega)]
          exact HD2.out.dec _
        rw [hE]
        exact h3.below b2
    · obtain rfl : k = t.length := by omega
      have hbw : But tb w wr := But.of hb
      have hbs : But tb w (wr.setCell ⟨tb, 0, none⟩ (.string ByteArray.empty)) := hbw.trans (But.set _ _ _)
      have HE3 := Lib.hid (HE.out.but hbs ht hal)
      go_wp2_with fail
      refine (RepairAt t t.length _ zt hk HE3.out.tabs).mono ?_
      rintro e w2 ⟨rfl, b2⟩
      go_wp2_with fail
      go_ret
      have hE : U.fcut t = t.length := HF.out.symm.trans (U.fend_end t t.length (Nat.le_refl _))
      refine ⟨by rw [hE, List.take_length]; rfl, ?_, hbs.trans (But.of b2)⟩
      have h3 : IsTz tb (t.drop t.length) rest raw ret (wr.setCell ⟨tb, 0, none⟩ (.string ByteArray.empty)) := by
        rw [List.drop_length]
        exact HD1.out.dec []
      rw [hE]
      exact h3.below b2

def EndPost (tb : Nat) (d rest raw : List UInt8) (ret : Bool) (w : World) (e : Ending) (w' : World) : Prop :=
  e = .returned (.string ⟨(U.rep d).toArray⟩) ∧ IsTz tb [] rest raw ret w' ∧ But tb w w'

set_option maxHeartbeats 1000000 in
theorem DEnd (tb : Nat) (d rest raw : List UInt8) (ret : Bool) (w : World) (hz : d.length ≤ 100000) (hE : Env w) (hd : IsTz tb d rest raw ret w) :
    Calls Tryz.prog 45 #[.pointer (some ⟨tb, 0, none⟩)] w (EndPost tb d rest raw ret w) := by
  have hcell := (cells_of hd).1 0
  have hal := lt_of_block hd
  have HD := Lib.hid hd
  clear hd
  have q := T.Repair ⟨d.toArray⟩ w (by rw [T.bytes_size]; omega) hE.tabs
  rw [T.bytes_toList] at q
  have Q := Lib.hid q
  clear q hE
  go_enter Tryz.func45, Tryz.ntmps45
  go_wp2_with fail
  refine Q.out.mono ?_
  rintro e w1 ⟨rfl, b1⟩
  have hd2 := HD.out.below b1
  obtain ⟨hcell2, hfree2⟩ := cells_of hd2
  have HD2 := Lib.hid hd2
  clear hd2
  go_wp2_with fail
  go_ret
  exact ⟨rfl, HD2.out.dec [], (But.of b1).trans (But.set _ _ _)⟩

end K
end Go.Proofs.YtlnginciehjlnaaGreatDoor

namespace Go.Proofs.YtlnginciehjlnaaGreatDoor
open Go.RowKit
namespace K

def RawPost (tb : Nat) (d s raw : List UInt8) (ret e : Bool) (w : World) (en : Ending) (w' : World) : Prop :=
  ∃ a, en = .returned (resV (M.rawStep raw s e).1 a) ∧ HasAttrs w.heap.size a (M.rawStep raw s e).1.tok.attrs w' ∧ IsTz tb d s (M.rawStep raw s e).2 ret w' ∧ But tb w w'

def RwRel (mark s : List UInt8) (W : World) (u : Value) (wr : World) : Prop :=
  ∃ k : Nat, u = .int .i64 k ∧ k ≤ s.length ∧ Below W.heap.size W wr ∧ Hid (M.shutAt mark s = (M.shutAt mark (s.drop k)).map (· + k))

theorem shutAt_no {mark r : List UInt8} {c : UInt8} (h : (c == 60 && M.shut mark (c :: r)) = false) : M.shutAt mark (c :: r) = (M.shutAt mark r).map (· + 1) := by
  simp only [M.shutAt, h, Bool.false_eq_true, if_false]
theorem shutAt_yes {mark r : List UInt8} {c : UInt8} (h : (c == 60 && M.shut mark (c :: r)) = true) : M.shutAt mark (c :: r) = some 0 := by
  simp only [M.shutAt, h, if_true]

theorem shut_next {mark s r : List UInt8} {c : UInt8} {k : Nat} (hd : s.drop k = c :: r) (h : (c == 60 && M.shut mark (c :: r)) = false) (HK : M.shutAt mark s = (M.shutAt mark (s.drop k)).map (· + k)) : M.shutAt mark s = (M.shutAt mark (s.drop (k + 1))).map (· + (k + 1)) := by
  rw [HK, hd, shutAt_no h, drop_more hd, Option.map_map]
  congr 1
  funext x
  show x + 1 + k = x + (k + 1)
  omega

theorem but_join {tb o : Nat} {w X F : World} {v : Value} (hX : Below w.heap.size w X) (h7 : Below w.heap.size (X.setCell ⟨tb, o, none⟩ v) F) : But tb w F :=
  ⟨h7.os.trans hX.os, h7.tape.trans hX.tape, h7.output.trans hX.output, Nat.le_trans hX.size (by have := h7.size; simpa [World.setCell] using this), fun k hk hn => (h7.block k hk).trans ((Below.heap_setCell X ⟨tb, o, none⟩ v k hn).trans (hX.block k hk))⟩

theorem tz_set {tb b o : Nat} {d rest raw : List UInt8} {ret : Bool} {w : World} {v : Value} (h : IsTz tb d rest raw ret w) (hne : tb ≠ b) : IsTz tb d rest raw ret (w.setCell ⟨b, o, none⟩ v) :=
  (Below.heap_setCell w ⟨b, o, none⟩ v tb hne).trans h

theorem bodyPost_gen {P : Program} {fn : Func} {R : Ending → World → Prop} {x : Exit} {a : Act} {W : World} (h : ∀ F, F = W → bodyPost P fn R x a F) : bodyPost P fn R x a W := h W rfl

/-- Seven stores into a block of seven cells. -/
theorem seven {w : World} {b : Nat} {z0 z1 z2 z3 z4 z5 z6 v0 v1 v2 v3 v4 v5 v6 : Value} {t : TypeId} {f : Nat × Nat} (h : w.heap[b]? = some (.cells #[z0, z1, z2, z3, z4, z5, z6] t f)) :
    (((((((w.setCell ⟨b, 0, none⟩ v0).setCell ⟨b, 1, none⟩ v1).setCell ⟨b, 2, none⟩ v2).setCell ⟨b, 3, none⟩ v3).setCell ⟨b, 4, none⟩ v4).setCell ⟨b, 5, none⟩ v5).setCell ⟨b, 6, none⟩ v6).heap[b]? = some (.cells #[v0, v1, v2, v3, v4, v5, v6] t f) := by
  have h0 : (w.setCell ⟨b, 0, none⟩ v0).heap[b]? = some (.cells #[v0, z1, z2, z3, z4, z5, z6] t f) := block_set h
  have h1 : ((w.setCell ⟨b, 0, none⟩ v0).setCell ⟨b, 1, none⟩ v1).heap[b]? = some (.cells #[v0, v1, z2, z3, z4, z5, z6] t f) := block_set h0
  have h2 : (((w.setCell ⟨b, 0, none⟩ v0).setCell ⟨b, 1, none⟩ v1).setCell ⟨b, 2, none⟩ v2).heap[b]? = some (.cells #[v0, v1, v2, z3, z4, z5, z6] t f) := block_set h1
  have h3 : ((((w.setCell ⟨b, 0, none⟩ v0).setCell ⟨b, 1, none⟩ v1).setCell ⟨b, 2, none⟩ v2).setCell ⟨b, 3, none⟩ v3).heap[b]? = some (.cells #[v0, v1, v2, v3, z4, z5, z6] t f) := block_set h2
  have h4 : (((((w.setCell ⟨b, 0, none⟩ v0).setCell ⟨b, 1, none⟩ v1).setCell ⟨b, 2, none⟩ v2).setCell ⟨b, 3, none⟩ v3).setCell ⟨b, 4, none⟩ v4).heap[b]? = some (.cells #[v0, v1, v2, v3, v4, z5, z6] t f) := block_set h3
  have h5 : ((((((w.setCell ⟨b, 0, none⟩ v0).setCell ⟨b, 1, none⟩ v1).setCell ⟨b, 2, none⟩ v2).setCell ⟨b, 3, none⟩ v3).setCell ⟨b, 4, none⟩ v4).setCell ⟨b, 5, none⟩ v5).heap[b]? = some (.cells #[v0, v1, v2, v3, v4, v5, z6] t f) := block_set h4
  have h6 : (((((((w.setCell ⟨b, 0, none⟩ v0).setCell ⟨b, 1, none⟩ v1).setCell ⟨b, 2, none⟩ v2).setCell ⟨b, 3, none⟩ v3).setCell ⟨b, 4, none⟩ v4).setCell ⟨b, 5, none⟩ v5).setCell ⟨b, 6, none⟩ v6).heap[b]? = some (.cells #[v0, v1, v2, v3, v4, v5, v6] t f) := block_set h5
  exact h6

theorem seven_size (w : World) (b : Nat) (v0 v1 v2 v3 v4 v5 v6 : Value) :
    (((((((w.setCell ⟨b, 0, none⟩ v0).setCell ⟨b, 1, none⟩ v1).setCell ⟨b, 2, none⟩ v2).setCell ⟨b, 3, none⟩ v3).setCell ⟨b, 4, none⟩ v4).setCell ⟨b, 5, none⟩ v5).setCell ⟨b, 6, none⟩ v6).heap.size = w.heap.size := by
  simp [World.setCell]

theorem seven_other {w : World} {b : Nat} {v0 v1 v2 v3 v4 v5 v6 : Value} {k : Nat} (hk : k ≠ b) :
    (((((((w.setCell ⟨b, 0, none⟩ v0).setCell ⟨b, 1, none⟩ v1).setCell ⟨b, 2, none⟩ v2).setCell ⟨b, 3, none⟩ v3).setCell ⟨b, 4, none⟩ v4).setCell ⟨b, 5, none⟩ v5).setCell ⟨b, 6, none⟩ v6).heap[k]? = w.heap[k]? := by
  have h := fun (W : World) o v => Below.heap_setCell W ⟨b, o, none⟩ v k hk
  rw [h, h, h, h, h, h, h]

theorem seven_below {w : World} {b B : Nat} {v0 v1 v2 v3 v4 v5 v6 : Value} (hB : B ≤ b) :
    Below B w (((((((w.setCell ⟨b, 0, none⟩ v0).setCell ⟨b, 1, none⟩ v1).setCell ⟨b, 2, none⟩ v2).setCell ⟨b, 3, none⟩ v3).setCell ⟨b, 4, none⟩ v4).setCell ⟨b, 5, none⟩ v5).setCell ⟨b, 6, none⟩ v6) := by
  iterate 7 refine bset ?_ hB
  exact Below.refl _ _

theorem inner_attrs (raw s : List UInt8) (e : Bool) : (M.inner raw s e).tok.attrs = [] := rfl

set_option maxHeartbeats 4000000 in
set_option maxRecDepth 100000 in
theorem raw (tb : Nat) (d s rw_ : List UInt8) (ret e : Bool) (w : World) (hs : s.length ≤ 800000) (h1 : 1 ≤ s.length) (hrl : rw_.length ≤ 100000) (hE : Env w) (hT : IsTz tb d s rw_ ret w) :
    Calls Tryz.prog 63 #[.pointer (some ⟨tb, 0, none⟩), .bool e] w (RawPost tb d s rw_ ret e w) := by
  obtain ⟨W, hW⟩ : ∃ W, W = w.alloc (.cells zeroCells 84) := ⟨_, rfl⟩
  have hBW : Below w.heap.size w W := by rw [hW]; exact (Below.refl _ _).alloc (Nat.le_refl _) _
  have hr0 : W.heap[w.heap.size]? = some (.cells zeroCells 84 (0, 0)) := by rw [hW]; exact heap_alloc_new _ _
  have hTW := hT.below hBW
  have HEW := Lib.hid (hE.same hBW)
  have htl := lt_of_block hT
  have hzW : w.heap.size + 1 = W.heap.size := by rw [hW]; simp
  have ht1 : w.cell? ⟨tb, 1, none⟩ = some (.string ⟨s.toArray⟩) := (cells_of hT).1 1
  have ht2 : w.cell? ⟨tb, 2, none⟩ = some (.string ⟨rw_.toArray⟩) := (cells_of hT).1 2
  have HW := Lib.hid hW
  have HR0 := Lib.hid hr0
  have HTW := Lib.hid hTW
  clear hW hr0 hE hT hTW
  have hne1 : tb ≠ w.heap.size := by omega
  have hab := T.append_bytes [60, 47] rw_
  have hml : ([60, 47] ++ rw_).length ≤ 100002 := by rw [List.length_append]; simp; omega
  have hml2 : 2 ≤ ([60, 47] ++ rw_).length := by rw [List.length_append]; simp
  have HST : Hid (M.rawStep rw_ s e = match M.shutAt ([60, 47] ++ rw_) s with | none => (M.inner rw_ s e, rw_) | some 0 => (M.endTag s e, if (M.endTag s e).ok then [] else rw_) | some (i + 1) => (M.inner rw_ (s.take (i + 1)) true, rw_)) := Lib.hid rfl
  have hrl2 : (rw_.length : Int) ≤ 100000 := by omega
  generalize [60, 47] ++ rw_ = mark at *
  go_enter Tryz.func63, Tryz.ntmps63
  go_wp2_with fail
  have hWW := HW.out
  unfold zeroCells at hWW
  rw [← hWW]
  clear hWW hab
  go_loopw [20] (fun u wr => RwRel mark s W u wr) (fun u _ => s.length - (intOf u).toNat)
  case atStart => exact ⟨0, rfl, Nat.zero_le _, Below.refl _ _, Lib.hid (by simp)⟩
  case round =>
    obtain ⟨k, rfl, hk, hB, HK⟩ := hrel
    have hzr := hB.size
    by_cases hlt : k < s.length
    · obtain ⟨c, r, hd⟩ := drop_cons hlt
      have hix := at_drop hd (by rw [T.bytes_size]; exact hlt)
      have hlt1 : (k : Int) < (s.length : Int) := by omega
      have hx := T.slice_str s k s.length (by omega) (Nat.le_refl _)
      rw [List.take_of_length_le (by rw [List.length_drop]; omega)] at hx
      by_cases h60 : c = 60
      · subst h60
        have QH := fun W => has (s.drop k) mark W (by rw [List.length_drop]; omega) (by omega)
        cases hh : M.has (s.drop k) mark with
        | false =>
          rw [hh] at QH
          have Q := Lib.hid QH
          have HK' := Lib.hid (shut_next (mark := mark) hd (by rw [hd] at hh; simp [M.shut, hh]) HK.out)
          clear hd hh QH HK
          generalize s.drop k = sk at *
          go_wp2_with fail
          refine (Q.out _).mono ?_
          rintro en w1 ⟨rfl, b1⟩
          go_wp2_with fail
          go_roundw
          case rel => exact ⟨k + 1, by go_num, by omega, hB.trans (b1.mono hzr), HK'⟩
          case measure => simp [intOf]; omega
        | true =>
          rw [hh] at QH
          have Q := Lib.hid QH
          have hhl : mark.length ≤ s.length - k := by
            have h9 := hh
            simp only [M.has, Bool.and_eq_true, decide_eq_true_eq, List.length_drop] at h9
            exact h9.1
          have hdm : (60 :: r).drop mark.length = s.drop (k + mark.length) := by rw [← hd, List.drop_drop]
          have hhd : M.has (60 :: r) mark = true := by rw [← hd]; exact hh
          rcases Nat.lt_or_ge (k + mark.length) s.length with hend | hend
          · obtain ⟨d', r', hd'⟩ := drop_cons hend
            have hix' := at_drop hd' (by rw [T.bytes_size]; exact hend)
            have hend1 : (k : Int) + (mark.length : Int) < (s.length : Int) := by omega
            have QS := fun W => stops d' W
            cases hst : M.stops d' with
            | false =>
              rw [hst] at QS
              have QS' := Lib.hid QS
              have HK' := Lib.hid (shut_next (mark := mark) hd (by simp [M.shut, hhd, hdm, hd', hst]) HK.out)
              clear hd hh QH HK hdm hhd hd' hst QS
              generalize s.drop k = sk at *
              go_wp2_with fail
              refine (Q.out _).mono ?_
              rintro en w1 ⟨rfl, b1⟩
              go_wp2_with fail
              refine (QS'.out _).mono ?_
              rintro en w1 ⟨rfl, rfl⟩
              go_wp2_with fail
              go_roundw
              case rel => exact ⟨k + 1, by go_num, by omega, hB.trans (b1.mono hzr), HK'⟩
              case measure => simp [intOf]; omega
            | true =>
              rw [hst] at QS
              have QS' := Lib.hid QS
              have hat : M.shutAt mark s = some k := by
                rw [HK.out, hd, shutAt_yes (by simp [M.shut, hhd, hdm, hd', hst])]; simp
              have hx2 := T.slice_str s 0 k (Nat.zero_le _) (by omega)
              rw [List.drop_zero, Nat.sub_zero] at hx2
              clear hd hh QH HK hdm hhd hd' hst QS
              generalize s.drop k = sk at *
              rcases Nat.eq_zero_or_pos k with hk0 | hkp
              · have hs2 : 2 ≤ s.length := by omega
                have hkz : (k : Int) ≤ 0 := by omega
                cases hok : (M.endTag s e).ok with
                | true =>
                  have HV : Hid (M.rawStep rw_ s e = (M.endTag s e, [])) := Lib.hid (by rw [HST.out, hat, hk0]; simp only [hok, if_true])
                  have HOK := Lib.hid hok
                  clear hat hok hk0
                  go_wp2_with fail
                  refine (Q.out _).mono ?_
                  rintro en w1 ⟨rfl, b1⟩
                  go_wp2_with fail
                  refine (QS'.out _).mono ?_
                  rintro en w9 ⟨rfl, rfl⟩
                  go_wp2_with fail
                  have hz1 := b1.size
                  have hBR := hBW.trans ((hB.trans (b1.mono hzr)).mono (by omega))
                  have htr := (HTW.out.below hB).below b1
                  have hrr := (b1.block w.heap.size (by omega)).trans ((hB.block w.heap.size (by omega)).trans HR0.out)
                  refine (endTag s e _ (by omega) hs2).mono ?_
                  rintro en w2 ⟨rfl, b2⟩
                  have hz2 := b2.size
                  have hr2 := (b2.block w.heap.size (by omega)).trans hrr
                  have ht2x := htr.below b2
                  have hB2 := hBR.trans (b2.mono (by omega))
                  have hat2 := endTag_attrs s e
                  generalize M.endTag s e = R at *
                  obtain ⟨T, nn, ok⟩ := R
                  have hok2 : ok = true := HOK.out
                  subst hok2
                  have HAT := Lib.hid hat2
                  clear HOK hat2
                  obtain ⟨hcr, hfr⟩ := cells_of hr2
                  obtain ⟨hct, hft⟩ := cells_of ht2x
                  have htl2 := lt_of_block ht2x
                  have hrl3 := lt_of_block hr2
                  have HR2 := Lib.hid hr2
                  have hn3 : w2.heap.size ≠ w.heap.size := by omega
                  have hn4 : w2.heap.size ≠ tb := by omega
                  have hn5 : w.heap.size ≠ tb := by omega
                  have HT2 := Lib.hid ht2x
                  unfold zeroCells at hcr hfr
                  clear hr2 ht2x ht1 ht2 hix hix' hx hx2 Q QS' b1 b2 hB hBW hBR htr hrr HEW HR0 HTW HST hend1 hend hlt1 hlt hhl hml hml2 hk h1 hrl hzr hz1 hzW
                  obtain ⟨tk, tn, ta, tc, tt⟩ := T
                  unfold resV
                  dsimp only
                  go_wp2_with fail
                  refine bodyPost_gen ?_
                  intro F hF
                  have hX0 : (w2.setCell ⟨tb, 2, none⟩ (.string ⟨#[]⟩)).heap[w.heap.size]? = _ := (Below.heap_setCell w2 ⟨tb, 2, none⟩ _ _ hn5).trans HR2.out
                  unfold zeroCells at hX0
                  have hXs : (w2.setCell ⟨tb, 2, none⟩ (.string ⟨#[]⟩)).heap.size = w2.heap.size := by simp [World.setCell]
                  have hFb : F.heap[w.heap.size]? = some (.cells #[.int .i64 tk, .string ⟨tn.toArray⟩, .slice none 0 0, .bool tc, .string ⟨tt.toArray⟩, .int .i64 nn, .bool true] 84 (0, 0)) := by
                    rw [hF]; exact (Below.heap_alloc _ _ _ (by rw [seven_size, hXs]; exact hrl3)).trans (seven hX0)
                  have hFt : IsTz tb d s [] ret F := by
                    rw [hF]; exact (Below.heap_alloc _ _ _ (by rw [seven_size, hXs]; exact htl2)).trans ((seven_other hne1).trans (HT2.out.raw []))
                  have hFB : But tb w F := by
                    rw [hF]
                    exact but_join (X := w2) (o := 2) (v := .string ⟨#[]⟩) hB2 ((seven_below (Nat.le_refl _)).alloc (by rw [seven_size, hXs]; omega) _)
                  clear hF hcr hfr hct hft
                  obtain ⟨hcF, hfF⟩ := cells_of hFb
                  refine bodyPost_ret (v := resV (M.rawStep rw_ s e).1 (.slice none 0 0)) (by rw [HV.out]; simp [results, Tryz.results63, go_sem, resV, hcF]) rfl ⟨_, rfl, ?_, ?_, hFB⟩
                  · rw [HV.out]; show HasAttrs _ _ ta _; rw [show ta = [] from HAT.out]; exact no_attrs _ _
                  · rw [HV.out]; exact hFt
                | false =>
                  have HV : Hid (M.rawStep rw_ s e = (M.endTag s e, rw_)) := Lib.hid (by rw [HST.out, hat, hk0]; simp only [hok, Bool.false_eq_true, if_false])
                  have HOK := Lib.hid hok
                  clear hat hok hk0
                  go_wp2_with fail
                  refine (Q.out _).mono ?_
                  rintro en w1 ⟨rfl, b1⟩
                  go_wp2_with fail
                  refine (QS'.out _).mono ?_
                  rintro en w9 ⟨rfl, rfl⟩
                  go_wp2_with fail
                  have hz1 := b1.size
                  have hBR := hBW.trans ((hB.trans (b1.mono hzr)).mono (by omega))
                  have htr := (HTW.out.below hB).below b1
                  have hrr := (b1.block w.heap.size (by omega)).trans ((hB.block w.heap.size (by omega)).trans HR0.out)
                  refine (endTag s e _ (by omega) hs2).mono ?_
                  rintro en w2 ⟨rfl, b2⟩
                  have hz2 := b2.size
                  have hr2 := (b2.block w.heap.size (by omega)).trans hrr
                  have ht2x := htr.below b2
                  have hB2 := hBR.trans (b2.mono (by omega))
                  have hat2 := endTag_attrs s e
                  generalize M.endTag s e = R at *
                  obtain ⟨T, nn, ok⟩ := R
                  have hok2 : ok = false := HOK.out
                  subst hok2
                  have HAT := Lib.hid hat2
                  clear HOK hat2
                  obtain ⟨hcr, hfr⟩ := cells_of hr2
                  obtain ⟨hct, hft⟩ := cells_of ht2x
                  have htl2 := lt_of_block ht2x
                  have hrl3 := lt_of_block hr2
                  have HR2 := Lib.hid hr2
                  have hn3 : w2.heap.size ≠ w.heap.size := by omega
                  have hn4 : w2.heap.size ≠ tb := by omega
                  have hn5 : w.heap.size ≠ tb := by omega
                  have HT2 := Lib.hid ht2x
                  unfold zeroCells at hcr hfr
                  clear hr2 ht2x ht1 ht2 hix hix' hx hx2 Q QS' b1 b2 hB hBW hBR htr hrr HEW HR0 HTW HST hend1 hend hlt1 hlt hhl hml hml2 hk h1 hrl hzr hz1 hzW
                  obtain ⟨tk, tn, ta, tc, tt⟩ := T
                  unfold resV
                  dsimp only
                  go_wp2_with fail
                  refine bodyPost_gen ?_
                  intro F hF
                  have hX0 := HR2.out
                  unfold zeroCells at hX0
                  have hFb : F.heap[w.heap.size]? = some (.cells #[.int .i64 tk, .string ⟨tn.toArray⟩, .slice none 0 0, .bool tc, .string ⟨tt.toArray⟩, .int .i64 nn, .bool false] 84 (0, 0)) := by
                    rw [hF]; exact (Below.heap_alloc _ _ _ (by rw [seven_size]; exact hrl3)).trans (seven hX0)
                  have hFt : IsTz tb d s rw_ ret F := by
                    rw [hF]; exact (Below.heap_alloc _ _ _ (by rw [seven_size]; exact htl2)).trans ((seven_other hne1).trans HT2.out)
                  have hFB : But tb w F := by
                    rw [hF]
                    exact But.of ((hB2.trans (seven_below (Nat.le_refl _))).alloc (by rw [seven_size]; omega) _)
                  clear hF hcr hfr hct hft
                  obtain ⟨hcF, hfF⟩ := cells_of hFb
                  refine bodyPost_ret (v := resV (M.rawStep rw_ s e).1 (.slice none 0 0)) (by rw [HV.out]; simp [results, Tryz.results63, go_sem, resV, hcF]) rfl ⟨_, rfl, ?_, ?_, hFB⟩
                  · rw [HV.out]; show HasAttrs _ _ ta _; rw [show ta = [] from HAT.out]; exact no_attrs _ _
                  · rw [HV.out]; exact hFt
              · have HV : Hid (M.rawStep rw_ s e = (M.inner rw_ (s.take k) true, rw_)) := Lib.hid (by
                  rw [HST.out, hat]
                  obtain ⟨k', rfl⟩ : ∃ k', k = k' + 1 := ⟨k - 1, by omega⟩
                  rfl)
                have hk0 : (0 : Int) < (k : Int) := by omega
                clear hat
                go_wp2_with fail
                refine (Q.out _).mono ?_
                rintro en WR ⟨rfl, b1⟩
                go_wp2_with fail
                refine (QS'.out _).mono ?_
                rintro en w9 ⟨rfl, rfl⟩
                have hz1 := b1.size
                have hBR := hBW.trans ((hB.trans (b1.mono hzr)).mono (by omega))
                have htr := (HTW.out.below hB).below b1
                have hrr := (b1.block w.heap.size (by omega)).trans ((hB.block w.heap.size (by omega)).trans HR0.out)
                have HER := Lib.hid ((HEW.out.same hB).same b1)
                go_wp2_with fail
                refine (inner tb d s rw_ (s.take k) ret true _ (by rw [List.length_take]; omega) HER.out htr).mono ?_
                rintro en w2 ⟨a, rfl, ha, b2⟩
                obtain ⟨ao, L, cap, rfl⟩ := own_slice3 ha
                have hz2 := b2.size
                have hr2 := (b2.block w.heap.size (by omega)).trans hrr
                have ht2x := htr.below b2
                obtain ⟨hcr, hfr⟩ := cells_of hr2
                unfold zeroCells at hcr hfr
                clear hr2
                unfold resV
                go_wp2_with fail
                refine bodyPost_ret (v := resV (M.rawStep rw_ s e).1 (.slice ao L cap)) (by rw [HV.out]; simp [results, Tryz.results63, go_sem, resV, hcr]) rfl ⟨_, rfl, ?_, ?_, ?_⟩
                · rw [HV.out]
                  refine own_mono (base := WR.heap.size) ?_ (by omega)
                  iterate 7 refine ownsRow_setCell_below ?_ (by show w.heap.size < _; omega) _
                  exact ha
                · rw [HV.out]
                  iterate 7 refine tz_set ?_ hne1
                  exact ht2x
                · refine But.of ?_
                  iterate 7 refine bset ?_ (Nat.le_refl _)
                  exact hBR.trans (b2.mono (by omega))
          · have hend1 : (s.length : Int) ≤ (k : Int) + (mark.length : Int) := by omega
            have hnil : s.drop (k + mark.length) = [] := List.drop_eq_nil_of_le hend
            have HK' := Lib.hid (shut_next (mark := mark) hd (by simp [M.shut, hhd, hdm, hnil]) HK.out)
            clear hd hh QH HK hdm hhd hnil
            generalize s.drop k = sk at *
            go_wp2_with fail
            refine (Q.out _).mono ?_
            rintro en w1 ⟨rfl, b1⟩
            go_wp2_with fail
            go_roundw
            case rel => exact ⟨k + 1, by go_num, by omega, hB.trans (b1.mono hzr), HK'⟩
            case measure => simp [intOf]; omega
      · have h60' : ((c.toNat : Int) == 60) = false := byte_ne (n := 60) h60 (by omega)
        have h60'' : ((c.toNat : Int) != 60) = true := by rw [bne, h60']; rfl
        have h60b : (c == 60) = false := by simpa using h60
        have HK' := Lib.hid (shut_next (mark := mark) hd (by rw [h60b]; rfl) HK.out)
        clear hd HK
        go_wp2_with fail
        go_roundw
        case rel => exact ⟨k + 1, by go_num, by omega, hB, HK'⟩
        case measure => simp [intOf]; omega
    · have HV : Hid (M.rawStep rw_ s e = (M.inner rw_ s e, rw_)) := Lib.hid (by
        rw [HST.out, HK.out, List.drop_eq_nil_of_le (by omega)]; rfl)
      have hge : (s.length : Int) ≤ (k : Int) := by omega
      obtain ⟨WR, hWR⟩ : ∃ WR, WR = wr := ⟨_, rfl⟩
      subst hWR
      have hBR := hBW.trans (hB.mono (by omega))
      have htr := HTW.out.below hB
      have hrr := (hB.block w.heap.size (by omega)).trans HR0.out
      have HER := Lib.hid (HEW.out.same hB)
      go_wp2_with fail
      refine (inner tb d s rw_ s ret e _ hs HER.out htr).mono ?_
      rintro en w2 ⟨a, rfl, ha, b2⟩
      obtain ⟨ao, L, cap, rfl⟩ := own_slice3 ha
      have hz2 := b2.size
      have hr2 := (b2.block w.heap.size (by omega)).trans hrr
      have ht2x := htr.below b2
      obtain ⟨hcr, hfr⟩ := cells_of hr2
      unfold zeroCells at hcr hfr
      clear hr2
      unfold resV
      go_wp2_with fail
      refine bodyPost_ret (v := resV (M.rawStep rw_ s e).1 (.slice ao L cap)) (by rw [HV.out]; simp [results, Tryz.results63, go_sem, resV, hcr]) rfl ⟨_, rfl, ?_, ?_, ?_⟩
      · rw [HV.out]
        refine own_mono (base := WR.heap.size) ?_ (by omega)
        iterate 7 refine ownsRow_setCell_below ?_ (by show w.heap.size < _; omega) _
        exact ha
      · rw [HV.out]
        iterate 7 refine tz_set ?_ hne1
        exact ht2x
      · refine But.of ?_
        iterate 7 refine bset ?_ (Nat.le_refl _)
        exact hBR.trans (b2.mono (by omega))

end K
end Go.Proofs.YtlnginciehjlnaaGreatDoor

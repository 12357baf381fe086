/- The law StyleSides. -/
import Derived.Test.YtafkeolpadfjfaaGreatDoorSty44
set_option linter.unusedVariables false
set_option linter.unusedSimpArgs false
namespace Go.Proofs.YtafkeolpadfjfaaGreatDoor
open Go.RowKit
namespace Y
open H

set_option maxHeartbeats 32000000 in
set_option maxRecDepth 100000 in
theorem StyleSides (kd : Nat) (ao : Option Addr) (len cap : Nat) (SS : Nat → List UInt8) (imp : Bool) (w : World) (hk : kd < 256) (hlen : len ≤ 9223372036854775807) (hS : StrArg w ao len SS) (hR : Repairs redText redText) (hA : ∀ s : List UInt8, s.length ≤ 1000 → (∀ c ∈ s, c.toNat < 128) → Repairs s s) (hM : HasMax w) (hE : YEnv w) :
    Calls Tryz.prog 4 #[.int .u8 (kd : Nat), .slice ao len cap, .bool imp] w (TruePost w) := by
  have HE := Lib.hid hE
  have HM := Lib.hid hM
  have hg1 := hE.big
  have hg2 := hE.big2
  have hMz := hM.2
  have HA := Lib.hid hA
  have HS := Lib.hid hS
  have QA := Lib.hid (fun W (h : Below w.heap.size w W) => awake W hR (HM.out.below h hMz) (HE.out.below h hg1 hg2))
  clear hR hM hE hA hS
  by_cases hl : 5 < len
  · have e1 : (5 : Int) < (len : Int) := by omega
    have f1 : decide ((5 : Int) < (len : Int)) = true := decide_eq_true e1
    go_enter Tryz.func4, Tryz.ntmps4
    go_wp2_with fail
    refine (QA.out _ (Below.refl _ _)).mono ?_
    rintro e w1 ⟨rfl, hb⟩
    have HB := Lib.hid hb
    have Q2 := Lib.hid (QA.out w1 hb)
    clear hb QA
    go_wp2_with fail
    refine Q2.out.mono ?_
    rintro e w2 ⟨rfl, hb⟩
    have HB2 := Lib.hid (HB.out.trans (hb.mono HB.out.size))
    clear hb Q2
    go_wp2_with fail
    go_ret
    exact ⟨rfl, HB2.out⟩
  · have e1 : ¬ (5 : Int) < (len : Int) := by omega
    have f1 : decide ((5 : Int) < (len : Int)) = false := decide_eq_false e1
    have hl5 : len ≤ 5 := by omega
    clear hl hlen
    obtain ⟨K, hK⟩ : ∃ K, K = kd % 3 := ⟨_, rfl⟩
    have hK3 : K < 3 := by omega
    have hKI : (kd : Int) % 3 = (K : Int) := by omega
    have hKI2 : (kd : Int).tmod 3 = (K : Int) := by rw [Int.tmod_eq_emod_of_nonneg (by omega)]; exact hKI
    have HVd : Hid (∀ v : List UInt8, v.length ≤ 20 → True) := Lib.hid (fun _ _ => trivial)
    clear HVd hK
    go_enter Tryz.func4, Tryz.ntmps4
    go_wp2_with fail
    refine (QA.out _ (Below.refl _ _)).mono ?_
    rintro e w1 ⟨rfl, hb⟩
    have HB1 := Lib.hid hb
    clear hb QA
    go_upto_region 3 with fail
    go_cut [7] (fun v7 wx => v7 = .string ⟨(S.lawName K).toArray⟩ ∧ Hid (Below w1.heap.size w1 wx))
    case first =>
      rcases (by omega : K = 0 ∨ K = 1 ∨ K = 2) with rfl | rfl | rfl
      all_goals
        go_wp2_with fail
        go_meet
        exact ⟨rfl, Lib.hid ((Below.refl _ _).alloc (Nat.le_refl _) _)⟩
    case rest =>
    obtain ⟨rfl, HB⟩ := hcut
    have HB2 := Lib.hid (HB1.out.trans (HB.out.mono HB1.out.size))
    obtain ⟨w2, hw2⟩ : ∃ W, W = wc := ⟨_, rfl⟩
    subst hw2
    clear HB HB1
    rename_i KK1 hKK1
    refine hKK1 _ _ ?_
    go_step
    go_cut [8] (fun v8 wx => v8 = .string ⟨(S.lawLong K).toArray⟩ ∧ Hid (Below w2.heap.size w2 wx))
    case first =>
      rcases (by omega : K = 0 ∨ K = 1 ∨ K = 2) with rfl | rfl | rfl
      all_goals
        go_wp2_with fail
        go_meet
        exact ⟨rfl, Lib.hid ((Below.refl _ _).alloc (Nat.le_refl _) _)⟩
    case rest =>
    obtain ⟨rfl, HB⟩ := hcut
    have HB3 := Lib.hid (HB2.out.trans (HB.out.mono HB2.out.size))
    obtain ⟨w3, hw3⟩ : ∃ W, W = wc := ⟨_, rfl⟩
    subst hw3
    clear HB HB2
    rename_i KK2 hKK2
    refine hKK2 _ _ ?_
    go_step
    have zn := bytes_size (S.lawName K)
    have hnl : (S.lawName K).length ≤ 12 := by rcases (by omega : K = 0 ∨ K = 1 ∨ K = 2) with rfl | rfl | rfl <;> decide
    have hap : (⟨(S.lawName K).toArray⟩ : ByteArray) ++ ⟨#[58]⟩ = ⟨(S.lawName K ++ [58]).toArray⟩ := append_bytes _ [58]
    go_cut [9, 10] (fun v9 v10 wx => v9 = .string ⟨(S.lawName K ++ [58]).toArray⟩ ∧ v10 = .bool (decide (0 < len) && decide (len < 5)) ∧ wx = w3)
    case first =>
      rcases (by omega : len = 0 ∨ (0 < len ∧ len < 5) ∨ len = 5) with h | ⟨h, h2⟩ | h
      · subst h
        go_wp2_with fail
        go_meet
        exact ⟨rfl, rfl, rfl⟩
      · have q1 : (0 : Int) < (len : Int) := by omega
        have q2 : (len : Int) < 5 := by omega
        have d1 : decide ((0 : Int) < (len : Int)) = true := decide_eq_true q1
        have d2 : decide ((len : Int) < 5) = true := decide_eq_true q2
        have HG : Hid ((decide (0 < len) && decide (len < 5)) = true) := Lib.hid (by simp [h, h2])
        clear h h2
        go_wp2_with fail
        go_meet
        exact ⟨rfl, congrArg Value.bool HG.out.symm, rfl⟩
      · subst h
        go_wp2_with fail
        go_meet
        exact ⟨rfl, rfl, rfl⟩
    case rest =>
    obtain ⟨rfl, rfl, hw4⟩ := hcut
    subst hw4
    clear hap
    generalize hG : (decide (0 < len) && decide (len < 5)) = G0 at *
    have HG0 := Lib.hid hG
    clear hG
    generalize hLH : S.lawLong K = lh at *
    have HLH := Lib.hid hLH
    clear hLH
    have HT0 : Hid (S.lawName K ++ [58] = S.lawName K ++ 58 :: S.glue ((valsOf len SS).take 0)) := Lib.hid rfl
    rename_i KK3 hKK3
    refine hKK3 _ _ ?_
    go_upto_block 0 with fail
    go_cut [9, 10] (fun v9 v10 wx => ∃ (tx : List UInt8) (G : Bool), v9 = .string ⟨tx.toArray⟩ ∧ v10 = .bool G ∧ tx.length ≤ 200 ∧ Hid (tx = S.lawName K ++ 58 :: S.glue (valsOf len SS)) ∧ Hid (G = (G0 && (valsOf len SS).all (okV lh))) ∧ Hid (∀ v ∈ (valsOf len SS), (S.words v).length = 1 ∧ (∀ c ∈ v, S.asc c = true) ∧ v.length ≤ 20) ∧ Hid (Below w.heap.size w wx))
    case first =>
      go_wp2_with fail
      go_loopw [9, 10, 11] (fun v9 v10 v11 wr => ∃ (j : Nat) (tx : List UInt8) (G : Bool), v11 = .int .i64 j ∧ v9 = .string ⟨tx.toArray⟩ ∧ v10 = .bool G ∧ j ≤ len ∧ tx.length ≤ 20 + 21 * j ∧ Hid (tx = S.lawName K ++ 58 :: S.glue ((valsOf len SS).take j)) ∧ Hid (G = (G0 && ((valsOf len SS).take j).all (okV (lh)))) ∧ Hid (∀ v ∈ (valsOf len SS).take j, (S.words v).length = 1 ∧ (∀ c ∈ v, S.asc c = true) ∧ v.length ≤ 20) ∧ Hid (Below w.heap.size w wr)) (fun _ _ v11 _ => len - (intOf v11).toNat)
      case atStart => exact ⟨0, S.lawName K ++ [58], G0, rfl, rfl, rfl, by omega, by rcases (by omega : K = 0 ∨ K = 1 ∨ K = 2) with rfl | rfl | rfl <;> decide, HT0, Lib.hid (by simp), Lib.hid (fun v hv => by simp at hv), HB3⟩
      case round =>
        obtain ⟨j, tx, G, rfl, rfl, rfl, hj, htx, HT, HG, HF, HB⟩ := hrel
        clear HT0
        by_cases hlt : j < len
        · have hjI : (j : Int) < (len : Int) := by omega
          have hz := HB.out.size
          obtain ⟨b, off, rfl, hbl, hcs⟩ := HS.out (by omega)
          obtain ⟨cj, ljj⟩ := hcs j hlt
          have c0 : wr.cell? ⟨b, off + j, none⟩ = some (.string ⟨(SS j).toArray⟩) := (HB.out.cell (p := ⟨b, off + j, none⟩) hbl).trans cj
          have HCJ := Lib.hid (fun (W : World) (h : Below w.heap.size w W) => show W.cell? ⟨b, off + j, none⟩ = some (.string ⟨(SS j).toArray⟩) from (h.cell (p := ⟨b, off + j, none⟩) hbl).trans cj)
          have HTK := Lib.hid (vals_take SS hlt)
          generalize hE1 : (valsOf len SS).take (j + 1) = tk1 at *
          have HE1 := Lib.hid hE1
          clear hE1
          generalize (valsOf len SS).take j = tk at *
          generalize SS j = v at *
          have zv := bytes_size v
          have ztx := bytes_size tx
          clear hcs cj ljj
          by_cases h20 : 20 < v.length
          · have q1 : (20 : Int) < (v.length : Int) := by omega
            have d1 : decide ((20 : Int) < (v.length : Int)) = true := decide_eq_true q1
            clear HT HG HF HTK HCJ
            go_wp2_with fail
            go_ret
            exact ⟨rfl, HB.out⟩
          · have q1 : ¬ (20 : Int) < (v.length : Int) := by omega
            have d1 : decide ((20 : Int) < (v.length : Int)) = false := decide_eq_false q1
            have QF := Lib.hid (fun W => V.rfields v W (by omega))
            have hwn : (S.words v).length ≤ 100 := by have := (V.flds_count v []).2 rfl; show (T.flds [] v).length ≤ _; omega
            generalize hNw : (S.words v).length = nw at *
            have HNw := Lib.hid hNw
            clear hNw
            by_cases h1 : nw = 1
            · have QAs := Lib.hid (fun W => ascii v W (by omega))
              cases has : v.all S.asc with
              | false =>
                rw [has] at QAs
                subst h1
                clear has HT HG HF HTK
                go_wp2_with fail
                refine (QF.out _).mono ?_
                rintro e w4 ⟨af, cf, rfl, _, hb⟩
                have HB4 := Lib.hid (HB.out.trans (hb.mono hz))
                have c4 := HCJ.out w4 HB4.out
                clear hb QF HCJ
                go_wp2_with fail
                refine (QAs.out _).mono ?_
                rintro e w' ⟨rfl, rfl⟩
                go_wp2_with fail
                go_ret
                exact ⟨rfl, HB4.out⟩
              | true =>
                rw [has] at QAs
                have HF1 : Hid ((S.words v).length = 1 ∧ (∀ c ∈ v, S.asc c = true) ∧ v.length ≤ 20) := Lib.hid ⟨HNw.out.trans h1, List.all_eq_true.1 has, by omega⟩
                subst h1
                clear has
                have HTx : Hid (tx ++ (32 :: v) = S.lawName K ++ 58 :: S.glue tk1) := Lib.hid (by rw [HTK.out, glue_snoc, HT.out]; simp)
                have htx2 : (tx ++ (32 :: v)).length ≤ 20 + 21 * (j + 1) := by rw [List.length_append, List.length_cons]; omega
                have ha1 : (⟨#[32]⟩ : ByteArray) ++ ⟨v.toArray⟩ = ⟨(32 :: v).toArray⟩ := append_bytes [32] v
                have ha2 : (⟨tx.toArray⟩ : ByteArray) ++ ⟨(32 :: v).toArray⟩ = ⟨(tx ++ (32 :: v)).toArray⟩ := append_bytes tx (32 :: v)
                have z32 := bytes_size (32 :: v)
                have l32 : (32 :: v).length ≤ 21 := by rw [List.length_cons]; omega
                generalize tx ++ (32 :: v) = tx2 at *
                generalize 32 :: v = sv at *
                have HFk : Hid (∀ x ∈ tk1, (S.words x).length = 1 ∧ (∀ c ∈ x, S.asc c = true) ∧ x.length ≤ 20) := Lib.hid (fun x hx => by
                  rw [HTK.out] at hx
                  rcases List.mem_append.1 hx with h | h
                  · exact HF.out x h
                  · rw [List.mem_singleton.1 h]; exact HF1.out)
                have HGk : Hid ((G0 && tk1.all (okV (lh))) = (G && okV (lh) v)) := Lib.hid (by
                  rw [HG.out, HTK.out, List.all_append]; simp [Bool.and_assoc])
                have QV := Lib.hid (fun W (h : YEnv W) => parseValue (lh) v W (by omega) h)
                have QT := Lib.hid (fun W => V.rtrim v W (by omega))
                have htl := S.trim_len v
                have QL := Lib.hid (fun W => V.rlower (S.trim v) W (by omega))
                have HOk : Hid (okV (lh) v = ((S.good (lh) v).isSome && !S.globals.contains (S.lower (S.trim v)))) := Lib.hid rfl
                have HPg := Lib.hid (fun x er h => pv_good (p := lh) (v := v) (x := x) (er := er) h)
                generalize okV (lh) v = ok at *
                generalize S.value (lh) v = vo at *
                generalize S.good (lh) v = vg at *
                generalize S.lower (S.trim v) = nv at *
                generalize S.trim v = tv at *
                clear HT HG HF HTK HF1 HNw
                go_wp2_with fail
                refine (QF.out _).mono ?_
                rintro e w4 ⟨af, cf, rfl, _, hb⟩
                have HB4 := Lib.hid (HB.out.trans (hb.mono hz))
                have c4 := HCJ.out w4 HB4.out
                clear hb QF HB
                go_wp2_with fail
                refine (QAs.out _).mono ?_
                rintro e w' ⟨rfl, rfl⟩
                clear QAs
                have Q5 := Lib.hid (QV.out w4 (HE.out.below HB4.out hg1 hg2))
                clear QV
                go_wp2_with fail
                refine Q5.out.mono ?_
                rintro e w5 ⟨⟨vk, vn, vw⟩, er, rfl, hb, ho⟩
                unfold vval vcells
                dsimp only
                have HPo := Lib.hid (HPg.out _ _ ho.out)
                have HB5 := Lib.hid (HB4.out.trans (hb.mono HB4.out.size))
                have HB6 := Lib.hid (HB5.out.alloc HB5.out.size (.cells #[.int .i64 (vk : Nat), .int .i64 vn, .string ⟨vw.toArray⟩] 32))
                clear hb Q5 ho HPg c4 HB4 HB5
                go_upto_region 12 with fail
                generalize (w5.alloc (.cells #[.int .i64 (vk : Nat), .int .i64 vn, .string ⟨vw.toArray⟩] 32)) = w6 at *
                have c6 := HCJ.out w6 HB6.out
                go_wp2_with fail
                refine (QT.out _).mono ?_
                rintro e w' ⟨rfl, rfl⟩
                go_wp2_with fail
                refine (QL.out _).mono ?_
                rintro e w7 ⟨rfl, hb⟩
                have HB7 := Lib.hid (HB6.out.trans (hb.mono HB6.out.size))
                have c7 := HCJ.out w7 HB7.out
                clear hb QT QL c6 HB6 HCJ
                go_upto_region 13 with fail
                go_cut [10] (fun v10 wx => v10 = .bool (G && ok) ∧ wx = w7)
                case first =>
                  cases G with
                  | false =>
                    go_wp2_with fail
                    go_meet
                    exact ⟨rfl, rfl⟩
                  | true =>
                    rcases HPo.out with ⟨rfl, hg⟩ | ⟨her, hg⟩
                    · have hoo : ok = !S.globals.contains nv := by rw [HOk.out, hg]; rfl
                      by_cases n1 : nv = [105, 110, 104, 101, 114, 105, 116]
                      · have e1 : (nv == [105, 110, 104, 101, 114, 105, 116]) = true := by simpa using n1
                        have e2 : (nv != [105, 110, 104, 101, 114, 105, 116]) = false := by rw [bne, e1]; rfl
                        have HO2 : Hid (ok = false) := Lib.hid (by rw [hoo, n1]; rfl)
                        clear n1 hoo HOk HPo
                        go_wp2_with fail
                        go_meet
                        exact ⟨congrArg Value.bool (by rw [HO2.out]; rfl), rfl⟩
                      · have e1 : (nv == [105, 110, 104, 101, 114, 105, 116]) = false := by simpa using n1
                        have e2 : (nv != [105, 110, 104, 101, 114, 105, 116]) = true := by rw [bne, e1]; rfl
                        by_cases n2 : nv = [105, 110, 105, 116, 105, 97, 108]
                        · have e3 : (nv == [105, 110, 105, 116, 105, 97, 108]) = true := by simpa using n2
                          have e4 : (nv != [105, 110, 105, 116, 105, 97, 108]) = false := by rw [bne, e3]; rfl
                          have HO2 : Hid (ok = false) := Lib.hid (by rw [hoo, n2]; rfl)
                          clear n1 n2 hoo HOk HPo
                          go_wp2_with fail
                          go_meet
                          exact ⟨congrArg Value.bool (by rw [HO2.out]; rfl), rfl⟩
                        · have e3 : (nv == [105, 110, 105, 116, 105, 97, 108]) = false := by simpa using n2
                          have e4 : (nv != [105, 110, 105, 116, 105, 97, 108]) = true := by rw [bne, e3]; rfl
                          have HO2 : Hid (ok = true) := Lib.hid (by
                            rw [hoo]
                            have : S.globals.contains nv = false := by
                              rw [Bool.eq_false_iff]
                              intro h
                              have := List.contains_iff_mem.1 h
                              simp [S.globals] at this
                              rcases this with h | h
                              · exact n1 h
                              · exact n2 h
                            rw [this]; rfl)
                          clear n1 n2 hoo HOk HPo
                          go_wp2_with fail
                          go_meet
                          exact ⟨congrArg Value.bool (by rw [HO2.out]; rfl), rfl⟩
                    · have HO2 : Hid (ok = false) := Lib.hid (by rw [HOk.out, hg]; rfl)
                      clear HOk HPo
                      rcases her with rfl | rfl
                      all_goals
                        go_wp2_with fail
                        go_meet
                        exact ⟨congrArg Value.bool (by rw [HO2.out]; rfl), rfl⟩
                case rest =>
                obtain ⟨rfl, hwc⟩ := hcut
                subst hwc
                generalize hGk : (G && ok) = Gk at *
                have HGk2 : Hid (Gk = (G0 && tk1.all (okV lh))) := Lib.hid HGk.out.symm
                clear HPo HOk HGk hGk
                rename_i KK4 hKK4
                refine hKK4 _ _ ?_
                go_wp2_with fail
                go_roundw
                case rel => exact ⟨j + 1, tx2, Gk, by go_num, rfl, rfl, by omega, htx2, (by rw [HE1.out]; exact HTx), (by rw [HE1.out]; exact HGk2), (by rw [HE1.out]; exact HFk), HB7⟩
                case measure => simp [intOf]; omega
            · have z1 : ((nw : Int) == 1) = false := by rw [beq_eq_false_iff_ne]; omega
              have z2 : ((nw : Int) != 1) = true := by rw [bne, z1]; rfl
              have z3 : ¬ (nw : Int) = 1 := by omega
              clear HT HG HF HTK HCJ
              go_wp2_with fail
              refine (QF.out _).mono ?_
              rintro e w4 ⟨af, cf, rfl, _, hb⟩
              have HB4 := Lib.hid (HB.out.trans (hb.mono hz))
              clear hb QF
              go_wp2_with fail
              go_ret
              exact ⟨rfl, HB4.out⟩
        · obtain rfl : len = j := by omega
          have htk : (valsOf len SS).take len = (valsOf len SS) := List.take_of_length_le (by rw [vals_len]; exact Nat.le_refl _)
          have HTf : Hid (tx = S.lawName K ++ 58 :: S.glue (valsOf len SS)) := Lib.hid (by rw [HT.out, htk])
          have HGf : Hid (G = (G0 && (valsOf len SS).all (okV lh))) := Lib.hid (by rw [HG.out, htk])
          have HFf : Hid (∀ v ∈ (valsOf len SS), (S.words v).length = 1 ∧ (∀ c ∈ v, S.asc c = true) ∧ v.length ≤ 20) := Lib.hid (fun v hv => HF.out v (by rw [htk]; exact hv))
          have hjI : ¬ (len : Int) < (len : Int) := by omega
          clear htk HT HG HF
          go_wp2_with fail
          go_meet
          exact ⟨tx, G, rfl, rfl, by omega, HTf, HGf, HFf, HB⟩
    case rest =>
    rename_i KK5 hKK5
    obtain ⟨tx, G, rfl, rfl, htx, HT, HG, HF, HB⟩ := hcut
    have hLH := HLH.out
    subst hLH
    refine hKK5 _ _ ?_
    exact sides_rest ao len cap K SS imp tx G w wc hl5 hK3 HS.out HA.out HM.out HE.out HB.out htx HT.out (by rw [HG0.out]; exact HG.out) HF.out _ _ _ _ _ _ _ _ _ _ _ _ _ _ _ _ _ _ _ _ _ _ _ _ _ _ _ _ _ _ _ _ _ _ _ _ _ _ _ _ _ _ _ _ _ _ _ _ _ _ _ _ _ _ _ _ _ _ _ _ _ _ _ _ _ _ _ _ _ _ _ _ _ _ _ _ _ _ _ _ _ _ _ _ _ _ _ _ _ _ _ _ _ _ _ _ _ _ _ _ _ _ _ _ _ _ _ _ _ _ _ _ _ _ _ _ _ _ _ _ _ _ _ _ _ _ _ _ _ _ _ _ _ _ _ _ _ _ _ _ _ _ _ _ _ _ _ _ _ _ _ _ _ _ _ _ _ _ _ _ _ _ _ _ _ _ _ _ _ _ _ _ _ _ _ _ _ _ _ _

end Y
end Go.Proofs.YtafkeolpadfjfaaGreatDoor

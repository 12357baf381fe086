/- What text.Lower, text.Upper and the reference's two come to: the letters of ASCII mapped, nothing else. -/
import Derived.Test.YtafkeolpadfjfaaGreatDoorSpace
import Derived.Laws.IdiomStrings
set_option linter.unusedVariables false
set_option linter.unusedSimpArgs false
namespace Go.Proofs.YtafkeolpadfjfaaGreatDoor
open Go.RowKit
namespace T

/-- A row of bytes in memory, and it may be written. -/
def Row (W : World) (g : Nat) (l : List UInt8) : Prop :=
  (∀ j (h : j < l.length), W.cell? ⟨g, j, none⟩ = some (.int .u8 (l[j].toNat : Int))) ∧ (∀ j, j < l.length → W.frozen? ⟨g, j, none⟩ = false)

theorem Row.drew {W : World} {g : Nat} {l : List UInt8} (h : Row W g l) : Row W.drew g l := h

theorem Row.set {W : World} {g : Nat} {l : List UInt8} (h : Row W g l) (k : Nat) (hk : k < l.length) (c : UInt8) : Row (W.setCell ⟨g, k, none⟩ (.int .u8 (c.toNat : Int))) g (l.set k c) := by
  refine ⟨fun j hj => ?_, fun j hj => ?_⟩
  · by_cases e : k = j
    · subst e
      rw [World.cell?_setCell_same' _ _ _ (by rw [h.1 k hk]; rfl)]
      simp
    · have hj' : j < l.length := by simpa using hj
      rw [World.cell?_setCell_other]
      · rw [h.1 j hj']; simp [List.getElem_set, e]
      · simp [e]
  · rw [World.frozen?_setCell]; exact h.2 j (by simpa using hj)

theorem Row.same {W : World} {g : Nat} {l : List UInt8} (h : Row W g l) (k : Nat) (hk : k < l.length) (c : UInt8) (hc : l[k] = c) : Row W g (l.set k c) := by
  subst hc
  rw [List.set_getElem_self]
  exact h

/-- What '[]byte(s)' gives. -/
theorem bytes_of (s : ByteArray) (w : World) : ∃ cap W1, (convert 9 76 (.string s)).run Tryz.prog w = .ok (.slice (some ⟨w.heap.size, 0, none⟩) s.size cap) W1 ∧ Row W1 w.heap.size s.data.toList ∧ Below w.heap.size w W1 := by
  refine ⟨_, _, run_bytes_of_string w 9 76 5 s Tryz.underlying9 Tryz.underlying76 Tryz.underlying5, ⟨fun j hj => ?_, fun j hj => ?_⟩, ?_⟩
  · have hj' : j < s.data.size := by simpa using hj
    have := World.cell?_alloc_mark w.drew (bytesRow s (grownCap w s.size 0 5)) 5 ((bytesRow s (grownCap w s.size 0 5)).size, (bytesRow s (grownCap w s.size 0 5)).size + 1) j
    refine this.trans ?_
    rw [bytesRow_at s _ j hj']
    simp
  · have hj' : j < s.data.size := by simpa using hj
    have := World.frozen?_alloc_mark w.drew (bytesRow s (grownCap w s.size 0 5)) 5 (bytesRow s (grownCap w s.size 0 5)).size ((bytesRow s (grownCap w s.size 0 5)).size + 1) j
    refine this.trans ?_
    have hlt : j < (bytesRow s (grownCap w s.size 0 5)).size := by have := (bytesRow_at s (grownCap w s.size 0 5) j hj'); exact (Array.getElem?_eq_some_iff.1 this).1
    have : decide ((bytesRow s (grownCap w s.size 0 5)).size ≤ j) = false := by simp; exact hlt
    rw [this]; rfl
  · exact ((Below.refl _ w).drew).alloc (Nat.le_refl _) _

/-- What 'string(b)' gives. -/
theorem string_of (W : World) (g n cap : Nat) (l : List UInt8) (h : Row W g l) (hn : l.length = n) :
    (convert 76 9 (.slice (some ⟨g, 0, none⟩) n cap)).run Tryz.prog W = .ok (.string ⟨l.toArray⟩) W := by
  subst hn
  exact run_convert_bytes_back W 76 9 5 ⟨g, 0, none⟩ cap l Tryz.underlying76 Tryz.underlying5 Tryz.underlying9 (fun j hj => by
    have h1 := h.1 j hj
    have e : (⟨g, 0, none⟩ : Addr).add j = ⟨g, j, none⟩ := by
      simp [Addr.add]
      intro h0
      rw [h0]
    rw [e]
    exact h1)

/-- The first k bytes mapped. -/
def mp (f : UInt8 → UInt8) (k : Nat) (l : List UInt8) : List UInt8 := (l.take k).map f ++ l.drop k

theorem mp_length (f : UInt8 → UInt8) (k : Nat) (l : List UInt8) : (mp f k l).length = l.length := by
  simp [mp]; omega

theorem mp_at (f : UInt8 → UInt8) (k : Nat) (l : List UInt8) (h : k < l.length) (h' : k < (mp f k l).length) : (mp f k l)[k] = l[k] := by
  have hm : min k l.length = k := by omega
  have e : (mp f k l)[k]? = l[k]? := by
    unfold mp
    rw [List.getElem?_append_right (by simp; omega)]
    simp [hm]
  rw [List.getElem?_eq_getElem h', List.getElem?_eq_getElem h] at e
  exact Option.some.inj e

theorem mp_set (f : UInt8 → UInt8) (k : Nat) (l : List UInt8) (h : k < l.length) : (mp f k l).set k (f l[k]) = mp f (k + 1) l := by
  unfold mp
  have hm : min k l.length = k := by omega
  rw [List.set_append_right _ _ (by simp; omega), List.drop_eq_getElem_cons h, List.take_succ_eq_append_getElem h, List.map_append, List.length_map, List.length_take, hm, Nat.sub_self, List.set_cons_zero]
  simp

theorem mp_all (f : UInt8 → UInt8) (k : Nat) (l : List UInt8) (h : l.length ≤ k) : mp f k l = l.map f := by
  unfold mp
  rw [List.take_of_length_le h, List.drop_of_length_le h, List.append_nil]

def MapRel (f : UInt8 → UInt8) (s : ByteArray) (w : World) (i : Value) (wr : World) : Prop :=
  ∃ k : Nat, k ≤ s.size ∧ i = .int .i64 k ∧ Row wr w.heap.size (mp f k s.data.toList) ∧ Below w.heap.size w wr

set_option maxHeartbeats 1000000 in
set_option maxRecDepth 100000 in
theorem mapped (s : ByteArray) (lo hi d : Int) (f : UInt8 → UInt8) (w : World) (hs : s.size ≤ 140737488351232) (hd : -1000 ≤ d ∧ d ≤ 1000)
    (hin : ∀ c : UInt8, lo ≤ (c.toNat : Int) → (c.toNat : Int) ≤ hi → ((f c).toNat : Int) = c.toNat + d) (hout : ∀ c : UInt8, ¬ (lo ≤ (c.toNat : Int) ∧ (c.toNat : Int) ≤ hi) → f c = c) :
    Calls Tryz.prog 72 #[.string s, .int .u8 lo, .int .u8 hi, .int .i64 d] w fun e w' => e = .returned (.string ⟨(s.data.toList.map f).toArray⟩) ∧ Below w.heap.size w w' := by
  obtain ⟨cap, W1, hconv, hR0, hB0⟩ := bytes_of s w
  have H0 := Lib.hid hR0
  have Hin := Lib.hid hin
  have Hout := Lib.hid hout
  obtain ⟨hd1, hd2⟩ := hd
  clear hR0 hin hout
  go_enter Tryz.func72, Tryz.ntmps72
  go_wp2_with fail
  clear hconv
  go_loopw [16] (fun i wr => MapRel f s w i wr) (fun i _ => s.size - (intOf i).toNat)
  case atStart => exact ⟨0, Nat.zero_le _, rfl, by simpa [mp] using H0.out, hB0⟩
  case round =>
    obtain ⟨k, hk, rfl, hR, hB⟩ := hrel
    have HR := Lib.hid hR
    clear hR
    by_cases hlt : k < s.size
    · have hl : k < s.data.toList.length := by simpa using hlt
      have hc := HR.out.1 k (by rw [mp_length]; exact hl)
      rw [mp_at f k _ hl] at hc
      have hf := HR.out.2 k (by rw [mp_length]; exact hl)
      have hb := (s.data.toList[k]).toNat_lt
      generalize hx : s.data.toList[k] = x at *
      have HX := Lib.hid hx
      clear hx
      by_cases h1 : lo ≤ (x.toNat : Int)
      · by_cases h2 : (x.toNat : Int) ≤ hi
        · have e := Hin.out x h1 h2
          have hb2 := (f x).toNat_lt
          have hlo : 0 ≤ (x.toNat : Int) + d := by omega
          have hhi : (x.toNat : Int) + d < 256 := by omega
          have HE := Lib.hid e
          clear e
          go_wp2_with fail
          go_roundw
          case rel =>
            refine ⟨k + 1, by omega, by go_num, ?_, hB.setCell (p := ⟨w.heap.size, k, none⟩) (Nat.le_refl _) _⟩
            have h3 := HR.out.set k (by rw [mp_length]; exact hl) (f x)
            rw [← HX.out, mp_set f k _ hl, HX.out, HE.out] at h3
            exact h3
          case measure => simp [intOf]; omega
        · have e := Hout.out x (fun h => h2 h.2)
          have h2' : hi < (x.toNat : Int) := by omega
          clear h2
          have HE := Lib.hid e
          clear e
          go_wp2_with fail
          go_roundw
          case rel =>
            refine ⟨k + 1, by omega, by go_num, ?_, hB⟩
            have h3 := HR.out
            rw [← mp_set f k _ hl, HX.out, HE.out]
            exact h3.same k (by rw [mp_length]; exact hl) x (by rw [mp_at f k _ hl]; exact HX.out)
          case measure => simp [intOf]; omega
      · have e := Hout.out x (fun h => h1 h.1)
        have h1' : (x.toNat : Int) < lo := by omega
        clear h1
        have HE := Lib.hid e
        clear e
        go_wp2_with fail
        go_roundw
        case rel =>
          refine ⟨k + 1, by omega, by go_num, ?_, hB⟩
          have h3 := HR.out
          rw [← mp_set f k _ hl, HX.out, HE.out]
          exact h3.same k (by rw [mp_length]; exact hl) x (by rw [mp_at f k _ hl]; exact HX.out)
        case measure => simp [intOf]; omega
    · have hback := string_of wr w.heap.size s.size cap _ HR.out (by rw [mp_length]; simp)
      rw [mp_all f k _ (by simp; omega)] at hback
      go_wp2_with fail
      go_ret
      exact ⟨rfl, hB⟩

def low (c : UInt8) : UInt8 := if 65 ≤ c.toNat ∧ c.toNat ≤ 90 then UInt8.ofNat (c.toNat + 32) else c
def upp (c : UInt8) : UInt8 := if 97 ≤ c.toNat ∧ c.toNat ≤ 122 then UInt8.ofNat (c.toNat - 32) else c

theorem low_in (c : UInt8) (h1 : 65 ≤ (c.toNat : Int)) (h2 : (c.toNat : Int) ≤ 90) : ((low c).toNat : Int) = c.toNat + 32 := by
  unfold low
  rw [if_pos (by omega)]
  simp
  omega
theorem low_out (c : UInt8) (h : ¬ (65 ≤ (c.toNat : Int) ∧ (c.toNat : Int) ≤ 90)) : low c = c := by
  unfold low
  rw [if_neg (by omega)]
theorem upp_in (c : UInt8) (h1 : 97 ≤ (c.toNat : Int)) (h2 : (c.toNat : Int) ≤ 122) : ((upp c).toNat : Int) = c.toNat + -32 := by
  unfold upp
  rw [if_pos (by omega)]
  simp
  omega
theorem upp_out (c : UInt8) (h : ¬ (97 ≤ (c.toNat : Int) ∧ (c.toNat : Int) ≤ 122)) : upp c = c := by
  unfold upp
  rw [if_neg (by omega)]

set_option maxHeartbeats 400000 in
theorem Lower (s : ByteArray) (w : World) (hs : s.size ≤ 140737488351232) :
    Calls Tryz.prog 38 #[.string s] w fun e w' => e = .returned (.string ⟨(s.data.toList.map low).toArray⟩) ∧ Below w.heap.size w w' := by
  go_enter Tryz.func38, Tryz.ntmps38
  go_wp2_with (go_at_call 72; refine (mapped s 65 90 32 low _ hs (by omega) low_in low_out).mono ?_)
  rintro e w1 ⟨rfl, hb⟩
  go_wp2_with fail
  go_ret
  exact ⟨rfl, hb⟩


end T
end Go.Proofs.YtafkeolpadfjfaaGreatDoor

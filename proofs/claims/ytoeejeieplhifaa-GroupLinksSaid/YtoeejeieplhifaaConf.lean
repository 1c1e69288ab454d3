/- Configurations: the walks of conf's and label's small functions. -/
import Derived.Test.YtoeejeieplhifaaProg
import Derived.Test.YtoeejeieplhifaaMapR
import Derived.Test.YtoeejeieplhifaaOrd
import Derived.Test.YtoeejeieplhifaaConfPure
import Derived.Deep.RegionHeld3
import Derived.Deep.RegionLaw
import Derived.Deep.QuietTactic
import Derived.BigQuiet
import Derived.Handy
import Derived.Deep.LoopGhost
import Derived.Deep.Cut
import Derived.Deep.CutRange
import Derived.Lib.IndexBytes
namespace Go.Proofs.Ytoeejeieplhifaa
open Go.RowKit
set_option linter.unusedSimpArgs false
set_option linter.unusedVariables false

theorem label_leq (a b : UInt8) (x y : UInt16) (w : World) :
    Calls Try.prog 97 #[.agg #[.int .u8 (a.toNat : Int), .int .u16 (x.toNat : Int)], .agg #[.int .u8 (b.toNat : Int), .int .u16 (y.toNat : Int)]] w fun e w' => e = .returned (.bool (lleB a x b y)) ∧ Below w.heap.size w w' := by
  have hB : Below w.heap.size w ((w.alloc (.cells #[.int .u8 (a.toNat : Int), .int .u16 (x.toNat : Int)] 41)).alloc (.cells #[.int .u8 (b.toNat : Int), .int .u16 (y.toNat : Int)] 41)) := ((Below.refl _ _).alloc (Nat.le_refl _) _).alloc (by simp) _
  have HB := hide hB
  clear hB
  by_cases h : a.toNat ≤ b.toNat
  · have h1 : decide ((a.toNat : Int) ≤ b.toNat) = true := by simpa using h
    have hb : (bits .andNot .u16 (x.toNat : Int) (y.toNat : Int) == 0) = catB x y := by
      rw [u16_andNot_nat _ _ x.toNat_lt y.toNat_lt, catB]
      by_cases h0 : x.toNat &&& (65535 - y.toNat) = 0 <;> simp [h0]
    go_enter Try.func97, Try.ntmps97
    go_wp2
    go_returns
    exact ⟨by simp [lleB, UInt8.le_iff_toNat_le, h], HB.out⟩
  · have h1 : decide ((a.toNat : Int) ≤ b.toNat) = false := by simpa using h
    go_enter Try.func97, Try.ntmps97
    go_wp2
    go_returns
    exact ⟨by simp [lleB, UInt8.le_iff_toNat_le, h], HB.out⟩

theorem label_valid (a : UInt8) (x : UInt16) (w : World) :
    Calls Try.prog 94 #[.agg #[.int .u8 (a.toNat : Int), .int .u16 (x.toNat : Int)]] w fun e w' => e = .returned (.bool (decide (a ≤ 15))) ∧ Below w.heap.size w w' := by
  have e1 : decide ((a.toNat : Int) ≤ 15) = decide (a ≤ 15) := by
    have : (a ≤ 15) ↔ ((a.toNat : Int) ≤ 15) := by rw [UInt8.le_iff_toNat_le]; simp; omega
    simp [this]
  go_enter Try.func94, Try.ntmps94
  go_wp2
  go_returns
  exact ⟨by simp [e1], (Below.refl _ _).alloc (Nat.le_refl _) _⟩

theorem within_ok (n a b : Int) (w : World) :
    Calls Try.prog 96 #[.int .i64 n, .int .i64 a, .int .i64 b] w fun e w' => e = .returned (.bool (inB n a b)) ∧ w' = w := by
  by_cases h : a ≤ n
  · have h1 : decide (a ≤ n) = true := by simpa using h
    go_enter Try.func96, Try.ntmps96
    go_wp2
    go_returns
    exact ⟨by simp [inB, h], rfl⟩
  · have h1 : decide (a ≤ n) = false := by simpa using h
    go_enter Try.func96, Try.ntmps96
    go_wp2
    go_returns
    exact ⟨by simp [inB]; omega, rfl⟩
theorem sz (s : ByteArray) : s.size = s.data.toList.length := by cases s; rfl
theorem get_byte (s : ByteArray) (k : Nat) (h : k < s.size) : s.data.toList[k]? = some s[k] := Lib.data_getElem? s k h
theorem all_upto {p : UInt8 → Bool} {l : List UInt8} (h : ∀ k, k < l.length → ∀ c, l[k]? = some c → p c = true) : l.all p = true := by
  rw [List.all_eq_true]
  intro x hx
  obtain ⟨k, hk, rfl⟩ := List.mem_iff_getElem.1 hx
  exact h k hk _ (List.getElem?_eq_getElem hk)
theorem not_all {p : UInt8 → Bool} {l : List UInt8} {k : Nat} {c : UInt8} (h : l[k]? = some c) (hp : p c = false) : l.all p = false := by
  rw [List.all_eq_false]
  exact ⟨c, List.mem_of_getElem? h, by simp [hp]⟩

set_option maxRecDepth 100000 in
theorem name_ok (s : ByteArray) (w : World) :
    Calls Try.prog 93 #[.string s] w fun e w' => e = .returned (.bool (nameB s.data.toList)) ∧ Below w.heap.size w w' := by
  by_cases h1 : s.size < 1
  · have t1 : decide ((s.size : Int) < 1) = true := by simp; omega
    have e : nameB s.data.toList = false := by have := sz s; simp [nameB]; omega
    go_enter Try.func93, Try.ntmps93
    go_wp2
    go_returns
    exact ⟨by rw [e]; rfl, Below.refl _ _⟩
  · have t1 : decide ((s.size : Int) < 1) = false := by simp; omega
    by_cases h8 : 8 < s.size
    · have t2 : decide ((8 : Int) < s.size) = true := by simp; omega
      have e : nameB s.data.toList = false := by have := sz s; simp [nameB]; omega
      go_enter Try.func93, Try.ntmps93
      go_wp2
      go_returns
      exact ⟨by rw [e]; rfl, Below.refl _ _⟩
    · have t2 : decide ((8 : Int) < s.size) = false := by simp; omega
      have hI : ∀ p, Below w.heap.size w (w.iter s p) := fun p => (Below.refl _ _).alloc (Nat.le_refl _) _
      have HI := hide hI
      clear hI
      go_enter Try.func93, Try.ntmps93
      go_wp2
      go_loopg [4] s.size (fun g i wr => ∃ k : Nat, k ≤ s.size ∧ g = s.size - k ∧ wr = w.iter s k ∧ Hid (∀ j, j < k → ∀ c, s.data.toList[j]? = some c → smallB c = true))
      case atStart => exact ⟨0, Nat.zero_le _, rfl, rfl, hide fun j hj => absurd hj (Nat.not_lt_zero _)⟩
      case round =>
        obtain ⟨k, hk, hg, rfl, hA⟩ := hrel
        by_cases hkm : k < s.size
        · have hb := hide (get_byte s k hkm)
          by_cases ha : (s[k]).toNat < 128
          · have hnx : ∀ ty, (Instr.next (.pointer (some ⟨w.heap.size, 0, none⟩)) true ty).run Try.prog (w.iter s k) = _ := fun ty => run_next_ascii w s k ty hkm ha
            by_cases hlo : (s[k]).toNat < 97
            · have q1 : decide (((s[k]).toNat : Int) < 97) = true := by simp; omega
              have hp : smallB s[k] = false := by simp [smallB, UInt8.le_iff_toNat_le]; omega
              have e : nameB s.data.toList = false := by
                have := not_all hb.out hp
                simp [nameB, this]
              have E := hide e
              clear e hp hlo
              go_wp2
              go_returns
              exact ⟨by rw [E.out]; rfl, HI.out _⟩
            · have q1 : decide (((s[k]).toNat : Int) < 97) = false := by simp; omega
              by_cases hhi : 122 < (s[k]).toNat
              · have q2 : decide ((122 : Int) < ((s[k]).toNat : Int)) = true := by simp; omega
                have hp : smallB s[k] = false := by simp [smallB, UInt8.le_iff_toNat_le]; omega
                have e : nameB s.data.toList = false := by
                  have := not_all hb.out hp
                  simp [nameB, this]
                have E := hide e
                clear e hp hlo hhi
                go_wp2
                go_returns
                exact ⟨by rw [E.out]; rfl, HI.out _⟩
              · have q2 : decide ((122 : Int) < ((s[k]).toNat : Int)) = false := by simp; omega
                have hp : smallB s[k] = true := by simp [smallB, UInt8.le_iff_toNat_le]; omega
                have HP := hide hp
                clear hp hlo hhi
                go_wp2
                go_roundg (s.size - (k + 1))
                case measure => omega
                case rel =>
                  refine ⟨k + 1, by omega, rfl, rfl, hide fun j hj c hc => ?_⟩
                  by_cases e : j = k
                  · subst e
                    rw [hb.out] at hc
                    injection hc with hc
                    rw [← hc]
                    exact HP.out
                  · exact hA.out j (by omega) c hc
          · have hnx : ∀ ty, (Instr.next (.pointer (some ⟨w.heap.size, 0, none⟩)) true ty).run Try.prog (w.iter s k) = _ := fun ty => run_next_any w s k ty hkm
            have hd := (decode_high s k hkm (by omega)).1
            have q1 : decide (((Utf8.decode s k).1 : Int) < 97) = false := by simp; omega
            have q2 : decide ((122 : Int) < ((Utf8.decode s k).1 : Int)) = true := by simp; omega
            have hp : smallB s[k] = false := by simp [smallB, UInt8.le_iff_toNat_le]; omega
            have e : nameB s.data.toList = false := by
              have := not_all hb.out hp
              simp [nameB, this]
            have E := hide e
            clear e hp ha hd
            generalize Utf8.decode s k = dd at hnx q1 q2
            go_wp2
            go_returns
            exact ⟨by rw [E.out]; rfl, HI.out _⟩
        · have hnx : ∀ ty, (Instr.next (.pointer (some ⟨w.heap.size, 0, none⟩)) true ty).run Try.prog (w.iter s k) = _ := fun ty => run_next_end w s k ty hkm
          obtain rfl : k = s.size := by omega
          have e : nameB s.data.toList = true := by
            have h2 := all_upto (p := smallB) (l := s.data.toList) fun j hj c hc => hA.out j (by rw [sz s]; exact hj) c hc
            have h3 := sz s
            simp [nameB, h2]
            omega
          have E := hide e
          clear e hA
          go_wp2
          go_returns
          exact ⟨by rw [E.out]; rfl, HI.out _⟩

-- GENERATED BELOW (wip/tools/conf.py)
def soundC (b n f p q : Int) : Bool := inB b 4 512 && (inB n 4 128 && ((n.tmod 2 == 0) && (inB f 1 256 && (inB p 1 16 && inB q 1 32))))
theorem sound_ok (s : ByteArray) (lv : UInt8) (ct : UInt16) (b n f p q c : Int) (w : World) :
    Calls Try.prog 95 #[.agg #[.string s, .int .u8 (lv.toNat : Int), .int .u16 (ct.toNat : Int), .int .i64 b, .int .i64 n, .int .i64 f, .int .i64 p, .int .i64 q, .int .i64 c]] w fun e w' => e = .returned (.bool (soundC b n f p q)) ∧ Below w.heap.size w w' := by
  cases h1 : inB b 4 512 with
  | false =>
    go_enter Try.func95, Try.ntmps95
    go_wp2_with (refine (within_ok _ _ _ _).mono ?_; rintro e w' ⟨rfl, rfl⟩)
    go_returns
    exact ⟨by simp [soundC, h1], (Below.refl _ _).alloc (Nat.le_refl _) _⟩
  | true =>
    cases h2 : inB n 4 128 with
    | false =>
      go_enter Try.func95, Try.ntmps95
      go_wp2_with (refine (within_ok _ _ _ _).mono ?_; rintro e w' ⟨rfl, rfl⟩)
      go_returns
      exact ⟨by simp [soundC, h1, h2], (Below.refl _ _).alloc (Nat.le_refl _) _⟩
    | true =>
      cases h3 : (n.tmod 2 == 0) with
      | false =>
        go_enter Try.func95, Try.ntmps95
        go_wp2_with (refine (within_ok _ _ _ _).mono ?_; rintro e w' ⟨rfl, rfl⟩)
        go_returns
        exact ⟨by simp [soundC, h1, h2, h3], (Below.refl _ _).alloc (Nat.le_refl _) _⟩
      | true =>
        cases h4 : inB f 1 256 with
        | false =>
          go_enter Try.func95, Try.ntmps95
          go_wp2_with (refine (within_ok _ _ _ _).mono ?_; rintro e w' ⟨rfl, rfl⟩)
          go_returns
          exact ⟨by simp [soundC, h1, h2, h3, h4], (Below.refl _ _).alloc (Nat.le_refl _) _⟩
        | true =>
          cases h5 : inB p 1 16 with
          | false =>
            go_enter Try.func95, Try.ntmps95
            go_wp2_with (refine (within_ok _ _ _ _).mono ?_; rintro e w' ⟨rfl, rfl⟩)
            go_returns
            exact ⟨by simp [soundC, h1, h2, h3, h4, h5], (Below.refl _ _).alloc (Nat.le_refl _) _⟩
          | true =>
            cases h6 : inB q 1 32 with
            | false =>
              go_enter Try.func95, Try.ntmps95
              go_wp2_with (refine (within_ok _ _ _ _).mono ?_; rintro e w' ⟨rfl, rfl⟩)
              go_returns
              exact ⟨by simp [soundC, h1, h2, h3, h4, h5, h6], (Below.refl _ _).alloc (Nat.le_refl _) _⟩
            | true =>
              go_enter Try.func95, Try.ntmps95
              go_wp2_with (refine (within_ok _ _ _ _).mono ?_; rintro e w' ⟨rfl, rfl⟩)
              go_returns
              exact ⟨by simp [soundC, h1, h2, h3, h4, h5, h6], (Below.refl _ _).alloc (Nat.le_refl _) _⟩

end Go.Proofs.Ytoeejeieplhifaa

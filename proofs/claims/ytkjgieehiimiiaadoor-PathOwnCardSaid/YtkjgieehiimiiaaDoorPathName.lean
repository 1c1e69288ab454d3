/- Paths: the walks of the small functions: labels' names, names. -/
import Derived.Test.YtkjgieehiimiiaaDoorProg
import Derived.Test.YtkjgieehiimiiaaDoorBase
import Derived.Test.YtkjgieehiimiiaaDoorPathPure
import Derived.Deep.RegionHeld3
import Derived.Deep.RegionLaw
import Derived.Deep.QuietTactic
import Derived.BigQuiet
import Derived.Handy
import Derived.Deep.LoopGhost
import Derived.Deep.Cut
import Derived.Deep.CutRange
namespace Go.Proofs.YtkjgieehiimiiaaDoor
open Go.RowKit

theorem sz (s : ByteArray) : s.size = s.data.toList.length := by cases s; rfl
theorem get_byte (s : ByteArray) (k : Nat) (h : k < s.size) : s.data.toList[k]? = some s[k] := Lib.data_getElem? s k h
theorem all_upto {p : UInt8 → Bool} {l : BL} (h : ∀ k, k < l.length → ∀ c, l[k]? = some c → p c = true) : l.all p = true := by
  rw [List.all_eq_true]
  intro x hx
  obtain ⟨k, hk, rfl⟩ := List.mem_iff_getElem.1 hx
  exact h k hk _ (List.getElem?_eq_getElem hk)
theorem not_all {p : UInt8 → Bool} {l : BL} {k : Nat} {c : UInt8} (h : l[k]? = some c) (hp : p c = false) : l.all p = false := by
  rw [List.all_eq_false]
  exact ⟨c, List.mem_of_getElem? h, by simp [hp]⟩

set_option maxRecDepth 100000 in
theorem lab_ok (s : ByteArray) (w : World) :
    Calls Tryd.prog 21 #[.string s] w fun e w' => e = .returned (.bool (labOk s.data.toList)) ∧ w' = w := by
  go_enter Tryd.func21, Tryd.ntmps21
  by_cases h1 : s.size < 1
  · have t1 : decide ((s.size : Int) < 1) = true := by simp; omega
    have e : labOk s.data.toList = false := by have := sz s; simp [labOk]; omega
    go_wp2
    go_returns
    exact ⟨by rw [e]; rfl, rfl⟩
  · have t1 : decide ((s.size : Int) < 1) = false := by simp; omega
    by_cases h8 : 8 < s.size
    · have t2 : decide ((8 : Int) < s.size) = true := by simp; omega
      have e : labOk s.data.toList = false := by have := sz s; simp [labOk]; omega
      go_wp2
      go_returns
      exact ⟨by rw [e]; rfl, rfl⟩
    · have t2 : decide ((8 : Int) < s.size) = false := by simp; omega
      go_wp2
      go_loopg [14] s.size (fun g i wr => ∃ k : Nat, k ≤ s.size ∧ g = s.size - k ∧ i = .int .i64 k ∧ wr = w ∧ ∀ j, j < k → ∀ c, s.data.toList[j]? = some c → lc c = true)
      case atStart => exact ⟨0, Nat.zero_le _, rfl, rfl, rfl, fun j hj => absurd hj (Nat.not_lt_zero _)⟩
      case round =>
        obtain ⟨k, hk, hg, rfl, rfl, hA⟩ := hrel
        by_cases hkm : k < s.size
        · have hkz : (k : Int) < s.size := by omega
          have hb := get_byte s k hkm
          go_wp2
          · rename_i h3 h4
            go_returns
            have hp : lc s[k] = false := by simp [lc]; omega
            have e : labOk s.data.toList = false := by simp [labOk, not_all hb hp]
            exact ⟨by rw [e]; rfl, rfl⟩
          · rename_i h3 h4
            go_roundg (s.size - (k + 1))
            case measure => omega
            case rel =>
              refine ⟨k + 1, by omega, rfl, by go_num, rfl, fun j hj c hc => ?_⟩
              rcases Nat.lt_succ_iff_lt_or_eq.1 hj with h | rfl
              · exact hA j h c hc
              · obtain rfl : s[j] = c := by rw [hb] at hc; simpa using hc
                simp [lc]; omega
          · rename_i h3
            go_returns
            have hp : lc s[k] = false := by simp [lc]; omega
            have e : labOk s.data.toList = false := by simp [labOk, not_all hb hp]
            exact ⟨by rw [e]; rfl, rfl⟩
        · have hkz : decide ((k : Int) < s.size) = false := by simp; omega
          have e : labOk s.data.toList = true := by
            have := sz s
            have h := all_upto (p := lc) (l := s.data.toList) (fun j hj c hc => hA j (by omega) c hc)
            unfold labOk
            rw [h]
            simp
            omega
          clear hA
          go_wp2
          go_returns
          exact ⟨by rw [e]; rfl, rfl⟩
-- PRINTED BELOW by pathname.py

set_option maxRecDepth 100000 in
set_option maxHeartbeats 1000000 in
theorem dirname_ok (s : ByteArray) (w : World) :
    Calls Tryd.prog 22 #[.string s] w fun e w' => e = .returned (.int .i64 (nameErr s.data.toList)) ∧ w' = w := by
  go_enter Tryd.func22, Tryd.ntmps22
  by_cases e0 : s.data.toList = [] ∨ s.data.toList = [46] ∨ s.data.toList = [46, 46]
  · have hm := Lib.mk_data s
    rcases e0 with e0 | e0 | e0 <;> rw [e0] at hm <;> rw [← hm] <;> clear e0 hm <;> go_wp2 <;> go_returns <;> exact ⟨rfl, rfl⟩
  · have n1 : ¬ s.toList = [] := by rw [Lib.toList_data]; exact fun h => e0 (Or.inl h)
    have n2 : ¬ s.toList = [46] := by rw [Lib.toList_data]; exact fun h => e0 (Or.inr (Or.inl h))
    have n3 : ¬ s.toList = [46, 46] := by rw [Lib.toList_data]; exact fun h => e0 (Or.inr (Or.inr h))
    have b1 : s.toList.isEmpty = false := by simpa using n1
    have b2 : (s.toList == [46]) = false := by simpa using n2
    have b3 : (s.toList == [46, 46]) = false := by simpa using n3
    have e : nameErr s.data.toList = if 14 < s.size then 8 else if s.data.toList.all nc then 0 else 7 := by
      rw [sz]; unfold nameErr; rw [if_neg e0]
    clear e0
    by_cases h14 : 14 < s.size
    · have t14 : decide ((14 : Int) < s.size) = true := by simp; omega
      rw [if_pos h14] at e
      go_wp2
      go_returns
      exact ⟨by rw [e]; rfl, rfl⟩
    have t14 : decide ((14 : Int) < s.size) = false := by simp; omega
    rw [if_neg h14] at e
    have E := hide e
    clear e
    go_wp2
    go_loopg [22] s.size (fun g i wr => ∃ k : Nat, k ≤ s.size ∧ g = s.size - k ∧ i = .int .i64 k ∧ wr = w ∧ ∀ j, j < k → ∀ c, s.data.toList[j]? = some c → nc c = true)
    case atStart => exact ⟨0, Nat.zero_le _, rfl, rfl, rfl, fun j hj => absurd hj (Nat.not_lt_zero _)⟩
    case round =>
      obtain ⟨k, hk, hg, rfl, rfl, hA⟩ := hrel
      by_cases hkm : k < s.size
      · have hkz : (k : Int) < s.size := by omega
        have hb := get_byte s k hkm
        by_cases hp : nc s[k] = true
        · have hp' := hp
          simp only [nc, Bool.and_eq_true, decide_eq_true_eq, Bool.not_eq_true', beq_eq_false_iff_ne] at hp'
          have a1 : decide (((s[k].toNat : Nat) : Int) < 33) = false := by simp; omega
          have a2 : decide ((126 : Int) < ((s[k].toNat : Nat) : Int)) = false := by simp; omega
          have a3 : (((s[k].toNat : Nat) : Int) == 47) = false := by simp; omega
          have a4 : (((s[k].toNat : Nat) : Int) == 64) = false := by simp; omega
          have hA' : ∀ j, j < k + 1 → ∀ c, s.data.toList[j]? = some c → nc c = true := fun j hj c hc => by
            rcases Nat.lt_succ_iff_lt_or_eq.1 hj with h | rfl
            · exact hA j h c hc
            · obtain rfl : s[j] = c := by rw [hb] at hc; simpa using hc
              exact hp
          clear hA hp hp' hb
          go_wp2
          go_roundg (s.size - (k + 1))
          case measure => omega
          case rel => exact ⟨k + 1, by omega, rfl, by go_num, rfl, hA'⟩
        · have hp' : nc s[k] = false := by simpa using hp
          have e : nameErr s.data.toList = 7 := by rw [E.out, not_all hb hp']; rfl
          have hq : ((s[k].toNat : Nat) : Int) < 33 ∨ (126 : Int) < ((s[k].toNat : Nat) : Int) ∨ ((s[k].toNat : Nat) : Int) = 47 ∨ ((s[k].toNat : Nat) : Int) = 64 := by
            by_cases q1 : s[k].toNat < 33
            · left; omega
            · by_cases q2 : 126 < s[k].toNat
              · right; left; omega
              · by_cases q3 : s[k].toNat = 47
                · right; right; left; omega
                · by_cases q4 : s[k].toNat = 64
                  · right; right; right; omega
                  · exact absurd (show nc s[k] = true by simp [nc, q3, q4]; omega) hp
          clear hA hp hp' hb
          go_wp2
          all_goals first
            | (go_returns; exact ⟨rfl, rfl⟩)
            | (go_returns; exact ⟨by rw [e]; rfl, rfl⟩)
            | (exfalso; simp_all; omega)
      · have hkz : decide ((k : Int) < s.size) = false := by simp; omega
        have e : nameErr s.data.toList = 0 := by
          have := sz s
          rw [E.out, all_upto (p := nc) (l := s.data.toList) (fun j hj c hc => hA j (by omega) c hc)]; rfl
        clear hA
        go_wp2
        go_returns
        exact ⟨by rw [e]; rfl, rfl⟩

set_option maxRecDepth 100000 in
set_option maxHeartbeats 1000000 in
theorem refname_ok (s : ByteArray) (w : World) :
    Calls Tryd.prog 23 #[.string s] w fun e w' => e = .returned (.int .i64 (nameErr s.data.toList)) ∧ w' = w := by
  go_enter Tryd.func23, Tryd.ntmps23
  by_cases e0 : s.data.toList = [] ∨ s.data.toList = [46] ∨ s.data.toList = [46, 46]
  · have hm := Lib.mk_data s
    rcases e0 with e0 | e0 | e0 <;> rw [e0] at hm <;> rw [← hm] <;> clear e0 hm <;> go_wp2 <;> go_returns <;> exact ⟨rfl, rfl⟩
  · have n1 : ¬ s.toList = [] := by rw [Lib.toList_data]; exact fun h => e0 (Or.inl h)
    have n2 : ¬ s.toList = [46] := by rw [Lib.toList_data]; exact fun h => e0 (Or.inr (Or.inl h))
    have n3 : ¬ s.toList = [46, 46] := by rw [Lib.toList_data]; exact fun h => e0 (Or.inr (Or.inr h))
    have b1 : s.toList.isEmpty = false := by simpa using n1
    have b2 : (s.toList == [46]) = false := by simpa using n2
    have b3 : (s.toList == [46, 46]) = false := by simpa using n3
    have e : nameErr s.data.toList = if 14 < s.size then 8 else if s.data.toList.all nc then 0 else 7 := by
      rw [sz]; unfold nameErr; rw [if_neg e0]
    clear e0
    by_cases h14 : 14 < s.size
    · have t14 : decide ((14 : Int) < s.size) = true := by simp; omega
      rw [if_pos h14] at e
      go_wp2
      go_returns
      exact ⟨by rw [e]; rfl, rfl⟩
    have t14 : decide ((14 : Int) < s.size) = false := by simp; omega
    rw [if_neg h14] at e
    have E := hide e
    clear e
    go_wp2
    go_loopg [3] s.size (fun g i wr => ∃ k : Nat, k ≤ s.size ∧ g = s.size - k ∧ i = .int .i64 k ∧ wr = w ∧ ∀ j, j < k → ∀ c, s.data.toList[j]? = some c → nc c = true)
    case atStart => exact ⟨0, Nat.zero_le _, rfl, rfl, rfl, fun j hj => absurd hj (Nat.not_lt_zero _)⟩
    case round =>
      obtain ⟨k, hk, hg, rfl, rfl, hA⟩ := hrel
      by_cases hkm : k < s.size
      · have hkz : (k : Int) < s.size := by omega
        have hb := get_byte s k hkm
        by_cases hp : nc s[k] = true
        · have hp' := hp
          simp only [nc, Bool.and_eq_true, decide_eq_true_eq, Bool.not_eq_true', beq_eq_false_iff_ne] at hp'
          have a1 : decide (((s[k].toNat : Nat) : Int) < 33) = false := by simp; omega
          have a2 : decide ((126 : Int) < ((s[k].toNat : Nat) : Int)) = false := by simp; omega
          have a3 : (((s[k].toNat : Nat) : Int) == 47) = false := by simp; omega
          have a4 : (((s[k].toNat : Nat) : Int) == 64) = false := by simp; omega
          have hA' : ∀ j, j < k + 1 → ∀ c, s.data.toList[j]? = some c → nc c = true := fun j hj c hc => by
            rcases Nat.lt_succ_iff_lt_or_eq.1 hj with h | rfl
            · exact hA j h c hc
            · obtain rfl : s[j] = c := by rw [hb] at hc; simpa using hc
              exact hp
          clear hA hp hp' hb
          go_wp2
          go_roundg (s.size - (k + 1))
          case measure => omega
          case rel => exact ⟨k + 1, by omega, rfl, by go_num, rfl, hA'⟩
        · have hp' : nc s[k] = false := by simpa using hp
          have e : nameErr s.data.toList = 7 := by rw [E.out, not_all hb hp']; rfl
          have hq : ((s[k].toNat : Nat) : Int) < 33 ∨ (126 : Int) < ((s[k].toNat : Nat) : Int) ∨ ((s[k].toNat : Nat) : Int) = 47 ∨ ((s[k].toNat : Nat) : Int) = 64 := by
            by_cases q1 : s[k].toNat < 33
            · left; omega
            · by_cases q2 : 126 < s[k].toNat
              · right; left; omega
              · by_cases q3 : s[k].toNat = 47
                · right; right; left; omega
                · by_cases q4 : s[k].toNat = 64
                  · right; right; right; omega
                  · exact absurd (show nc s[k] = true by simp [nc, q3, q4]; omega) hp
          clear hA hp hp' hb
          go_wp2
          all_goals first
            | (go_returns; exact ⟨rfl, rfl⟩)
            | (go_returns; exact ⟨by rw [e]; rfl, rfl⟩)
            | (exfalso; simp_all; omega)
      · have hkz : decide ((k : Int) < s.size) = false := by simp; omega
        have e : nameErr s.data.toList = 0 := by
          have := sz s
          rw [E.out, all_upto (p := nc) (l := s.data.toList) (fun j hj c hc => hA j (by omega) c hc)]; rfl
        clear hA
        go_wp2
        go_returns
        exact ⟨by rw [e]; rfl, rfl⟩

set_option maxRecDepth 100000 in
theorem reflab_ok (s : ByteArray) (w : World) :
    Calls Tryd.prog 24 #[.string s] w fun e w' => e = .returned (.bool (labOk s.data.toList)) ∧ w' = w := by
  go_enter Tryd.func24, Tryd.ntmps24
  by_cases h1 : s.size < 1
  · have t1 : ((s.size : Int) == 0) = true := beq_iff_eq.2 (by omega)
    have e : labOk s.data.toList = false := by have := sz s; simp [labOk]; omega
    go_wp2
    go_returns
    exact ⟨by rw [e]; rfl, rfl⟩
  · have t1 : ((s.size : Int) == 0) = false := beq_eq_false_iff_ne.2 (by omega)
    by_cases h8 : 8 < s.size
    · have t2 : decide ((8 : Int) < s.size) = true := by simp; omega
      have e : labOk s.data.toList = false := by have := sz s; simp [labOk]; omega
      go_wp2
      go_returns
      exact ⟨by rw [e]; rfl, rfl⟩
    · have t2 : decide ((8 : Int) < s.size) = false := by simp; omega
      go_wp2
      go_loopg [3] s.size (fun g i wr => ∃ k : Nat, k ≤ s.size ∧ g = s.size - k ∧ i = .int .i64 k ∧ wr = w ∧ ∀ j, j < k → ∀ c, s.data.toList[j]? = some c → lc c = true)
      case atStart => exact ⟨0, Nat.zero_le _, rfl, rfl, rfl, fun j hj => absurd hj (Nat.not_lt_zero _)⟩
      case round =>
        obtain ⟨k, hk, hg, rfl, rfl, hA⟩ := hrel
        by_cases hkm : k < s.size
        · have hkz : (k : Int) < s.size := by omega
          have hb := get_byte s k hkm
          go_wp2
          · rename_i h3 h4
            go_returns
            have hp : lc s[k] = false := by simp [lc]; omega
            have e : labOk s.data.toList = false := by simp [labOk, not_all hb hp]
            exact ⟨by rw [e]; rfl, rfl⟩
          · rename_i h3 h4
            go_roundg (s.size - (k + 1))
            case measure => omega
            case rel =>
              refine ⟨k + 1, by omega, rfl, by go_num, rfl, fun j hj c hc => ?_⟩
              rcases Nat.lt_succ_iff_lt_or_eq.1 hj with h | rfl
              · exact hA j h c hc
              · obtain rfl : s[j] = c := by rw [hb] at hc; simpa using hc
                simp [lc]; omega
          · rename_i h3
            go_returns
            have hp : lc s[k] = false := by simp [lc]; omega
            have e : labOk s.data.toList = false := by simp [labOk, not_all hb hp]
            exact ⟨by rw [e]; rfl, rfl⟩
        · have hkz : decide ((k : Int) < s.size) = false := by simp; omega
          have e : labOk s.data.toList = true := by
            have := sz s
            have h := all_upto (p := lc) (l := s.data.toList) (fun j hj c hc => hA j (by omega) c hc)
            unfold labOk
            rw [h]
            simp
            omega
          clear hA
          go_wp2
          go_returns
          exact ⟨by rw [e]; rfl, rfl⟩
end Go.Proofs.YtkjgieehiimiiaaDoor

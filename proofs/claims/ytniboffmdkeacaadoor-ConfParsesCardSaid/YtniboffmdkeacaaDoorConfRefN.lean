/- The document's answer: names. -/
import Derived.Test.YtniboffmdkeacaaDoorConf
import Derived.Deep.LoopGhost
namespace Go.Proofs.YtniboffmdkeacaaDoor
open Go.RowKit Go.WideMaps
set_option linter.unusedSimpArgs false
set_option linter.unusedVariables false

set_option maxRecDepth 100000 in
theorem name_ref (s : ByteArray) (w : World) : Calls Tryd.prog 28 #[.string s] w fun e w' => e = .returned (.bool (nameB s.data.toList)) ∧ Below w.heap.size w w' := by
  have B0 := Below.refl w.heap.size w
  by_cases h1 : s.size = 0
  · have t1 : ((s.size : Int) == 0) = true := by simp [h1]
    have e : Hid (nameB s.data.toList = false) := hide (by have := sz s; simp [nameB]; omega)
    clear h1
    go_enter Tryd.func28, Tryd.ntmps28
    go_wp2
    go_returns
    exact ⟨by rw [e.out]; rfl, B0⟩
  have t1 : ((s.size : Int) == 0) = false := beq_eq_false_iff_ne.2 (by omega)
  by_cases h8 : 8 < s.size
  · have t2 : decide ((8 : Int) < s.size) = true := by simp; omega
    have e : Hid (nameB s.data.toList = false) := hide (by have := sz s; simp [nameB]; omega)
    go_enter Tryd.func28, Tryd.ntmps28
    go_wp2
    go_returns
    exact ⟨by rw [e.out]; rfl, B0⟩
  have t2 : decide ((8 : Int) < s.size) = false := by simp; omega
  go_enter Tryd.func28, Tryd.ntmps28
  go_wp2_with fail
  go_loopg [3] s.size (fun g x3 wr => wr = w ∧ ∃ k : Nat, k ≤ s.size ∧ g = s.size - k ∧ x3 = .int .i64 (k : Int) ∧ Hid (∀ j, j < k → ∀ c, s.data.toList[j]? = some c → smallB c = true))
  case atStart => exact ⟨rfl, 0, Nat.zero_le _, rfl, rfl, hide fun j hj => absurd hj (Nat.not_lt_zero _)⟩
  case round =>
    obtain ⟨rfl, k, hk, hg, rfl, hA⟩ := hrel
    by_cases hkm : k < s.size
    · have hkz : (k : Int) < s.size := by omega
      have hb := hide (get_byte s k hkm)
      by_cases hlo : (s[k]).toNat < 97
      · have q1 : decide ((((s[k]).toNat : Nat) : Int) < 97) = true := by simp; omega
        have hp : smallB s[k] = false := by simp [smallB, UInt8.le_iff_toNat_le]; omega
        have e : Hid (nameB s.data.toList = false) := hide (by have := not_all hb.out hp; simp [nameB, this])
        clear hp
        go_wp2
        go_returns
        exact ⟨by rw [e.out]; rfl, B0⟩
      · have q1 : decide ((((s[k]).toNat : Nat) : Int) < 97) = false := by simp; omega
        by_cases hhi : 122 < (s[k]).toNat
        · have q2 : decide ((122 : Int) < (((s[k]).toNat : Nat) : Int)) = true := by simp; omega
          have hp : smallB s[k] = false := by simp [smallB, UInt8.le_iff_toNat_le]; omega
          have e : Hid (nameB s.data.toList = false) := hide (by have := not_all hb.out hp; simp [nameB, this])
          clear hp
          go_wp2
          go_returns
          exact ⟨by rw [e.out]; rfl, B0⟩
        · have q2 : decide ((122 : Int) < (((s[k]).toNat : Nat) : Int)) = false := by simp; omega
          have hp : smallB s[k] = true := by simp [smallB, UInt8.le_iff_toNat_le]; omega
          have HP := hide hp
          clear hp
          go_wp2
          go_roundg (s.size - (k + 1))
          case measure => omega
          case rel =>
            refine ⟨rfl, k + 1, by omega, rfl, by go_num, hide fun j hj c hc => ?_⟩
            by_cases e : j = k
            · subst e
              rw [hb.out] at hc
              injection hc with hc
              rw [← hc]
              exact HP.out
            · exact hA.out j (by omega) c hc
    · obtain rfl : k = s.size := by omega
      have e : Hid (nameB s.data.toList = true) := hide (by
        have h2 := all_upto (p := smallB) (l := s.data.toList) fun j hj c hc => hA.out j (by rw [sz s]; exact hj) c hc
        have h3 := sz s
        simp [nameB, h2]
        omega)
      go_wp2
      go_returns
      exact ⟨by rw [e.out]; rfl, B0⟩
end Go.Proofs.YtniboffmdkeacaaDoor

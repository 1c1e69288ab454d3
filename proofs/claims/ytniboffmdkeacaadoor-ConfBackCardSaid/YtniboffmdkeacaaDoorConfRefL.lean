/- The document's answer: labels' order. -/
import Derived.Test.YtniboffmdkeacaaDoorConfUse
import Derived.Deep.LoopGhost
namespace Go.Proofs.YtniboffmdkeacaaDoor
open Go.RowKit Go.WideMaps
set_option linter.unusedSimpArgs false
set_option linter.unusedVariables false

theorem catB_iff (x y : UInt16) : catB x y = true ↔ ∀ c, c < 16 → x.toNat.testBit c = true → y.toNat.testBit c = true := by
  have hy := y.toNat_lt
  have hx := x.toNat_lt
  have e : ∀ i, (65535 - y.toNat).testBit i = (decide (i < 16) && !y.toNat.testBit i) := fun i => by
    have := Nat.testBit_two_pow_sub_succ (x := y.toNat) (n := 16) (by omega) i
    rwa [show 2 ^ 16 - (y.toNat + 1) = 65535 - y.toNat by omega] at this
  unfold catB
  rw [decide_eq_true_iff]
  constructor
  · intro h c hc hxc
    have := congrArg (fun n => n.testBit c) h
    simp only [Nat.testBit_and, e, hxc, hc, decide_true, Bool.true_and, Nat.zero_testBit, Bool.not_eq_false'] at this
    exact this
  · intro h
    apply Nat.eq_of_testBit_eq
    intro i
    rw [Nat.testBit_and, e, Nat.zero_testBit]
    by_cases hi : i < 16
    · cases hb : x.toNat.testBit i with
      | false => rfl
      | true => simp [hi, h i hi hb]
    · have : x.toNat.testBit i = false := Nat.testBit_lt_two_pow (Nat.lt_of_lt_of_le hx (Nat.pow_le_pow_right (by omega) (show 16 ≤ i by omega)))
      rw [this]; rfl

theorem bit_ref (n c : Nat) (hn : n < 65536) : ((wrap64 (n : Int) / 2 ^ c).tmod 2 == 1) = n.testBit c := by
  rw [IntWalk.wrap64_in _ (by omega), show ((n : Int) / 2 ^ c) = ((n / 2 ^ c : Nat) : Int) by simp, IntWalk.rem_in _ _ (Int.natCast_nonneg _), Nat.testBit_eq_decide_div_mod_eq]
  have h2 := Nat.mod_two_eq_zero_or_one (n / 2 ^ c)
  have e : ((n / 2 ^ c : Nat) : Int) % 2 = ((n / 2 ^ c % 2 : Nat) : Int) := by omega
  rw [e]
  rcases h2 with h2 | h2 <;> rw [h2] <;> rfl
set_option maxRecDepth 100000 in
theorem has_ref (lv : UInt8) (ct : UInt16) (c : Nat) (hc : c < 16) (w : World) :
    Calls Tryd.prog 55 #[.agg #[.int .u8 (lv.toNat : Int), .int .u16 (ct.toNat : Int)], .int .i64 (c : Int)] w fun e w' => e = .returned (.bool (ct.toNat.testBit c)) ∧ Below w.heap.size w w' := by
  have hb : Below w.heap.size w (w.alloc (.cells #[.int .u8 (lv.toNat : Int), .int .u16 (ct.toNat : Int)] 36)) := (Below.refl _ _).alloc (Nat.le_refl _) _
  have t1 : decide ((0 : Int) ≤ (c : Int)) = true := by simp
  have t2 : decide ((c : Int) < 16) = true := by simp; omega
  have HB := hide hb
  clear hb
  go_enter Tryd.func55, Tryd.ntmps55
  go_wp2
  go_returns
  exact ⟨by rw [← bit_ref _ _ ct.toNat_lt]; rfl, HB.out⟩
set_option maxRecDepth 100000 in
set_option maxHeartbeats 1000000 in
theorem leq_ref (a : UInt8) (x : UInt16) (b : UInt8) (y : UInt16) (w : World) :
    Calls Tryd.prog 29 #[.agg #[.int .u8 (a.toNat : Int), .int .u16 (x.toNat : Int)], .agg #[.int .u8 (b.toNat : Int), .int .u16 (y.toNat : Int)]] w fun e w' => e = .returned (.bool (lleB a x b y)) ∧ Below w.heap.size w w' := by
  go_enter Tryd.func29, Tryd.ntmps29
  go_upto_region 1 with (fail)
  refine at_world (fun W => ∃ g2 g3, g2 = w.heap.size ∧ g3 = w.heap.size + 1 ∧ Below w.heap.size w W ∧ Blk W g2 36 #[.int .u8 (a.toNat : Int), .int .u16 (x.toNat : Int)] ∧ Blk W g3 36 #[.int .u8 (b.toNat : Int), .int .u16 (y.toNat : Int)]) ⟨_, _, rfl, rfl, ((Below.refl _ _).alloc (Nat.le_refl _) _).alloc (by simp) _, (Blk.new w _ _).alloc _, by have := Blk.new (w.alloc (.cells #[.int .u8 (a.toNat : Int), .int .u16 (x.toNat : Int)] 36)) 36 #[.int .u8 (b.toNat : Int), .int .u16 (y.toNat : Int)]; simpa using this⟩ (fun w1 h1 => ?_)
  obtain ⟨g2, g3, e2, e3, hb1, k2, k3⟩ := h1
  rw [← e3, ← e2]
  have HB := hide hb1
  have K2 := hide k2
  have K3 := hide k3
  have z20 := k2.cell 0
  have z21 := k2.cell 1
  have z30 := k3.cell 0
  have z31 := k3.cell 1
  have l2 := k2.lt
  have l3 := k3.lt
  clear e2 e3 hb1 k2 k3
  by_cases hab : b < a
  · have t1 : decide ((b.toNat : Int) < (a.toNat : Int)) = true := by simp; exact UInt8.lt_iff_toNat_lt.1 hab
    have hl : Hid (lleB a x b y = false) := by
      unfold lleB
      rw [decide_eq_false (by rw [UInt8.not_le]; exact hab)]
      exact hide rfl
    have t2 : b.toNat < a.toNat := UInt8.lt_iff_toNat_lt.1 hab
    clear hab
    go_wp2
    go_returns
    exact ⟨by rw [hl.out]; rfl, HB.out⟩
  · have hle : a ≤ b := UInt8.not_lt.1 hab
    have t1 : decide ((b.toNat : Int) < (a.toNat : Int)) = false := by
      have := UInt8.le_iff_toNat_le.1 hle
      simp; omega
    have hl : Hid (lleB a x b y = catB x y) := by
      unfold lleB
      rw [decide_eq_true hle]
      exact hide rfl
    have t2 : ¬ b.toNat < a.toNat := by have := UInt8.le_iff_toNat_le.1 hle; omega
    clear hab hle
    go_wp2_with fail
    clear z20 z21 z30 z31 l2 l3
    go_loopg [5] 16 (fun g x5 wr => ∃ c : Nat, c ≤ 16 ∧ g = 16 - c ∧ x5 = .int .i64 (c : Int) ∧ Below w1.heap.size w1 wr ∧ Hid (∀ j, j < c → x.toNat.testBit j = true → y.toNat.testBit j = true))
    case atStart => exact ⟨0, by omega, rfl, rfl, Below.refl _ _, hide fun j hj => absurd hj (Nat.not_lt_zero _)⟩
    case round =>
      obtain ⟨c, hc, hg, rfl, hbr, hA⟩ := hrel
      rcases Nat.lt_or_ge c 16 with hc16 | hc16
      · have hcz : (c : Int) < 16 := by omega
        have k2 := K2.out.below hbr K2.out.lt
        have k3 := K3.out.below hbr K3.out.lt
        have z20 := k2.cell 0
        have z21 := k2.cell 1
        have l2 := k2.lt
        have BR := hide hbr
        have hk3 := hide k3
        clear hbr k2 k3
        go_wp2_with fail
        refine (has_ref a x c hc16 _).mono ?_
        rintro e w5 ⟨rfl, hb5⟩
        have B5 := hide (BR.out.trans (hb5.mono BR.out.size))
        have k3 := hk3.out.below hb5 hk3.out.lt
        have z30 := k3.cell 0
        have z31 := k3.cell 1
        have l3 := k3.lt
        clear hb5 k3 z20 z21 l2
        cases hxc : x.toNat.testBit c with
        | false =>
          have HX := hide hxc
          clear hxc
          go_wp2
          go_roundg (16 - (c + 1))
          case measure => omega
          case rel =>
            refine ⟨c + 1, by omega, rfl, by go_num, B5.out, hide fun j hj hxj => ?_⟩
            rcases Nat.lt_succ_iff_lt_or_eq.1 hj with h | rfl
            · exact hA.out j h hxj
            · rw [HX.out] at hxj; cases hxj
        | true =>
          have HX := hide hxc
          clear hxc
          go_wp2_with fail
          refine (has_ref b y c hc16 _).mono ?_
          rintro e w6 ⟨rfl, hb6⟩
          have B6 := hide (B5.out.trans (hb6.mono B5.out.size))
          clear hb6
          cases hyc : y.toNat.testBit c with
          | false =>
            have hc2 : Hid (catB x y = false) := hide (by
              cases h : catB x y with
              | false => rfl
              | true => have := (catB_iff x y).1 h c hc16 HX.out; rw [hyc] at this; cases this)
            clear hyc
            go_wp2
            go_returns
            exact ⟨by rw [hl.out, hc2.out]; rfl, HB.out.trans (B6.out.mono HB.out.size)⟩
          | true =>
            have HY := hide hyc
            clear hyc
            go_wp2
            go_roundg (16 - (c + 1))
            case measure => omega
            case rel =>
              refine ⟨c + 1, by omega, rfl, by go_num, B6.out, hide fun j hj hxj => ?_⟩
              rcases Nat.lt_succ_iff_lt_or_eq.1 hj with h | rfl
              · exact hA.out j h hxj
              · exact HY.out
      · obtain rfl : c = 16 := by omega
        have hc2 : Hid (catB x y = true) := hide ((catB_iff x y).2 hA.out)
        go_wp2
        go_returns
        exact ⟨by rw [hl.out, hc2.out]; rfl, HB.out.trans (hbr.mono HB.out.size)⟩
end Go.Proofs.YtniboffmdkeacaaDoor

/- PathBack: the walk. -/
import Derived.Test.YtkjgieehiimiiaaDoorPathPlain
namespace Go.Proofs.YtkjgieehiimiiaaDoor
open Go.RowKit

theorem own_le2 {w : World} {base n c : Nat} {e : TypeId} {sz : Nat} {A : Option Addr} {xs : List Value} (h : w.ownsRow base e sz (.slice A n c) n xs) : n ≤ c := by
  obtain ⟨A', c', hv, h1, _⟩ := own_form h
  injection hv with _ _ h2
  omega

section
variable (a : Bool) (A : Option Addr) (n c : Nat) (l : List UInt8) (w : World)
set_option maxRecDepth 100000 in
set_option maxHeartbeats 8000000 in
theorem back_all (hm : Mx w) (hr : Rd w w.heap.size 1 A n (bvs l)) :
    Calls Tryd.prog 5 #[.bool a, .slice A n c] w fun e w' => e = .returned (.bool true) ∧ Below w.heap.size w w' := by
  go_enter Tryd.func5, Tryd.ntmps5
  go_wp2_with fail
  refine (awake_ok _ hm).mono ?_
  rintro e w1 ⟨rfl, hb1⟩
  go_wp2_with fail
  refine (made_ok a A n c l w1 ((hr.below hb1).more hb1.size)).mono ?_
  rintro e w2 ⟨R, k, e', rfl, own2, hb2⟩
  have hbx := hb1.trans (hb2.mono hb1.size)
  have hkl := (Rd.of_own own2).parts
  have hk9 := madeL_len l
  have hg := madeL_good (l := l)
  have hs := madeL_short (l := l)
  generalize madeL l = ps at own2 hkl hk9 hg hs
  have hcap := own_le2 own2
  have HG := hide hg
  have HS := hide hs
  have HK := hide hkl
  clear hb1 hb2 hg hs hkl
  have hal : Below w2.heap.size w2 (w2.alloc (.cells #[.bool a, .slice R k e'] 27)) := (Below.refl _ _).alloc (Nat.le_refl _) _
  have own3 := own_below own2 hal
  have pB3 := Blk.new w2 27 #[.bool a, .slice R k e']
  have hbx3 := hbx.trans (hal.mono hbx.size)
  clear hal own2 hbx
  go_wp2_with fail
  refine (text_ok a R k e' ps _ (Rd.of_own own3) HS.out (by have := HK.out; omega)).mono ?_
  rintro e w4 ⟨rfl, hb4⟩
  have hbx4 := hbx3.trans (hb4.mono hbx3.size)
  have own4 := own_below own3 hb4
  have pB4 := pB3.below hb4 pB3.lt
  clear hb4 hbx3 own3 pB3
  go_wp2_with fail
  refine (parse_ok _ w4 (hm.below' hbx4)).mono ?_
  rw [zl]
  rintro e w5 ⟨A5, n5, c5, rfl, own5, hb5⟩
  have hbx5 := hbx4.trans (hb5.mono hbx4.size)
  have ownp := own_below own4 hb5
  have pB5 := pB4.below hb5 pB4.lt
  have p0 := pB5.cell 0
  have p1 := pB5.cell 1
  have lp := pB5.lt
  clear hb5 hbx4 own4 pB4
  by_cases hne : textK a ps k = []
  · obtain ⟨rfl, rfl⟩ := text_none HG.out (a := a) (by rw [HK.out]; exact hne)
    have hk0 : k = 0 := by have := HK.out; simpa using this.symm
    subst hk0
    rw [hne] at own5 ⊢
    have hp : parseL [] = (false, [], 7) := by unfold parseL; rfl
    rw [hp] at own5 ⊢
    clear hne hp own5 ownp
    go_wp2
    go_returns
    exact ⟨rfl, hbx5.alloc hbx5.size _⟩
  · have hp := text_back HG.out (a := a) hk9 (by rw [HK.out]; exact hne)
    rw [HK.out] at hp
    rw [hp] at own5 ⊢
    clear hp
    obtain ⟨t, ht⟩ : ∃ t, textK a ps k = t := ⟨_, rfl⟩
    have HT := hide ht
    rw [ht] at hne
    rw [ht]
    clear ht
    have hte : List.isEmpty t = false := by simp [hne]
    have hal : Below w5.heap.size w5 (w5.alloc (.cells #[.bool a, .slice A5 n5 c5] 27)) := (Below.refl _ _).alloc (Nat.le_refl _) _
    have hsame := same_ok a a R A5 k e' n5 c5 ps ps (w5.alloc (.cells #[.bool a, .slice A5 n5 c5] 27)) (Rd.of_own (own_below ownp hal)) (Rd.of_own (own_below own5 hal)) (by have := HK.out; omega) hcap (own_le2 own5)
    go_wp2_with fail
    refine hsame.mono ?_
    first | rw [show decide (a = a ∧ ps = ps) = true by simp] | rw [show decide (True ∧ True) = true from rfl]
    rintro e w6 ⟨rfl, hb6⟩
    have hb56 := hal.trans (hb6.mono hal.size)
    have hbx6 := hbx5.trans (hb56.mono hbx5.size)
    have own6 := own_below ownp hb56
    have pB6 := pB5.below hb56 pB5.lt
    clear p0 p1 lp hsame hal own5 ownp hb6 hb56 pB5 hbx5
    have p0 := pB6.cell 0
    have p1 := pB6.cell 1
    have lp := pB6.lt
    go_wp2_with fail
    refine (reftext_ok a R k e' ps w6 (Rd.of_own own6) HS.out (by have := HK.out; omega)).mono ?_
    rw [HT.out]
    rintro e w7 ⟨rfl, rfl⟩
    go_wp2
    go_returns
    exact ⟨rfl, hbx6⟩
end
end Go.Proofs.YtkjgieehiimiiaaDoor

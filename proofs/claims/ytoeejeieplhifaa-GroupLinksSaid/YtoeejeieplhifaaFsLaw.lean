/- Bits, blocks and groups: plain laws of what the calls come to. -/
import Derived.Test.YtoeejeieplhifaaFsGrp2
import Derived.Test.YtoeejeieplhifaaFsOpen
namespace Go.Proofs.Ytoeejeieplhifaa
open Go.RowKit
set_option linter.unusedSimpArgs false
set_option linter.unusedVariables false

section
variable {s : Sto} {f k j n : Nat} {b : BlkV} {on : Bool} {g : GeoN}
theorem bit_put_far (h : n ≠ f + k / 512) : (s.put n b).bit f k = s.bit f k := by
  unfold Sto.bit
  rw [Sto.at_put, if_neg h]
theorem bit_setBit (h : s.Ok) : (s.setBit f k on).bit f j = if j = k then on else s.bit f j := by
  by_cases hon : s.bit f k = on
  · rw [show s.setBit f k on = s from by unfold Sto.setBit; rw [if_pos hon]]
    by_cases hj : j = k
    · subst hj; rw [if_pos rfl]; exact hon
    · rw [if_neg hj]
  · rw [show s.setBit f k on = s.put (f + k / 512) (flipB (s.at_ (f + k / 512)) (k % 512)) from by unfold Sto.setBit; rw [if_neg hon]]
    by_cases h5 : j / 512 = k / 512
    · unfold Sto.bit
      rw [h5, Sto.at_put, if_pos rfl, bitB_flip (Sto.at_length h _) (Nat.mod_lt _ (by decide))]
      by_cases hj : j = k
      · subst hj
        rw [if_pos rfl, if_pos rfl]
        unfold Sto.bit at hon
        revert hon
        generalize bitB (s.at_ (f + j / 512)) (j % 512) = x
        cases x <;> cases on <;> simp
      · rw [if_neg hj, if_neg (by omega)]
    · rw [bit_put_far (by omega), if_neg (by rintro rfl; exact h5 rfl)]
theorem at_setBit_far (h : f + k / 512 ≠ n) : (s.setBit f k on).at_ n = s.at_ n := by
  unfold Sto.setBit
  split
  · rfl
  · rw [Sto.at_put, if_neg h]
theorem setBit_far (h : ∀ x y : Nat, x = f + k / 512 → y = n + j / 512 → x ≠ y) : (s.setBit f k on).bit n j = s.bit n j := by
  unfold Sto.bit
  rw [at_setBit_far (h _ _ rfl rfl)]
theorem take_D (g : GeoN) (k : Nat) : (s.take g k).D = s.D := setBit_D _ _ _ _
theorem take_len (g : GeoN) (k : Nat) : (s.take g k).M.length ≤ s.M.length + 2 := by
  unfold Sto.take
  have h1 := Sto.put_len (s.setBit g.base k true) (g.data + k) zeroB
  have h2 := setBit_len s g.base k true
  omega
theorem bit_take (h : s.Ok) (hg : g.Ok s.D.length) (hj : j < g.blocks) : (s.take g k).bit g.base j = if j = k then true else s.bit g.base j := by
  unfold Sto.take
  rw [bit_put_far (by have := hg.data; have := hg.map; omega), bit_setBit h]
theorem at_take (hg : g.Ok s.D.length) (hk : k < g.blocks) (h1 : n < g.base ∨ g.base + g.bitmap ≤ n) : (s.take g k).at_ n = if n = g.data + k then zeroB else s.at_ n := by
  unfold Sto.take
  have := hg.map
  rw [Sto.at_put, at_setBit_far (by omega)]
  by_cases h : n = g.data + k
  · rw [if_pos h.symm, if_pos h]
  · rw [if_neg (fun e => h e.symm), if_neg h]
theorem bitB_zero (k : Nat) : bitB zeroB k = false := by
  unfold bitB zeroB
  rw [List.getD_eq_getElem?_getD, List.getElem?_replicate]
  split <;> simp
theorem begD_length (n : Nat) : (begD n).length = n := by simp [begD]
theorem begD_at {m : Nat} (h : m ≠ 1) : Sto.at_ ⟨begD n, [], 0⟩ m = zeroB := by
  unfold Sto.at_ begD
  simp only [mget, Option.getD_none, List.getD_eq_getElem?_getD]
  rw [List.getElem?_set, if_neg (fun e => h e.symm), List.getElem?_replicate]
  split <;> rfl
theorem begD_bit (hf : 2 ≤ f) : Sto.bit ⟨begD n, [], 0⟩ f k = false := by
  unfold Sto.bit
  rw [begD_at (by omega)]
  exact bitB_zero _
theorem free_cons (hk : k < n) (h0 : s.bit f k = false) (h : ∀ j, j < k → s.bit f j = true) : s.freeBit f n = some k := free_some hk h0 h
end
end Go.Proofs.Ytoeejeieplhifaa

/- Configurations in small numbers: made. -/
import Derived.Test.YtoeejeieplhifaaConfSz
import Derived.Laws.Rows
namespace Go.Proofs.Ytoeejeieplhifaa
open Go.RowKit Go.WideMaps
set_option linter.unusedSimpArgs false
set_option linter.unusedVariables false

section
variable {m : UInt8} {H : List UInt8} {A : Option Addr} {n c : Nat} {T : List UInt8} {w : World}
theorem szCells_one : (szCells m H A n c).all (·.oneCell') = true := by
  rw [Array.all_eq_true_iff_forall_mem]
  intro x hx
  simp only [szCells, List.mem_toArray, List.mem_cons, List.mem_append, bvs, List.mem_map, List.not_mem_nil, or_false] at hx
  rcases hx with rfl | ⟨y, _, rfl⟩ | rfl <;> rfl
set_option maxRecDepth 100000 in
set_option maxHeartbeats 1000000 in
theorem size_conf (hH : H.length = 25) (hT : Rd w w.heap.size 1 A n (bvs T)) (hnm : n ≤ 9223372036854775807) :
    Calls Try.prog 11 #[.agg (szCells m H A n c)] w fun e w' => ∃ (cc : Nat) (K : List MarkV) (tb nb lb : Nat) (A1 A2 A3 : Option Addr) (c1 c2 c3 : Nat), e = .returned (.pointer (some ⟨cc, 0, none⟩)) ∧ Below w.heap.size w w' ∧
      ConfIn w.heap.size w' cc (szRegs m H) K tb nb lb A1 A2 A3 c1 c2 c3 ∧ MarksOk (szMany m) K := by
  have hsz : (szCells m H A n c).size = 27 := szCells_size hH
  go_enter Try.func11, Try.ntmps11
  go_upto_region 1 with (fail)
  refine at_world (fun W => ∃ bx, bx = w.heap.size ∧ Below w.heap.size w W ∧ Blk W bx 26 (szCells m H A n c)) ⟨_, rfl, (Below.refl _ _).alloc (Nat.le_refl _) _, Blk.new _ _ _⟩ (fun w1 h1 => ?_)
  obtain ⟨bx, hbx, hb1, hX1⟩ := h1
  rw [← hbx]
  have hT1 := (hT.below hb1).more hb1.size
  have HX := hide hX1
  clear hbx hX1
  have hS : ((Try.prog.info? 26).map (·.size)) = some (szCells m H A n c).size := by rw [hsz]; kernel_rfl
  have HS := hide hS
  have HSZ := hide hsz
  clear hS hsz
  go_wp2_with (first | (refine wpList_load_row rfl 26 (.tmp 1) (by rfl) bx (by rfl) 26 (szCells m H A n c) (0, 0) _ HX.out Try.underlying26 rfl HS.out ?_) | fail)
  refine (size_regs (w := w1) hH hT1 hnm).mono ?_
  rintro e w2 ⟨K, A1, A2, c1, c2, rfl, hb2, o1, o2, hK⟩
  have hM := szMany_le m
  have hnew := new_ok (R := szRegs m H) (K := K) (w := w2) (A := A1) (cA := c1) (A' := A2) (cA' := c2) (by rw [szRegs_length]; exact Rd.of_own o1) (Rd.of_own o2) (by rw [szRegs_length]; omega) (by have := hK.2.2; omega)
  rw [szRegs_length] at hnew
  have hb12 := hb1.trans (hb2.mono hb1.size)
  have hne := sz_ok m H K hK.1 hK.2.1
  go_wp2_with fail
  refine hnew.mono ?_
  rintro e w3 ⟨hb3, h0, _⟩
  obtain ⟨cc, tb, nb, lb, B1, B2, B3, d1, d2, d3, rfl, hin⟩ := h0 hne
  clear hnew h0
  have HB := hide (hb12.trans (hb3.mono hb12.size))
  have HIN := hide (hin.base hb12.size)
  clear hin hb3 o1 o2
  go_wp2
  go_returns
  exact ⟨cc, K, tb, nb, lb, B1, B2, B3, d1, d2, d3, rfl, HB.out, HIN.out, hK⟩
end
end Go.Proofs.Ytoeejeieplhifaa

/- Nodes, walked: Blank, Check. -/
import Derived.Test.YtoeejeieplhifaaFsEq
namespace Go.Proofs.Ytoeejeieplhifaa
open Go.RowKit
set_option linter.unusedSimpArgs false
set_option linter.unusedVariables false

theorem node_cells_at (n : NodeV) : n.cells[0]? = some (.int .u8 (n.kind.toNat : Int)) ∧ n.cells[1]? = some (.int .u8 (n.links.toNat : Int)) ∧ n.cells[2]? = some (u16v n.gen) ∧ n.cells[3]? = some (.int .u32 (n.size.toNat : Int)) := ⟨rfl, rfl, rfl, rfl⟩
theorem size_node : (Try.prog.info? 52).map (·.size) = some 12 := by kernel_rfl
theorem size_nodeOf {n : NodeV} (h : n.dir.length = 6) : (Try.prog.info? 52).map (·.size) = some n.cells.toArray.size := by rw [size_node]; simp [NodeV.cells_length h]
theorem zero_node (w : World) : (zeroValue 52).run Try.prog w = .ok (.agg NodeV.zero.cells.toArray) w := by kernel_rfl
theorem build_node (w : World) : (Instr.build 52 #[]).run Try.prog w = .ok NodeV.zero.val w := by kernel_rfl
theorem build_gen (g : UInt16) (w : World) : (Instr.build 52 #[(2, .int .u16 (g.toNat : Int))]).run Try.prog w = .ok ({ NodeV.zero with gen := g } : NodeV).val w := by kernel_rfl

section
variable {w w' : World}
set_option maxRecDepth 100000 in
set_option maxHeartbeats 800000 in
theorem blank_ok (w : World) {n : NodeV} (hn : n.dir.length = 6) :
    Calls Try.prog 98 #[n.val] w fun e w' => e = .returned (.bool (blankN n)) ∧ Below w.heap.size w w' := by
  have HN := hide hn
  clear hn
  go_enter Try.func98, Try.ntmps98
  go_upto_region 1 with (fail)
  refine at_world (fun W => ∃ g, g = w.heap.size ∧ Below w.heap.size w W ∧ Blk W g 52 n.cells.toArray) ⟨_, rfl, (Below.refl _ _).alloc (Nat.le_refl _) _, Blk.new _ _ _⟩ (fun w1 h1 => ?_)
  obtain ⟨g, hg, hb1, hG⟩ := h1
  rw [← hg]
  have c2 := (hG.cell 2).trans (node_cells_at n).2.2.1
  have gl := hG.lt
  have HB := hide hb1
  clear hg hb1
  have HBL := hide (show decide (n = { NodeV.zero with gen := n.gen }) = blankN n from rfl)
  go_wp2_with (first | ((with_reducible refine at_load 52 (.tmp 1) ?_); refine wpList_load_blk rfl 52 (.tmp 1) rfl g _ _ _ (by rfl) hG Try.underlying52 rfl (size_nodeOf HN.out) ?_) | ((with_reducible refine at_build 52 #[(2, .tmp 5)] ?_); refine wpList_run rfl _ (exec_build 52 #[(2, .tmp 5)] rfl #[(2, .int .u16 (n.gen.toNat : Int))] (by simp only [List.map_toArray, List.map_cons, List.map_nil]; rfl) _ (build_gen n.gen _)) ?_) | ((with_reducible refine at_binop .eql 52 (.tmp 3) (.tmp 6) 52 ?_); refine wpList_run rfl _ (exec_eql_agg 52 (.tmp 3) (.tmp 6) 52 rfl _ _ rfl rfl (by kernel_rfl) _ (node_eq _ (a := n) (b := { NodeV.zero with gen := n.gen }) HN.out rfl)) ?_) | fail)
  go_returns
  exact ⟨rfl, HB.out⟩

def checkE (n : NodeV) : Int := if checkN n then 0 else 28
set_option maxRecDepth 100000 in
set_option maxHeartbeats 3200000 in
theorem check_ok (w : World) {n : NodeV} (hn : n.dir.length = 6) :
    Calls Try.prog 80 #[n.val] w fun e w' => e = .returned (.int .i64 (checkE n)) ∧ Below w.heap.size w w' := by
  have HN := hide hn
  have hL0 : n.links ≠ 0 ↔ n.links.toNat ≠ 0 := by
    constructor
    · intro h e; exact h (UInt8.toNat_inj.1 (by simpa using e))
    · intro h e; exact h (by rw [e]; rfl)
  have hS0 : n.size = 0 ↔ n.size.toNat = 0 := ⟨fun e => by rw [e]; rfl, fun e => UInt32.toNat_inj.1 (by simpa using e)⟩
  have hkk : ∀ k : UInt8, n.kind = k ↔ n.kind.toNat = k.toNat := fun k => ⟨fun e => by rw [e], fun e => UInt8.toNat_inj.1 e⟩
  have hC : 1 ≤ n.kind.toNat → n.kind.toNat ≤ 5 → (checkN n = true ↔ (n.links.toNat ≠ 0 ∧ n.size.toNat ≤ 16384 ∧ ((n.kind.toNat = 3 ∨ n.kind.toNat = 5) → n.size.toNat = 0) ∧ (n.kind.toNat = 4 → 1 ≤ n.size.toNat ∧ n.size.toNat ≤ 60) ∧ (n.kind.toNat = 2 → n.size.toNat % 16 = 0))) := fun h1 h5 => by
    unfold checkN
    have e0 : ¬ n.kind.toNat = 0 := by omega
    rw [if_neg (by rw [hkk]; exact e0), if_pos h5]
    have k3 := hkk 3
    have k4 := hkk 4
    have k5 := hkk 5
    have k2 := hkk 2
    simp only [show (3 : UInt8).toNat = 3 from rfl, show (4 : UInt8).toNat = 4 from rfl, show (5 : UInt8).toNat = 5 from rfl, show (2 : UInt8).toNat = 2 from rfl] at k2 k3 k4 k5
    simp only [k2, k3, k4, k5, Bool.and_eq_true, decide_eq_true_eq, hL0]
    generalize n.kind.toNat = K at *
    obtain rfl | rfl | rfl | rfl | rfl : K = 1 ∨ K = 2 ∨ K = 3 ∨ K = 4 ∨ K = 5 := by omega
    all_goals simp [hS0]
    all_goals omega
  have hsl := n.size.toNat_lt
  have hll := n.links.toNat_lt
  have hkl := n.kind.toNat_lt
  obtain ⟨r, hr⟩ : ∃ r, checkE n = r := ⟨_, rfl⟩
  rw [hr]
  clear hn hL0 hS0 hkk
  go_enter Try.func80, Try.ntmps80
  go_upto_region 1 with (fail)
  refine at_world (fun W => ∃ g, g = w.heap.size ∧ Below w.heap.size w W ∧ Blk W g 52 n.cells.toArray) ⟨_, rfl, (Below.refl _ _).alloc (Nat.le_refl _) _, Blk.new _ _ _⟩ (fun w1 h1 => ?_)
  obtain ⟨g, hg, hb1, hG⟩ := h1
  rw [← hg]
  have c0 := (hG.cell 0).trans (node_cells_at n).1
  have c1 := (hG.cell 1).trans (node_cells_at n).2.1
  have c3 := (hG.cell 3).trans (node_cells_at n).2.2.2
  have gl := hG.lt
  have HB := hide hb1
  clear hg hb1
  rcases Nat.lt_or_ge n.kind.toNat 1 with h | h1
  · have hK0 : n.kind.toNat = 0 := by omega
    have hck : checkN n = blankN n := by
      unfold checkN
      rw [if_pos (UInt8.toNat_inj.1 (by simpa using hK0))]
    rw [hK0] at c0
    cases hbk : blankN n with
    | true =>
      have HR := hide (show r = 0 by rw [← hr, checkE, hck, hbk]; rfl)
      have HBK := hide hbk
      clear hC hr hck hbk h hK0 c1 c3
      go_wp2_with (first | ((with_reducible refine at_load 52 (.tmp 1) ?_); refine wpList_load_blk rfl 52 (.tmp 1) rfl g _ _ _ (by rfl) hG Try.underlying52 rfl (size_nodeOf HN.out) ?_) | fail)
      refine (blank_ok w1 HN.out).mono ?_
      rw [HBK.out]
      rintro e w2 ⟨rfl, hb2⟩
      have HB2 := hide (HB.out.trans (hb2.mono HB.out.size))
      clear hb2
      go_wp2
      go_returns
      exact ⟨by first | (rw [HR.out]; rfl) | rfl, HB2.out⟩
    | false =>
      have HR := hide (show r = 28 by rw [← hr, checkE, hck, hbk]; rfl)
      have HBK := hide hbk
      clear hC hr hck hbk h hK0 c1 c3
      go_wp2_with (first | ((with_reducible refine at_load 52 (.tmp 1) ?_); refine wpList_load_blk rfl 52 (.tmp 1) rfl g _ _ _ (by rfl) hG Try.underlying52 rfl (size_nodeOf HN.out) ?_) | fail)
      refine (blank_ok w1 HN.out).mono ?_
      rw [HBK.out]
      rintro e w2 ⟨rfl, hb2⟩
      have HB2 := hide (HB.out.trans (hb2.mono HB.out.size))
      clear hb2
      go_wp2
      go_returns
      exact ⟨by first | (rw [HR.out]; rfl) | rfl, HB2.out⟩
  rcases Nat.lt_or_ge 5 n.kind.toNat with h | h5
  · have hck : checkN n = false := by
      unfold checkN
      rw [if_neg (fun e => by rw [e] at h; simp at h), if_neg (by omega)]
    have HR := hide (show r = 28 by rw [← hr, checkE, hck]; rfl)
    generalize n.kind.toNat = K at c0 h
    have t0 : ((K : Int) == 0) = false := by simp; omega
    have t1 : ((K : Int) == 1) = false := by simp; omega
    have t2 : ((K : Int) == 2) = false := by simp; omega
    have t3 : ((K : Int) == 3) = false := by simp; omega
    have t4 : ((K : Int) == 4) = false := by simp; omega
    have t5 : ((K : Int) == 5) = false := by simp; omega
    clear hC hr hck c1 c3
    go_wp2
    go_returns
    exact ⟨by first | (rw [HR.out]; rfl) | rfl, HB.out⟩
  have hC' := hC h1 h5
  generalize n.size.toNat = S at c3 hC' hsl
  generalize n.links.toNat = L at c1 hC' hll
  generalize hK : n.kind.toNat = K at c0 hC' h1 h5 hkl
  have hR0 : checkN n = true → r = 0 := fun h => by rw [← hr, checkE, if_pos h]
  have hR28 : ¬ checkN n = true → r = 28 := fun h => by rw [← hr, checkE, if_neg h]
  rw [hC'] at hR0 hR28
  clear hC hC' hK hr
  obtain rfl | rfl | rfl | rfl | rfl : K = 1 ∨ K = 2 ∨ K = 3 ∨ K = 4 ∨ K = 5 := by omega
  · by_cases a1 : L = 0
    · have b1 : ((L : Int) == 0) = true := by simp [a1]
      have hr2 : r = 28 := hR28 (by omega)
      have HR := hide hr2
      clear a1 hr2
      go_wp2
      go_returns
      exact ⟨by first | (rw [HR.out]; rfl) | rfl, HB.out⟩
    have b1 : ((L : Int) == 0) = false := by simp; omega
    by_cases a2 : S ≤ 16384
    rotate_left
    · have b2 : decide ((16384 : Int) < S) = true := by simp; omega
      have hr2 : r = 28 := hR28 (by omega)
      have HR := hide hr2
      clear hr2
      go_wp2
      go_returns
      exact ⟨by first | (rw [HR.out]; rfl) | rfl, HB.out⟩
    have b2 : decide ((16384 : Int) < S) = false := by simp; omega
    have hr2 : r = 0 := hR0 (by omega)
    have HR := hide hr2
    clear hr2
    go_wp2
    go_returns
    exact ⟨by first | (rw [HR.out]; rfl) | rfl, HB.out⟩
  · by_cases a1 : L = 0
    · have b1 : ((L : Int) == 0) = true := by simp [a1]
      have hr2 : r = 28 := hR28 (by omega)
      have HR := hide hr2
      clear a1 hr2
      go_wp2
      go_returns
      exact ⟨by first | (rw [HR.out]; rfl) | rfl, HB.out⟩
    have b1 : ((L : Int) == 0) = false := by simp; omega
    by_cases a2 : S ≤ 16384
    rotate_left
    · have b2 : decide ((16384 : Int) < S) = true := by simp; omega
      have hr2 : r = 28 := hR28 (by omega)
      have HR := hide hr2
      clear hr2
      go_wp2
      go_returns
      exact ⟨by first | (rw [HR.out]; rfl) | rfl, HB.out⟩
    have b2 : decide ((16384 : Int) < S) = false := by simp; omega
    by_cases a3 : S % 16 = 0
    · have b3 : ((S : Int) % 16 == 0) = true := by simp; omega
      have b4 : ((S : Int) % 16 != 0) = false := by simp; omega
      have hr2 : r = 0 := hR0 (by omega)
      have HR := hide hr2
      clear hr2
      go_wp2
      go_returns
      exact ⟨by first | (rw [HR.out]; rfl) | rfl, HB.out⟩
    · have b3 : ((S : Int) % 16 == 0) = false := by simp; omega
      have b4 : ((S : Int) % 16 != 0) = true := by simp; omega
      have hr2 : r = 28 := hR28 (by omega)
      have HR := hide hr2
      clear hr2
      go_wp2
      go_returns
      exact ⟨by first | (rw [HR.out]; rfl) | rfl, HB.out⟩
  · by_cases a3 : S = 0
    rotate_left
    · have b3 : ((S : Int) == 0) = false := by simp; omega
      have b4 : ((S : Int) != 0) = true := by simp; omega
      have hr2 : r = 28 := hR28 (by omega)
      have HR := hide hr2
      clear hr2
      go_wp2
      go_returns
      exact ⟨by first | (rw [HR.out]; rfl) | rfl, HB.out⟩
    have b3 : ((S : Int) == 0) = true := by simp [a3]
    have b4 : ((S : Int) != 0) = false := by simp [a3]
    have b2 : decide ((16384 : Int) < S) = false := by simp; omega
    by_cases a1 : L = 0
    · have b1 : ((L : Int) == 0) = true := by simp [a1]
      have hr2 : r = 28 := hR28 (by omega)
      have HR := hide hr2
      clear a1 a3 hr2
      go_wp2
      go_returns
      exact ⟨by first | (rw [HR.out]; rfl) | rfl, HB.out⟩
    have b1 : ((L : Int) == 0) = false := by simp; omega
    have hr2 : r = 0 := hR0 (by omega)
    have HR := hide hr2
    clear a3 hr2
    go_wp2
    go_returns
    exact ⟨by first | (rw [HR.out]; rfl) | rfl, HB.out⟩
  · by_cases a1 : L = 0
    · have b1 : ((L : Int) == 0) = true := by simp [a1]
      have hr2 : r = 28 := hR28 (by omega)
      have HR := hide hr2
      clear a1 hr2
      go_wp2
      go_returns
      exact ⟨by first | (rw [HR.out]; rfl) | rfl, HB.out⟩
    have b1 : ((L : Int) == 0) = false := by simp; omega
    by_cases a2 : S ≤ 16384
    rotate_left
    · have b2 : decide ((16384 : Int) < S) = true := by simp; omega
      have hr2 : r = 28 := hR28 (by omega)
      have HR := hide hr2
      clear hr2
      go_wp2
      go_returns
      exact ⟨by first | (rw [HR.out]; rfl) | rfl, HB.out⟩
    have b2 : decide ((16384 : Int) < S) = false := by simp; omega
    by_cases a3 : S = 0
    · have b3 : ((S : Int) == 0) = true := by simp [a3]
      have hr2 : r = 28 := hR28 (by omega)
      have HR := hide hr2
      clear hr2
      go_wp2
      go_returns
      exact ⟨by first | (rw [HR.out]; rfl) | rfl, HB.out⟩
    have b3 : ((S : Int) == 0) = false := by simp; omega
    by_cases a4 : S ≤ 60
    · have b4 : decide ((60 : Int) < S) = false := by simp; omega
      have hr2 : r = 0 := hR0 (by omega)
      have HR := hide hr2
      clear hr2
      go_wp2
      go_returns
      exact ⟨by first | (rw [HR.out]; rfl) | rfl, HB.out⟩
    · have b4 : decide ((60 : Int) < S) = true := by simp; omega
      have hr2 : r = 28 := hR28 (by omega)
      have HR := hide hr2
      clear hr2
      go_wp2
      go_returns
      exact ⟨by first | (rw [HR.out]; rfl) | rfl, HB.out⟩
  · by_cases a3 : S = 0
    rotate_left
    · have b3 : ((S : Int) == 0) = false := by simp; omega
      have b4 : ((S : Int) != 0) = true := by simp; omega
      have hr2 : r = 28 := hR28 (by omega)
      have HR := hide hr2
      clear hr2
      go_wp2
      go_returns
      exact ⟨by first | (rw [HR.out]; rfl) | rfl, HB.out⟩
    have b3 : ((S : Int) == 0) = true := by simp [a3]
    have b4 : ((S : Int) != 0) = false := by simp [a3]
    have b2 : decide ((16384 : Int) < S) = false := by simp; omega
    by_cases a1 : L = 0
    · have b1 : ((L : Int) == 0) = true := by simp [a1]
      have hr2 : r = 28 := hR28 (by omega)
      have HR := hide hr2
      clear a1 a3 hr2
      go_wp2
      go_returns
      exact ⟨by first | (rw [HR.out]; rfl) | rfl, HB.out⟩
    have b1 : ((L : Int) == 0) = false := by simp; omega
    have hr2 : r = 0 := hR0 (by omega)
    have HR := hide hr2
    clear a3 hr2
    go_wp2
    go_returns
    exact ⟨by first | (rw [HR.out]; rfl) | rfl, HB.out⟩
end
end Go.Proofs.Ytoeejeieplhifaa

/- A nil group's calls, walked. -/
import Derived.Test.YtoeejeieplhifaaFsGrp1
namespace Go.Proofs.Ytoeejeieplhifaa
open Go.RowKit
set_option linter.unusedSimpArgs false
set_option linter.unusedVariables false

set_option maxRecDepth 100000 in
theorem none_take (w : World) : Calls Try.prog 20 #[.pointer none] w fun e w' => e = .returned (.tuple #[.int .u16 0, .int .i64 1]) ∧ w = w' := by
  go_enter Try.func20, Try.ntmps20
  go_wp2
  go_returns
  exact ⟨rfl, rfl⟩
set_option maxRecDepth 100000 in
theorem none_make (w : World) (k : Int) : Calls Try.prog 21 #[.pointer none, .int .u8 k] w fun e w' => e = .returned (.tuple #[.int .i64 0, .int .i64 1]) ∧ w = w' := by
  go_enter Try.func21, Try.ntmps21
  go_wp2
  go_returns
  exact ⟨rfl, rfl⟩
set_option maxRecDepth 100000 in
theorem none_link (w : World) (m n : Int) : Calls Try.prog 15 #[.pointer none, .int .i64 m, .int .i64 n] w fun e w' => e = .returned (.tuple #[.int .i64 0, .int .i64 1]) ∧ w = w' := by
  go_enter Try.func15, Try.ntmps15
  go_wp2
  go_returns
  exact ⟨rfl, rfl⟩
set_option maxRecDepth 100000 in
theorem none_usage (w : World) : Calls Try.prog 24 #[.pointer none] w fun e w' => e = .returned (.tuple #[.int .i64 0, .int .i64 0, .int .i64 1]) ∧ w = w' := by
  go_enter Try.func24, Try.ntmps24
  go_wp2
  go_returns
  exact ⟨rfl, rfl⟩
set_option maxRecDepth 100000 in
theorem none_give (w : World) (n : Int) : Calls Try.prog 26 #[.pointer none, .int .u16 n] w fun e w' => e = .returned (.int .i64 1) ∧ w = w' := by
  go_enter Try.func26, Try.ntmps26
  go_wp2
  go_returns
  exact ⟨rfl, rfl⟩
set_option maxRecDepth 100000 in
theorem none_lab (w : World) : Calls Try.prog 68 #[.pointer none] w fun e w' => e = .returned (.int .i64 0) ∧ w = w' := by
  go_enter Try.func68, Try.ntmps68
  go_wp2
  go_returns
  exact ⟨rfl, rfl⟩
set_option maxRecDepth 100000 in
theorem none_put (w : World) (n : Int) (b : BlkV) : Calls Try.prog 27 #[.pointer none, .int .u16 n, bval b] w fun e w' => e = .returned (.int .i64 1) ∧ Below w.heap.size w w' := by
  go_enter Try.func27, Try.ntmps27
  go_upto_region 1 with (fail)
  refine at_world (fun W => Below w.heap.size w W) ((Below.refl _ _).alloc (Nat.le_refl _) _) (fun w1 h1 => ?_)
  have H := hide h1
  clear h1
  go_wp2
  go_returns
  exact ⟨rfl, H.out⟩
set_option maxRecDepth 100000 in
theorem none_set (w : World) (n : Int) (v : NodeV) : Calls Try.prog 30 #[.pointer none, .int .i64 n, v.val] w fun e w' => e = .returned (.int .i64 1) ∧ Below w.heap.size w w' := by
  go_enter Try.func30, Try.ntmps30
  go_upto_region 1 with (fail)
  refine at_world (fun W => Below w.heap.size w W) ((Below.refl _ _).alloc (Nat.le_refl _) _) (fun w1 h1 => ?_)
  have H := hide h1
  clear h1
  go_wp2
  go_returns
  exact ⟨rfl, H.out⟩
set_option maxRecDepth 100000 in
theorem none_get (w : World) (n : Int) : Calls Try.prog 29 #[.pointer none, .int .u16 n] w fun e w' => e = .returned (.tuple #[bval zeroB, .int .i64 1]) ∧ Below w.heap.size w w' := by
  go_enter Try.func29, Try.ntmps29
  go_upto_region 1 with (first | ((with_reducible refine at_alloc 67 ?_); refine wpList_alloc_as rfl 67 rfl _ (zero_block _) ?_) | fail)
  refine at_world (fun W => ∃ p, p = w.heap.size ∧ Below w.heap.size w W ∧ Blk W p 67 (bvs zeroB).toArray) ⟨_, rfl, (Below.refl _ _).alloc (Nat.le_refl _) _, Blk.new _ _ _⟩ (fun w1 hw1 => ?_)
  obtain ⟨p, hp, hb1, hP⟩ := hw1
  rw [← hp]
  have hwp : w.heap.size ≤ p := Nat.le_of_eq hp.symm
  have HB := hide hb1
  clear hp hb1
  go_wp2_with (first | ((with_reducible refine at_build 67 #[] ?_); refine wpList_zero_as rfl 67 rfl _ (build_block _) ?_) | ((with_reducible refine at_store 67 (.tmp 4) (.tmp 9) ?_); refine wpList_store_blk rfl 67 (.tmp 4) (.tmp 9) rfl p 67 _ _ (by rfl) (by rfl) hP (size_blockOf zeroB_length) ((bvs_size zeroB_length).trans (bvs_size zeroB_length).symm) (bvs_oneCell _) (fun hB3 => ?_)) | ((with_reducible refine at_end ?_); refine bodyPost_ret (v := .tuple #[bval zeroB, .int .i64 1]) (results_run2 rfl (ResV.row rfl hB3 Try.underlying67 rfl (size_blockOf zeroB_length)) rfl) rfl ⟨rfl, below_setRow HB.out hwp _⟩) | fail)
set_option maxRecDepth 100000 in
theorem none_node (w : World) (n : Int) : Calls Try.prog 16 #[.pointer none, .int .i64 n] w fun e w' => e = .returned (.tuple #[NodeV.zero.val, .int .i64 1]) ∧ Below w.heap.size w w' := by
  go_enter Try.func16, Try.ntmps16
  go_upto_region 1 with (first | ((with_reducible refine at_alloc 52 ?_); refine wpList_alloc_as rfl 52 rfl _ (zero_node _) ?_) | fail)
  refine at_world (fun W => ∃ p, p = w.heap.size ∧ Below w.heap.size w W ∧ Blk W p 52 NodeV.zero.cells.toArray) ⟨_, rfl, (Below.refl _ _).alloc (Nat.le_refl _) _, Blk.new _ _ _⟩ (fun w1 hw1 => ?_)
  obtain ⟨p, hp, hb1, hP⟩ := hw1
  rw [← hp]
  have hwp : w.heap.size ≤ p := Nat.le_of_eq hp.symm
  have HB := hide (And.intro hb1 hP)
  clear hp hb1 hP
  go_wp2_with (first | ((with_reducible refine at_build 52 #[] ?_); refine wpList_zero_as rfl 52 rfl _ (build_node _) ?_) | ((with_reducible refine at_store 52 (.tmp 4) (.tmp 8) ?_); refine wpList_store_blk rfl 52 (.tmp 4) (.tmp 8) rfl p _ _ _ (by rfl) (by rfl) HB.out.2 (size_nodeOf (n := NodeV.zero) rfl) rfl (NodeV.cells_one NodeV.zero) (fun hB3 => ?_)) | ((with_reducible refine at_end ?_); refine bodyPost_ret (v := .tuple #[NodeV.zero.val, .int .i64 1]) (results_run2 rfl (ResV.row rfl hB3 Try.underlying52 rfl (size_nodeOf (n := NodeV.zero) rfl)) rfl) rfl ⟨rfl, below_setRow HB.out.1 hwp _⟩) | fail)
set_option maxRecDepth 100000 in
theorem none_wipe (w : World) (n : Int) : Calls Try.prog 28 #[.pointer none, .int .i64 n] w fun e w' => e = .returned (.int .i64 1) ∧ Below w.heap.size w w' := by
  go_enter Try.func28, Try.ntmps28
  go_wp2_with fail
  refine (none_node w n).mono ?_
  rintro e w1 ⟨rfl, hb1⟩
  have HB := hide hb1
  clear hb1
  go_upto_region 2 with (first | ((with_reducible refine at_alloc 52 ?_); refine wpList_alloc_as rfl 52 rfl _ (zero_node _) ?_) | ((with_reducible refine at_store 52 (.tmp 5) (.tmp 11) ?_); refine wpList_store_blk rfl 52 (.tmp 5) (.tmp 11) rfl w1.heap.size _ _ _ (by rfl) (by rfl) (Blk.new _ _ _) (size_nodeOf (n := NodeV.zero) rfl) rfl (NodeV.cells_one NodeV.zero) (fun _ => ?_)) | fail)
  refine at_world (fun W => Below w.heap.size w W) (below_setRow (HB.out.alloc HB.out.size _) HB.out.size _) (fun w2 h2 => ?_)
  have H := hide h2
  clear h2
  go_wp2
  go_returns
  exact ⟨rfl, H.out⟩
set_option maxRecDepth 100000 in
theorem none_ino (w : World) (n : Int) : Calls Try.prog 67 #[.pointer none, .int .i64 n] w fun e w' => e = .returned (.tuple #[.agg #[.int .u8 0, .int .u16 0, .int .u16 0], .int .i64 1]) ∧ Below w.heap.size w w' := by
  go_enter Try.func67, Try.ntmps67
  go_wp2_with fail
  have hp0 : Blk (w.alloc (.cells #[.int .u8 0, .int .u16 0, .int .u16 0] 153)) w.heap.size 153 #[.int .u8 0, .int .u16 0, .int .u16 0] := Blk.new w _ _
  have hb0 : Below w.heap.size w (w.alloc (.cells #[.int .u8 0, .int .u16 0, .int .u16 0] 153)) := (Below.refl _ _).alloc (Nat.le_refl _) _
  refine (none_node _ n).mono ?_
  rintro e w1 ⟨rfl, hb1⟩
  have hp1 := hp0.below hb1 hp0.lt
  have hwb : Below w.heap.size w w1 := hb0.trans (hb1.mono hb0.size)
  obtain ⟨p, hp⟩ : ∃ p, p = w.heap.size := ⟨_, rfl⟩
  rw [← hp] at hp1 ⊢
  have hwp : w.heap.size ≤ p := Nat.le_of_eq hp.symm
  have HB := hide (And.intro hwb hp1)
  clear hb1 hp1 hp0 hb0 hwb hp
  go_upto_region 2 with (first | ((with_reducible refine at_alloc 52 ?_); refine wpList_alloc_as rfl 52 rfl _ (zero_node _) ?_) | ((with_reducible refine at_store 52 (.tmp 6) (.tmp 12) ?_); refine wpList_store_blk rfl 52 (.tmp 6) (.tmp 12) rfl w1.heap.size _ _ _ (by rfl) (by rfl) (Blk.new _ _ _) (size_nodeOf (n := NodeV.zero) rfl) rfl (NodeV.cells_one NodeV.zero) (fun _ => ?_)) | fail)
  refine at_world (fun W => Below w.heap.size w W ∧ Blk W p 153 #[.int .u8 0, .int .u16 0, .int .u16 0]) ⟨below_setRow (HB.out.1.alloc HB.out.1.size _) HB.out.1.size _, (HB.out.2.alloc _).setRow_far (Nat.ne_of_lt HB.out.2.lt) _⟩ (fun w2 h2 => ?_)
  obtain ⟨hb2, hp2⟩ := h2
  have H := hide (And.intro hb2 hp2)
  have c0 := hp2.cell 0
  have f0 := hp2.frozen 0
  have c1 := hp2.cell 1
  have f1 := hp2.frozen 1
  have c2 := hp2.cell 2
  have f2 := hp2.frozen 2
  have cl := hp2.lt
  clear hb2 hp2 HB
  go_wp2
  have hB := ((H.out.2.set_ 0 (.int .u8 0)).set_ 1 (.int .u16 0)).set_ 2 (.int .u16 0)
  exact bodyPost_ret (results_run2 rfl (ResV.struct rfl hB Try.underlying153 (by kernel_rfl)) rfl) rfl ⟨rfl, ((H.out.1.setCell hwp _).setCell hwp _).setCell hwp _⟩
end Go.Proofs.Ytoeejeieplhifaa

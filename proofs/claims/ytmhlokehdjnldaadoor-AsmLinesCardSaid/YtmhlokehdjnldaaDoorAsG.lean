/- Programs' texts: the document's Check. Printed by wip/tools/asrefc.py. -/
import Derived.Test.YtmhlokehdjnldaaDoorAsF
namespace Go.Proofs.YtmhlokehdjnldaaDoor
open Go.RowKit Go.WideMaps
set_option linter.unusedSimpArgs false
set_option linter.unusedVariables false

theorem eqk (x k : Nat) : decide (x = k) = ((x : Int) == (k : Int)) := by
  by_cases h : x = k
  · simp [h]
  · rw [decide_eq_false h]; symm; simp; omega
set_option maxRecDepth 100000 in
set_option maxHeartbeats 4000000 in
theorem refcheck_ok (o x y z : Nat) (ho : o < 256) (w : World) : Calls Tryd.prog 15 #[.agg (insC o x y z)] w fun e w' => e = .returned (.int .i64 (checkA o x y z)) ∧ Below w.heap.size w w' := by
  go_enter Tryd.func15, Tryd.ntmps15
  go_upto_region 1 with (fail)
  refine at_world (fun W => ∃ b, b = w.heap.size ∧ Blk W b 38 (insC o x y z) ∧ Below w.heap.size w W) ⟨_, rfl, Blk.new _ _ _, below1 _ _⟩ (fun w1 h1 => ?_)
  obtain ⟨b, hb, hB, hbl⟩ := h1
  rw [← hb]
  have R1 := hide hB
  have B1 := hide hbl
  clear hb hB hbl
  obtain ⟨p, hp⟩ : ∃ p, decide ((x : Int) < 16) = p := ⟨_, rfl⟩
  have Np : Hid (decide (x < 16) = p) := hide (by rw [← hp]; congr 1; simp; try omega)
  obtain ⟨q, hq⟩ : ∃ q, decide ((y : Int) < 16) = q := ⟨_, rfl⟩
  have Nq : Hid (decide (y < 16) = q) := hide (by rw [← hq]; congr 1; simp; try omega)
  obtain ⟨r, hr⟩ : ∃ r, decide ((z : Int) < 16) = r := ⟨_, rfl⟩
  have Nr : Hid (decide (z < 16) = r) := hide (by rw [← hr]; congr 1; simp; try omega)
  obtain ⟨px, hpx⟩ : ∃ px, ((x : Int) == 0) = px := ⟨_, rfl⟩
  have Npx : Hid (decide (x = 0) = px) := hide (by rw [← hpx]; exact eqk x 0)
  obtain ⟨qy, hqy⟩ : ∃ qy, ((y : Int) == 0) = qy := ⟨_, rfl⟩
  have Nqy : Hid (decide (y = 0) = qy) := hide (by rw [← hqy]; exact eqk y 0)
  obtain ⟨rz, hrz⟩ : ∃ rz, ((z : Int) == 0) = rz := ⟨_, rfl⟩
  have Nrz : Hid (decide (z = 0) = rz) := hide (by rw [← hrz]; exact eqk z 0)
  obtain ⟨e8, he8⟩ : ∃ e8, ((z : Int) == 8) = e8 := ⟨_, rfl⟩
  have Ne8 : Hid (decide (z = 8) = e8) := hide (by rw [← he8]; exact eqk z 8)
  obtain ⟨e16, he16⟩ : ∃ e16, ((z : Int) == 16) = e16 := ⟨_, rfl⟩
  have Ne16 : Hid (decide (z = 16) = e16) := hide (by rw [← he16]; exact eqk z 16)
  refine wp_region_tree (.q 0 (.q 1 (.q 2 (.q 3 (.q 4 (.q 5 (.q 6 (.q 7 (.q 8 (.q 9 (.q 10 (.q 11 .nil)))))))))))) (fun W => Blk W b 38 (insC o x y z)) (by kernel_rfl) (by kernel_rfl) R1.out ?_
  iterate 12 (refine wpT_q (v := ?_) (by simp only [List.getElem?_toArray, List.getElem?_cons_succ, List.getElem?_cons_zero]; try rfl) (by rfl) (fun W hW => ?_) ?_; rotate_left; (focus (have hW : Blk _ _ _ _ := hW; have x0 := hW.cell 0; have x1 := hW.cell 1; have x2 := hW.cell 2; have x3 := hW.cell 3; have xl := hW.lt; clear hW; go_simp; try with_reducible rfl)); try simp only [Act.put, List.setIfInBounds_toArray, List.set_cons_zero, List.set_cons_succ])
  refine wpT_nil ?_
  refine at_world (fun W => Blk W b 38 (insC o x y z) ∧ Below w.heap.size w W) ⟨R1.out.drew, B1.out.drew⟩ (fun w2 h2 => ?_)
  have R2 := hide h2.1
  have B2 := hide h2.2
  have x0 := h2.1.cell 0
  have xl := h2.1.lt
  clear h2 R1 B1
  have v1 : IntKind.i64.wrap (o : Int) = (o : Int) := IntWalk.i64_in _ (by omega)
  go_wp2_with fail
  clear v1
  refine (form_ok o _).mono ?_
  rintro e w3 ⟨rfl, hb3⟩
  have R3 := hide (R2.out.below hb3 R2.out.lt)
  have B3 := hide (B2.out.trans (hb3.mono B2.out.size))
  have r3 : Blk _ _ _ _ := R3.out
  have x1 := r3.cell 1
  have x2 := r3.cell 2
  have x3 := r3.cell 3
  have xl3 := r3.lt
  clear hb3 R2 B2 x0 xl r3
  by_cases hf9 : formA o = 9
  · have HC : Hid (checkA o x y z = 32) := hide (by unfold checkA; rw [if_pos hf9])
    rw [show formV o = -1 by unfold formV; rw [if_pos hf9]]
    clear hf9
    go_wp2_with (first | ((with_reducible refine at_end ?_); refine bodyPost_ret (v := .int .i64 32) (results_run1 rfl rfl) rfl ⟨by rw [HC.out], B3.out⟩) | fail)
  have hf8 : formA o ≤ 8 := by have := formA_le o; omega
  have hcs := form_cases o hf8
  obtain ⟨f, hf⟩ : ∃ f, formA o = f := ⟨_, rfl⟩
  have HC : Hid (checkA o x y z = if rightA f x y z = true then 0 else 28) := hide (by unfold checkA; rw [if_neg hf9, hf])
  rw [show formV o = (f : Int) by unfold formV; rw [if_neg hf9, hf]]
  rw [hf] at hcs
  clear hf hf9 hf8
  rcases hcs with rfl | rfl | rfl | rfl | rfl | rfl | rfl | rfl | rfl
  · have HR : Hid (checkA o x y z = if (px && (qy && rz)) = true then 0 else 28) := hide (by rw [HC.out]; unfold rightA; simp only [Npx.out, Nqy.out, Nrz.out])
    clear HC
    cases px <;> cases qy <;> cases rz <;>
    ( go_wp2_with (first | ((with_reducible refine at_end ?_); refine bodyPost_ret (v := .int .i64 0) (results_run1 rfl rfl) rfl ⟨by rw [HR.out]; rfl, B3.out⟩) | ((with_reducible refine at_end ?_); refine bodyPost_ret (v := .int .i64 28) (results_run1 rfl rfl) rfl ⟨by rw [HR.out]; rfl, B3.out⟩) | fail))
  · have HR : Hid (checkA o x y z = if (p && (qy && rz)) = true then 0 else 28) := hide (by rw [HC.out]; unfold rightA; simp only [Np.out, Nqy.out, Nrz.out])
    clear HC
    cases p <;> cases qy <;> cases rz <;>
    ( go_wp2_with (first | ((with_reducible refine at_end ?_); refine bodyPost_ret (v := .int .i64 0) (results_run1 rfl rfl) rfl ⟨by rw [HR.out]; rfl, B3.out⟩) | ((with_reducible refine at_end ?_); refine bodyPost_ret (v := .int .i64 28) (results_run1 rfl rfl) rfl ⟨by rw [HR.out]; rfl, B3.out⟩) | fail))
  · have HR : Hid (checkA o x y z = if (p && q && rz) = true then 0 else 28) := hide (by rw [HC.out]; unfold rightA; simp only [Np.out, Nq.out, Nrz.out])
    clear HC
    cases p <;> cases q <;> cases rz <;>
    ( go_wp2_with (first | ((with_reducible refine at_end ?_); refine bodyPost_ret (v := .int .i64 0) (results_run1 rfl rfl) rfl ⟨by rw [HR.out]; rfl, B3.out⟩) | ((with_reducible refine at_end ?_); refine bodyPost_ret (v := .int .i64 28) (results_run1 rfl rfl) rfl ⟨by rw [HR.out]; rfl, B3.out⟩) | fail))
  · have HR : Hid (checkA o x y z = if (p && q && r) = true then 0 else 28) := hide (by rw [HC.out]; unfold rightA; simp only [Np.out, Nq.out, Nr.out])
    clear HC
    cases p <;> cases q <;> cases r <;>
    ( go_wp2_with (first | ((with_reducible refine at_end ?_); refine bodyPost_ret (v := .int .i64 0) (results_run1 rfl rfl) rfl ⟨by rw [HR.out]; rfl, B3.out⟩) | ((with_reducible refine at_end ?_); refine bodyPost_ret (v := .int .i64 28) (results_run1 rfl rfl) rfl ⟨by rw [HR.out]; rfl, B3.out⟩) | fail))
  · have HR : Hid (checkA o x y z = if (p && q) = true then 0 else 28) := hide (by rw [HC.out]; unfold rightA; simp only [Np.out, Nq.out])
    clear HC
    cases p <;> cases q <;>
    ( go_wp2_with (first | ((with_reducible refine at_end ?_); refine bodyPost_ret (v := .int .i64 0) (results_run1 rfl rfl) rfl ⟨by rw [HR.out]; rfl, B3.out⟩) | ((with_reducible refine at_end ?_); refine bodyPost_ret (v := .int .i64 28) (results_run1 rfl rfl) rfl ⟨by rw [HR.out]; rfl, B3.out⟩) | fail))
  · have HR : Hid (checkA o x y z = if p = true then 0 else 28) := hide (by rw [HC.out]; unfold rightA; simp only [Np.out])
    clear HC
    cases p <;>
    ( go_wp2_with (first | ((with_reducible refine at_end ?_); refine bodyPost_ret (v := .int .i64 0) (results_run1 rfl rfl) rfl ⟨by rw [HR.out]; rfl, B3.out⟩) | ((with_reducible refine at_end ?_); refine bodyPost_ret (v := .int .i64 28) (results_run1 rfl rfl) rfl ⟨by rw [HR.out]; rfl, B3.out⟩) | fail))
  · have HR : Hid (checkA o x y z = if px = true then 0 else 28) := hide (by rw [HC.out]; unfold rightA; simp only [Npx.out])
    clear HC
    cases px <;>
    ( go_wp2_with (first | ((with_reducible refine at_end ?_); refine bodyPost_ret (v := .int .i64 0) (results_run1 rfl rfl) rfl ⟨by rw [HR.out]; rfl, B3.out⟩) | ((with_reducible refine at_end ?_); refine bodyPost_ret (v := .int .i64 28) (results_run1 rfl rfl) rfl ⟨by rw [HR.out]; rfl, B3.out⟩) | fail))
  · have HR : Hid (checkA o x y z = if (p && q && (e8 || e16)) = true then 0 else 28) := hide (by rw [HC.out]; unfold rightA; simp only [Np.out, Nq.out, Ne8.out, Ne16.out])
    clear HC
    cases p <;> cases q <;> cases e8 <;> cases e16 <;>
    ( go_wp2_with (first | ((with_reducible refine at_end ?_); refine bodyPost_ret (v := .int .i64 0) (results_run1 rfl rfl) rfl ⟨by rw [HR.out]; rfl, B3.out⟩) | ((with_reducible refine at_end ?_); refine bodyPost_ret (v := .int .i64 28) (results_run1 rfl rfl) rfl ⟨by rw [HR.out]; rfl, B3.out⟩) | fail))
  · have HR : Hid (checkA o x y z = if (px && rz) = true then 0 else 28) := hide (by rw [HC.out]; unfold rightA; simp only [Npx.out, Nrz.out])
    clear HC
    cases px <;> cases rz <;>
    ( go_wp2_with (first | ((with_reducible refine at_end ?_); refine bodyPost_ret (v := .int .i64 0) (results_run1 rfl rfl) rfl ⟨by rw [HR.out]; rfl, B3.out⟩) | ((with_reducible refine at_end ?_); refine bodyPost_ret (v := .int .i64 28) (results_run1 rfl rfl) rfl ⟨by rw [HR.out]; rfl, B3.out⟩) | fail))
end Go.Proofs.YtmhlokehdjnldaaDoor

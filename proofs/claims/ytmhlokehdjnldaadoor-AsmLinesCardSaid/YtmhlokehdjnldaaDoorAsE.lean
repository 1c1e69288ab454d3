/- Programs' texts: asm.Line. Printed by wip/tools/asline.py. -/
import Derived.Test.YtmhlokehdjnldaaDoorAsI
namespace Go.Proofs.YtmhlokehdjnldaaDoor
open Go.RowKit Go.WideMaps
set_option linter.unusedSimpArgs false
set_option linter.unusedVariables false

theorem fin_yes {o x y z : Nat} {t : ByteArray} (hc : checkA o x y z = 0) (h : t.data.toList = lineT o x y z) : Ending.returned (.tuple #[.string t, .bool true]) = Ending.returned (.tuple #[.string (str (if checkA o x y z = 0 then lineT o x y z else [])), .bool (decide (checkA o x y z = 0))]) := by
  rw [if_pos hc, ← h, hc]
  rfl
theorem fin_no {o x y z : Nat} (hc : ¬ checkA o x y z = 0) : Ending.returned (.tuple #[.string ⟨#[]⟩, .bool false]) = Ending.returned (.tuple #[.string (str (if checkA o x y z = 0 then lineT o x y z else [])), .bool (decide (checkA o x y z = 0))]) := by
  rw [if_neg hc, decide_eq_false hc]
  rfl
theorem formA_le (o : Nat) : formA o ≤ 9 := by
  unfold formA
  rw [List.getD_eq_getElem?_getD]
  rcases Nat.lt_or_ge o 40 with h | h
  · have : ∀ o, o < 40 → ([9, 2, 5, 5, 5, 3, 3, 3, 3, 3, 3, 3, 3, 3, 3, 3, 3, 3, 3, 3, 3, 4, 4, 4, 4, 4, 4, 4, 4, 4, 6, 5, 5, 6, 0, 1, 7, 2, 2, 8][o]?).getD 9 ≤ 9 := by decide
    exact this o h
  · rw [List.getElem?_eq_none (by simpa using h)]; exact Nat.le_refl _
theorem name_len4 (o : Nat) : (opNames.getD o []).length ≤ 4 := by
  rcases Nat.lt_or_ge o 40 with h | h
  · have : ∀ o, o < 40 → (opNames.getD o []).length ≤ 4 := by decide
    exact this o h
  · rw [List.getD_eq_getElem?_getD, List.getElem?_eq_none (by simpa [opNames] using h)]; exact Nat.zero_le _
set_option maxRecDepth 100000 in
set_option maxHeartbeats 4000000 in
theorem line_walk (o x y z : Nat) (hx : x < 256) (hy : y < 256) (hz : z < 256) (w : World) : Calls Tryd.prog 14 #[.agg (insC o x y z)] w fun e w' =>
    e = .returned (.tuple #[.string (str (if checkA o x y z = 0 then lineT o x y z else [])), .bool (decide (checkA o x y z = 0))]) ∧ Below w.heap.size w w' := by
  go_enter Tryd.func14, Tryd.ntmps14
  go_upto_region 1 with (fail)
  refine at_world (fun W => ∃ b, b = w.heap.size ∧ Blk W b 38 (insC o x y z) ∧ Below w.heap.size w W) ⟨_, rfl, Blk.new _ _ _, below1 _ _⟩ (fun w1 h1 => ?_)
  obtain ⟨b, hb, hB, hbl⟩ := h1
  rw [← hb]
  have R1 := hide hB
  have B1 := hide hbl
  clear hb hB hbl
  go_wp2_with (first | ((with_reducible refine at_load 38 (.tmp 1) ?_); refine wpList_load_blk rfl 38 (.tmp 1) rfl b _ _ _ (by rfl) R1.out Tryd.underlying38 rfl (size_ins _ _ _ _) ?_) | fail)
  refine (check_ok o x y z _).mono ?_
  rintro e w2 ⟨rfl, hb2⟩
  have R2 := hide (R1.out.below hb2 R1.out.lt)
  have B2 := hide (B1.out.trans (hb2.mono B1.out.size))
  obtain ⟨ck, hck⟩ : ∃ ck, checkA o x y z = ck := ⟨_, rfl⟩
  have HCK := hide hck
  rw [hck]
  clear hb2 R1 B1 hck
  by_cases h0 : ck = 0
  · have hf9 : formA o ≤ 8 := by
      have h1 := HCK.out
      rw [h0] at h1
      unfold checkA at h1
      have hlt : formA o ≤ 9 := formA_le o
      by_cases h9 : formA o = 9
      · rw [if_pos h9] at h1; cases h1
      · omega
    subst h0
    have t1 : decide ((0 : Int) = 0) = true := rfl
    have r2 : Blk _ _ _ _ := R2.out
    have x0 := r2.cell 0
    have xl := r2.lt
    clear r2
    go_wp2_with fail
    refine (of_ok o _).mono ?_
    rintro e w3 ⟨rfl, rfl⟩
    rw [if_neg (by omega : ¬ formA o = 9)]
    have hbt : decide (formA o ≠ 9) = true := by simp; omega
    rw [hbt]
    clear hbt
    have hcs := form_cases o hf9
    obtain ⟨f, hf⟩ : ∃ f, formA o = f := ⟨_, rfl⟩
    rw [hf] at hcs ⊢
    have HF := hide hf
    have ho40 : o < 40 := (formA_lt o (by omega)).2
    clear hf hf9
    go_wp2_with fail
    refine (name_ok o _).mono ?_
    rintro e w4 ⟨rfl, hb4⟩
    have R4 := hide (R2.out.below hb4 R2.out.lt)
    have B4 := hide (B2.out.trans (hb4.mono B2.out.size))
    obtain ⟨N, hN⟩ : ∃ N, str (opNames.getD o []) = N := ⟨_, rfl⟩
    obtain ⟨X, hX⟩ : ∃ X, str (regT x) = X := ⟨_, rfl⟩
    obtain ⟨Y, hY⟩ : ∃ Y, str (regT y) = Y := ⟨_, rfl⟩
    obtain ⟨Z, hZ⟩ : ∃ Z, str (regT z) = Z := ⟨_, rfl⟩
    have nN : N.size ≤ 100 := by rw [← hN, str_size]; have := name_len4 o; omega
    have nX : X.size ≤ 100 := by rw [← hX, str_size]; have := regT_256 hx; omega
    have nY : Y.size ≤ 100 := by rw [← hY, str_size]; have := regT_256 hy; omega
    have nZ : Z.size ≤ 100 := by rw [← hZ, str_size]; have := regT_256 hz; omega
    have zs : (⟨#[32]⟩ : ByteArray).size = 1 := rfl
    rw [hN]
    clear hb4 x0 xl t1 R2 B2
    rcases hcs with rfl | rfl | rfl | rfl | rfl | rfl | rfl | rfl | rfl
    · have HL : Hid (lineT o x y z = opNames.getD o []) := hide (by unfold lineT wordsT; rw [HF.out]; simp [joinW])
      go_wp2_with (first | ((with_reducible refine at_end ?_); refine bodyPost_ret (v := .tuple #[.string N, .bool true]) (results_run2 rfl rfl rfl) rfl ⟨fin_yes HCK.out (by rw [HL.out, ← hN]; simp [str]), B4.out⟩) | fail)
    · have HL : Hid (lineT o x y z = opNames.getD o [] ++ 32 :: regT x) := hide (by unfold lineT wordsT; rw [HF.out]; simp [joinW])
      have r4 : Blk _ _ _ _ := R4.out
      have x1 := r4.cell 1
      have x2 := r4.cell 2
      have x3 := r4.cell 3
      have xl := r4.lt
      clear r4
      go_wp2_with fail
      refine (reg_ok x hx _).mono ?_
      rintro e w5 ⟨rfl, hb5⟩
      have B5 := hide (B4.out.trans (hb5.mono B4.out.size))
      rw [hX]
      clear hb5 x1 x2 x3 xl
      have l1 : ¬ 9223372036854775807 < 1 + X.size := by omega
      have l2 : ¬ 9223372036854775807 < N.size + (1 + X.size) := by omega
      go_wp2_with (first | ((with_reducible refine at_end ?_); refine bodyPost_ret (v := .tuple #[.string (N ++ ((⟨#[32]⟩ : ByteArray) ++ X)), .bool true]) (results_run2 rfl rfl rfl) rfl ⟨fin_yes HCK.out (by rw [HL.out]; simp only [← hN, ← hX]; simp [str]), B5.out⟩) | fail)
    · have HL : Hid (lineT o x y z = opNames.getD o [] ++ 32 :: regT x ++ 32 :: regT y) := hide (by unfold lineT wordsT; rw [HF.out]; simp [joinW])
      have s1 := fun (W : World) => run_string_add_sum (P := Tryd.prog) (w := W) ((⟨#[32]⟩ : ByteArray)) (X) (by simp only [ByteArray.size_append, zs]; omega)
      have s2 := fun (W : World) => run_string_add_sum (P := Tryd.prog) (w := W) ((⟨#[32]⟩ : ByteArray) ++ X) ((⟨#[32]⟩ : ByteArray)) (by simp only [ByteArray.size_append, zs]; omega)
      have s3 := fun (W : World) => run_string_add_sum (P := Tryd.prog) (w := W) ((⟨#[32]⟩ : ByteArray) ++ X ++ (⟨#[32]⟩ : ByteArray)) (Y) (by simp only [ByteArray.size_append, zs]; omega)
      have s4 := fun (W : World) => run_string_add_sum (P := Tryd.prog) (w := W) (N) ((⟨#[32]⟩ : ByteArray) ++ X ++ (⟨#[32]⟩ : ByteArray) ++ Y) (by simp only [ByteArray.size_append, zs]; omega)
      go_upto_region 9 with (fail)
      refine wp_region_tree (.q 0 (.q 1 (.q 2 (.q 6 (.q 7 (.x 3 (.q 4 (.q 5 (.x 8 (.q 9 (.q 10 (.q 11 .nil)))))))))))) (fun W => Blk W b 38 (insC o x y z)) (by kernel_rfl) (by kernel_rfl) R4.out ?_
      (refine wpT_q (v := ?_) (by simp only [List.getElem?_toArray, List.getElem?_cons_succ, List.getElem?_cons_zero]; try rfl) (by rfl) (fun W hW => ?_) ?_; rotate_left; (focus (go_simp; try with_reducible rfl)); try simp only [Act.put, List.setIfInBounds_toArray, List.set_cons_zero, List.set_cons_succ])
      (refine wpT_q (v := ?_) (by simp only [List.getElem?_toArray, List.getElem?_cons_succ, List.getElem?_cons_zero]; try rfl) (by rfl) (fun W hW => ?_) ?_; rotate_left; (focus (have hW : Blk _ _ _ _ := hW; have x0 := hW.cell 0; have x1 := hW.cell 1; have x2 := hW.cell 2; have x3 := hW.cell 3; have xl := hW.lt; clear hW; go_simp; try with_reducible rfl)); try simp only [Act.put, List.setIfInBounds_toArray, List.set_cons_zero, List.set_cons_succ])
      (refine wpT_q (v := ?_) (by simp only [List.getElem?_toArray, List.getElem?_cons_succ, List.getElem?_cons_zero]; try rfl) (by rfl) (fun W hW => ?_) ?_; rotate_left; (focus (have hW : Blk _ _ _ _ := hW; have x0 := hW.cell 0; have x1 := hW.cell 1; have x2 := hW.cell 2; have x3 := hW.cell 3; have xl := hW.lt; clear hW; go_simp; try with_reducible rfl)); try simp only [Act.put, List.setIfInBounds_toArray, List.set_cons_zero, List.set_cons_succ])
      (refine wpT_q (v := ?_) (by simp only [List.getElem?_toArray, List.getElem?_cons_succ, List.getElem?_cons_zero]; try rfl) (by rfl) (fun W hW => ?_) ?_; rotate_left; (focus (have hW : Blk _ _ _ _ := hW; have x0 := hW.cell 0; have x1 := hW.cell 1; have x2 := hW.cell 2; have x3 := hW.cell 3; have xl := hW.lt; clear hW; go_simp; try with_reducible rfl)); try simp only [Act.put, List.setIfInBounds_toArray, List.set_cons_zero, List.set_cons_succ])
      (refine wpT_q (v := ?_) (by simp only [List.getElem?_toArray, List.getElem?_cons_succ, List.getElem?_cons_zero]; try rfl) (by rfl) (fun W hW => ?_) ?_; rotate_left; (focus (have hW : Blk _ _ _ _ := hW; have x0 := hW.cell 0; have x1 := hW.cell 1; have x2 := hW.cell 2; have x3 := hW.cell 3; have xl := hW.lt; clear hW; go_simp; try with_reducible rfl)); try simp only [Act.put, List.setIfInBounds_toArray, List.set_cons_zero, List.set_cons_succ])
      refine wpT_x (by simp only [List.getElem?_toArray, List.getElem?_cons_succ, List.getElem?_cons_zero]; try rfl) (by rfl) (fun KK hKK => ?_)
      go_simp
      refine (reg_ok x hx _).mono ?_
      rintro e w5 ⟨rfl, hb'⟩
      have hb : Below w4.heap.size w4 w5 := (Below.refl _ _).drew.trans hb'
      refine hKK (fun W => Blk W b 38 (insC o x y z)) _ _ (fun _ h => h) (R4.out.below hb R4.out.lt) ?_
      have B5 := hide (B4.out.trans (hb.mono B4.out.size))
      have R5 := hide (R4.out.below hb R4.out.lt)
      clear hKK KK hb hb'
      rw [hX]
      try simp only [Act.put, List.setIfInBounds_toArray, List.set_cons_zero, List.set_cons_succ]
      (refine wpT_q (v := ?_) (by simp only [List.getElem?_toArray, List.getElem?_cons_succ, List.getElem?_cons_zero]; try rfl) (by rfl) (fun W hW => ?_) ?_; rotate_left; (focus (go_simp; try with_reducible rfl)); try simp only [Act.put, List.setIfInBounds_toArray, List.set_cons_zero, List.set_cons_succ])
      (refine wpT_q (v := ?_) (by simp only [List.getElem?_toArray, List.getElem?_cons_succ, List.getElem?_cons_zero]; try rfl) (by rfl) (fun W hW => ?_) ?_; rotate_left; (focus (go_simp; try with_reducible rfl)); try simp only [Act.put, List.setIfInBounds_toArray, List.set_cons_zero, List.set_cons_succ])
      refine wpT_x (by simp only [List.getElem?_toArray, List.getElem?_cons_succ, List.getElem?_cons_zero]; try rfl) (by rfl) (fun KK hKK => ?_)
      go_simp
      refine (reg_ok y hy _).mono ?_
      rintro e w6 ⟨rfl, hb'⟩
      have hb : Below w5.heap.size w5 w6 := hb'
      refine hKK (fun W => Blk W b 38 (insC o x y z)) _ _ (fun _ h => h) (R5.out.below hb R5.out.lt) ?_
      have B6 := hide (B5.out.trans (hb.mono B5.out.size))
      have R6 := hide (R5.out.below hb R5.out.lt)
      clear hKK KK hb hb'
      rw [hY]
      try simp only [Act.put, List.setIfInBounds_toArray, List.set_cons_zero, List.set_cons_succ]
      (refine wpT_q (v := ?_) (by simp only [List.getElem?_toArray, List.getElem?_cons_succ, List.getElem?_cons_zero]; try rfl) (by rfl) (fun W hW => ?_) ?_; rotate_left; (focus (go_simp; try with_reducible rfl)); try simp only [Act.put, List.setIfInBounds_toArray, List.set_cons_zero, List.set_cons_succ])
      (refine wpT_q (v := ?_) (by simp only [List.getElem?_toArray, List.getElem?_cons_succ, List.getElem?_cons_zero]; try rfl) (by rfl) (fun W hW => ?_) ?_; rotate_left; (focus (go_simp; try with_reducible rfl)); try simp only [Act.put, List.setIfInBounds_toArray, List.set_cons_zero, List.set_cons_succ])
      (refine wpT_q (v := ?_) (by simp only [List.getElem?_toArray, List.getElem?_cons_succ, List.getElem?_cons_zero]; try rfl) (by rfl) (fun W hW => ?_) ?_; rotate_left; (focus (go_simp; try with_reducible rfl)); try simp only [Act.put, List.setIfInBounds_toArray, List.set_cons_zero, List.set_cons_succ])
      refine wpT_nil ?_
      clear s1 s2 s3 s4
      go_wp2_with (first | ((with_reducible refine at_end ?_); refine bodyPost_ret (v := .tuple #[.string (N ++ ((⟨#[32]⟩ : ByteArray) ++ X ++ (⟨#[32]⟩ : ByteArray) ++ Y)), .bool true]) (results_run2 rfl rfl rfl) rfl ⟨fin_yes HCK.out (by rw [HL.out]; simp only [← hN, ← hX, ← hY]; simp [str]), B6.out⟩) | fail)
    · have HL : Hid (lineT o x y z = opNames.getD o [] ++ 32 :: regT x ++ 32 :: regT y ++ 32 :: regT z) := hide (by unfold lineT wordsT; rw [HF.out]; simp [joinW])
      have s1 := fun (W : World) => run_string_add_sum (P := Tryd.prog) (w := W) ((⟨#[32]⟩ : ByteArray)) (X) (by simp only [ByteArray.size_append, zs]; omega)
      have s2 := fun (W : World) => run_string_add_sum (P := Tryd.prog) (w := W) ((⟨#[32]⟩ : ByteArray) ++ X) ((⟨#[32]⟩ : ByteArray)) (by simp only [ByteArray.size_append, zs]; omega)
      have s3 := fun (W : World) => run_string_add_sum (P := Tryd.prog) (w := W) ((⟨#[32]⟩ : ByteArray) ++ X ++ (⟨#[32]⟩ : ByteArray)) (Y) (by simp only [ByteArray.size_append, zs]; omega)
      have s4 := fun (W : World) => run_string_add_sum (P := Tryd.prog) (w := W) ((⟨#[32]⟩ : ByteArray) ++ X ++ (⟨#[32]⟩ : ByteArray) ++ Y) ((⟨#[32]⟩ : ByteArray)) (by simp only [ByteArray.size_append, zs]; omega)
      have s5 := fun (W : World) => run_string_add_sum (P := Tryd.prog) (w := W) ((⟨#[32]⟩ : ByteArray) ++ X ++ (⟨#[32]⟩ : ByteArray) ++ Y ++ (⟨#[32]⟩ : ByteArray)) (Z) (by simp only [ByteArray.size_append, zs]; omega)
      have s6 := fun (W : World) => run_string_add_sum (P := Tryd.prog) (w := W) (N) ((⟨#[32]⟩ : ByteArray) ++ X ++ (⟨#[32]⟩ : ByteArray) ++ Y ++ (⟨#[32]⟩ : ByteArray) ++ Z) (by simp only [ByteArray.size_append, zs]; omega)
      go_upto_region 11 with (fail)
      refine wp_region_tree (.q 0 (.q 1 (.q 2 (.q 6 (.q 7 (.q 11 (.q 12 (.x 3 (.q 4 (.q 5 (.x 8 (.q 9 (.q 10 (.x 13 (.q 14 (.q 15 (.q 16 .nil))))))))))))))))) (fun W => Blk W b 38 (insC o x y z)) (by kernel_rfl) (by kernel_rfl) R4.out ?_
      (refine wpT_q (v := ?_) (by simp only [List.getElem?_toArray, List.getElem?_cons_succ, List.getElem?_cons_zero]; try rfl) (by rfl) (fun W hW => ?_) ?_; rotate_left; (focus (go_simp; try with_reducible rfl)); try simp only [Act.put, List.setIfInBounds_toArray, List.set_cons_zero, List.set_cons_succ])
      (refine wpT_q (v := ?_) (by simp only [List.getElem?_toArray, List.getElem?_cons_succ, List.getElem?_cons_zero]; try rfl) (by rfl) (fun W hW => ?_) ?_; rotate_left; (focus (have hW : Blk _ _ _ _ := hW; have x0 := hW.cell 0; have x1 := hW.cell 1; have x2 := hW.cell 2; have x3 := hW.cell 3; have xl := hW.lt; clear hW; go_simp; try with_reducible rfl)); try simp only [Act.put, List.setIfInBounds_toArray, List.set_cons_zero, List.set_cons_succ])
      (refine wpT_q (v := ?_) (by simp only [List.getElem?_toArray, List.getElem?_cons_succ, List.getElem?_cons_zero]; try rfl) (by rfl) (fun W hW => ?_) ?_; rotate_left; (focus (have hW : Blk _ _ _ _ := hW; have x0 := hW.cell 0; have x1 := hW.cell 1; have x2 := hW.cell 2; have x3 := hW.cell 3; have xl := hW.lt; clear hW; go_simp; try with_reducible rfl)); try simp only [Act.put, List.setIfInBounds_toArray, List.set_cons_zero, List.set_cons_succ])
      (refine wpT_q (v := ?_) (by simp only [List.getElem?_toArray, List.getElem?_cons_succ, List.getElem?_cons_zero]; try rfl) (by rfl) (fun W hW => ?_) ?_; rotate_left; (focus (have hW : Blk _ _ _ _ := hW; have x0 := hW.cell 0; have x1 := hW.cell 1; have x2 := hW.cell 2; have x3 := hW.cell 3; have xl := hW.lt; clear hW; go_simp; try with_reducible rfl)); try simp only [Act.put, List.setIfInBounds_toArray, List.set_cons_zero, List.set_cons_succ])
      (refine wpT_q (v := ?_) (by simp only [List.getElem?_toArray, List.getElem?_cons_succ, List.getElem?_cons_zero]; try rfl) (by rfl) (fun W hW => ?_) ?_; rotate_left; (focus (have hW : Blk _ _ _ _ := hW; have x0 := hW.cell 0; have x1 := hW.cell 1; have x2 := hW.cell 2; have x3 := hW.cell 3; have xl := hW.lt; clear hW; go_simp; try with_reducible rfl)); try simp only [Act.put, List.setIfInBounds_toArray, List.set_cons_zero, List.set_cons_succ])
      (refine wpT_q (v := ?_) (by simp only [List.getElem?_toArray, List.getElem?_cons_succ, List.getElem?_cons_zero]; try rfl) (by rfl) (fun W hW => ?_) ?_; rotate_left; (focus (have hW : Blk _ _ _ _ := hW; have x0 := hW.cell 0; have x1 := hW.cell 1; have x2 := hW.cell 2; have x3 := hW.cell 3; have xl := hW.lt; clear hW; go_simp; try with_reducible rfl)); try simp only [Act.put, List.setIfInBounds_toArray, List.set_cons_zero, List.set_cons_succ])
      (refine wpT_q (v := ?_) (by simp only [List.getElem?_toArray, List.getElem?_cons_succ, List.getElem?_cons_zero]; try rfl) (by rfl) (fun W hW => ?_) ?_; rotate_left; (focus (have hW : Blk _ _ _ _ := hW; have x0 := hW.cell 0; have x1 := hW.cell 1; have x2 := hW.cell 2; have x3 := hW.cell 3; have xl := hW.lt; clear hW; go_simp; try with_reducible rfl)); try simp only [Act.put, List.setIfInBounds_toArray, List.set_cons_zero, List.set_cons_succ])
      refine wpT_x (by simp only [List.getElem?_toArray, List.getElem?_cons_succ, List.getElem?_cons_zero]; try rfl) (by rfl) (fun KK hKK => ?_)
      go_simp
      refine (reg_ok x hx _).mono ?_
      rintro e w5 ⟨rfl, hb'⟩
      have hb : Below w4.heap.size w4 w5 := (Below.refl _ _).drew.trans hb'
      refine hKK (fun W => Blk W b 38 (insC o x y z)) _ _ (fun _ h => h) (R4.out.below hb R4.out.lt) ?_
      have B5 := hide (B4.out.trans (hb.mono B4.out.size))
      have R5 := hide (R4.out.below hb R4.out.lt)
      clear hKK KK hb hb'
      rw [hX]
      try simp only [Act.put, List.setIfInBounds_toArray, List.set_cons_zero, List.set_cons_succ]
      (refine wpT_q (v := ?_) (by simp only [List.getElem?_toArray, List.getElem?_cons_succ, List.getElem?_cons_zero]; try rfl) (by rfl) (fun W hW => ?_) ?_; rotate_left; (focus (go_simp; try with_reducible rfl)); try simp only [Act.put, List.setIfInBounds_toArray, List.set_cons_zero, List.set_cons_succ])
      (refine wpT_q (v := ?_) (by simp only [List.getElem?_toArray, List.getElem?_cons_succ, List.getElem?_cons_zero]; try rfl) (by rfl) (fun W hW => ?_) ?_; rotate_left; (focus (go_simp; try with_reducible rfl)); try simp only [Act.put, List.setIfInBounds_toArray, List.set_cons_zero, List.set_cons_succ])
      refine wpT_x (by simp only [List.getElem?_toArray, List.getElem?_cons_succ, List.getElem?_cons_zero]; try rfl) (by rfl) (fun KK hKK => ?_)
      go_simp
      refine (reg_ok y hy _).mono ?_
      rintro e w6 ⟨rfl, hb'⟩
      have hb : Below w5.heap.size w5 w6 := hb'
      refine hKK (fun W => Blk W b 38 (insC o x y z)) _ _ (fun _ h => h) (R5.out.below hb R5.out.lt) ?_
      have B6 := hide (B5.out.trans (hb.mono B5.out.size))
      have R6 := hide (R5.out.below hb R5.out.lt)
      clear hKK KK hb hb'
      rw [hY]
      try simp only [Act.put, List.setIfInBounds_toArray, List.set_cons_zero, List.set_cons_succ]
      (refine wpT_q (v := ?_) (by simp only [List.getElem?_toArray, List.getElem?_cons_succ, List.getElem?_cons_zero]; try rfl) (by rfl) (fun W hW => ?_) ?_; rotate_left; (focus (go_simp; try with_reducible rfl)); try simp only [Act.put, List.setIfInBounds_toArray, List.set_cons_zero, List.set_cons_succ])
      (refine wpT_q (v := ?_) (by simp only [List.getElem?_toArray, List.getElem?_cons_succ, List.getElem?_cons_zero]; try rfl) (by rfl) (fun W hW => ?_) ?_; rotate_left; (focus (go_simp; try with_reducible rfl)); try simp only [Act.put, List.setIfInBounds_toArray, List.set_cons_zero, List.set_cons_succ])
      refine wpT_x (by simp only [List.getElem?_toArray, List.getElem?_cons_succ, List.getElem?_cons_zero]; try rfl) (by rfl) (fun KK hKK => ?_)
      go_simp
      refine (reg_ok z hz _).mono ?_
      rintro e w7 ⟨rfl, hb'⟩
      have hb : Below w6.heap.size w6 w7 := hb'
      refine hKK (fun W => Blk W b 38 (insC o x y z)) _ _ (fun _ h => h) (R6.out.below hb R6.out.lt) ?_
      have B7 := hide (B6.out.trans (hb.mono B6.out.size))
      have R7 := hide (R6.out.below hb R6.out.lt)
      clear hKK KK hb hb'
      rw [hZ]
      try simp only [Act.put, List.setIfInBounds_toArray, List.set_cons_zero, List.set_cons_succ]
      (refine wpT_q (v := ?_) (by simp only [List.getElem?_toArray, List.getElem?_cons_succ, List.getElem?_cons_zero]; try rfl) (by rfl) (fun W hW => ?_) ?_; rotate_left; (focus (go_simp; try with_reducible rfl)); try simp only [Act.put, List.setIfInBounds_toArray, List.set_cons_zero, List.set_cons_succ])
      (refine wpT_q (v := ?_) (by simp only [List.getElem?_toArray, List.getElem?_cons_succ, List.getElem?_cons_zero]; try rfl) (by rfl) (fun W hW => ?_) ?_; rotate_left; (focus (go_simp; try with_reducible rfl)); try simp only [Act.put, List.setIfInBounds_toArray, List.set_cons_zero, List.set_cons_succ])
      (refine wpT_q (v := ?_) (by simp only [List.getElem?_toArray, List.getElem?_cons_succ, List.getElem?_cons_zero]; try rfl) (by rfl) (fun W hW => ?_) ?_; rotate_left; (focus (go_simp; try with_reducible rfl)); try simp only [Act.put, List.setIfInBounds_toArray, List.set_cons_zero, List.set_cons_succ])
      refine wpT_nil ?_
      clear s1 s2 s3 s4 s5 s6
      go_wp2_with (first | ((with_reducible refine at_end ?_); refine bodyPost_ret (v := .tuple #[.string (N ++ ((⟨#[32]⟩ : ByteArray) ++ X ++ (⟨#[32]⟩ : ByteArray) ++ Y ++ (⟨#[32]⟩ : ByteArray) ++ Z)), .bool true]) (results_run2 rfl rfl rfl) rfl ⟨fin_yes HCK.out (by rw [HL.out]; simp only [← hN, ← hX, ← hY, ← hZ]; simp [str]), B7.out⟩) | fail)
    · have HL : Hid (lineT o x y z = opNames.getD o [] ++ 32 :: regT x ++ 32 :: regT y ++ 32 :: itoaI (nearI z)) := hide (by unfold lineT wordsT; rw [HF.out]; simp [joinW])
      obtain ⟨V, hV⟩ : ∃ V, str (itoaI (nearI z)) = V := ⟨_, rfl⟩
      have v1 : IntKind.i64.wrap (nearI z) = nearI z := IntWalk.i64_in _ (by unfold nearI; split <;> omega)
      have hn1 : -1000000 < nearI z := by unfold nearI; split <;> omega
      have hn2 : nearI z < 1000000 := by unfold nearI; split <;> omega
      have nV : V.size ≤ 100 := by rw [← hV, str_size]; have := itoaI_len (n := nearI z) (by unfold nearI; split <;> omega) (by unfold nearI; split <;> omega); omega
      have s1 := fun (W : World) => run_string_add_sum (P := Tryd.prog) (w := W) ((⟨#[32]⟩ : ByteArray)) (X) (by simp only [ByteArray.size_append, zs]; omega)
      have s2 := fun (W : World) => run_string_add_sum (P := Tryd.prog) (w := W) ((⟨#[32]⟩ : ByteArray) ++ X) ((⟨#[32]⟩ : ByteArray)) (by simp only [ByteArray.size_append, zs]; omega)
      have s3 := fun (W : World) => run_string_add_sum (P := Tryd.prog) (w := W) ((⟨#[32]⟩ : ByteArray) ++ X ++ (⟨#[32]⟩ : ByteArray)) (Y) (by simp only [ByteArray.size_append, zs]; omega)
      have s4 := fun (W : World) => run_string_add_sum (P := Tryd.prog) (w := W) ((⟨#[32]⟩ : ByteArray) ++ X ++ (⟨#[32]⟩ : ByteArray) ++ Y) ((⟨#[32]⟩ : ByteArray)) (by simp only [ByteArray.size_append, zs]; omega)
      have s5 := fun (W : World) => run_string_add_sum (P := Tryd.prog) (w := W) ((⟨#[32]⟩ : ByteArray) ++ X ++ (⟨#[32]⟩ : ByteArray) ++ Y ++ (⟨#[32]⟩ : ByteArray)) (V) (by simp only [ByteArray.size_append, zs]; omega)
      have s6 := fun (W : World) => run_string_add_sum (P := Tryd.prog) (w := W) (N) ((⟨#[32]⟩ : ByteArray) ++ X ++ (⟨#[32]⟩ : ByteArray) ++ Y ++ (⟨#[32]⟩ : ByteArray) ++ V) (by simp only [ByteArray.size_append, zs]; omega)
      go_upto_region 13 with (fail)
      refine wp_region_tree (.q 0 (.q 1 (.q 2 (.q 6 (.q 7 (.q 11 (.x 3 (.q 4 (.q 5 (.x 8 (.q 9 (.q 10 (.x 12 (.q 13 (.x 14 (.q 15 (.q 16 (.q 17 .nil)))))))))))))))))) (fun W => Blk W b 38 (insC o x y z)) (by kernel_rfl) (by kernel_rfl) R4.out ?_
      (refine wpT_q (v := ?_) (by simp only [List.getElem?_toArray, List.getElem?_cons_succ, List.getElem?_cons_zero]; try rfl) (by rfl) (fun W hW => ?_) ?_; rotate_left; (focus (go_simp; try with_reducible rfl)); try simp only [Act.put, List.setIfInBounds_toArray, List.set_cons_zero, List.set_cons_succ])
      (refine wpT_q (v := ?_) (by simp only [List.getElem?_toArray, List.getElem?_cons_succ, List.getElem?_cons_zero]; try rfl) (by rfl) (fun W hW => ?_) ?_; rotate_left; (focus (have hW : Blk _ _ _ _ := hW; have x0 := hW.cell 0; have x1 := hW.cell 1; have x2 := hW.cell 2; have x3 := hW.cell 3; have xl := hW.lt; clear hW; go_simp; try with_reducible rfl)); try simp only [Act.put, List.setIfInBounds_toArray, List.set_cons_zero, List.set_cons_succ])
      (refine wpT_q (v := ?_) (by simp only [List.getElem?_toArray, List.getElem?_cons_succ, List.getElem?_cons_zero]; try rfl) (by rfl) (fun W hW => ?_) ?_; rotate_left; (focus (have hW : Blk _ _ _ _ := hW; have x0 := hW.cell 0; have x1 := hW.cell 1; have x2 := hW.cell 2; have x3 := hW.cell 3; have xl := hW.lt; clear hW; go_simp; try with_reducible rfl)); try simp only [Act.put, List.setIfInBounds_toArray, List.set_cons_zero, List.set_cons_succ])
      (refine wpT_q (v := ?_) (by simp only [List.getElem?_toArray, List.getElem?_cons_succ, List.getElem?_cons_zero]; try rfl) (by rfl) (fun W hW => ?_) ?_; rotate_left; (focus (have hW : Blk _ _ _ _ := hW; have x0 := hW.cell 0; have x1 := hW.cell 1; have x2 := hW.cell 2; have x3 := hW.cell 3; have xl := hW.lt; clear hW; go_simp; try with_reducible rfl)); try simp only [Act.put, List.setIfInBounds_toArray, List.set_cons_zero, List.set_cons_succ])
      (refine wpT_q (v := ?_) (by simp only [List.getElem?_toArray, List.getElem?_cons_succ, List.getElem?_cons_zero]; try rfl) (by rfl) (fun W hW => ?_) ?_; rotate_left; (focus (have hW : Blk _ _ _ _ := hW; have x0 := hW.cell 0; have x1 := hW.cell 1; have x2 := hW.cell 2; have x3 := hW.cell 3; have xl := hW.lt; clear hW; go_simp; try with_reducible rfl)); try simp only [Act.put, List.setIfInBounds_toArray, List.set_cons_zero, List.set_cons_succ])
      (refine wpT_q (v := .agg (insC o x y z)) (by simp only [List.getElem?_toArray, List.getElem?_cons_succ, List.getElem?_cons_zero]; try rfl) (by rfl) (fun W hW => exec_load_blk 38 (.tmp 1) rfl b _ _ _ (by rfl) hW Tryd.underlying38 rfl (size_ins _ _ _ _)) ?_; try simp only [Act.put, List.setIfInBounds_toArray, List.set_cons_zero, List.set_cons_succ])
      refine wpT_x (by simp only [List.getElem?_toArray, List.getElem?_cons_succ, List.getElem?_cons_zero]; try rfl) (by rfl) (fun KK hKK => ?_)
      go_simp
      refine (reg_ok x hx _).mono ?_
      rintro e w5 ⟨rfl, hb'⟩
      have hb : Below w4.heap.size w4 w5 := (Below.refl _ _).drew.trans hb'
      refine hKK (fun W => Blk W b 38 (insC o x y z)) _ _ (fun _ h => h) (R4.out.below hb R4.out.lt) ?_
      have B5 := hide (B4.out.trans (hb.mono B4.out.size))
      have R5 := hide (R4.out.below hb R4.out.lt)
      clear hKK KK hb hb'
      rw [hX]
      try simp only [Act.put, List.setIfInBounds_toArray, List.set_cons_zero, List.set_cons_succ]
      (refine wpT_q (v := ?_) (by simp only [List.getElem?_toArray, List.getElem?_cons_succ, List.getElem?_cons_zero]; try rfl) (by rfl) (fun W hW => ?_) ?_; rotate_left; (focus (go_simp; try with_reducible rfl)); try simp only [Act.put, List.setIfInBounds_toArray, List.set_cons_zero, List.set_cons_succ])
      (refine wpT_q (v := ?_) (by simp only [List.getElem?_toArray, List.getElem?_cons_succ, List.getElem?_cons_zero]; try rfl) (by rfl) (fun W hW => ?_) ?_; rotate_left; (focus (go_simp; try with_reducible rfl)); try simp only [Act.put, List.setIfInBounds_toArray, List.set_cons_zero, List.set_cons_succ])
      refine wpT_x (by simp only [List.getElem?_toArray, List.getElem?_cons_succ, List.getElem?_cons_zero]; try rfl) (by rfl) (fun KK hKK => ?_)
      go_simp
      refine (reg_ok y hy _).mono ?_
      rintro e w6 ⟨rfl, hb'⟩
      have hb : Below w5.heap.size w5 w6 := hb'
      refine hKK (fun W => Blk W b 38 (insC o x y z)) _ _ (fun _ h => h) (R5.out.below hb R5.out.lt) ?_
      have B6 := hide (B5.out.trans (hb.mono B5.out.size))
      have R6 := hide (R5.out.below hb R5.out.lt)
      clear hKK KK hb hb'
      rw [hY]
      try simp only [Act.put, List.setIfInBounds_toArray, List.set_cons_zero, List.set_cons_succ]
      (refine wpT_q (v := ?_) (by simp only [List.getElem?_toArray, List.getElem?_cons_succ, List.getElem?_cons_zero]; try rfl) (by rfl) (fun W hW => ?_) ?_; rotate_left; (focus (go_simp; try with_reducible rfl)); try simp only [Act.put, List.setIfInBounds_toArray, List.set_cons_zero, List.set_cons_succ])
      (refine wpT_q (v := ?_) (by simp only [List.getElem?_toArray, List.getElem?_cons_succ, List.getElem?_cons_zero]; try rfl) (by rfl) (fun W hW => ?_) ?_; rotate_left; (focus (go_simp; try with_reducible rfl)); try simp only [Act.put, List.setIfInBounds_toArray, List.set_cons_zero, List.set_cons_succ])
      refine wpT_x (by simp only [List.getElem?_toArray, List.getElem?_cons_succ, List.getElem?_cons_zero]; try rfl) (by rfl) (fun KK hKK => ?_)
      go_simp
      refine (near_ok o x y z hz _).mono ?_
      rintro e w7 ⟨rfl, hb'⟩
      have hb : Below w6.heap.size w6 w7 := hb'
      refine hKK (fun W => Blk W b 38 (insC o x y z)) _ _ (fun _ h => h) (R6.out.below hb R6.out.lt) ?_
      have B7 := hide (B6.out.trans (hb.mono B6.out.size))
      have R7 := hide (R6.out.below hb R6.out.lt)
      clear hKK KK hb hb'
      try simp only [Act.put, List.setIfInBounds_toArray, List.set_cons_zero, List.set_cons_succ]
      (refine wpT_q (v := ?_) (by simp only [List.getElem?_toArray, List.getElem?_cons_succ, List.getElem?_cons_zero]; try rfl) (by rfl) (fun W hW => ?_) ?_; rotate_left; (focus (go_simp; try with_reducible rfl)); try simp only [Act.put, List.setIfInBounds_toArray, List.set_cons_zero, List.set_cons_succ])
      refine wpT_x (by simp only [List.getElem?_toArray, List.getElem?_cons_succ, List.getElem?_cons_zero]; try rfl) (by rfl) (fun KK hKK => ?_)
      go_simp
      refine (printed_int (nearI z) hn1 hn2 _).mono ?_
      rintro e w8 ⟨rfl, hb'⟩
      have hb : Below w7.heap.size w7 w8 := hb'
      refine hKK (fun W => Blk W b 38 (insC o x y z)) _ _ (fun _ h => h) (R7.out.below hb R7.out.lt) ?_
      have B8 := hide (B7.out.trans (hb.mono B7.out.size))
      have R8 := hide (R7.out.below hb R7.out.lt)
      clear hKK KK hb hb'
      rw [hV]
      try simp only [Act.put, List.setIfInBounds_toArray, List.set_cons_zero, List.set_cons_succ]
      (refine wpT_q (v := ?_) (by simp only [List.getElem?_toArray, List.getElem?_cons_succ, List.getElem?_cons_zero]; try rfl) (by rfl) (fun W hW => ?_) ?_; rotate_left; (focus (go_simp; try with_reducible rfl)); try simp only [Act.put, List.setIfInBounds_toArray, List.set_cons_zero, List.set_cons_succ])
      (refine wpT_q (v := ?_) (by simp only [List.getElem?_toArray, List.getElem?_cons_succ, List.getElem?_cons_zero]; try rfl) (by rfl) (fun W hW => ?_) ?_; rotate_left; (focus (go_simp; try with_reducible rfl)); try simp only [Act.put, List.setIfInBounds_toArray, List.set_cons_zero, List.set_cons_succ])
      (refine wpT_q (v := ?_) (by simp only [List.getElem?_toArray, List.getElem?_cons_succ, List.getElem?_cons_zero]; try rfl) (by rfl) (fun W hW => ?_) ?_; rotate_left; (focus (go_simp; try with_reducible rfl)); try simp only [Act.put, List.setIfInBounds_toArray, List.set_cons_zero, List.set_cons_succ])
      refine wpT_nil ?_
      clear s1 s2 s3 s4 s5 s6
      go_wp2_with (first | ((with_reducible refine at_end ?_); refine bodyPost_ret (v := .tuple #[.string (N ++ ((⟨#[32]⟩ : ByteArray) ++ X ++ (⟨#[32]⟩ : ByteArray) ++ Y ++ (⟨#[32]⟩ : ByteArray) ++ V)), .bool true]) (results_run2 rfl rfl rfl) rfl ⟨fin_yes HCK.out (by rw [HL.out]; simp only [← hN, ← hX, ← hY, ← hV]; simp [str]), B8.out⟩) | fail)
    · have HL : Hid (lineT o x y z = opNames.getD o [] ++ 32 :: regT x ++ 32 :: itoaN (wideN y z)) := hide (by unfold lineT wordsT; rw [HF.out]; simp [joinW, itoaI_nat])
      obtain ⟨V, hV⟩ : ∃ V, str (itoaN (wideN y z)) = V := ⟨_, rfl⟩
      have v1 : IntKind.i64.wrap ((wideN y z : Nat) : Int) = ((wideN y z : Nat) : Int) := IntWalk.i64_in _ (by unfold wideN; omega)
      have hw2 : wideN y z < 1000000 := by unfold wideN; omega
      have nV : V.size ≤ 100 := by rw [← hV, str_size]; have := itoaN_le hw2; omega
      have s1 := fun (W : World) => run_string_add_sum (P := Tryd.prog) (w := W) ((⟨#[32]⟩ : ByteArray)) (X) (by simp only [ByteArray.size_append, zs]; omega)
      have s2 := fun (W : World) => run_string_add_sum (P := Tryd.prog) (w := W) ((⟨#[32]⟩ : ByteArray) ++ X) ((⟨#[32]⟩ : ByteArray)) (by simp only [ByteArray.size_append, zs]; omega)
      have s3 := fun (W : World) => run_string_add_sum (P := Tryd.prog) (w := W) ((⟨#[32]⟩ : ByteArray) ++ X ++ (⟨#[32]⟩ : ByteArray)) (V) (by simp only [ByteArray.size_append, zs]; omega)
      have s4 := fun (W : World) => run_string_add_sum (P := Tryd.prog) (w := W) (N) ((⟨#[32]⟩ : ByteArray) ++ X ++ (⟨#[32]⟩ : ByteArray) ++ V) (by simp only [ByteArray.size_append, zs]; omega)
      go_upto_region 15 with (fail)
      refine wp_region_tree (.q 0 (.q 1 (.q 2 (.q 6 (.x 3 (.q 4 (.q 5 (.x 7 (.q 8 (.x 9 (.q 10 (.q 11 (.q 12 .nil))))))))))))) (fun W => Blk W b 38 (insC o x y z)) (by kernel_rfl) (by kernel_rfl) R4.out ?_
      (refine wpT_q (v := ?_) (by simp only [List.getElem?_toArray, List.getElem?_cons_succ, List.getElem?_cons_zero]; try rfl) (by rfl) (fun W hW => ?_) ?_; rotate_left; (focus (go_simp; try with_reducible rfl)); try simp only [Act.put, List.setIfInBounds_toArray, List.set_cons_zero, List.set_cons_succ])
      (refine wpT_q (v := ?_) (by simp only [List.getElem?_toArray, List.getElem?_cons_succ, List.getElem?_cons_zero]; try rfl) (by rfl) (fun W hW => ?_) ?_; rotate_left; (focus (have hW : Blk _ _ _ _ := hW; have x0 := hW.cell 0; have x1 := hW.cell 1; have x2 := hW.cell 2; have x3 := hW.cell 3; have xl := hW.lt; clear hW; go_simp; try with_reducible rfl)); try simp only [Act.put, List.setIfInBounds_toArray, List.set_cons_zero, List.set_cons_succ])
      (refine wpT_q (v := ?_) (by simp only [List.getElem?_toArray, List.getElem?_cons_succ, List.getElem?_cons_zero]; try rfl) (by rfl) (fun W hW => ?_) ?_; rotate_left; (focus (have hW : Blk _ _ _ _ := hW; have x0 := hW.cell 0; have x1 := hW.cell 1; have x2 := hW.cell 2; have x3 := hW.cell 3; have xl := hW.lt; clear hW; go_simp; try with_reducible rfl)); try simp only [Act.put, List.setIfInBounds_toArray, List.set_cons_zero, List.set_cons_succ])
      (refine wpT_q (v := .agg (insC o x y z)) (by simp only [List.getElem?_toArray, List.getElem?_cons_succ, List.getElem?_cons_zero]; try rfl) (by rfl) (fun W hW => exec_load_blk 38 (.tmp 1) rfl b _ _ _ (by rfl) hW Tryd.underlying38 rfl (size_ins _ _ _ _)) ?_; try simp only [Act.put, List.setIfInBounds_toArray, List.set_cons_zero, List.set_cons_succ])
      refine wpT_x (by simp only [List.getElem?_toArray, List.getElem?_cons_succ, List.getElem?_cons_zero]; try rfl) (by rfl) (fun KK hKK => ?_)
      go_simp
      refine (reg_ok x hx _).mono ?_
      rintro e w5 ⟨rfl, hb'⟩
      have hb : Below w4.heap.size w4 w5 := (Below.refl _ _).drew.trans hb'
      refine hKK (fun W => Blk W b 38 (insC o x y z)) _ _ (fun _ h => h) (R4.out.below hb R4.out.lt) ?_
      have B5 := hide (B4.out.trans (hb.mono B4.out.size))
      have R5 := hide (R4.out.below hb R4.out.lt)
      clear hKK KK hb hb'
      rw [hX]
      try simp only [Act.put, List.setIfInBounds_toArray, List.set_cons_zero, List.set_cons_succ]
      (refine wpT_q (v := ?_) (by simp only [List.getElem?_toArray, List.getElem?_cons_succ, List.getElem?_cons_zero]; try rfl) (by rfl) (fun W hW => ?_) ?_; rotate_left; (focus (go_simp; try with_reducible rfl)); try simp only [Act.put, List.setIfInBounds_toArray, List.set_cons_zero, List.set_cons_succ])
      (refine wpT_q (v := ?_) (by simp only [List.getElem?_toArray, List.getElem?_cons_succ, List.getElem?_cons_zero]; try rfl) (by rfl) (fun W hW => ?_) ?_; rotate_left; (focus (go_simp; try with_reducible rfl)); try simp only [Act.put, List.setIfInBounds_toArray, List.set_cons_zero, List.set_cons_succ])
      refine wpT_x (by simp only [List.getElem?_toArray, List.getElem?_cons_succ, List.getElem?_cons_zero]; try rfl) (by rfl) (fun KK hKK => ?_)
      go_simp
      refine (wide_ok o x y z hy hz _).mono ?_
      rintro e w6 ⟨rfl, hb'⟩
      have hb : Below w5.heap.size w5 w6 := hb'
      refine hKK (fun W => Blk W b 38 (insC o x y z)) _ _ (fun _ h => h) (R5.out.below hb R5.out.lt) ?_
      have B6 := hide (B5.out.trans (hb.mono B5.out.size))
      have R6 := hide (R5.out.below hb R5.out.lt)
      clear hKK KK hb hb'
      try simp only [Act.put, List.setIfInBounds_toArray, List.set_cons_zero, List.set_cons_succ]
      (refine wpT_q (v := ?_) (by simp only [List.getElem?_toArray, List.getElem?_cons_succ, List.getElem?_cons_zero]; try rfl) (by rfl) (fun W hW => ?_) ?_; rotate_left; (focus (go_simp; try with_reducible rfl)); try simp only [Act.put, List.setIfInBounds_toArray, List.set_cons_zero, List.set_cons_succ])
      refine wpT_x (by simp only [List.getElem?_toArray, List.getElem?_cons_succ, List.getElem?_cons_zero]; try rfl) (by rfl) (fun KK hKK => ?_)
      go_simp
      refine (printed_nat (wideN y z) hw2 _).mono ?_
      rintro e w7 ⟨rfl, hb'⟩
      have hb : Below w6.heap.size w6 w7 := hb'
      refine hKK (fun W => Blk W b 38 (insC o x y z)) _ _ (fun _ h => h) (R6.out.below hb R6.out.lt) ?_
      have B7 := hide (B6.out.trans (hb.mono B6.out.size))
      have R7 := hide (R6.out.below hb R6.out.lt)
      clear hKK KK hb hb'
      rw [hV]
      try simp only [Act.put, List.setIfInBounds_toArray, List.set_cons_zero, List.set_cons_succ]
      (refine wpT_q (v := ?_) (by simp only [List.getElem?_toArray, List.getElem?_cons_succ, List.getElem?_cons_zero]; try rfl) (by rfl) (fun W hW => ?_) ?_; rotate_left; (focus (go_simp; try with_reducible rfl)); try simp only [Act.put, List.setIfInBounds_toArray, List.set_cons_zero, List.set_cons_succ])
      (refine wpT_q (v := ?_) (by simp only [List.getElem?_toArray, List.getElem?_cons_succ, List.getElem?_cons_zero]; try rfl) (by rfl) (fun W hW => ?_) ?_; rotate_left; (focus (go_simp; try with_reducible rfl)); try simp only [Act.put, List.setIfInBounds_toArray, List.set_cons_zero, List.set_cons_succ])
      (refine wpT_q (v := ?_) (by simp only [List.getElem?_toArray, List.getElem?_cons_succ, List.getElem?_cons_zero]; try rfl) (by rfl) (fun W hW => ?_) ?_; rotate_left; (focus (go_simp; try with_reducible rfl)); try simp only [Act.put, List.setIfInBounds_toArray, List.set_cons_zero, List.set_cons_succ])
      refine wpT_nil ?_
      clear s1 s2 s3 s4
      go_wp2_with (first | ((with_reducible refine at_end ?_); refine bodyPost_ret (v := .tuple #[.string (N ++ ((⟨#[32]⟩ : ByteArray) ++ X ++ (⟨#[32]⟩ : ByteArray) ++ V)), .bool true]) (results_run2 rfl rfl rfl) rfl ⟨fin_yes HCK.out (by rw [HL.out]; simp only [← hN, ← hX, ← hV]; simp [str]), B7.out⟩) | fail)
    · have HL : Hid (lineT o x y z = opNames.getD o [] ++ 32 :: itoaN (wideN y z)) := hide (by unfold lineT wordsT; rw [HF.out]; simp [joinW, itoaI_nat])
      obtain ⟨V, hV⟩ : ∃ V, str (itoaN (wideN y z)) = V := ⟨_, rfl⟩
      have v1 : IntKind.i64.wrap ((wideN y z : Nat) : Int) = ((wideN y z : Nat) : Int) := IntWalk.i64_in _ (by unfold wideN; omega)
      have hw2 : wideN y z < 1000000 := by unfold wideN; omega
      have nV : V.size ≤ 100 := by rw [← hV, str_size]; have := itoaN_le hw2; omega
      go_wp2_with (first | ((with_reducible refine at_load 38 (.tmp 1) ?_); refine wpList_load_blk rfl 38 (.tmp 1) rfl b _ _ _ (by rfl) R4.out Tryd.underlying38 rfl (size_ins _ _ _ _) ?_) | fail)
      refine (wide_ok o x y z hy hz _).mono ?_
      rintro e w5 ⟨rfl, hb5⟩
      have B5 := hide (B4.out.trans (hb5.mono B4.out.size))
      clear hb5
      go_wp2_with fail
      refine (printed_nat (wideN y z) hw2 _).mono ?_
      rintro e w6 ⟨rfl, hb6⟩
      have B6 := hide (B5.out.trans (hb6.mono B5.out.size))
      rw [hV]
      clear hb6
      have l1 : ¬ 9223372036854775807 < 1 + V.size := by omega
      have l2 : ¬ 9223372036854775807 < N.size + (1 + V.size) := by omega
      go_wp2_with (first | ((with_reducible refine at_end ?_); refine bodyPost_ret (v := .tuple #[.string (N ++ ((⟨#[32]⟩ : ByteArray) ++ V)), .bool true]) (results_run2 rfl rfl rfl) rfl ⟨fin_yes HCK.out (by rw [HL.out]; simp only [← hN, ← hV]; simp [str]), B6.out⟩) | fail)
    · have HL : Hid (lineT o x y z = opNames.getD o [] ++ 32 :: regT x ++ 32 :: regT y ++ 32 :: itoaN z) := hide (by unfold lineT wordsT; rw [HF.out]; simp [joinW, itoaI_nat])
      obtain ⟨V, hV⟩ : ∃ V, str (itoaN z) = V := ⟨_, rfl⟩
      have v1 : IntKind.i64.wrap (z : Int) = (z : Int) := IntWalk.i64_in _ (by omega)
      have hz6 : z < 1000000 := by omega
      have nV : V.size ≤ 100 := by rw [← hV, str_size]; have := itoaN_le hz6; omega
      have s1 := fun (W : World) => run_string_add_sum (P := Tryd.prog) (w := W) ((⟨#[32]⟩ : ByteArray)) (X) (by simp only [ByteArray.size_append, zs]; omega)
      have s2 := fun (W : World) => run_string_add_sum (P := Tryd.prog) (w := W) ((⟨#[32]⟩ : ByteArray) ++ X) ((⟨#[32]⟩ : ByteArray)) (by simp only [ByteArray.size_append, zs]; omega)
      have s3 := fun (W : World) => run_string_add_sum (P := Tryd.prog) (w := W) ((⟨#[32]⟩ : ByteArray) ++ X ++ (⟨#[32]⟩ : ByteArray)) (Y) (by simp only [ByteArray.size_append, zs]; omega)
      have s4 := fun (W : World) => run_string_add_sum (P := Tryd.prog) (w := W) ((⟨#[32]⟩ : ByteArray) ++ X ++ (⟨#[32]⟩ : ByteArray) ++ Y) ((⟨#[32]⟩ : ByteArray)) (by simp only [ByteArray.size_append, zs]; omega)
      have s5 := fun (W : World) => run_string_add_sum (P := Tryd.prog) (w := W) ((⟨#[32]⟩ : ByteArray) ++ X ++ (⟨#[32]⟩ : ByteArray) ++ Y ++ (⟨#[32]⟩ : ByteArray)) (V) (by simp only [ByteArray.size_append, zs]; omega)
      have s6 := fun (W : World) => run_string_add_sum (P := Tryd.prog) (w := W) (N) ((⟨#[32]⟩ : ByteArray) ++ X ++ (⟨#[32]⟩ : ByteArray) ++ Y ++ (⟨#[32]⟩ : ByteArray) ++ V) (by simp only [ByteArray.size_append, zs]; omega)
      go_upto_region 19 with (fail)
      refine wp_region_tree (.q 0 (.q 1 (.q 2 (.q 6 (.q 7 (.q 11 (.q 12 (.q 13 (.x 3 (.q 4 (.q 5 (.x 8 (.q 9 (.q 10 (.x 14 (.q 15 (.q 16 (.q 17 .nil)))))))))))))))))) (fun W => Blk W b 38 (insC o x y z)) (by kernel_rfl) (by kernel_rfl) R4.out ?_
      (refine wpT_q (v := ?_) (by simp only [List.getElem?_toArray, List.getElem?_cons_succ, List.getElem?_cons_zero]; try rfl) (by rfl) (fun W hW => ?_) ?_; rotate_left; (focus (go_simp; try with_reducible rfl)); try simp only [Act.put, List.setIfInBounds_toArray, List.set_cons_zero, List.set_cons_succ])
      (refine wpT_q (v := ?_) (by simp only [List.getElem?_toArray, List.getElem?_cons_succ, List.getElem?_cons_zero]; try rfl) (by rfl) (fun W hW => ?_) ?_; rotate_left; (focus (have hW : Blk _ _ _ _ := hW; have x0 := hW.cell 0; have x1 := hW.cell 1; have x2 := hW.cell 2; have x3 := hW.cell 3; have xl := hW.lt; clear hW; go_simp; try with_reducible rfl)); try simp only [Act.put, List.setIfInBounds_toArray, List.set_cons_zero, List.set_cons_succ])
      (refine wpT_q (v := ?_) (by simp only [List.getElem?_toArray, List.getElem?_cons_succ, List.getElem?_cons_zero]; try rfl) (by rfl) (fun W hW => ?_) ?_; rotate_left; (focus (have hW : Blk _ _ _ _ := hW; have x0 := hW.cell 0; have x1 := hW.cell 1; have x2 := hW.cell 2; have x3 := hW.cell 3; have xl := hW.lt; clear hW; go_simp; try with_reducible rfl)); try simp only [Act.put, List.setIfInBounds_toArray, List.set_cons_zero, List.set_cons_succ])
      (refine wpT_q (v := ?_) (by simp only [List.getElem?_toArray, List.getElem?_cons_succ, List.getElem?_cons_zero]; try rfl) (by rfl) (fun W hW => ?_) ?_; rotate_left; (focus (have hW : Blk _ _ _ _ := hW; have x0 := hW.cell 0; have x1 := hW.cell 1; have x2 := hW.cell 2; have x3 := hW.cell 3; have xl := hW.lt; clear hW; go_simp; try with_reducible rfl)); try simp only [Act.put, List.setIfInBounds_toArray, List.set_cons_zero, List.set_cons_succ])
      (refine wpT_q (v := ?_) (by simp only [List.getElem?_toArray, List.getElem?_cons_succ, List.getElem?_cons_zero]; try rfl) (by rfl) (fun W hW => ?_) ?_; rotate_left; (focus (have hW : Blk _ _ _ _ := hW; have x0 := hW.cell 0; have x1 := hW.cell 1; have x2 := hW.cell 2; have x3 := hW.cell 3; have xl := hW.lt; clear hW; go_simp; try with_reducible rfl)); try simp only [Act.put, List.setIfInBounds_toArray, List.set_cons_zero, List.set_cons_succ])
      (refine wpT_q (v := ?_) (by simp only [List.getElem?_toArray, List.getElem?_cons_succ, List.getElem?_cons_zero]; try rfl) (by rfl) (fun W hW => ?_) ?_; rotate_left; (focus (have hW : Blk _ _ _ _ := hW; have x0 := hW.cell 0; have x1 := hW.cell 1; have x2 := hW.cell 2; have x3 := hW.cell 3; have xl := hW.lt; clear hW; go_simp; try with_reducible rfl)); try simp only [Act.put, List.setIfInBounds_toArray, List.set_cons_zero, List.set_cons_succ])
      (refine wpT_q (v := ?_) (by simp only [List.getElem?_toArray, List.getElem?_cons_succ, List.getElem?_cons_zero]; try rfl) (by rfl) (fun W hW => ?_) ?_; rotate_left; (focus (have hW : Blk _ _ _ _ := hW; have x0 := hW.cell 0; have x1 := hW.cell 1; have x2 := hW.cell 2; have x3 := hW.cell 3; have xl := hW.lt; clear hW; go_simp; try with_reducible rfl)); try simp only [Act.put, List.setIfInBounds_toArray, List.set_cons_zero, List.set_cons_succ])
      (refine wpT_q (v := ?_) (by simp only [List.getElem?_toArray, List.getElem?_cons_succ, List.getElem?_cons_zero]; try rfl) (by rfl) (fun W hW => ?_) ?_; rotate_left; (focus (go_simp; try with_reducible rfl)); try simp only [Act.put, List.setIfInBounds_toArray, List.set_cons_zero, List.set_cons_succ])
      refine wpT_x (by simp only [List.getElem?_toArray, List.getElem?_cons_succ, List.getElem?_cons_zero]; try rfl) (by rfl) (fun KK hKK => ?_)
      go_simp
      refine (reg_ok x hx _).mono ?_
      rintro e w5 ⟨rfl, hb'⟩
      have hb : Below w4.heap.size w4 w5 := (Below.refl _ _).drew.trans hb'
      refine hKK (fun W => Blk W b 38 (insC o x y z)) _ _ (fun _ h => h) (R4.out.below hb R4.out.lt) ?_
      have B5 := hide (B4.out.trans (hb.mono B4.out.size))
      have R5 := hide (R4.out.below hb R4.out.lt)
      clear hKK KK hb hb'
      rw [hX]
      try simp only [Act.put, List.setIfInBounds_toArray, List.set_cons_zero, List.set_cons_succ]
      (refine wpT_q (v := ?_) (by simp only [List.getElem?_toArray, List.getElem?_cons_succ, List.getElem?_cons_zero]; try rfl) (by rfl) (fun W hW => ?_) ?_; rotate_left; (focus (go_simp; try with_reducible rfl)); try simp only [Act.put, List.setIfInBounds_toArray, List.set_cons_zero, List.set_cons_succ])
      (refine wpT_q (v := ?_) (by simp only [List.getElem?_toArray, List.getElem?_cons_succ, List.getElem?_cons_zero]; try rfl) (by rfl) (fun W hW => ?_) ?_; rotate_left; (focus (go_simp; try with_reducible rfl)); try simp only [Act.put, List.setIfInBounds_toArray, List.set_cons_zero, List.set_cons_succ])
      refine wpT_x (by simp only [List.getElem?_toArray, List.getElem?_cons_succ, List.getElem?_cons_zero]; try rfl) (by rfl) (fun KK hKK => ?_)
      go_simp
      refine (reg_ok y hy _).mono ?_
      rintro e w6 ⟨rfl, hb'⟩
      have hb : Below w5.heap.size w5 w6 := hb'
      refine hKK (fun W => Blk W b 38 (insC o x y z)) _ _ (fun _ h => h) (R5.out.below hb R5.out.lt) ?_
      have B6 := hide (B5.out.trans (hb.mono B5.out.size))
      have R6 := hide (R5.out.below hb R5.out.lt)
      clear hKK KK hb hb'
      rw [hY]
      try simp only [Act.put, List.setIfInBounds_toArray, List.set_cons_zero, List.set_cons_succ]
      (refine wpT_q (v := ?_) (by simp only [List.getElem?_toArray, List.getElem?_cons_succ, List.getElem?_cons_zero]; try rfl) (by rfl) (fun W hW => ?_) ?_; rotate_left; (focus (go_simp; try with_reducible rfl)); try simp only [Act.put, List.setIfInBounds_toArray, List.set_cons_zero, List.set_cons_succ])
      (refine wpT_q (v := ?_) (by simp only [List.getElem?_toArray, List.getElem?_cons_succ, List.getElem?_cons_zero]; try rfl) (by rfl) (fun W hW => ?_) ?_; rotate_left; (focus (go_simp; try with_reducible rfl)); try simp only [Act.put, List.setIfInBounds_toArray, List.set_cons_zero, List.set_cons_succ])
      refine wpT_x (by simp only [List.getElem?_toArray, List.getElem?_cons_succ, List.getElem?_cons_zero]; try rfl) (by rfl) (fun KK hKK => ?_)
      go_simp
      refine (printed_nat z hz6 _).mono ?_
      rintro e w7 ⟨rfl, hb'⟩
      have hb : Below w6.heap.size w6 w7 := hb'
      refine hKK (fun W => Blk W b 38 (insC o x y z)) _ _ (fun _ h => h) (R6.out.below hb R6.out.lt) ?_
      have B7 := hide (B6.out.trans (hb.mono B6.out.size))
      have R7 := hide (R6.out.below hb R6.out.lt)
      clear hKK KK hb hb'
      rw [hV]
      try simp only [Act.put, List.setIfInBounds_toArray, List.set_cons_zero, List.set_cons_succ]
      (refine wpT_q (v := ?_) (by simp only [List.getElem?_toArray, List.getElem?_cons_succ, List.getElem?_cons_zero]; try rfl) (by rfl) (fun W hW => ?_) ?_; rotate_left; (focus (go_simp; try with_reducible rfl)); try simp only [Act.put, List.setIfInBounds_toArray, List.set_cons_zero, List.set_cons_succ])
      (refine wpT_q (v := ?_) (by simp only [List.getElem?_toArray, List.getElem?_cons_succ, List.getElem?_cons_zero]; try rfl) (by rfl) (fun W hW => ?_) ?_; rotate_left; (focus (go_simp; try with_reducible rfl)); try simp only [Act.put, List.setIfInBounds_toArray, List.set_cons_zero, List.set_cons_succ])
      (refine wpT_q (v := ?_) (by simp only [List.getElem?_toArray, List.getElem?_cons_succ, List.getElem?_cons_zero]; try rfl) (by rfl) (fun W hW => ?_) ?_; rotate_left; (focus (go_simp; try with_reducible rfl)); try simp only [Act.put, List.setIfInBounds_toArray, List.set_cons_zero, List.set_cons_succ])
      refine wpT_nil ?_
      clear s1 s2 s3 s4 s5 s6
      go_wp2_with (first | ((with_reducible refine at_end ?_); refine bodyPost_ret (v := .tuple #[.string (N ++ ((⟨#[32]⟩ : ByteArray) ++ X ++ (⟨#[32]⟩ : ByteArray) ++ Y ++ (⟨#[32]⟩ : ByteArray) ++ V)), .bool true]) (results_run2 rfl rfl rfl) rfl ⟨fin_yes HCK.out (by rw [HL.out]; simp only [← hN, ← hX, ← hY, ← hV]; simp [str]), B7.out⟩) | fail)
    · have HL : Hid (lineT o x y z = opNames.getD o [] ++ 32 :: itoaN y) := hide (by unfold lineT wordsT; rw [HF.out]; simp [joinW, itoaI_nat])
      obtain ⟨V, hV⟩ : ∃ V, str (itoaN y) = V := ⟨_, rfl⟩
      have hy6 : y < 1000000 := by omega
      have nV : V.size ≤ 100 := by rw [← hV, str_size]; have := itoaN_le hy6; omega
      have r4 : Blk _ _ _ _ := R4.out
      have x1 := r4.cell 1
      have x2 := r4.cell 2
      have x3 := r4.cell 3
      have xl := r4.lt
      clear r4
      go_wp2_with fail
      refine (printed_nat y hy6 _).mono ?_
      rintro e w5 ⟨rfl, hb5⟩
      have B5 := hide (B4.out.trans (hb5.mono B4.out.size))
      rw [hV]
      clear hb5 x1 x2 x3 xl
      have l1 : ¬ 9223372036854775807 < 1 + V.size := by omega
      have l2 : ¬ 9223372036854775807 < N.size + (1 + V.size) := by omega
      go_wp2_with (first | ((with_reducible refine at_end ?_); refine bodyPost_ret (v := .tuple #[.string (N ++ ((⟨#[32]⟩ : ByteArray) ++ V)), .bool true]) (results_run2 rfl rfl rfl) rfl ⟨fin_yes HCK.out (by rw [HL.out]; simp only [← hN, ← hV]; simp [str]), B5.out⟩) | fail)
  · have t1 : decide (ck = 0) = false := by simp; exact h0
    have hkz : (!decide (ck = 0)) = true := by simp; exact h0
    go_wp2_with (first | ((with_reducible refine at_end ?_); refine bodyPost_ret (v := .tuple #[.string ⟨#[]⟩, .bool false]) (results_run2 rfl rfl rfl) rfl ⟨fin_no (fun h => h0 (HCK.out ▸ h)), B2.out⟩) | fail)
end Go.Proofs.YtmhlokehdjnldaaDoor

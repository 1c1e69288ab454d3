/- Programs' texts: the law on lines. -/
import Derived.Test.YtmhlokehdjnldaaDoorAsA
import Derived.Test.YtmhlokehdjnldaaDoorAsH
namespace Go.Proofs.YtmhlokehdjnldaaDoor
open Go.RowKit Go.WideMaps
set_option linter.unusedSimpArgs false
set_option linter.unusedVariables false

def insL (l : List (Nat × Nat × Nat × Nat)) : List Value := l.flatMap fun q => [.int .u8 (q.1 : Int), .int .u8 (q.2.1 : Int), .int .u8 (q.2.2.1 : Int), .int .u8 (q.2.2.2 : Int)]
theorem insL_get : ∀ {l : List (Nat × Nat × Nat × Nat)} {k a1 a2 a3 a4 : Nat}, l[k]? = some (a1, a2, a3, a4) → ∀ j v, ([.int .u8 (a1 : Int), .int .u8 (a2 : Int), .int .u8 (a3 : Int), .int .u8 (a4 : Int)] : List Value)[j]? = some v → (insL l)[k * 4 + j]? = some v
  | [], k, _, _, _, _, h, _, _, _ => by simp at h
  | q :: t, 0, _, _, _, _, h, j, v, hv => by
    simp only [List.getElem?_cons_zero, Option.some.injEq] at h
    subst h
    have hj : j < 4 := by
      rcases Nat.lt_or_ge j 4 with h | h
      · exact h
      · rw [List.getElem?_eq_none (by simpa using h)] at hv; cases hv
    unfold insL
    rw [List.flatMap_cons, Nat.zero_mul, Nat.zero_add, List.getElem?_append_left (by simpa using hj)]
    exact hv
  | q :: t, k + 1, _, _, _, _, h, j, v, hv => by
    have := insL_get (l := t) (k := k) (by simpa using h) j v hv
    unfold insL at this ⊢
    rw [List.flatMap_cons, List.getElem?_append_right (by simp; omega)]
    simpa [show (k + 1) * 4 + j - 4 = k * 4 + j by omega] using this
theorem join_asc : ∀ (ws : List (List UInt8)), (∀ w ∈ ws, ∀ c ∈ w, c.toNat < 128) → ∀ c ∈ joinW ws, c.toNat < 128
  | [], _, c, hc => by simp [joinW] at hc
  | [w], h, c, hc => h w (by simp) c hc
  | w :: v :: t, h, c, hc => by
    rw [joinW] at hc
    simp only [List.mem_append, List.mem_cons] at hc
    rcases hc with hc | rfl | hc
    · exact h w (by simp) c hc
    · decide
    · exact join_asc (v :: t) (fun u hu => h u (by simp only [List.mem_cons] at hu ⊢; exact .inr hu)) c hc
theorem itoaN_asc (n : Nat) : ∀ c ∈ itoaN n, c.toNat < 128 := fun c hc => by
  have := digB_le.1 (itoaN_dig n c hc)
  omega
theorem itoaI_asc (n : Int) : ∀ c ∈ itoaI n, c.toNat < 128 := fun c hc => by
  unfold itoaI at hc
  split at hc
  · simp only [List.mem_cons] at hc
    rcases hc with rfl | hc
    · decide
    · exact itoaN_asc _ c hc
  · exact itoaN_asc _ c hc
theorem regT_asc (n : Nat) : ∀ c ∈ regT n, c.toNat < 128 := fun c hc => by
  unfold regT at hc
  simp only [List.mem_cons] at hc
  rcases hc with rfl | hc
  · decide
  · exact itoaN_asc _ c hc
theorem name_asc (o : Nat) : ∀ c ∈ opNames.getD o [], c.toNat < 128 := fun c hc => by
  rcases Nat.lt_or_ge o 40 with h | h
  · have : ∀ o, o < 40 → (opNames.getD o []).all (fun c => decide (c.toNat < 128)) = true := by decide +kernel
    simpa using List.all_eq_true.1 (this o h) c hc
  · rw [List.getD_eq_getElem?_getD, List.getElem?_eq_none (by simpa [opNames] using h)] at hc
    cases hc
theorem line_asc (o x y z : Nat) : ∀ (j : Nat) b, (lineT o x y z)[j]? = some b → b.toNat < 128 := fun j b hb => by
  refine join_asc _ (fun w hw c hc => ?_) b (List.mem_of_getElem? hb)
  unfold wordsT at hw
  simp only [List.mem_cons] at hw
  rcases hw with rfl | hw
  · exact name_asc o c hc
  · split at hw <;> simp only [List.mem_cons, List.not_mem_nil, or_false] at hw
    · subst hw; exact regT_asc _ c hc
    · rcases hw with rfl | rfl <;> exact regT_asc _ c hc
    · rcases hw with rfl | rfl | rfl <;> exact regT_asc _ c hc
    · rcases hw with rfl | rfl | rfl
      · exact regT_asc _ c hc
      · exact regT_asc _ c hc
      · exact itoaI_asc _ c hc
    · rcases hw with rfl | rfl
      · exact regT_asc _ c hc
      · exact itoaI_asc _ c hc
    · subst hw; exact itoaI_asc _ c hc
    · rcases hw with rfl | rfl | rfl
      · exact regT_asc _ c hc
      · exact regT_asc _ c hc
      · exact itoaI_asc _ c hc
    · subst hw; exact itoaI_asc _ c hc
theorem line_asm {o x y z : Nat} (hx : x < 256) (hy : y < 256) (hz : z < 256) (ho : o < 40) (h : checkA o x y z = 0) : asmA (lineT o x y z) = .ok (0, bT o x y z) := by
  have := asmA_one ⟨wordsT o x y z, none, bT o x y z⟩ (line_ok hx hy hz h) (by simp [bT]) (by have := line_len hx hy hz ho; unfold lineT at this; simp only; omega)
  rw [if_pos (by show fitsA 0 4 = true; decide)] at this
  exact this
set_option maxRecDepth 100000 in
set_option maxHeartbeats 4000000 in
theorem lines_all (o x y z f : Nat) (ho : o < 256) (hx : x < 256) (hy : y < 256) (hz : z < 256) (hf : f < 256) (w : World) (hL : Lw w) : Calls Tryd.prog 6 #[.agg (insC o x y z), .int .u8 (f : Int)] w fun e w' => e = .returned (.bool true) ∧ Below w.heap.size w w' := by
  go_enter Tryd.func6, Tryd.ntmps6
  go_upto_region 1 with (fail)
  refine at_world (fun W => ∃ b, b = w.heap.size ∧ Blk W b 38 (insC o x y z) ∧ Below w.heap.size w W) ⟨_, rfl, Blk.new _ _ _, below1 _ _⟩ (fun w1 h1 => ?_)
  obtain ⟨b, hb, hB, hbl⟩ := h1
  rw [← hb]
  have R1 := hide hB
  have B1 := hide hbl
  have HL1 := hide (hL.below' hbl)
  clear hb hB hbl
  go_wp2_with fail
  refine (awake17_ok _ HL1.out).mono ?_
  rintro e w2 ⟨rfl, hb2⟩
  have R2 := hide (R1.out.below hb2 R1.out.lt)
  have B2 := hide (B1.out.trans (hb2.mono B1.out.size))
  have HL2 := hide (HL1.out.below' hb2)
  clear hb2 R1 B1
  go_upto_region 4 with (first | ((with_reducible refine at_load 38 (.tmp 2) ?_); refine wpList_load_blk rfl 38 (.tmp 2) rfl b _ _ _ (by rfl) R2.out Tryd.underlying38 rfl (size_ins _ _ _ _) ?_) | fail)
  refine at_world (fun W => ∃ p, p = w2.heap.size ∧ Blk W b 38 (insC o x y z) ∧ Blk W p 38 (insC o x y z) ∧ Below w2.heap.size w2 W) ⟨_, rfl, R2.out.alloc _, Blk.new _ _ _, below1 _ _⟩ (fun w3 h3 => ?_)
  obtain ⟨p, hp, hB3, hP3, hb3⟩ := h3
  rw [← hp]
  have R3 := hide hB3
  have P3 := hide hP3
  have B3 := hide hb3
  have HPB := hide (show b ≠ p by have := R2.out.lt; omega)
  have HPW := hide hp
  have HBW2 := hide R2.out.lt
  clear hp hB3 hP3 hb3
  obtain ⟨r, hr⟩ : ∃ r, f % 39 = r := ⟨_, rfl⟩
  obtain ⟨o1, ho1⟩ : ∃ o1, 1 + r = o1 := ⟨_, rfl⟩
  obtain ⟨x1, hx1⟩ : ∃ x1, x % 16 = x1 := ⟨_, rfl⟩
  obtain ⟨y1, hy1⟩ : ∃ y1, y % 16 = y1 := ⟨_, rfl⟩
  have HO := hide (show o1 < 256 ∧ x1 < 256 ∧ y1 < 256 by omega)
  have u1 : (f : Int).tmod 39 = (r : Int) := by rw [Int.tmod_eq_emod_of_nonneg (by omega)]; omega
  have u2 : IntKind.u8.wrap (1 + (r : Int)) = (o1 : Int) := by rw [IntKind.wrap_u8']; omega
  have u3 : (x : Int).tmod 16 = (x1 : Int) := by rw [Int.tmod_eq_emod_of_nonneg (by omega)]; omega
  have u4 : (y : Int).tmod 16 = (y1 : Int) := by rw [Int.tmod_eq_emod_of_nonneg (by omega)]; omega
  have u1' : (f : Int) % 39 = (r : Int) := by omega
  have u3' : (x : Int) % 16 = (x1 : Int) := by omega
  have u4' : (y : Int) % 16 = (y1 : Int) := by omega
  clear hr ho1 hx1 hy1
  refine wp_region_tree (.q 0 (.q 1 (.q 2 (.q 3 (.q 4 (.q 5 (.q 6 (.q 7 (.q 8 (.q 9 (.x 10 (.q 11 (.x 12 (.q 13 (.x 14 .nil))))))))))))))) (fun W => Blk W b 38 (insC o x y z)) (by kernel_rfl) (by kernel_rfl) R3.out ?_
  iterate 10 (refine wpT_q (v := ?_) (by simp only [List.getElem?_toArray, List.getElem?_cons_succ, List.getElem?_cons_zero]; try rfl) (by rfl) (fun W hW => ?_) ?_; rotate_left; (focus (have hW : Blk _ _ _ _ := hW; have x0 := hW.cell 0; have x1 := hW.cell 1; have x2 := hW.cell 2; have x3 := hW.cell 3; have xl := hW.lt; clear hW; go_simp; try with_reducible rfl)); try simp only [Act.put, List.setIfInBounds_toArray, List.set_cons_zero, List.set_cons_succ])
  clear u1 u2 u3 u4 u1' u3' u4'
  refine at_world (fun W => Below w3.heap.size w3 W) (Below.refl _ _).drew (fun w4 h4 => ?_)
  have R4 := hide (R3.out.below h4 R3.out.lt)
  have P4 := hide (P3.out.below h4 P3.out.lt)
  have B4 := hide (B3.out.trans (h4.mono B3.out.size))
  clear h4 R3 P3 B3
  refine wpT_x (by simp only [List.getElem?_toArray, List.getElem?_cons_succ, List.getElem?_cons_zero]; try rfl) (by rfl) (fun K hK => ?_)
  have p0 := P4.out.cell 0
  have pf := P4.out.frozen 0
  have pl := P4.out.lt
  go_simp
  refine hK (fun W => Blk W b 38 (insC o x y z)) _ _ (fun _ h => h) (R4.out.far HPB.out _) ?_
  clear hK K p0 pf pl
  try simp only [Act.put, List.setIfInBounds_toArray, List.set_cons_zero, List.set_cons_succ]
  refine at_world (fun W => Blk W b 38 (insC o x y z) ∧ Blk W p 38 (insC o1 x y z) ∧ Below w2.heap.size w2 W) ⟨R4.out.far HPB.out _, P4.out.set_ 0 (.int .u8 (o1 : Int)), B4.out.setCell (Nat.le_of_eq HPW.out.symm) _⟩ (fun w5 h4 => ?_)
  have R5 := hide h4.1
  have P5 := hide h4.2.1
  have B5 := hide h4.2.2
  clear h4 R4 P4 B4
  (refine wpT_q (v := ?_) (by simp only [List.getElem?_toArray, List.getElem?_cons_succ, List.getElem?_cons_zero]; try rfl) (by rfl) (fun W hW => ?_) ?_; rotate_left; (focus (go_simp; try with_reducible rfl)); try simp only [Act.put, List.setIfInBounds_toArray, List.set_cons_zero, List.set_cons_succ])
  refine wpT_x (by simp only [List.getElem?_toArray, List.getElem?_cons_succ, List.getElem?_cons_zero]; try rfl) (by rfl) (fun K hK => ?_)
  have p0 := P5.out.cell 1
  have pf := P5.out.frozen 1
  have pl := P5.out.lt
  go_simp
  refine hK (fun W => Blk W b 38 (insC o x y z)) _ _ (fun _ h => h) (R5.out.far HPB.out _) ?_
  clear hK K p0 pf pl
  try simp only [Act.put, List.setIfInBounds_toArray, List.set_cons_zero, List.set_cons_succ]
  refine at_world (fun W => Blk W b 38 (insC o x y z) ∧ Blk W p 38 (insC o1 x1 y z) ∧ Below w2.heap.size w2 W) ⟨R5.out.far HPB.out _, P5.out.set_ 1 (.int .u8 (x1 : Int)), B5.out.setCell (Nat.le_of_eq HPW.out.symm) _⟩ (fun w6 h4 => ?_)
  have R6 := hide h4.1
  have P6 := hide h4.2.1
  have B6 := hide h4.2.2
  clear h4 R5 P5 B5
  (refine wpT_q (v := ?_) (by simp only [List.getElem?_toArray, List.getElem?_cons_succ, List.getElem?_cons_zero]; try rfl) (by rfl) (fun W hW => ?_) ?_; rotate_left; (focus (go_simp; try with_reducible rfl)); try simp only [Act.put, List.setIfInBounds_toArray, List.set_cons_zero, List.set_cons_succ])
  refine wpT_x (by simp only [List.getElem?_toArray, List.getElem?_cons_succ, List.getElem?_cons_zero]; try rfl) (by rfl) (fun K hK => ?_)
  have p0 := P6.out.cell 2
  have pf := P6.out.frozen 2
  have pl := P6.out.lt
  go_simp
  refine hK (fun W => Blk W b 38 (insC o x y z)) _ _ (fun _ h => h) (R6.out.far HPB.out _) ?_
  clear hK K p0 pf pl
  try simp only [Act.put, List.setIfInBounds_toArray, List.set_cons_zero, List.set_cons_succ]
  refine at_world (fun W => Blk W b 38 (insC o x y z) ∧ Blk W p 38 (insC o1 x1 y1 z) ∧ Below w2.heap.size w2 W) ⟨R6.out.far HPB.out _, P6.out.set_ 2 (.int .u8 (y1 : Int)), B6.out.setCell (Nat.le_of_eq HPW.out.symm) _⟩ (fun w7 h4 => ?_)
  have R7 := hide h4.1
  have P7 := hide h4.2.1
  have B7 := hide h4.2.2
  clear h4 R6 P6 B6
  refine wpT_nil ?_
  have x0 := R7.out.cell 0; have x1' := R7.out.cell 1; have x2 := R7.out.cell 2; have x3 := R7.out.cell 3; have xl := R7.out.lt
  have y0 := P7.out.cell 0; have y1' := P7.out.cell 1; have y2 := P7.out.cell 2; have y3 := P7.out.cell 3; have yl := P7.out.lt
  go_wp2_with (first | ((with_reducible refine at_load 38 (.tmp 2) ?_); refine wpList_load_blk rfl 38 (.tmp 2) rfl b _ _ _ (by rfl) R7.out Tryd.underlying38 rfl (size_ins _ _ _ _) ?_) | ((with_reducible refine at_load 38 (.tmp 5) ?_); refine wpList_load_blk rfl 38 (.tmp 5) rfl p _ _ _ (by rfl) P7.out Tryd.underlying38 rfl (size_ins _ _ _ _) ?_) | fail)
  clear x0 x1' x2 x3 xl y0 y1' y2 y3 yl
  refine at_world (fun W => ∃ g, g = w7.heap.size ∧ Blk W g 38 (insL [(o, x, y, z), (o1, x1, y1, z), (o1, x1, y1, 0), (o1, x1, y1, 8), (o1, 0, y, z), (o1, 0, y, 0), (o1, 0, 0, 0)]).toArray ∧ Below w2.heap.size w2 W) ⟨_, rfl, Blk.new _ _ _, B7.out.alloc B7.out.size _⟩ (fun w8 h8 => ?_)
  obtain ⟨g, hg, hG, hb8⟩ := h8
  rw [← hg]
  have hall : ∀ q ∈ [(o, x, y, z), (o1, x1, y1, z), (o1, x1, y1, 0), (o1, x1, y1, 8), (o1, 0, y, z), (o1, 0, y, 0), (o1, 0, 0, 0)], q.1 < 256 ∧ q.2.1 < 256 ∧ q.2.2.1 < 256 ∧ q.2.2.2 < 256 := by
    have h := HO.out
    intro q hq
    simp only [List.mem_cons, List.not_mem_nil, or_false] at hq
    rcases hq with rfl | rfl | rfl | rfl | rfl | rfl | rfl <;> simp <;> omega
  obtain ⟨IS, hIS⟩ : ∃ IS, [(o, x, y, z), (o1, x1, y1, z), (o1, x1, y1, 0), (o1, x1, y1, 8), (o1, 0, y, z), (o1, 0, y, 0), (o1, 0, 0, 0)] = IS := ⟨_, rfl⟩
  have HLEN : Hid (IS.length = 7) := hide (by rw [← hIS]; rfl)
  rw [hIS] at hG hall
  have HALL := hide hall
  have G8 := hide hG
  have B8 := hide hb8
  clear hg hG hb8 hall hIS R7 P7 B7
  go_loopg [63] 7 (fun gh x63 wr => ∃ k : Nat, k ≤ 7 ∧ gh = 7 - k ∧ x63 = .int .i64 (k : Nat) ∧ Hid (Blk wr g 38 (insL IS).toArray ∧ Below w2.heap.size w2 wr))
  case atStart => exact ⟨0, by omega, rfl, rfl, hide ⟨G8.out, B8.out⟩⟩
  case round =>
    obtain ⟨k, hk, hgh, rfl, HW⟩ := hrel
    by_cases hk7 : k < 7
    · have t1 : decide ((k : Int) < 7) = true := by simp; omega
      have hkz : (k : Int) < 7 := by omega
      obtain ⟨⟨a1, a2, a3, a4⟩, hq⟩ : ∃ q, IS[k]? = some q := ⟨_, List.getElem?_eq_getElem (by rw [HLEN.out]; exact hk7)⟩
      obtain ⟨b1, b2, b3, b4⟩ := HALL.out _ (List.mem_of_getElem? hq)
      have HRG := hide (HW.out.1.range (o := k * 4) (xs := [.int .u8 (a1 : Int), .int .u8 (a2 : Int), .int .u8 (a3 : Int), .int .u8 (a4 : Int)]) (fun j v hj => by rw [List.getElem?_toArray]; exact insL_get hq j v hj))
      simp only at b1 b2 b3 b4
      clear hq
      go_upto_region 8 with (first | ((with_reducible refine at_load 38 (.tmp 65) ?_); refine wpList_load_mid rfl 38 (.tmp 65) rfl g (k * 4) (by rfl) [.int .u8 (a1 : Int), .int .u8 (a2 : Int), .int .u8 (a3 : Int), .int .u8 (a4 : Int)] _ HRG.out Tryd.underlying38 rfl (by kernel_rfl) ?_) | fail)
      refine at_world (fun W => ∃ c, c = wr.heap.size ∧ Blk W c 38 (insC a1 a2 a3 a4) ∧ Blk W g 38 (insL IS).toArray ∧ Below w2.heap.size w2 W) ⟨_, rfl, Blk.new _ _ _, HW.out.1.alloc _, HW.out.2.alloc HW.out.2.size _⟩ (fun w9 h9 => ?_)
      obtain ⟨c, hc, hC9, hG9, hb9⟩ := h9
      rw [← hc]
      have C9 := hide hC9
      have HW9 := hide (And.intro hG9 hb9)
      clear hc hC9 hG9 hb9 HRG HW
      go_wp2_with (first | ((with_reducible refine at_load 38 (.tmp 7) ?_); refine wpList_load_blk rfl 38 (.tmp 7) rfl c _ _ _ (by rfl) C9.out Tryd.underlying38 rfl (size_ins _ _ _ _) ?_) | fail)
      refine (line_walk a1 a2 a3 a4 b2 b3 b4 _).mono ?_
      rintro e w10 ⟨rfl, hb10⟩
      have C10 := hide (C9.out.below hb10 C9.out.lt)
      have HW10 := hide (And.intro (HW9.out.1.below hb10 HW9.out.1.lt) (HW9.out.2.trans (hb10.mono HW9.out.2.size)))
      clear hb10 C9 HW9
      obtain ⟨ck, hck⟩ : ∃ ck, checkA a1 a2 a3 a4 = ck := ⟨_, rfl⟩
      have HCK := hide hck
      rw [hck]
      clear hck
      by_cases h0 : ck = 0
      rotate_left
      · have hkz0 : decide (ck = 0) = false := by simp; exact h0
        have hkz1 : (ck == 0) = false := by simp; exact h0
        rw [if_neg h0, hkz0, show str ([] : List UInt8) = ⟨#[]⟩ from rfl]
        clear h0 hkz0
        go_wp2_with (first | ((with_reducible refine at_load 38 (.tmp 7) ?_); refine wpList_load_blk rfl 38 (.tmp 7) rfl c _ _ _ (by rfl) C10.out Tryd.underlying38 rfl (size_ins _ _ _ _) ?_) | fail)
        refine (refcheck_ok a1 a2 a3 a4 b1 _).mono ?_
        rintro e w11 ⟨rfl, hb11⟩
        have C11 := hide (C10.out.below hb11 C10.out.lt)
        have HW11 := hide (And.intro (HW10.out.1.below hb11 HW10.out.1.lt) (HW10.out.2.trans (hb11.mono HW10.out.2.size)))
        clear hb11 C10 HW10
        rw [HCK.out]
        go_wp2_with fail
        go_roundg (7 - (k + 1))
        case measure => omega
        case rel => exact ⟨k + 1, by omega, rfl, by go_num, hide HW11.out⟩
      · subst h0
        rw [if_pos rfl, show decide ((0 : Int) = 0) = true from rfl]
        obtain ⟨S, hS⟩ : ∃ S, str (lineT a1 a2 a3 a4) = S := ⟨_, rfl⟩
        rw [hS]
        go_wp2_with (first | ((with_reducible refine at_load 38 (.tmp 7) ?_); refine wpList_load_blk rfl 38 (.tmp 7) rfl c _ _ _ (by rfl) C10.out Tryd.underlying38 rfl (size_ins _ _ _ _) ?_) | fail)
        refine (refcheck_ok a1 a2 a3 a4 b1 _).mono ?_
        rintro e w11 ⟨rfl, hb11⟩
        have C11 := hide (C10.out.below hb11 C10.out.lt)
        have HW11 := hide (And.intro (HW10.out.1.below hb11 HW10.out.1.lt) (HW10.out.2.trans (hb11.mono HW10.out.2.size)))
        clear hb11 C10 HW10
        rw [HCK.out]
        have ha40 : a1 < 40 := (formA_lt a1 (by
          intro e
          have := HCK.out
          unfold checkA at this
          rw [if_pos e] at this; cases this)).2
        have z0 := C11.out.cell 0; have z1 := C11.out.cell 1; have z2 := C11.out.cell 2; have z3 := C11.out.cell 3; have zl := C11.out.lt
        go_wp2_with fail
        clear z0 z1 z2 z3 zl
        refine (refprint_ok a1 a2 a3 a4 ha40 b2 b3 b4 HCK.out _).mono ?_
        rintro e w12 ⟨rfl, hb12⟩
        rw [hS]
        have C12 := hide (C11.out.below hb12 C11.out.lt)
        have HW12 := hide (And.intro (HW11.out.1.below hb12 HW11.out.1.lt) (HW11.out.2.trans (hb12.mono HW11.out.2.size)))
        have HS := hide hS
        clear hb12 C11 HW11 hS
        go_wp2_with fail
        refine (asm_ok S _ (by rw [← HS.out]; simpa [str] using line_asc a1 a2 a3 a4) (HL2.out.below' HW12.out.2)).mono ?_
        rintro e w13 ⟨hans, hb13⟩
        rw [show S.data.toList = lineT a1 a2 a3 a4 by rw [← HS.out]; simp [str], line_asm b2 b3 b4 ha40 HCK.out] at hans
        obtain ⟨-, -, A, cc, rfl, hown⟩ := hans
        have C13 := hide (C12.out.below hb13 C12.out.lt)
        have HW13 := hide (And.intro (HW12.out.1.below hb13 HW12.out.1.lt) (HW12.out.2.trans (hb13.mono HW12.out.2.size)))
        rw [show (bT a1 a2 a3 a4).length = 4 from rfl] at hown ⊢
        have HRD := hide (Rd.of_own hown)
        clear hb13 hown C12 HW12
        go_upto_region 14 with (fail)
        refine at_world (fun W => ∃ m, m = w13.heap.size ∧ Blk W m 27 #[.int .u8 0, .slice A 4 cc] ∧ Blk W c 38 (insC a1 a2 a3 a4) ∧ Rd W m 1 A 4 (bvs (bT a1 a2 a3 a4)) ∧ Blk W g 38 (insL IS).toArray ∧ Below w2.heap.size w2 W) ⟨_, rfl, Blk.new _ _ _, C13.out.alloc _, HRD.out.alloc (Nat.le_refl _) _, HW13.out.1.alloc _, HW13.out.2.alloc HW13.out.2.size _⟩ (fun w14 h14 => ?_)
        obtain ⟨m, hm, hM, hC, hRd, hGG, hBB⟩ := h14
        rw [← hm]
        have M14 := hide hM
        have C14 := hide hC
        have RD14 := hide hRd
        have HW14 := hide (And.intro hGG hBB)
        clear hm hM hC hRd hGG hBB C13 HRD HW13
        go_wp2_with (first | ((with_reducible refine at_load 38 (.tmp 7) ?_); refine wpList_load_blk rfl 38 (.tmp 7) rfl c _ _ _ (by rfl) C14.out Tryd.underlying38 rfl (size_ins _ _ _ _) ?_) | fail)
        refine (pack_ok a1 a2 a3 a4 _).mono ?_
        rintro e w15 ⟨rfl, hb15⟩
        have M15 := hide (M14.out.below hb15 M14.out.lt)
        have RD15 := hide (RD14.out.below (hb15.mono (Nat.le_of_lt M14.out.lt)))
        have HW15 := hide (And.intro (HW14.out.1.below hb15 HW14.out.1.lt) (HW14.out.2.trans (hb15.mono HW14.out.2.size)))
        clear hb15 M14 RD14 HW14 C14
        go_upto_region 15 with (fail)
        refine at_world (fun W => ∃ d, d = w15.heap.size ∧ Blk W d 40 (fourC a1 a2 a3 a4) ∧ Blk W m 27 #[.int .u8 0, .slice A 4 cc] ∧ Rd W m 1 A 4 (bvs (bT a1 a2 a3 a4)) ∧ Blk W g 38 (insL IS).toArray ∧ Below w2.heap.size w2 W) ⟨_, rfl, Blk.new _ _ _, M15.out.alloc _, RD15.out.alloc (Nat.le_of_lt M15.out.lt) _, HW15.out.1.alloc _, HW15.out.2.alloc HW15.out.2.size _⟩ (fun w16 h16 => ?_)
        obtain ⟨d, hd, hD, hM, hRd, hGG, hBB⟩ := h16
        rw [← hd]
        have hrd2 : Rd w16.drew w16.drew.heap.size 1 (some ⟨d, 0, none⟩) 4 (bvs (bT a1 a2 a3 a4)) := ⟨rfl, fun _ => ⟨d, 0, rfl, hD.lt, fun j u hu => by
          rw [Nat.zero_add]
          refine (hD.drew.cell j).trans ?_
          rw [← hu]
          match j with
          | 0 => simp [bvs, bT, bv]; omega
          | 1 => simp [bvs, bT, bv]; omega
          | 2 => simp [bvs, bT, bv]; omega
          | 3 => simp [bvs, bT, bv]; omega
          | j + 4 => simp [bvs, bT]⟩⟩
        have k1 : (convert 22 9 (.slice A 4 cc)).run Tryd.prog w16.drew = .ok (.string (str (bT a1 a2 a3 a4))) w16.drew :=
          run_string_rd (P := Tryd.prog) 22 5 9 Tryd.underlying22 Tryd.underlying5 Tryd.underlying9 hRd.drew
        have k2 : (convert 22 9 (.slice (some ⟨d, 0, none⟩) 4 4)).run Tryd.prog w16.drew = .ok (.string (str (bT a1 a2 a3 a4))) w16.drew :=
          run_string_rd (P := Tryd.prog) 22 5 9 Tryd.underlying22 Tryd.underlying5 Tryd.underlying9 hrd2
        have k3 : (Instr.sliceAt 40 (.pointer (some ⟨d, 0, none⟩)) none none none).run Tryd.prog w16.drew = .ok (.slice (some ⟨d, 0, none⟩) 4 4) w16.drew := run_slice_whole (P := Tryd.prog) 40 5 d 4 Tryd.underlying40 (by kernel_rfl) (by omega)
        obtain ⟨V, hV⟩ : ∃ V, str (bT a1 a2 a3 a4) = V := ⟨_, rfl⟩
        rw [hV] at k1 k2
        have m1 : w16.drew.cell? ⟨m, 1, none⟩ = some (.slice A 4 cc) := hM.drew.cell 1
        have ml : m < w16.drew.heap.size := hM.lt
        have HW16 := hide (And.intro hGG hBB)
        clear hd hD hM hRd hGG hBB hrd2 hV M15 RD15 HW15
        refine wp_region_tree (.q 0 (.q 1 (.q 2 (.q 3 (.q 4 (.q 5 (.q 6 (.q 7 (.q 8 (.q 9 (.q 10 (.q 11 (.q 12 (.q 13 .nil)))))))))))))) (· = w16.drew) (by kernel_rfl) (by kernel_rfl) rfl ?_
        iterate 14 (refine wpT_q (v := ?_) (by simp only [List.getElem?_toArray, List.getElem?_cons_succ, List.getElem?_cons_zero]; try rfl) (by rfl) (fun W hW => ?_) ?_; rotate_left; (focus (have hW : W = w16.drew := hW; subst hW; go_simp; try with_reducible rfl)); try simp only [Act.put, List.setIfInBounds_toArray, List.set_cons_zero, List.set_cons_succ])
        refine wpT_nil ?_
        clear k1 k2 k3 m1 ml
        refine at_world (fun W => Blk W g 38 (insL IS).toArray ∧ Below w2.heap.size w2 W) ⟨HW16.out.1.drew, HW16.out.2.drew⟩ (fun w17 h17 => ?_)
        have HW17 := hide h17
        clear h17 HW16
        go_wp2_with fail
        go_roundg (7 - (k + 1))
        case measure => omega
        case rel => exact ⟨k + 1, by omega, rfl, by go_num, hide HW17.out⟩
    · have hk7' : k = 7 := by omega
      have t1 : decide ((k : Int) < 7) = false := by simp; omega
      have hkz : ¬ (k : Int) < 7 := by omega
      clear hk7 hk hgh hk7'
      go_wp2
      go_returns
      exact ⟨by simp, B2.out.trans (HW.out.2.mono B2.out.size)⟩
end Go.Proofs.YtmhlokehdjnldaaDoor

/- Programs' texts: the document's Print. Printed by wip/tools/asprint.py. -/
import Derived.Test.YtmhlokehdjnldaaDoorAsG
namespace Go.Proofs.YtmhlokehdjnldaaDoor
open Go.RowKit Go.WideMaps
set_option linter.unusedSimpArgs false
set_option linter.unusedVariables false

/-- so many registers, each behind a blank -/
def regsL (l : List Nat) : List UInt8 := l.flatMap fun v => 32 :: regT v
theorem regsL_snoc {l : List Nat} {k v : Nat} (h : l[k]? = some v) : regsL (l.take (k + 1)) = regsL (l.take k) ++ 32 :: regT v := by
  rw [List.take_add_one, h]
  unfold regsL
  rw [List.flatMap_append]
  simp
theorem regsL_len {l : List Nat} (hl : ∀ v ∈ l, v < 256) : (regsL l).length ≤ 5 * l.length := by
  induction l with
  | nil => exact Nat.le_refl _
  | cons v t ih =>
    have h1 := regT_256 (hl v (by simp))
    have h2 := ih fun u hu => hl u (by simp [hu])
    have : regsL (v :: t) = 32 :: regT v ++ regsL t := rfl
    rw [this, List.length_append, List.length_cons, List.length_cons]
    omega
theorem fin_str {s : ByteArray} {l : List UInt8} (h : s.data.toList = l) : Ending.returned (.string s) = Ending.returned (.string (str l)) := by
  rw [← h]; rfl
set_option maxRecDepth 100000 in
set_option maxHeartbeats 4000000 in
theorem refprint_ok (o x y z : Nat) (ho : o < 40) (hx : x < 256) (hy : y < 256) (hz : z < 256) (hc : checkA o x y z = 0) (w : World) : Calls Tryd.prog 16 #[.agg (insC o x y z)] w fun e w' => e = .returned (.string (str (lineT o x y z))) ∧ Below w.heap.size w w' := by
  have hf9 : formA o ≤ 8 := by
    have h1 := hc
    unfold checkA at h1
    have hlt : formA o ≤ 9 := formA_le o
    by_cases h9 : formA o = 9
    · rw [if_pos h9] at h1; cases h1
    · omega
  clear hc
  go_enter Tryd.func16, Tryd.ntmps16
  go_upto_region 1 with (fail)
  refine at_world (fun W => ∃ b, b = w.heap.size ∧ Blk W b 38 (insC o x y z) ∧ Below w.heap.size w W) ⟨_, rfl, Blk.new _ _ _, below1 _ _⟩ (fun w1 h1 => ?_)
  obtain ⟨b, hb, hB, hbl⟩ := h1
  rw [← hb]
  have R1 := hide hB
  have B1 := hide hbl
  have HBW := hide hb
  clear hb hB hbl
  have o40 : (o : Int) < 40 := by omega
  refine wp_region_tree (.q 1 (.q 2 (.x 0 (.q 3 (.q 4 (.q 5 .nil)))))) (fun W => Blk W b 38 (insC o x y z)) (by kernel_rfl) (by kernel_rfl) R1.out ?_
  iterate 2 (refine wpT_q (v := ?_) (by simp only [List.getElem?_toArray, List.getElem?_cons_succ, List.getElem?_cons_zero]; try rfl) (by rfl) (fun W hW => ?_) ?_; rotate_left; (focus (have hW : Blk _ _ _ _ := hW; have x0 := hW.cell 0; have xl := hW.lt; clear hW; go_simp; try with_reducible rfl)); try simp only [Act.put, List.setIfInBounds_toArray, List.set_cons_zero, List.set_cons_succ])
  refine wpT_x (by simp only [List.getElem?_toArray, List.getElem?_cons_succ, List.getElem?_cons_zero]; try rfl) (by rfl) (fun KK hKK => ?_)
  go_simp
  refine (names_ok _).mono ?_
  rintro e w2 ⟨g, rfl, -, hg, hcg, hb'⟩
  have hb : Below w1.heap.size w1 w2 := (Below.refl _ _).drew.trans hb'
  obtain ⟨nm, hnm⟩ : ∃ nm, opNames.getD o [] = nm := ⟨_, rfl⟩
  obtain ⟨N, hN⟩ : ∃ N, str nm = N := ⟨_, rfl⟩
  have hjc := hcg o ho
  rw [hnm, hN] at hjc
  have HX : Hid (N.data.toList = nm ∧ nm.length ≤ 4) := hide ⟨by rw [← hN]; simp [str], by rw [← hnm]; exact name_len4 o⟩
  have HNM := hide hnm
  refine hKK (fun W => Blk W b 38 (insC o x y z) ∧ W.cell? ⟨g, o, none⟩ = some (.string N)) _ _ (fun _ h => h.1) ⟨R1.out.below hb R1.out.lt, hjc⟩ ?_
  have B2 := hide (B1.out.trans (hb.mono B1.out.size))
  have R2 := hide (R1.out.below hb R1.out.lt)
  clear hKK KK hb hb' hcg hN hnm
  try simp only [Act.put, List.setIfInBounds_toArray, List.set_cons_zero, List.set_cons_succ]
  iterate 3 (refine wpT_q (v := ?_) (by simp only [List.getElem?_toArray, List.getElem?_cons_succ, List.getElem?_cons_zero]; try rfl) (by rfl) (fun W hW => ?_) ?_; rotate_left; (focus (have hW : Blk _ _ _ _ ∧ _ := hW; have x0 := hW.1.cell 0; have xl := hW.1.lt; have jc := hW.2; clear hW; go_simp; try with_reducible rfl)); try simp only [Act.put, List.setIfInBounds_toArray, List.set_cons_zero, List.set_cons_succ])
  refine wpT_nil ?_
  have x0 := R2.out.cell 0
  have xl := R2.out.lt
  have v1 : IntKind.i64.wrap (o : Int) = (o : Int) := IntWalk.i64_in _ (by omega)
  go_wp2_with fail
  clear v1
  refine (form_ok o _).mono ?_
  rintro e w3 ⟨rfl, hb3⟩
  have R3 := hide (R2.out.below hb3 R2.out.lt)
  have B3 := hide (B2.out.trans (hb3.mono B2.out.size))
  have r3 : Blk _ _ _ _ := R3.out
  have x1 := r3.cell 1
  have x2 := r3.cell 2
  have x3 := r3.cell 3
  have xl3 := r3.lt
  clear hb3 R2 B2 x0 xl r3 hjc hg R1 B1
  have hcs := form_cases o hf9
  obtain ⟨f, hf⟩ : ∃ f, formA o = f := ⟨_, rfl⟩
  rw [show formV o = (f : Int) by unfold formV; rw [if_neg (by omega), hf]]
  rw [hf] at hcs
  have HF := hide hf
  clear hf hf9
  have HXYZ := hide (And.intro hx (And.intro hy hz))
  clear o40
  rcases hcs with rfl | rfl | rfl | rfl | rfl | rfl | rfl | rfl | rfl
  · have HL : Hid (lineT o x y z = opNames.getD o [] ++ regsL ([x, y, z].take 0)) := hide (by unfold lineT wordsT; rw [HF.out]; simp [joinW, regsL, itoaI_nat])
    rw [HNM.out] at HL
    go_upto_region 5 with (fail)
    refine at_world (fun W => ∃ l, l = w3.heap.size + 1 ∧ Blk W b 38 (insC o x y z) ∧ Blk W l 5 #[.int .u8 (x : Int), .int .u8 (y : Int), .int .u8 (z : Int)] ∧ Below w.heap.size w W) ⟨_, rfl, (R3.out.alloc _).alloc _, (World.size_alloc w3 _ ▸ Blk.new (w3.alloc _) _ _), (B3.out.alloc B3.out.size _).alloc (by have := B3.out.size; simp; omega) _⟩ (fun w5 h5 => ?_)
    obtain ⟨l, hl, hB5, hl5, hb5⟩ := h5
    try simp only [World.size_alloc]
    rw [← hl]
    have R5 := hide hB5
    have L5 := hide hl5
    have B5 := hide hb5
    clear hl hB5 hl5 hb5 x1 x2 x3 xl3 R3 B3
    go_wp2_with fail
    go_loopg [3, 7] 0 (fun gh x3 x7 wr => ∃ (k : Nat) (t : ByteArray), k ≤ 0 ∧ gh = 0 - k ∧ x7 = .int .i64 (k : Nat) ∧ x3 = .string t ∧ Hid (t.data.toList = nm ++ regsL ([x, y, z].take k)) ∧ Hid (Blk wr b 38 (insC o x y z) ∧ Blk wr l 5 #[.int .u8 (x : Int), .int .u8 (y : Int), .int .u8 (z : Int)] ∧ Below w.heap.size w wr))
    case atStart => exact ⟨0, N, by omega, rfl, rfl, rfl, hide (by rw [HX.out.1]; simp [regsL]), hide ⟨R5.out, L5.out, B5.out⟩⟩
    case round =>
      obtain ⟨k, t, hk, hg, rfl, rfl, HT, HW⟩ := hrel
      have hts : t.size ≤ 30 := by
        rw [sz, HT.out, List.length_append]
        have h1 := HX.out.2
        have h2 := regsL_len (l := [x, y, z].take k) (fun v hv => by
          have := List.mem_of_mem_take hv
          have h := HXYZ.out
          simp at this; omega)
        have h3 : ([x, y, z].take k).length ≤ 3 := by rw [List.length_take]; simp; omega
        omega
      have hkr' : k = 0 := by omega
      subst hkr'
      have B6 := hide HW.out.2.2
      have R6 := hide HW.out.1
      have r6 : Blk _ _ _ _ := HW.out.1
      have x2 := r6.cell 2
      have x3 := r6.cell 3
      have xl := r6.lt
      clear HW r6 hg hk
      go_wp2_with (first | ((with_reducible refine at_end ?_); refine bodyPost_ret (v := .string t) (results_run1 rfl rfl) rfl ⟨fin_str (by rw [HL.out, HT.out]), B6.out⟩) | fail)
  · have HL : Hid (lineT o x y z = opNames.getD o [] ++ regsL ([x, y, z].take 1)) := hide (by unfold lineT wordsT; rw [HF.out]; simp [joinW, regsL, itoaI_nat])
    rw [HNM.out] at HL
    go_upto_region 5 with (fail)
    refine at_world (fun W => ∃ l, l = w3.heap.size + 1 ∧ Blk W b 38 (insC o x y z) ∧ Blk W l 5 #[.int .u8 (x : Int), .int .u8 (y : Int), .int .u8 (z : Int)] ∧ Below w.heap.size w W) ⟨_, rfl, (R3.out.alloc _).alloc _, (World.size_alloc w3 _ ▸ Blk.new (w3.alloc _) _ _), (B3.out.alloc B3.out.size _).alloc (by have := B3.out.size; simp; omega) _⟩ (fun w5 h5 => ?_)
    obtain ⟨l, hl, hB5, hl5, hb5⟩ := h5
    try simp only [World.size_alloc]
    rw [← hl]
    have R5 := hide hB5
    have L5 := hide hl5
    have B5 := hide hb5
    clear hl hB5 hl5 hb5 x1 x2 x3 xl3 R3 B3
    go_wp2_with fail
    go_loopg [3, 7] 1 (fun gh x3 x7 wr => ∃ (k : Nat) (t : ByteArray), k ≤ 1 ∧ gh = 1 - k ∧ x7 = .int .i64 (k : Nat) ∧ x3 = .string t ∧ Hid (t.data.toList = nm ++ regsL ([x, y, z].take k)) ∧ Hid (Blk wr b 38 (insC o x y z) ∧ Blk wr l 5 #[.int .u8 (x : Int), .int .u8 (y : Int), .int .u8 (z : Int)] ∧ Below w.heap.size w wr))
    case atStart => exact ⟨0, N, by omega, rfl, rfl, rfl, hide (by rw [HX.out.1]; simp [regsL]), hide ⟨R5.out, L5.out, B5.out⟩⟩
    case round =>
      obtain ⟨k, t, hk, hg, rfl, rfl, HT, HW⟩ := hrel
      have hts : t.size ≤ 30 := by
        rw [sz, HT.out, List.length_append]
        have h1 := HX.out.2
        have h2 := regsL_len (l := [x, y, z].take k) (fun v hv => by
          have := List.mem_of_mem_take hv
          have h := HXYZ.out
          simp at this; omega)
        have h3 : ([x, y, z].take k).length ≤ 3 := by rw [List.length_take]; simp; omega
        omega
      by_cases hkr : k < 1
      · have t1 : decide ((k : Int) < 1) = true := by simp; omega
        have hkz : (k : Int) < 1 := by omega
        have hk3 : (k : Int) < 3 := by omega
        obtain ⟨v, hv⟩ : ∃ v, [x, y, z][k]? = some v := ⟨_, List.getElem?_eq_getElem (by simp; omega)⟩
        have hv256 : v < 256 := by
          have := List.mem_of_getElem? hv
          have h := HXYZ.out
          simp at this; omega
        have lc : wr.cell? ⟨l, k, none⟩ = some (.int .u8 (v : Int)) := (HW.out.2.1.cell k).trans (by
          have := congrArg (Option.map fun n : Nat => Value.int .u8 (n : Int)) hv
          rw [List.getElem?_toArray, ← List.getElem?_map] at *
          exact this)
        have ll := HW.out.2.1.lt
        have v1 : IntKind.i64.wrap (v : Int) = (v : Int) := IntWalk.i64_in _ (by omega)
        have HS := hide (regsL_snoc hv)
        have l1 : ¬ 9223372036854775807 < t.size + 2 := by omega
        clear hv
        go_wp2_with fail
        clear v1
        refine (itoa_nat v (by omega) _).mono ?_
        rintro e w6 ⟨rfl, hb6⟩
        have HW6 : Hid (Blk w6 b 38 (insC o x y z) ∧ Blk w6 l 5 #[.int .u8 (x : Int), .int .u8 (y : Int), .int .u8 (z : Int)] ∧ Below w.heap.size w w6) := hide ⟨HW.out.1.below hb6 HW.out.1.lt, HW.out.2.1.below hb6 HW.out.2.1.lt, HW.out.2.2.trans (hb6.mono HW.out.2.2.size)⟩
        obtain ⟨V, hV⟩ : ∃ V, str (itoaN v) = V := ⟨_, rfl⟩
        have nV : V.size ≤ 100 := by rw [← hV, str_size]; have := itoaN_256 hv256; omega
        rw [hV]
        have HT6 : Hid ((t ++ ⟨#[32, 114]⟩ ++ V).data.toList = nm ++ regsL ([x, y, z].take (k + 1))) := hide (by rw [HS.out, ← List.append_assoc, ← HT.out, ← hV]; simp [str, regT])
        have l2 : ¬ 9223372036854775807 < t.size + 2 + V.size := by omega
        clear hV hb6 lc ll
        go_wp2_with fail
        go_roundg (1 - (k + 1))
        case measure => omega
        case rel => exact ⟨k + 1, _, by omega, rfl, by go_num, rfl, HT6, HW6⟩
      have hkr' : k = 1 := by omega
      subst hkr'
      have B6 := hide HW.out.2.2
      have R6 := hide HW.out.1
      have r6 : Blk _ _ _ _ := HW.out.1
      have x2 := r6.cell 2
      have x3 := r6.cell 3
      have xl := r6.lt
      clear hkr
      clear HW r6 hg hk
      go_wp2_with (first | ((with_reducible refine at_end ?_); refine bodyPost_ret (v := .string t) (results_run1 rfl rfl) rfl ⟨fin_str (by rw [HL.out, HT.out]), B6.out⟩) | fail)
  · have HL : Hid (lineT o x y z = opNames.getD o [] ++ regsL ([x, y, z].take 2)) := hide (by unfold lineT wordsT; rw [HF.out]; simp [joinW, regsL, itoaI_nat])
    rw [HNM.out] at HL
    go_upto_region 5 with (fail)
    refine at_world (fun W => ∃ l, l = w3.heap.size + 1 ∧ Blk W b 38 (insC o x y z) ∧ Blk W l 5 #[.int .u8 (x : Int), .int .u8 (y : Int), .int .u8 (z : Int)] ∧ Below w.heap.size w W) ⟨_, rfl, (R3.out.alloc _).alloc _, (World.size_alloc w3 _ ▸ Blk.new (w3.alloc _) _ _), (B3.out.alloc B3.out.size _).alloc (by have := B3.out.size; simp; omega) _⟩ (fun w5 h5 => ?_)
    obtain ⟨l, hl, hB5, hl5, hb5⟩ := h5
    try simp only [World.size_alloc]
    rw [← hl]
    have R5 := hide hB5
    have L5 := hide hl5
    have B5 := hide hb5
    clear hl hB5 hl5 hb5 x1 x2 x3 xl3 R3 B3
    go_wp2_with fail
    go_loopg [3, 7] 2 (fun gh x3 x7 wr => ∃ (k : Nat) (t : ByteArray), k ≤ 2 ∧ gh = 2 - k ∧ x7 = .int .i64 (k : Nat) ∧ x3 = .string t ∧ Hid (t.data.toList = nm ++ regsL ([x, y, z].take k)) ∧ Hid (Blk wr b 38 (insC o x y z) ∧ Blk wr l 5 #[.int .u8 (x : Int), .int .u8 (y : Int), .int .u8 (z : Int)] ∧ Below w.heap.size w wr))
    case atStart => exact ⟨0, N, by omega, rfl, rfl, rfl, hide (by rw [HX.out.1]; simp [regsL]), hide ⟨R5.out, L5.out, B5.out⟩⟩
    case round =>
      obtain ⟨k, t, hk, hg, rfl, rfl, HT, HW⟩ := hrel
      have hts : t.size ≤ 30 := by
        rw [sz, HT.out, List.length_append]
        have h1 := HX.out.2
        have h2 := regsL_len (l := [x, y, z].take k) (fun v hv => by
          have := List.mem_of_mem_take hv
          have h := HXYZ.out
          simp at this; omega)
        have h3 : ([x, y, z].take k).length ≤ 3 := by rw [List.length_take]; simp; omega
        omega
      by_cases hkr : k < 2
      · have t1 : decide ((k : Int) < 2) = true := by simp; omega
        have hkz : (k : Int) < 2 := by omega
        have hk3 : (k : Int) < 3 := by omega
        obtain ⟨v, hv⟩ : ∃ v, [x, y, z][k]? = some v := ⟨_, List.getElem?_eq_getElem (by simp; omega)⟩
        have hv256 : v < 256 := by
          have := List.mem_of_getElem? hv
          have h := HXYZ.out
          simp at this; omega
        have lc : wr.cell? ⟨l, k, none⟩ = some (.int .u8 (v : Int)) := (HW.out.2.1.cell k).trans (by
          have := congrArg (Option.map fun n : Nat => Value.int .u8 (n : Int)) hv
          rw [List.getElem?_toArray, ← List.getElem?_map] at *
          exact this)
        have ll := HW.out.2.1.lt
        have v1 : IntKind.i64.wrap (v : Int) = (v : Int) := IntWalk.i64_in _ (by omega)
        have HS := hide (regsL_snoc hv)
        have l1 : ¬ 9223372036854775807 < t.size + 2 := by omega
        clear hv
        go_wp2_with fail
        clear v1
        refine (itoa_nat v (by omega) _).mono ?_
        rintro e w6 ⟨rfl, hb6⟩
        have HW6 : Hid (Blk w6 b 38 (insC o x y z) ∧ Blk w6 l 5 #[.int .u8 (x : Int), .int .u8 (y : Int), .int .u8 (z : Int)] ∧ Below w.heap.size w w6) := hide ⟨HW.out.1.below hb6 HW.out.1.lt, HW.out.2.1.below hb6 HW.out.2.1.lt, HW.out.2.2.trans (hb6.mono HW.out.2.2.size)⟩
        obtain ⟨V, hV⟩ : ∃ V, str (itoaN v) = V := ⟨_, rfl⟩
        have nV : V.size ≤ 100 := by rw [← hV, str_size]; have := itoaN_256 hv256; omega
        rw [hV]
        have HT6 : Hid ((t ++ ⟨#[32, 114]⟩ ++ V).data.toList = nm ++ regsL ([x, y, z].take (k + 1))) := hide (by rw [HS.out, ← List.append_assoc, ← HT.out, ← hV]; simp [str, regT])
        have l2 : ¬ 9223372036854775807 < t.size + 2 + V.size := by omega
        clear hV hb6 lc ll
        go_wp2_with fail
        go_roundg (2 - (k + 1))
        case measure => omega
        case rel => exact ⟨k + 1, _, by omega, rfl, by go_num, rfl, HT6, HW6⟩
      have hkr' : k = 2 := by omega
      subst hkr'
      have B6 := hide HW.out.2.2
      have R6 := hide HW.out.1
      have r6 : Blk _ _ _ _ := HW.out.1
      have x2 := r6.cell 2
      have x3 := r6.cell 3
      have xl := r6.lt
      clear hkr
      clear HW r6 hg hk
      go_wp2_with (first | ((with_reducible refine at_end ?_); refine bodyPost_ret (v := .string t) (results_run1 rfl rfl) rfl ⟨fin_str (by rw [HL.out, HT.out]), B6.out⟩) | fail)
  · have HL : Hid (lineT o x y z = opNames.getD o [] ++ regsL ([x, y, z].take 3)) := hide (by unfold lineT wordsT; rw [HF.out]; simp [joinW, regsL, itoaI_nat])
    rw [HNM.out] at HL
    go_upto_region 5 with (fail)
    refine at_world (fun W => ∃ l, l = w3.heap.size + 1 ∧ Blk W b 38 (insC o x y z) ∧ Blk W l 5 #[.int .u8 (x : Int), .int .u8 (y : Int), .int .u8 (z : Int)] ∧ Below w.heap.size w W) ⟨_, rfl, (R3.out.alloc _).alloc _, (World.size_alloc w3 _ ▸ Blk.new (w3.alloc _) _ _), (B3.out.alloc B3.out.size _).alloc (by have := B3.out.size; simp; omega) _⟩ (fun w5 h5 => ?_)
    obtain ⟨l, hl, hB5, hl5, hb5⟩ := h5
    try simp only [World.size_alloc]
    rw [← hl]
    have R5 := hide hB5
    have L5 := hide hl5
    have B5 := hide hb5
    clear hl hB5 hl5 hb5 x1 x2 x3 xl3 R3 B3
    go_wp2_with fail
    go_loopg [3, 7] 3 (fun gh x3 x7 wr => ∃ (k : Nat) (t : ByteArray), k ≤ 3 ∧ gh = 3 - k ∧ x7 = .int .i64 (k : Nat) ∧ x3 = .string t ∧ Hid (t.data.toList = nm ++ regsL ([x, y, z].take k)) ∧ Hid (Blk wr b 38 (insC o x y z) ∧ Blk wr l 5 #[.int .u8 (x : Int), .int .u8 (y : Int), .int .u8 (z : Int)] ∧ Below w.heap.size w wr))
    case atStart => exact ⟨0, N, by omega, rfl, rfl, rfl, hide (by rw [HX.out.1]; simp [regsL]), hide ⟨R5.out, L5.out, B5.out⟩⟩
    case round =>
      obtain ⟨k, t, hk, hg, rfl, rfl, HT, HW⟩ := hrel
      have hts : t.size ≤ 30 := by
        rw [sz, HT.out, List.length_append]
        have h1 := HX.out.2
        have h2 := regsL_len (l := [x, y, z].take k) (fun v hv => by
          have := List.mem_of_mem_take hv
          have h := HXYZ.out
          simp at this; omega)
        have h3 : ([x, y, z].take k).length ≤ 3 := by rw [List.length_take]; simp; omega
        omega
      by_cases hkr : k < 3
      · have t1 : decide ((k : Int) < 3) = true := by simp; omega
        have hkz : (k : Int) < 3 := by omega
        have hk3 : (k : Int) < 3 := by omega
        obtain ⟨v, hv⟩ : ∃ v, [x, y, z][k]? = some v := ⟨_, List.getElem?_eq_getElem (by simp; omega)⟩
        have hv256 : v < 256 := by
          have := List.mem_of_getElem? hv
          have h := HXYZ.out
          simp at this; omega
        have lc : wr.cell? ⟨l, k, none⟩ = some (.int .u8 (v : Int)) := (HW.out.2.1.cell k).trans (by
          have := congrArg (Option.map fun n : Nat => Value.int .u8 (n : Int)) hv
          rw [List.getElem?_toArray, ← List.getElem?_map] at *
          exact this)
        have ll := HW.out.2.1.lt
        have v1 : IntKind.i64.wrap (v : Int) = (v : Int) := IntWalk.i64_in _ (by omega)
        have HS := hide (regsL_snoc hv)
        have l1 : ¬ 9223372036854775807 < t.size + 2 := by omega
        clear hv
        go_wp2_with fail
        clear v1
        refine (itoa_nat v (by omega) _).mono ?_
        rintro e w6 ⟨rfl, hb6⟩
        have HW6 : Hid (Blk w6 b 38 (insC o x y z) ∧ Blk w6 l 5 #[.int .u8 (x : Int), .int .u8 (y : Int), .int .u8 (z : Int)] ∧ Below w.heap.size w w6) := hide ⟨HW.out.1.below hb6 HW.out.1.lt, HW.out.2.1.below hb6 HW.out.2.1.lt, HW.out.2.2.trans (hb6.mono HW.out.2.2.size)⟩
        obtain ⟨V, hV⟩ : ∃ V, str (itoaN v) = V := ⟨_, rfl⟩
        have nV : V.size ≤ 100 := by rw [← hV, str_size]; have := itoaN_256 hv256; omega
        rw [hV]
        have HT6 : Hid ((t ++ ⟨#[32, 114]⟩ ++ V).data.toList = nm ++ regsL ([x, y, z].take (k + 1))) := hide (by rw [HS.out, ← List.append_assoc, ← HT.out, ← hV]; simp [str, regT])
        have l2 : ¬ 9223372036854775807 < t.size + 2 + V.size := by omega
        clear hV hb6 lc ll
        go_wp2_with fail
        go_roundg (3 - (k + 1))
        case measure => omega
        case rel => exact ⟨k + 1, _, by omega, rfl, by go_num, rfl, HT6, HW6⟩
      have hkr' : k = 3 := by omega
      subst hkr'
      have B6 := hide HW.out.2.2
      have R6 := hide HW.out.1
      have r6 : Blk _ _ _ _ := HW.out.1
      have x2 := r6.cell 2
      have x3 := r6.cell 3
      have xl := r6.lt
      clear hkr
      clear HW r6 hg hk
      go_wp2_with (first | ((with_reducible refine at_end ?_); refine bodyPost_ret (v := .string t) (results_run1 rfl rfl) rfl ⟨fin_str (by rw [HL.out, HT.out]), B6.out⟩) | fail)
  · have HL : Hid (lineT o x y z = opNames.getD o [] ++ regsL ([x, y, z].take 2) ++ 32 :: itoaI (nearI z)) := hide (by unfold lineT wordsT; rw [HF.out]; simp [joinW, regsL, itoaI_nat])
    rw [HNM.out] at HL
    go_upto_region 5 with (fail)
    refine at_world (fun W => ∃ l, l = w3.heap.size + 1 ∧ Blk W b 38 (insC o x y z) ∧ Blk W l 5 #[.int .u8 (x : Int), .int .u8 (y : Int), .int .u8 (z : Int)] ∧ Below w.heap.size w W) ⟨_, rfl, (R3.out.alloc _).alloc _, (World.size_alloc w3 _ ▸ Blk.new (w3.alloc _) _ _), (B3.out.alloc B3.out.size _).alloc (by have := B3.out.size; simp; omega) _⟩ (fun w5 h5 => ?_)
    obtain ⟨l, hl, hB5, hl5, hb5⟩ := h5
    try simp only [World.size_alloc]
    rw [← hl]
    have R5 := hide hB5
    have L5 := hide hl5
    have B5 := hide hb5
    clear hl hB5 hl5 hb5 x1 x2 x3 xl3 R3 B3
    go_wp2_with fail
    go_loopg [3, 7] 2 (fun gh x3 x7 wr => ∃ (k : Nat) (t : ByteArray), k ≤ 2 ∧ gh = 2 - k ∧ x7 = .int .i64 (k : Nat) ∧ x3 = .string t ∧ Hid (t.data.toList = nm ++ regsL ([x, y, z].take k)) ∧ Hid (Blk wr b 38 (insC o x y z) ∧ Blk wr l 5 #[.int .u8 (x : Int), .int .u8 (y : Int), .int .u8 (z : Int)] ∧ Below w.heap.size w wr))
    case atStart => exact ⟨0, N, by omega, rfl, rfl, rfl, hide (by rw [HX.out.1]; simp [regsL]), hide ⟨R5.out, L5.out, B5.out⟩⟩
    case round =>
      obtain ⟨k, t, hk, hg, rfl, rfl, HT, HW⟩ := hrel
      have hts : t.size ≤ 30 := by
        rw [sz, HT.out, List.length_append]
        have h1 := HX.out.2
        have h2 := regsL_len (l := [x, y, z].take k) (fun v hv => by
          have := List.mem_of_mem_take hv
          have h := HXYZ.out
          simp at this; omega)
        have h3 : ([x, y, z].take k).length ≤ 3 := by rw [List.length_take]; simp; omega
        omega
      by_cases hkr : k < 2
      · have t1 : decide ((k : Int) < 2) = true := by simp; omega
        have hkz : (k : Int) < 2 := by omega
        have hk3 : (k : Int) < 3 := by omega
        obtain ⟨v, hv⟩ : ∃ v, [x, y, z][k]? = some v := ⟨_, List.getElem?_eq_getElem (by simp; omega)⟩
        have hv256 : v < 256 := by
          have := List.mem_of_getElem? hv
          have h := HXYZ.out
          simp at this; omega
        have lc : wr.cell? ⟨l, k, none⟩ = some (.int .u8 (v : Int)) := (HW.out.2.1.cell k).trans (by
          have := congrArg (Option.map fun n : Nat => Value.int .u8 (n : Int)) hv
          rw [List.getElem?_toArray, ← List.getElem?_map] at *
          exact this)
        have ll := HW.out.2.1.lt
        have v1 : IntKind.i64.wrap (v : Int) = (v : Int) := IntWalk.i64_in _ (by omega)
        have HS := hide (regsL_snoc hv)
        have l1 : ¬ 9223372036854775807 < t.size + 2 := by omega
        clear hv
        go_wp2_with fail
        clear v1
        refine (itoa_nat v (by omega) _).mono ?_
        rintro e w6 ⟨rfl, hb6⟩
        have HW6 : Hid (Blk w6 b 38 (insC o x y z) ∧ Blk w6 l 5 #[.int .u8 (x : Int), .int .u8 (y : Int), .int .u8 (z : Int)] ∧ Below w.heap.size w w6) := hide ⟨HW.out.1.below hb6 HW.out.1.lt, HW.out.2.1.below hb6 HW.out.2.1.lt, HW.out.2.2.trans (hb6.mono HW.out.2.2.size)⟩
        obtain ⟨V, hV⟩ : ∃ V, str (itoaN v) = V := ⟨_, rfl⟩
        have nV : V.size ≤ 100 := by rw [← hV, str_size]; have := itoaN_256 hv256; omega
        rw [hV]
        have HT6 : Hid ((t ++ ⟨#[32, 114]⟩ ++ V).data.toList = nm ++ regsL ([x, y, z].take (k + 1))) := hide (by rw [HS.out, ← List.append_assoc, ← HT.out, ← hV]; simp [str, regT])
        have l2 : ¬ 9223372036854775807 < t.size + 2 + V.size := by omega
        clear hV hb6 lc ll
        go_wp2_with fail
        go_roundg (2 - (k + 1))
        case measure => omega
        case rel => exact ⟨k + 1, _, by omega, rfl, by go_num, rfl, HT6, HW6⟩
      have hkr' : k = 2 := by omega
      subst hkr'
      have B6 := hide HW.out.2.2
      have R6 := hide HW.out.1
      have r6 : Blk _ _ _ _ := HW.out.1
      have x2 := r6.cell 2
      have x3 := r6.cell 3
      have xl := r6.lt
      clear hkr
      clear HW r6 hg hk
      have l0 : ¬ 9223372036854775807 < t.size + 1 := by omega
      have hn1 : -1000000 < nearI z := by unfold nearI; split <;> omega
      have hn2 : nearI z < 1000000 := by unfold nearI; split <;> omega
      have v1 : IntKind.i64.wrap (z : Int) = (z : Int) := IntWalk.i64_in _ (by omega)
      have v2 : IntKind.i64.wrap ((z : Int) - 256) = (z : Int) - 256 := IntWalk.i64_in _ (by omega)
      by_cases h127 : 127 < z
      · have t2 : decide ((127 : Int) < (z : Int)) = true := by simp; omega
        have t3 : (127 : Int) < (z : Int) := by omega
        have hnz : nearI z = (z : Int) - 256 := by unfold nearI; rw [if_pos h127]
        rw [hnz] at hn1 hn2 HL
        clear hnz h127
        go_wp2_with fail
        refine (itoa_int ((z : Int) - 256) hn1 hn2 _).mono ?_
        rintro e w7 ⟨rfl, hb7⟩
        have B7 := hide (B6.out.trans (hb7.mono B6.out.size))
        obtain ⟨V, hV⟩ : ∃ V, str (itoaI ((z : Int) - 256)) = V := ⟨_, rfl⟩
        have nV : V.size ≤ 100 := by rw [← hV, str_size]; have := itoaI_len (n := (z : Int) - 256) (by omega) (by omega); omega
        rw [hV]
        have l3 : ¬ 9223372036854775807 < t.size + 1 + V.size := by omega
        clear hb7
        go_wp2_with (first | ((with_reducible refine at_end ?_); refine bodyPost_ret (v := .string (t ++ (⟨#[32]⟩ : ByteArray) ++ V)) (results_run1 rfl rfl) rfl ⟨fin_str (by rw [HL.out, ← hV, ← HT.out]; simp [str]), B7.out⟩) | fail)
      · have t2 : decide ((127 : Int) < (z : Int)) = false := by simp; omega
        have t3 : ¬ (127 : Int) < (z : Int) := by omega
        have hnz : nearI z = (z : Int) := by unfold nearI; rw [if_neg h127]
        rw [hnz] at hn1 hn2 HL
        clear hnz h127
        go_wp2_with fail
        refine (itoa_int ((z : Int)) hn1 hn2 _).mono ?_
        rintro e w7 ⟨rfl, hb7⟩
        have B7 := hide (B6.out.trans (hb7.mono B6.out.size))
        obtain ⟨V, hV⟩ : ∃ V, str (itoaI ((z : Int))) = V := ⟨_, rfl⟩
        have nV : V.size ≤ 100 := by rw [← hV, str_size]; have := itoaI_len (n := (z : Int)) (by omega) (by omega); omega
        rw [hV]
        have l3 : ¬ 9223372036854775807 < t.size + 1 + V.size := by omega
        clear hb7
        go_wp2_with (first | ((with_reducible refine at_end ?_); refine bodyPost_ret (v := .string (t ++ (⟨#[32]⟩ : ByteArray) ++ V)) (results_run1 rfl rfl) rfl ⟨fin_str (by rw [HL.out, ← hV, ← HT.out]; simp [str]), B7.out⟩) | fail)
  · have HL : Hid (lineT o x y z = opNames.getD o [] ++ regsL ([x, y, z].take 1) ++ 32 :: itoaN (wideN y z)) := hide (by unfold lineT wordsT; rw [HF.out]; simp [joinW, regsL, itoaI_nat])
    rw [HNM.out] at HL
    go_upto_region 5 with (fail)
    refine at_world (fun W => ∃ l, l = w3.heap.size + 1 ∧ Blk W b 38 (insC o x y z) ∧ Blk W l 5 #[.int .u8 (x : Int), .int .u8 (y : Int), .int .u8 (z : Int)] ∧ Below w.heap.size w W) ⟨_, rfl, (R3.out.alloc _).alloc _, (World.size_alloc w3 _ ▸ Blk.new (w3.alloc _) _ _), (B3.out.alloc B3.out.size _).alloc (by have := B3.out.size; simp; omega) _⟩ (fun w5 h5 => ?_)
    obtain ⟨l, hl, hB5, hl5, hb5⟩ := h5
    try simp only [World.size_alloc]
    rw [← hl]
    have R5 := hide hB5
    have L5 := hide hl5
    have B5 := hide hb5
    clear hl hB5 hl5 hb5 x1 x2 x3 xl3 R3 B3
    go_wp2_with fail
    go_loopg [3, 7] 1 (fun gh x3 x7 wr => ∃ (k : Nat) (t : ByteArray), k ≤ 1 ∧ gh = 1 - k ∧ x7 = .int .i64 (k : Nat) ∧ x3 = .string t ∧ Hid (t.data.toList = nm ++ regsL ([x, y, z].take k)) ∧ Hid (Blk wr b 38 (insC o x y z) ∧ Blk wr l 5 #[.int .u8 (x : Int), .int .u8 (y : Int), .int .u8 (z : Int)] ∧ Below w.heap.size w wr))
    case atStart => exact ⟨0, N, by omega, rfl, rfl, rfl, hide (by rw [HX.out.1]; simp [regsL]), hide ⟨R5.out, L5.out, B5.out⟩⟩
    case round =>
      obtain ⟨k, t, hk, hg, rfl, rfl, HT, HW⟩ := hrel
      have hts : t.size ≤ 30 := by
        rw [sz, HT.out, List.length_append]
        have h1 := HX.out.2
        have h2 := regsL_len (l := [x, y, z].take k) (fun v hv => by
          have := List.mem_of_mem_take hv
          have h := HXYZ.out
          simp at this; omega)
        have h3 : ([x, y, z].take k).length ≤ 3 := by rw [List.length_take]; simp; omega
        omega
      by_cases hkr : k < 1
      · have t1 : decide ((k : Int) < 1) = true := by simp; omega
        have hkz : (k : Int) < 1 := by omega
        have hk3 : (k : Int) < 3 := by omega
        obtain ⟨v, hv⟩ : ∃ v, [x, y, z][k]? = some v := ⟨_, List.getElem?_eq_getElem (by simp; omega)⟩
        have hv256 : v < 256 := by
          have := List.mem_of_getElem? hv
          have h := HXYZ.out
          simp at this; omega
        have lc : wr.cell? ⟨l, k, none⟩ = some (.int .u8 (v : Int)) := (HW.out.2.1.cell k).trans (by
          have := congrArg (Option.map fun n : Nat => Value.int .u8 (n : Int)) hv
          rw [List.getElem?_toArray, ← List.getElem?_map] at *
          exact this)
        have ll := HW.out.2.1.lt
        have v1 : IntKind.i64.wrap (v : Int) = (v : Int) := IntWalk.i64_in _ (by omega)
        have HS := hide (regsL_snoc hv)
        have l1 : ¬ 9223372036854775807 < t.size + 2 := by omega
        clear hv
        go_wp2_with fail
        clear v1
        refine (itoa_nat v (by omega) _).mono ?_
        rintro e w6 ⟨rfl, hb6⟩
        have HW6 : Hid (Blk w6 b 38 (insC o x y z) ∧ Blk w6 l 5 #[.int .u8 (x : Int), .int .u8 (y : Int), .int .u8 (z : Int)] ∧ Below w.heap.size w w6) := hide ⟨HW.out.1.below hb6 HW.out.1.lt, HW.out.2.1.below hb6 HW.out.2.1.lt, HW.out.2.2.trans (hb6.mono HW.out.2.2.size)⟩
        obtain ⟨V, hV⟩ : ∃ V, str (itoaN v) = V := ⟨_, rfl⟩
        have nV : V.size ≤ 100 := by rw [← hV, str_size]; have := itoaN_256 hv256; omega
        rw [hV]
        have HT6 : Hid ((t ++ ⟨#[32, 114]⟩ ++ V).data.toList = nm ++ regsL ([x, y, z].take (k + 1))) := hide (by rw [HS.out, ← List.append_assoc, ← HT.out, ← hV]; simp [str, regT])
        have l2 : ¬ 9223372036854775807 < t.size + 2 + V.size := by omega
        clear hV hb6 lc ll
        go_wp2_with fail
        go_roundg (1 - (k + 1))
        case measure => omega
        case rel => exact ⟨k + 1, _, by omega, rfl, by go_num, rfl, HT6, HW6⟩
      have hkr' : k = 1 := by omega
      subst hkr'
      have B6 := hide HW.out.2.2
      have R6 := hide HW.out.1
      have r6 : Blk _ _ _ _ := HW.out.1
      have x2 := r6.cell 2
      have x3 := r6.cell 3
      have xl := r6.lt
      clear hkr
      clear HW r6 hg hk
      have l0 : ¬ 9223372036854775807 < t.size + 1 := by omega
      have hw2 : wideN y z < 1000000 := by unfold wideN; omega
      have v1 : IntKind.i64.wrap (y : Int) = (y : Int) := IntWalk.i64_in _ (by omega)
      have v2 : IntKind.i64.wrap (z : Int) = (z : Int) := IntWalk.i64_in _ (by omega)
      have v3 : IntKind.i64.wrap (256 * (z : Int)) = 256 * (z : Int) := IntWalk.i64_in _ (by omega)
      have v4 : IntKind.i64.wrap ((y : Int) + 256 * (z : Int)) = ((wideN y z : Nat) : Int) := by rw [IntWalk.i64_in _ (by omega)]; unfold wideN; omega
      go_wp2_with fail
      refine (itoa_nat (wideN y z) hw2 _).mono ?_
      rintro e w7 ⟨rfl, hb7⟩
      have B7 := hide (B6.out.trans (hb7.mono B6.out.size))
      obtain ⟨V, hV⟩ : ∃ V, str (itoaN (wideN y z)) = V := ⟨_, rfl⟩
      have nV : V.size ≤ 100 := by rw [← hV, str_size]; have := itoaN_le hw2; omega
      rw [hV]
      have l3 : ¬ 9223372036854775807 < t.size + 1 + V.size := by omega
      clear hb7
      go_wp2_with (first | ((with_reducible refine at_end ?_); refine bodyPost_ret (v := .string (t ++ (⟨#[32]⟩ : ByteArray) ++ V)) (results_run1 rfl rfl) rfl ⟨fin_str (by rw [HL.out, ← hV, ← HT.out]; simp [str]), B7.out⟩) | fail)
  · have HL : Hid (lineT o x y z = opNames.getD o [] ++ regsL ([x, y, z].take 0) ++ 32 :: itoaN (wideN y z)) := hide (by unfold lineT wordsT; rw [HF.out]; simp [joinW, regsL, itoaI_nat])
    rw [HNM.out] at HL
    go_upto_region 5 with (fail)
    refine at_world (fun W => ∃ l, l = w3.heap.size + 1 ∧ Blk W b 38 (insC o x y z) ∧ Blk W l 5 #[.int .u8 (x : Int), .int .u8 (y : Int), .int .u8 (z : Int)] ∧ Below w.heap.size w W) ⟨_, rfl, (R3.out.alloc _).alloc _, (World.size_alloc w3 _ ▸ Blk.new (w3.alloc _) _ _), (B3.out.alloc B3.out.size _).alloc (by have := B3.out.size; simp; omega) _⟩ (fun w5 h5 => ?_)
    obtain ⟨l, hl, hB5, hl5, hb5⟩ := h5
    try simp only [World.size_alloc]
    rw [← hl]
    have R5 := hide hB5
    have L5 := hide hl5
    have B5 := hide hb5
    clear hl hB5 hl5 hb5 x1 x2 x3 xl3 R3 B3
    go_wp2_with fail
    go_loopg [3, 7] 0 (fun gh x3 x7 wr => ∃ (k : Nat) (t : ByteArray), k ≤ 0 ∧ gh = 0 - k ∧ x7 = .int .i64 (k : Nat) ∧ x3 = .string t ∧ Hid (t.data.toList = nm ++ regsL ([x, y, z].take k)) ∧ Hid (Blk wr b 38 (insC o x y z) ∧ Blk wr l 5 #[.int .u8 (x : Int), .int .u8 (y : Int), .int .u8 (z : Int)] ∧ Below w.heap.size w wr))
    case atStart => exact ⟨0, N, by omega, rfl, rfl, rfl, hide (by rw [HX.out.1]; simp [regsL]), hide ⟨R5.out, L5.out, B5.out⟩⟩
    case round =>
      obtain ⟨k, t, hk, hg, rfl, rfl, HT, HW⟩ := hrel
      have hts : t.size ≤ 30 := by
        rw [sz, HT.out, List.length_append]
        have h1 := HX.out.2
        have h2 := regsL_len (l := [x, y, z].take k) (fun v hv => by
          have := List.mem_of_mem_take hv
          have h := HXYZ.out
          simp at this; omega)
        have h3 : ([x, y, z].take k).length ≤ 3 := by rw [List.length_take]; simp; omega
        omega
      have hkr' : k = 0 := by omega
      subst hkr'
      have B6 := hide HW.out.2.2
      have R6 := hide HW.out.1
      have r6 : Blk _ _ _ _ := HW.out.1
      have x2 := r6.cell 2
      have x3 := r6.cell 3
      have xl := r6.lt
      clear HW r6 hg hk
      have l0 : ¬ 9223372036854775807 < t.size + 1 := by omega
      have hw2 : wideN y z < 1000000 := by unfold wideN; omega
      have v1 : IntKind.i64.wrap (y : Int) = (y : Int) := IntWalk.i64_in _ (by omega)
      have v2 : IntKind.i64.wrap (z : Int) = (z : Int) := IntWalk.i64_in _ (by omega)
      have v3 : IntKind.i64.wrap (256 * (z : Int)) = 256 * (z : Int) := IntWalk.i64_in _ (by omega)
      have v4 : IntKind.i64.wrap ((y : Int) + 256 * (z : Int)) = ((wideN y z : Nat) : Int) := by rw [IntWalk.i64_in _ (by omega)]; unfold wideN; omega
      go_wp2_with fail
      refine (itoa_nat (wideN y z) hw2 _).mono ?_
      rintro e w7 ⟨rfl, hb7⟩
      have B7 := hide (B6.out.trans (hb7.mono B6.out.size))
      obtain ⟨V, hV⟩ : ∃ V, str (itoaN (wideN y z)) = V := ⟨_, rfl⟩
      have nV : V.size ≤ 100 := by rw [← hV, str_size]; have := itoaN_le hw2; omega
      rw [hV]
      have l3 : ¬ 9223372036854775807 < t.size + 1 + V.size := by omega
      clear hb7
      go_wp2_with (first | ((with_reducible refine at_end ?_); refine bodyPost_ret (v := .string (t ++ (⟨#[32]⟩ : ByteArray) ++ V)) (results_run1 rfl rfl) rfl ⟨fin_str (by rw [HL.out, ← hV, ← HT.out]; simp [str]), B7.out⟩) | fail)
  · have HL : Hid (lineT o x y z = opNames.getD o [] ++ regsL ([x, y, z].take 2) ++ 32 :: itoaN z) := hide (by unfold lineT wordsT; rw [HF.out]; simp [joinW, regsL, itoaI_nat])
    rw [HNM.out] at HL
    go_upto_region 5 with (fail)
    refine at_world (fun W => ∃ l, l = w3.heap.size + 1 ∧ Blk W b 38 (insC o x y z) ∧ Blk W l 5 #[.int .u8 (x : Int), .int .u8 (y : Int), .int .u8 (z : Int)] ∧ Below w.heap.size w W) ⟨_, rfl, (R3.out.alloc _).alloc _, (World.size_alloc w3 _ ▸ Blk.new (w3.alloc _) _ _), (B3.out.alloc B3.out.size _).alloc (by have := B3.out.size; simp; omega) _⟩ (fun w5 h5 => ?_)
    obtain ⟨l, hl, hB5, hl5, hb5⟩ := h5
    try simp only [World.size_alloc]
    rw [← hl]
    have R5 := hide hB5
    have L5 := hide hl5
    have B5 := hide hb5
    clear hl hB5 hl5 hb5 x1 x2 x3 xl3 R3 B3
    go_wp2_with fail
    go_loopg [3, 7] 2 (fun gh x3 x7 wr => ∃ (k : Nat) (t : ByteArray), k ≤ 2 ∧ gh = 2 - k ∧ x7 = .int .i64 (k : Nat) ∧ x3 = .string t ∧ Hid (t.data.toList = nm ++ regsL ([x, y, z].take k)) ∧ Hid (Blk wr b 38 (insC o x y z) ∧ Blk wr l 5 #[.int .u8 (x : Int), .int .u8 (y : Int), .int .u8 (z : Int)] ∧ Below w.heap.size w wr))
    case atStart => exact ⟨0, N, by omega, rfl, rfl, rfl, hide (by rw [HX.out.1]; simp [regsL]), hide ⟨R5.out, L5.out, B5.out⟩⟩
    case round =>
      obtain ⟨k, t, hk, hg, rfl, rfl, HT, HW⟩ := hrel
      have hts : t.size ≤ 30 := by
        rw [sz, HT.out, List.length_append]
        have h1 := HX.out.2
        have h2 := regsL_len (l := [x, y, z].take k) (fun v hv => by
          have := List.mem_of_mem_take hv
          have h := HXYZ.out
          simp at this; omega)
        have h3 : ([x, y, z].take k).length ≤ 3 := by rw [List.length_take]; simp; omega
        omega
      by_cases hkr : k < 2
      · have t1 : decide ((k : Int) < 2) = true := by simp; omega
        have hkz : (k : Int) < 2 := by omega
        have hk3 : (k : Int) < 3 := by omega
        obtain ⟨v, hv⟩ : ∃ v, [x, y, z][k]? = some v := ⟨_, List.getElem?_eq_getElem (by simp; omega)⟩
        have hv256 : v < 256 := by
          have := List.mem_of_getElem? hv
          have h := HXYZ.out
          simp at this; omega
        have lc : wr.cell? ⟨l, k, none⟩ = some (.int .u8 (v : Int)) := (HW.out.2.1.cell k).trans (by
          have := congrArg (Option.map fun n : Nat => Value.int .u8 (n : Int)) hv
          rw [List.getElem?_toArray, ← List.getElem?_map] at *
          exact this)
        have ll := HW.out.2.1.lt
        have v1 : IntKind.i64.wrap (v : Int) = (v : Int) := IntWalk.i64_in _ (by omega)
        have HS := hide (regsL_snoc hv)
        have l1 : ¬ 9223372036854775807 < t.size + 2 := by omega
        clear hv
        go_wp2_with fail
        clear v1
        refine (itoa_nat v (by omega) _).mono ?_
        rintro e w6 ⟨rfl, hb6⟩
        have HW6 : Hid (Blk w6 b 38 (insC o x y z) ∧ Blk w6 l 5 #[.int .u8 (x : Int), .int .u8 (y : Int), .int .u8 (z : Int)] ∧ Below w.heap.size w w6) := hide ⟨HW.out.1.below hb6 HW.out.1.lt, HW.out.2.1.below hb6 HW.out.2.1.lt, HW.out.2.2.trans (hb6.mono HW.out.2.2.size)⟩
        obtain ⟨V, hV⟩ : ∃ V, str (itoaN v) = V := ⟨_, rfl⟩
        have nV : V.size ≤ 100 := by rw [← hV, str_size]; have := itoaN_256 hv256; omega
        rw [hV]
        have HT6 : Hid ((t ++ ⟨#[32, 114]⟩ ++ V).data.toList = nm ++ regsL ([x, y, z].take (k + 1))) := hide (by rw [HS.out, ← List.append_assoc, ← HT.out, ← hV]; simp [str, regT])
        have l2 : ¬ 9223372036854775807 < t.size + 2 + V.size := by omega
        clear hV hb6 lc ll
        go_wp2_with fail
        go_roundg (2 - (k + 1))
        case measure => omega
        case rel => exact ⟨k + 1, _, by omega, rfl, by go_num, rfl, HT6, HW6⟩
      have hkr' : k = 2 := by omega
      subst hkr'
      have B6 := hide HW.out.2.2
      have R6 := hide HW.out.1
      have r6 : Blk _ _ _ _ := HW.out.1
      have x2 := r6.cell 2
      have x3 := r6.cell 3
      have xl := r6.lt
      clear hkr
      clear HW r6 hg hk
      have l0 : ¬ 9223372036854775807 < t.size + 1 := by omega
      have hz6 : z < 1000000 := by omega
      have v1 : IntKind.i64.wrap (z : Int) = (z : Int) := IntWalk.i64_in _ (by omega)
      go_wp2_with fail
      refine (itoa_nat z hz6 _).mono ?_
      rintro e w7 ⟨rfl, hb7⟩
      have B7 := hide (B6.out.trans (hb7.mono B6.out.size))
      obtain ⟨V, hV⟩ : ∃ V, str (itoaN z) = V := ⟨_, rfl⟩
      have nV : V.size ≤ 100 := by rw [← hV, str_size]; have := itoaN_le hz6; omega
      rw [hV]
      have l3 : ¬ 9223372036854775807 < t.size + 1 + V.size := by omega
      clear hb7
      go_wp2_with (first | ((with_reducible refine at_end ?_); refine bodyPost_ret (v := .string (t ++ (⟨#[32]⟩ : ByteArray) ++ V)) (results_run1 rfl rfl) rfl ⟨fin_str (by rw [HL.out, ← hV, ← HT.out]; simp [str]), B7.out⟩) | fail)
  · have HL : Hid (lineT o x y z = opNames.getD o [] ++ regsL ([x, y, z].take 0) ++ 32 :: itoaN y) := hide (by unfold lineT wordsT; rw [HF.out]; simp [joinW, regsL, itoaI_nat])
    rw [HNM.out] at HL
    go_upto_region 5 with (fail)
    refine at_world (fun W => ∃ l, l = w3.heap.size + 1 ∧ Blk W b 38 (insC o x y z) ∧ Blk W l 5 #[.int .u8 (x : Int), .int .u8 (y : Int), .int .u8 (z : Int)] ∧ Below w.heap.size w W) ⟨_, rfl, (R3.out.alloc _).alloc _, (World.size_alloc w3 _ ▸ Blk.new (w3.alloc _) _ _), (B3.out.alloc B3.out.size _).alloc (by have := B3.out.size; simp; omega) _⟩ (fun w5 h5 => ?_)
    obtain ⟨l, hl, hB5, hl5, hb5⟩ := h5
    try simp only [World.size_alloc]
    rw [← hl]
    have R5 := hide hB5
    have L5 := hide hl5
    have B5 := hide hb5
    clear hl hB5 hl5 hb5 x1 x2 x3 xl3 R3 B3
    go_wp2_with fail
    go_loopg [3, 7] 0 (fun gh x3 x7 wr => ∃ (k : Nat) (t : ByteArray), k ≤ 0 ∧ gh = 0 - k ∧ x7 = .int .i64 (k : Nat) ∧ x3 = .string t ∧ Hid (t.data.toList = nm ++ regsL ([x, y, z].take k)) ∧ Hid (Blk wr b 38 (insC o x y z) ∧ Blk wr l 5 #[.int .u8 (x : Int), .int .u8 (y : Int), .int .u8 (z : Int)] ∧ Below w.heap.size w wr))
    case atStart => exact ⟨0, N, by omega, rfl, rfl, rfl, hide (by rw [HX.out.1]; simp [regsL]), hide ⟨R5.out, L5.out, B5.out⟩⟩
    case round =>
      obtain ⟨k, t, hk, hg, rfl, rfl, HT, HW⟩ := hrel
      have hts : t.size ≤ 30 := by
        rw [sz, HT.out, List.length_append]
        have h1 := HX.out.2
        have h2 := regsL_len (l := [x, y, z].take k) (fun v hv => by
          have := List.mem_of_mem_take hv
          have h := HXYZ.out
          simp at this; omega)
        have h3 : ([x, y, z].take k).length ≤ 3 := by rw [List.length_take]; simp; omega
        omega
      have hkr' : k = 0 := by omega
      subst hkr'
      have B6 := hide HW.out.2.2
      have R6 := hide HW.out.1
      have r6 : Blk _ _ _ _ := HW.out.1
      have x2 := r6.cell 2
      have x3 := r6.cell 3
      have xl := r6.lt
      clear HW r6 hg hk
      have l0 : ¬ 9223372036854775807 < t.size + 1 := by omega
      have hy6 : y < 1000000 := by omega
      have v1 : IntKind.i64.wrap (y : Int) = (y : Int) := IntWalk.i64_in _ (by omega)
      go_wp2_with fail
      refine (itoa_nat y hy6 _).mono ?_
      rintro e w7 ⟨rfl, hb7⟩
      have B7 := hide (B6.out.trans (hb7.mono B6.out.size))
      obtain ⟨V, hV⟩ : ∃ V, str (itoaN y) = V := ⟨_, rfl⟩
      have nV : V.size ≤ 100 := by rw [← hV, str_size]; have := itoaN_le hy6; omega
      rw [hV]
      have l3 : ¬ 9223372036854775807 < t.size + 1 + V.size := by omega
      clear hb7
      go_wp2_with (first | ((with_reducible refine at_end ?_); refine bodyPost_ret (v := .string (t ++ (⟨#[32]⟩ : ByteArray) ++ V)) (results_run1 rfl rfl) rfl ⟨fin_str (by rw [HL.out, ← hV, ← HT.out]; simp [str]), B7.out⟩) | fail)
end Go.Proofs.YtmhlokehdjnldaaDoor

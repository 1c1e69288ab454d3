/- Nodes, walked: Encode. -/
import Derived.Test.YtoeejeieplhifaaFsNode2
import Derived.Test.YtoeejeieplhifaaConfRows
import Derived.Great.FillDense
namespace Go.Proofs.Ytoeejeieplhifaa
open Go.RowKit
set_option linter.unusedSimpArgs false
set_option linter.unusedVariables false

def z32 : List UInt8 := List.replicate 32 0
theorem z32_length : z32.length = 32 := by simp [z32]
theorem zero_arr (w : World) : (zeroValue 179).run Try.prog w = .ok (.agg (bvs z32).toArray) w := by kernel_rfl
theorem zero_field (w : World) : (zeroValue 205).run Try.prog w = .ok (.agg (fcells z32 0)) w := by kernel_rfl
theorem size_arr : (Try.prog.info? 179).map (·.size) = some 32 := by kernel_rfl
theorem size_arrOf {b : List UInt8} (h : b.length = 32) : (Try.prog.info? 179).map (·.size) = some (bvs b).toArray.size := by rw [size_arr]; simp [bvs, h]
theorem size_arrL {b : List UInt8} (h : b.length = 32) : (Try.prog.info? 179).map (·.size) = some (bvs b).length := by rw [size_arr, bvs_length, h]

section
variable {w w' : World}
/-- a number behind what was written -/
theorem fput_at {g n k : Nat} {pre : List UInt8} (hB : Blk w g 205 (fcells (wrB z32 0 pre) pre.length)) (hk : k ≤ 4) (ha : pre.length + k ≤ 32) (hn : n < 4294967296) :
    Calls Try.prog 99 #[.pointer (some ⟨g, 0, none⟩), .int .u32 (n : Int), .int .i64 (k : Int)] w fun e w' => e = .returned (.tuple #[]) ∧ Blk w' g 205 (fcells (wrB z32 0 (pre ++ leB n k)) (pre ++ leB n k).length) ∧ Tch w.heap.size (· = g) w w' ∧ w'.heap.size = w.heap.size := by
  refine (fput_ok hB (by rw [wrB_length (by rw [z32_length]; omega)]; exact z32_length) hk ha hn).mono ?_
  rintro e w' ⟨rfl, h1, h2, h3⟩
  refine ⟨rfl, ?_, h2, h3⟩
  have := wrB_more (bs := z32) (a := 0) (l := pre) (m := leB n k) (by rw [leB_length, z32_length]; omega)
  rw [Nat.zero_add] at this
  rw [this] at h1
  rw [List.length_append, leB_length]
  exact h1
theorem below_own {g : Nat} {w0 w1 w2 : World} (h : Below w0.heap.size w0 w1) (hg : w0.heap.size ≤ g) (ht : Tch w1.heap.size (· = g) w1 w2) : Below w0.heap.size w0 w2 :=
  h.trans ((ht.mono h.size (S' := fun _ => False) (fun k hk e => by omega)).below fun _ _ h => h)

theorem alloc3 (w : World) (A B C : Array Value) (ta tb tc : TypeId) :
    Blk (((w.alloc (.cells A ta)).alloc (.cells B tb)).alloc (.cells C tc)) (w.heap.size + 1 + 1) tc C ∧ Below w.heap.size w (((w.alloc (.cells A ta)).alloc (.cells B tb)).alloc (.cells C tc)) ∧
    Blk (((w.alloc (.cells A ta)).alloc (.cells B tb)).alloc (.cells C tc)) w.heap.size ta A ∧ Blk (((w.alloc (.cells A ta)).alloc (.cells B tb)).alloc (.cells C tc)) (w.heap.size + 1) tb B := by
  refine ⟨?_, (((Below.refl _ _).alloc (Nat.le_refl _) _).alloc (by simp) _).alloc (by simp; omega) _, ((Blk.new w ta A).alloc _).alloc _, ?_⟩
  · have := Blk.new ((w.alloc (.cells A ta)).alloc (.cells B tb)) tc C
    simpa using this
  · have := (Blk.new (w.alloc (.cells A ta)) tb B).alloc (.cells C tc)
    simpa using this

set_option maxRecDepth 100000 in
set_option maxHeartbeats 1600000 in
theorem encode_ok (w : World) {n : NodeV} (hn : n.dir.length = 6) :
    Calls Try.prog 81 #[n.val] w fun e w' => e = .returned (.agg (bvs (encN n)).toArray) ∧ Below w.heap.size w w' := by
  have HN := hide hn
  clear hn
  have hk := n.kind.toNat_lt
  have hl := n.links.toNat_lt
  have hg1 := n.gen.toNat_lt
  have hs := n.size.toNat_lt
  have ha := n.single.toNat_lt
  have hb := n.double.toNat_lt
  have w1 : IntKind.u32.wrap (n.kind.toNat : Int) = (n.kind.toNat : Int) := by rw [IntKind.wrap_u32]; omega
  have w2 : IntKind.u32.wrap (n.links.toNat : Int) = (n.links.toNat : Int) := by rw [IntKind.wrap_u32]; omega
  have w3 : IntKind.u32.wrap (n.gen.toNat : Int) = (n.gen.toNat : Int) := by rw [IntKind.wrap_u32]; omega
  have w5 : IntKind.u32.wrap (n.single.toNat : Int) = (n.single.toNat : Int) := by rw [IntKind.wrap_u32]; omega
  have w6 : IntKind.u32.wrap (n.double.toNat : Int) = (n.double.toNat : Int) := by rw [IntKind.wrap_u32]; omega
  go_enter Try.func81, Try.ntmps81
  go_upto_region 2 with (first | ((with_reducible refine at_alloc 179 ?_); refine wpList_alloc_as rfl 179 rfl _ (zero_arr _) ?_) | ((with_reducible refine at_alloc 205 ?_); refine wpList_alloc_as rfl 205 rfl _ (zero_field _) ?_) | fail)
  simp only [World.size_alloc] 
  refine at_world (fun W => ∃ g r f, g = w.heap.size ∧ r = w.heap.size + 1 ∧ f = w.heap.size + 1 + 1 ∧ Blk W f 205 (fcells (wrB z32 0 []) ([] : List UInt8).length) ∧ Below w.heap.size w W ∧ Blk W g 52 n.cells.toArray ∧ Blk W r 179 (bvs z32).toArray)
    ⟨w.heap.size, w.heap.size + 1, w.heap.size + 1 + 1, rfl, rfl, rfl, alloc3 w _ _ _ _ _ _⟩ (fun w1 h1 => ?_)
  obtain ⟨g, r, f, hg, hr, hf, h1⟩ := h1
  rw [← hf, ← hr, ← hg]
  have hwf : w.heap.size ≤ f := by omega
  have hgf : ¬ g = f := by omega
  have hrf : ¬ r = f := by omega
  have hwr : w.heap.size ≤ r := by omega
  have HF := hide h1
  clear hg hr hf h1
  have c0 := (HF.out.2.2.1.cell 0).trans (node_cells_at n).1
  have c1 := (HF.out.2.2.1.cell 1).trans (node_cells_at n).2.1
  have c2 := (HF.out.2.2.1.cell 2).trans (node_cells_at n).2.2.1
  have c3 := (HF.out.2.2.1.cell 3).trans (node_cells_at n).2.2.2
  have cl := HF.out.2.2.1.lt
  go_wp2_with fail
  refine (fput_at HF.out.1 (n := n.kind.toNat) (k := 1) (by omega) (by simp) (by omega)).mono ?_
  rintro e w_ ⟨rfl, hf, ht, -⟩
  have HF2 := hide (And.intro hf (And.intro (below_own HF.out.2.1 hwf ht) (And.intro (HF.out.2.2.1.tch ht HF.out.2.2.1.lt hgf) (HF.out.2.2.2.tch ht HF.out.2.2.2.lt hrf))))
  clear HF hf ht c0 c1 c2 c3 cl
  have HF := HF2
  clear HF2
  have c0 := (HF.out.2.2.1.cell 0).trans (node_cells_at n).1
  have c1 := (HF.out.2.2.1.cell 1).trans (node_cells_at n).2.1
  have c2 := (HF.out.2.2.1.cell 2).trans (node_cells_at n).2.2.1
  have c3 := (HF.out.2.2.1.cell 3).trans (node_cells_at n).2.2.2
  have cl := HF.out.2.2.1.lt
  go_wp2_with fail
  refine (fput_at HF.out.1 (n := n.links.toNat) (k := 1) (by omega) (by simp [leB_length]) (by omega)).mono ?_
  rintro e w_ ⟨rfl, hf, ht, -⟩
  have HF2 := hide (And.intro hf (And.intro (below_own HF.out.2.1 hwf ht) (And.intro (HF.out.2.2.1.tch ht HF.out.2.2.1.lt hgf) (HF.out.2.2.2.tch ht HF.out.2.2.2.lt hrf))))
  clear HF hf ht c0 c1 c2 c3 cl
  have HF := HF2
  clear HF2
  have c0 := (HF.out.2.2.1.cell 0).trans (node_cells_at n).1
  have c1 := (HF.out.2.2.1.cell 1).trans (node_cells_at n).2.1
  have c2 := (HF.out.2.2.1.cell 2).trans (node_cells_at n).2.2.1
  have c3 := (HF.out.2.2.1.cell 3).trans (node_cells_at n).2.2.2
  have cl := HF.out.2.2.1.lt
  go_wp2_with fail
  refine (fput_at HF.out.1 (n := n.gen.toNat) (k := 2) (by omega) (by simp [leB_length]) (by omega)).mono ?_
  rintro e w_ ⟨rfl, hf, ht, -⟩
  have HF2 := hide (And.intro hf (And.intro (below_own HF.out.2.1 hwf ht) (And.intro (HF.out.2.2.1.tch ht HF.out.2.2.1.lt hgf) (HF.out.2.2.2.tch ht HF.out.2.2.2.lt hrf))))
  clear HF hf ht c0 c1 c2 c3 cl
  have HF := HF2
  clear HF2
  have c0 := (HF.out.2.2.1.cell 0).trans (node_cells_at n).1
  have c1 := (HF.out.2.2.1.cell 1).trans (node_cells_at n).2.1
  have c2 := (HF.out.2.2.1.cell 2).trans (node_cells_at n).2.2.1
  have c3 := (HF.out.2.2.1.cell 3).trans (node_cells_at n).2.2.2
  have cl := HF.out.2.2.1.lt
  go_wp2_with fail
  refine (fput_at HF.out.1 (n := n.size.toNat) (k := 4) (by omega) (by simp [leB_length]) (by omega)).mono ?_
  rintro e w_ ⟨rfl, hf, ht, -⟩
  have HF2 := hide (And.intro hf (And.intro (below_own HF.out.2.1 hwf ht) (And.intro (HF.out.2.2.1.tch ht HF.out.2.2.1.lt hgf) (HF.out.2.2.2.tch ht HF.out.2.2.2.lt hrf))))
  clear HF hf ht c0 c1 c2 c3 cl
  have HF := HF2
  clear HF2
  have hpre : ([] ++ leB n.kind.toNat 1 ++ leB n.links.toNat 1 ++ leB n.gen.toNat 2 ++ leB n.size.toNat 4) = encHead n := by simp [encHead]
  rw [hpre] at HF
  clear hpre
  go_upto_region 6 with (fail)
  have HRD := hide (HF.out.2.2.1.range (o := 4) (xs := n.dir.map u16v) fun j v hj => by
    rw [NodeV.cells, List.getElem?_toArray, List.append_assoc, List.getElem?_append_right (by simp), List.getElem?_append_left (by have := (List.getElem?_eq_some_iff.1 hj).1; simpa using this)]
    simpa using hj)
  have hs48 : (Try.prog.info? 50).map (·.size) = some (n.dir.map u16v).length := by
    rw [List.length_map, HN.out]; kernel_rfl
  have HS48 := hide hs48
  clear hs48
  go_wp2_with (first | ((with_reducible refine at_load 50 (.tmp 21) ?_); refine wpList_load_mid rfl 50 (.tmp 21) rfl g 4 (by rfl) (n.dir.map u16v) _ HRD.out Try.underlying50 rfl HS48.out ?_) | fail)
  go_loopg [23] 6 (fun gh x23 wr => ∃ j : Nat, gh = 6 - j ∧ j ≤ 6 ∧ x23 = .int .i64 (j : Int) ∧ Hid (Blk wr f 205 (fcells (wrB z32 0 (encHead n ++ encDir (n.dir.take j))) (encHead n ++ encDir (n.dir.take j)).length) ∧ Below w.heap.size w wr ∧ Blk wr g 52 n.cells.toArray ∧ Blk wr r 179 (bvs z32).toArray))
  case atStart => exact ⟨0, rfl, Nat.zero_le _, rfl, hide (by simpa [encDir] using HF.out)⟩
  case round =>
    obtain ⟨j, hg, hj6, rfl, HW⟩ := hrel
    have HG := hide hg
    clear HF hg HRD
    rcases Nat.lt_or_ge j 6 with hj | hj
    · have hjz : (j : Int) < 6 := by omega
      have hjl : j < n.dir.length := by rw [HN.out]; exact hj
      obtain ⟨d, hd⟩ : ∃ d, n.dir[j]? = some d := ⟨_, List.getElem?_eq_getElem hjl⟩
      have hdl := d.toNat_lt
      have hw16 : IntKind.u32.wrap (d.toNat : Int) = (d.toNat : Int) := by rw [IntKind.wrap_u32]; omega
      have hcell : (n.dir.map u16v).toArray[j]? = some (.int .u16 (d.toNat : Int)) := by simp [hd]
      have hnext : encHead n ++ encDir (n.dir.take (j + 1)) = encHead n ++ encDir (n.dir.take j) ++ leB d.toNat 2 := by
        obtain ⟨h1, h2⟩ := List.getElem?_eq_some_iff.1 hd
        rw [List.take_succ_eq_append_getElem h1, h2, encDir_snoc, List.append_assoc]
      have hlen : (encHead n ++ encDir (n.dir.take j)).length = 8 + 2 * j := by
        rw [List.length_append, encHead_length, encDir_length, List.length_take, HN.out]; omega
      have HCE := hide hcell
      have HNX := hide hnext
      have HLN := hide hlen
      clear hd hcell hnext hlen
      go_wp2_with (first | ((with_reducible refine at_index 50 (.tmp 22) (.tmp 23) ?_); refine wpList_index_arr rfl 50 39 (.tmp 22) (.tmp 23) rfl 6 j .i64 .u16 _ _ (by rfl) (by rfl) hj HCE.out Try.underlying50 Try.underlying39 (by kernel_rfl) ?_) | fail)
      refine (fput_at HW.out.1 (n := d.toNat) (k := 2) (by omega) (by rw [HLN.out]; omega) (by omega)).mono ?_
      rintro e w_ ⟨rfl, hf, ht, -⟩
      rw [← HNX.out] at hf
      have HF2 := hide (And.intro hf (And.intro (below_own HW.out.2.1 hwf ht) (And.intro (HW.out.2.2.1.tch ht HW.out.2.2.1.lt hgf) (HW.out.2.2.2.tch ht HW.out.2.2.2.lt hrf))))
      clear HW hf ht
      go_wp2
      go_roundg (6 - (j + 1))
      case rel => exact ⟨j + 1, rfl, by omega, by go_num, HF2⟩
      case measure => have := HG.out; omega
    · have hj6' : j = 6 := by omega
      subst hj6'
      have hd6 : n.dir.take 6 = n.dir := List.take_of_length_le (by rw [HN.out]; omega)
      have HF := HW
      rw [hd6] at HF
      clear HW hd6
      have hl20 : (encHead n ++ encDir n.dir).length = 20 := by rw [List.length_append, encHead_length, encDir_length, HN.out]
      have hl22 : (encHead n ++ encDir n.dir ++ leB n.single.toNat 2).length = 22 := by rw [List.length_append, hl20, leB_length]
      have hl24 : (encHead n ++ encDir n.dir ++ leB n.single.toNat 2 ++ leB n.double.toNat 2).length = 24 := by rw [List.length_append, hl22, leB_length]
      have HL := hide (And.intro hl20 (And.intro hl22 hl24))
      have hc5 : n.cells[10]? = some (.int .u16 (n.single.toNat : Int)) ∧ n.cells[11]? = some (.int .u16 (n.double.toNat : Int)) := by
        have h10 : ([.int .u8 (n.kind.toNat : Int), .int .u8 (n.links.toNat : Int), .int .u16 (n.gen.toNat : Int), .int .u32 (n.size.toNat : Int)] ++ n.dir.map u16v : List Value).length = 10 := by simp [HN.out]
        unfold NodeV.cells
        constructor
        · rw [List.getElem?_append_right (by omega), h10]; rfl
        · rw [List.getElem?_append_right (by omega), h10]; rfl
      have HC5 := hide hc5
      clear hl20 hl22 hl24 hc5
      have c10 := (HF.out.2.2.1.cell 10).trans (show n.cells.toArray[10]? = some (.int .u16 (n.single.toNat : Int)) by rw [List.getElem?_toArray]; exact HC5.out.1)
      have cl := HF.out.2.2.1.lt
      go_wp2_with fail
      refine (fput_at HF.out.1 (n := n.single.toNat) (k := 2) (by omega) (by rw [HL.out.1]; omega) (by omega)).mono ?_
      rintro e w_ ⟨rfl, hf, ht, -⟩
      have HF2 := hide (And.intro hf (And.intro (below_own HF.out.2.1 hwf ht) (And.intro (HF.out.2.2.1.tch ht HF.out.2.2.1.lt hgf) (HF.out.2.2.2.tch ht HF.out.2.2.2.lt hrf))))
      clear HF hf ht
      have HF := HF2
      clear HF2
      clear c10 cl
      have c11 := (HF.out.2.2.1.cell 11).trans (show n.cells.toArray[11]? = some (.int .u16 (n.double.toNat : Int)) by rw [List.getElem?_toArray]; exact HC5.out.2)
      have cl := HF.out.2.2.1.lt
      go_wp2_with fail
      refine (fput_at HF.out.1 (n := n.double.toNat) (k := 2) (by omega) (by rw [HL.out.2.1]; omega) (by omega)).mono ?_
      rintro e w_ ⟨rfl, hf, ht, -⟩
      have HF2 := hide (And.intro hf (And.intro (below_own HF.out.2.1 hwf ht) (And.intro (HF.out.2.2.1.tch ht HF.out.2.2.1.lt hgf) (HF.out.2.2.2.tch ht HF.out.2.2.2.lt hrf))))
      clear HF hf ht
      have HF := HF2
      clear HF2
      clear c11 cl
      have hfin : wrB z32 0 (encHead n ++ encDir n.dir ++ leB n.single.toNat 2 ++ leB n.double.toNat 2) = encN n := by
        unfold wrB encN
        rw [Nat.zero_add, HL.out.2.2]
        rfl
      rw [hfin] at HF
      clear hfin
      have hel : (encN n).length = 32 := encN_length HN.out
      have HEL := hide hel
      clear hel
      have HRF := hide (HF.out.1.range (o := 0) (xs := bvs (encN n)) fun j v hj => by
        rw [Nat.zero_add, fcells, List.getElem?_toArray, List.getElem?_append_left (List.getElem?_eq_some_iff.1 hj).1]; exact hj)
      go_wp2_with (first | ((with_reducible refine at_load 179 (.tmp 38) ?_); refine wpList_load_mid rfl 179 (.tmp 38) rfl f 0 (by rfl) (bvs (encN n)) _ HRF.out Try.underlying179 rfl (size_arrL HEL.out) ?_) | ((with_reducible refine at_store 179 (.tmp 2) (.tmp 39) ?_); refine wpList_store_blk rfl 179 (.tmp 2) (.tmp 39) rfl r _ _ _ (by rfl) (by rfl) HF.out.2.2.2 (size_arrOf HEL.out) (by simp [bvs, z32_length, HEL.out]) (bvs_oneCell _) (fun hB3 => ?_)) | ((with_reducible refine at_end ?_); refine bodyPost_ret (v := .agg (bvs (encN n)).toArray) (results_run1 rfl (ResV.row rfl hB3 Try.underlying179 rfl (size_arrOf HEL.out))) rfl ⟨rfl, below_setRow HF.out.2.1 hwr _⟩) | fail)
end
end Go.Proofs.Ytoeejeieplhifaa

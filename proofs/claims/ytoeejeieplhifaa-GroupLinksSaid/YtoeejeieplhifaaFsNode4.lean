/- Nodes, walked: Decode. -/
import Derived.Test.YtoeejeieplhifaaFsNode3
namespace Go.Proofs.Ytoeejeieplhifaa
open Go.RowKit
set_option linter.unusedSimpArgs false
set_option linter.unusedVariables false

theorem len_cons {α : Type} {l : List α} {n : Nat} (h : l.length = n + 1) : ∃ a t, l = a :: t ∧ t.length = n := by
  cases l with
  | nil => simp at h
  | cons a t => exact ⟨a, t, rfl, by simpa using h⟩
set_option maxRecDepth 100000 in
theorem build_field (w : World) {x : List UInt8} (hx : x.length = 32) : (Instr.build 205 #[(0, .agg (bvs x).toArray)]).run Try.prog w = .ok (.agg (fcells x 0)) w := by
  obtain ⟨x0, y0, rfl, h0⟩ := len_cons hx
  obtain ⟨x1, y1, rfl, h1⟩ := len_cons h0
  obtain ⟨x2, y2, rfl, h2⟩ := len_cons h1
  obtain ⟨x3, y3, rfl, h3⟩ := len_cons h2
  obtain ⟨x4, y4, rfl, h4⟩ := len_cons h3
  obtain ⟨x5, y5, rfl, h5⟩ := len_cons h4
  obtain ⟨x6, y6, rfl, h6⟩ := len_cons h5
  obtain ⟨x7, y7, rfl, h7⟩ := len_cons h6
  obtain ⟨x8, y8, rfl, h8⟩ := len_cons h7
  obtain ⟨x9, y9, rfl, h9⟩ := len_cons h8
  obtain ⟨x10, y10, rfl, h10⟩ := len_cons h9
  obtain ⟨x11, y11, rfl, h11⟩ := len_cons h10
  obtain ⟨x12, y12, rfl, h12⟩ := len_cons h11
  obtain ⟨x13, y13, rfl, h13⟩ := len_cons h12
  obtain ⟨x14, y14, rfl, h14⟩ := len_cons h13
  obtain ⟨x15, y15, rfl, h15⟩ := len_cons h14
  obtain ⟨x16, y16, rfl, h16⟩ := len_cons h15
  obtain ⟨x17, y17, rfl, h17⟩ := len_cons h16
  obtain ⟨x18, y18, rfl, h18⟩ := len_cons h17
  obtain ⟨x19, y19, rfl, h19⟩ := len_cons h18
  obtain ⟨x20, y20, rfl, h20⟩ := len_cons h19
  obtain ⟨x21, y21, rfl, h21⟩ := len_cons h20
  obtain ⟨x22, y22, rfl, h22⟩ := len_cons h21
  obtain ⟨x23, y23, rfl, h23⟩ := len_cons h22
  obtain ⟨x24, y24, rfl, h24⟩ := len_cons h23
  obtain ⟨x25, y25, rfl, h25⟩ := len_cons h24
  obtain ⟨x26, y26, rfl, h26⟩ := len_cons h25
  obtain ⟨x27, y27, rfl, h27⟩ := len_cons h26
  obtain ⟨x28, y28, rfl, h28⟩ := len_cons h27
  obtain ⟨x29, y29, rfl, h29⟩ := len_cons h28
  obtain ⟨x30, y30, rfl, h30⟩ := len_cons h29
  obtain ⟨x31, y31, rfl, h31⟩ := len_cons h30
  obtain rfl := List.eq_nil_of_length_eq_zero h31
  kernel_rfl
theorem build_head (w : World) (k l : UInt8) (g : UInt16) (s : UInt32) : (Instr.build 52 #[(0, .int .u8 (k.toNat : Int)), (1, .int .u8 (l.toNat : Int)), (2, .int .u16 (g.toNat : Int)), (3, .int .u32 (s.toNat : Int))]).run Try.prog w = .ok (NodeV.val ⟨k, l, g, s, [0, 0, 0, 0, 0, 0], 0, 0⟩) w := by kernel_rfl
theorem size_field : (Try.prog.info? 205).map (·.size) = some 33 := by kernel_rfl
theorem size_fieldOf {x : List UInt8} (hx : x.length = 32) (a : Nat) : (Try.prog.info? 205).map (·.size) = some (fcells x a).size := by rw [size_field, fcells_size hx]
theorem cells_set_dir {n : NodeV} {j : Nat} (hj : j < n.dir.length) (d : UInt16) : n.cells.toArray.setIfInBounds (4 + j) (u16v d) = ({ n with dir := n.dir.set j d } : NodeV).cells.toArray := by
  simp only [NodeV.cells, List.setIfInBounds_toArray, List.append_assoc]
  rw [List.set_append_right _ _ (by simp), List.set_append_left _ _ (by simpa using hj)]
  simp [List.map_set]
theorem cells_set_single {n : NodeV} (h : n.dir.length = 6) (d : UInt16) : n.cells.toArray.setIfInBounds 10 (u16v d) = ({ n with single := d } : NodeV).cells.toArray := by
  simp only [NodeV.cells, List.setIfInBounds_toArray]
  rw [List.set_append_right _ _ (by simp [h])]
  simp [h]
theorem cells_set_double {n : NodeV} (h : n.dir.length = 6) (d : UInt16) : n.cells.toArray.setIfInBounds 11 (u16v d) = ({ n with double := d } : NodeV).cells.toArray := by
  simp only [NodeV.cells, List.setIfInBounds_toArray]
  rw [List.set_append_right _ _ (by simp [h])]
  simp [h]

section
variable {w w' : World}
theorem alloc2 (w : World) (A B : Array Value) (ta tb : TypeId) :
    Below w.heap.size w ((w.alloc (.cells A ta)).alloc (.cells B tb)) ∧ Blk ((w.alloc (.cells A ta)).alloc (.cells B tb)) w.heap.size ta A ∧ Blk ((w.alloc (.cells A ta)).alloc (.cells B tb)) (w.heap.size + 1) tb B := by
  refine ⟨((Below.refl _ _).alloc (Nat.le_refl _) _).alloc (by simp) _, (Blk.new w ta A).alloc _, ?_⟩
  have := Blk.new (w.alloc (.cells A ta)) tb B
  simpa using this

set_option maxRecDepth 100000 in
set_option maxHeartbeats 3200000 in
theorem decode_ok (w : World) {x : List UInt8} (hx : x.length = 32) :
    Calls Try.prog 82 #[.agg (bvs x).toArray] w fun e w' => e = .returned (.tuple #[if isN x then (decN x).val else NodeV.zero.val, .int .i64 (if isN x then 0 else 28)]) ∧ Below w.heap.size w w' := by
  have HX := hide hx
  clear hx
  obtain ⟨r1, hr1⟩ : ∃ r1, (if isN x then (decN x).val else NodeV.zero.val) = r1 := ⟨_, rfl⟩
  obtain ⟨r2, hr2⟩ : ∃ r2 : Int, (if isN x then 0 else 28) = r2 := ⟨_, rfl⟩
  rw [hr1, hr2]
  have HR := hide (And.intro hr1 hr2)
  clear hr1 hr2
  go_enter Try.func82, Try.ntmps82
  go_upto_region 1 with (first | ((with_reducible refine at_alloc 52 ?_); refine wpList_alloc_as rfl 52 rfl _ (zero_node _) ?_) | fail)
  try simp only [World.size_alloc]
  refine at_world (fun W => ∃ b r, b = w.heap.size ∧ r = w.heap.size + 1 ∧ W.heap.size = w.heap.size + 2 ∧ Below w.heap.size w W ∧ Blk W b 179 (bvs x).toArray ∧ Blk W r 52 NodeV.zero.cells.toArray) ⟨w.heap.size, w.heap.size + 1, rfl, rfl, by simp, alloc2 w _ _ _ _⟩ (fun w1 h1 => ?_)
  obtain ⟨b, r, hb, hr, hs1, hb1, hB, hR⟩ := h1
  rw [← hr, ← hb]
  go_upto_region 2 with (first | ((with_reducible refine at_load 179 (.tmp 1) ?_); refine wpList_load_blk rfl 179 (.tmp 1) rfl b _ _ _ (by rfl) hB Try.underlying179 rfl (size_arrOf HX.out) ?_) | ((with_reducible refine at_build 205 #[(0, .tmp 10)] ?_); refine wpList_run rfl _ (exec_build 205 #[(0, .tmp 10)] rfl #[(0, .agg (bvs x).toArray)] (by simp only [List.map_toArray, List.map_cons, List.map_nil]; rfl) _ (build_field _ HX.out)) ?_) | ((with_reducible refine at_alloc 205 ?_); refine wpList_alloc_as rfl 205 rfl _ (zero_field _) ?_) | ((with_reducible refine at_store 205 (.tmp 4) (.tmp 11) ?_); refine wpList_store_blk rfl 205 (.tmp 4) (.tmp 11) rfl w1.heap.size _ _ _ (by rfl) (by rfl) (Blk.new _ _ _) (size_fieldOf HX.out 0) ((fcells_size z32_length 0).trans (fcells_size HX.out 0).symm) (fcells_all _ _) (fun _ => ?_)) | fail)
  refine at_world (fun W => ∃ f, f = w1.heap.size ∧ W.heap.size = w1.heap.size + 1 ∧ Blk W f 205 (fcells x 0) ∧ Below w.heap.size w W ∧ Blk W b 179 (bvs x).toArray ∧ Blk W r 52 NodeV.zero.cells.toArray) ⟨w1.heap.size, rfl, by simp, (Blk.new _ _ _).setRow_same _, below_setRow (hb1.alloc hb1.size _) hb1.size _, (hB.alloc _).setRow_far (Nat.ne_of_lt hB.lt) _, (hR.alloc _).setRow_far (Nat.ne_of_lt hR.lt) _⟩ (fun w2 h2 => ?_)
  obtain ⟨f, hf, hs2, h2⟩ := h2
  try rw [← hf]
  have hwf : w.heap.size ≤ f := by omega
  have hbf : ¬ b = f := by omega
  have hrf : ¬ r = f := by omega
  have hwr : w.heap.size ≤ r := by omega
  have HSZ := hide (And.intro hs2 hf)
  have HF := hide h2
  clear hf h2 hB hR hb1 hs1 hb hr hs2
  go_wp2_with fail
  refine (fget_ok HF.out.1 HX.out (k := 1) (by omega) (by omega)).mono ?_
  rintro e w_ ⟨rfl, hf, ht, -⟩
  obtain ⟨K, hK⟩ : ∃ u : UInt8, u.toNat = leN ((x.drop 0).take 1) := ⟨UInt8.ofNat (leN ((x.drop 0).take 1)), by
    have := leN_lt ((x.drop 0).take 1)
    rw [List.length_take, List.length_drop, HX.out] at this
    rw [UInt8.toNat_ofNat', Nat.mod_eq_of_lt (by simpa using this)]⟩
  rw [← hK]
  have HK := hide hK
  have HF2 := hide (And.intro hf (And.intro (below_own HF.out.2.1 hwf ht) (And.intro (HF.out.2.2.1.tch ht HF.out.2.2.1.lt hbf) (HF.out.2.2.2.tch ht HF.out.2.2.2.lt hrf))))
  clear HF hf ht hK
  have HF := HF2
  clear HF2
  have lK := K.toNat_lt
  have wK : IntKind.u8.wrap (K.toNat : Int) = (K.toNat : Int) := by rw [IntKind.wrap_u8]; omega
  go_wp2_with fail
  refine (fget_ok HF.out.1 HX.out (k := 1) (by omega) (by omega)).mono ?_
  rintro e w_ ⟨rfl, hf, ht, -⟩
  obtain ⟨L, hL⟩ : ∃ u : UInt8, u.toNat = leN ((x.drop 1).take 1) := ⟨UInt8.ofNat (leN ((x.drop 1).take 1)), by
    have := leN_lt ((x.drop 1).take 1)
    rw [List.length_take, List.length_drop, HX.out] at this
    rw [UInt8.toNat_ofNat', Nat.mod_eq_of_lt (by simpa using this)]⟩
  rw [← hL]
  have HL := hide hL
  have HF2 := hide (And.intro hf (And.intro (below_own HF.out.2.1 hwf ht) (And.intro (HF.out.2.2.1.tch ht HF.out.2.2.1.lt hbf) (HF.out.2.2.2.tch ht HF.out.2.2.2.lt hrf))))
  clear HF hf ht hL
  have HF := HF2
  clear HF2
  have lL := L.toNat_lt
  have wL : IntKind.u8.wrap (L.toNat : Int) = (L.toNat : Int) := by rw [IntKind.wrap_u8]; omega
  go_wp2_with fail
  refine (fget_ok HF.out.1 HX.out (k := 2) (by omega) (by omega)).mono ?_
  rintro e w_ ⟨rfl, hf, ht, -⟩
  obtain ⟨G, hG⟩ : ∃ u : UInt16, u.toNat = leN ((x.drop 2).take 2) := ⟨UInt16.ofNat (leN ((x.drop 2).take 2)), by
    have := leN_lt ((x.drop 2).take 2)
    rw [List.length_take, List.length_drop, HX.out] at this
    rw [UInt16.toNat_ofNat', Nat.mod_eq_of_lt (by simpa using this)]⟩
  rw [← hG]
  have HG1 := hide hG
  have HF2 := hide (And.intro hf (And.intro (below_own HF.out.2.1 hwf ht) (And.intro (HF.out.2.2.1.tch ht HF.out.2.2.1.lt hbf) (HF.out.2.2.2.tch ht HF.out.2.2.2.lt hrf))))
  clear HF hf ht hG
  have HF := HF2
  clear HF2
  have lG := G.toNat_lt
  have wG : IntKind.u16.wrap (G.toNat : Int) = (G.toNat : Int) := by rw [IntKind.wrap_u16]; omega
  go_wp2_with fail
  refine (fget_ok HF.out.1 HX.out (k := 4) (by omega) (by omega)).mono ?_
  rintro e w_ ⟨rfl, hf, ht, -⟩
  obtain ⟨S, hS⟩ : ∃ u : UInt32, u.toNat = leN ((x.drop 4).take 4) := ⟨UInt32.ofNat (leN ((x.drop 4).take 4)), by
    have := leN_lt ((x.drop 4).take 4)
    rw [List.length_take, List.length_drop, HX.out] at this
    rw [UInt32.toNat_ofNat', Nat.mod_eq_of_lt (by simpa using this)]⟩
  rw [← hS]
  have HS := hide hS
  have HF2 := hide (And.intro hf (And.intro (below_own HF.out.2.1 hwf ht) (And.intro (HF.out.2.2.1.tch ht HF.out.2.2.1.lt hbf) (HF.out.2.2.2.tch ht HF.out.2.2.2.lt hrf))))
  clear HF hf ht hS
  have HF := HF2
  clear HF2
  have lS := S.toNat_lt
  go_upto_region 3 with (first | ((with_reducible refine at_build 52 #[(0, .tmp 13), (1, .tmp 15), (2, .tmp 17), (3, .tmp 18)] ?_); refine wpList_run rfl _ (exec_build 52 #[(0, .tmp 13), (1, .tmp 15), (2, .tmp 17), (3, .tmp 18)] rfl #[(0, .int .u8 (K.toNat : Int)), (1, .int .u8 (L.toNat : Int)), (2, .int .u16 (G.toNat : Int)), (3, .int .u32 (S.toNat : Int))] (by simp only [List.map_toArray, List.map_cons, List.map_nil]; rfl) _ (build_head _ K L G S)) ?_) | ((with_reducible refine at_alloc 52 ?_); refine wpList_alloc_as rfl 52 rfl _ (zero_node _) ?_) | ((with_reducible refine at_store 52 (.tmp 5) (.tmp 19) ?_); refine wpList_store_blk rfl 52 (.tmp 5) (.tmp 19) rfl w_.heap.size _ _ _ (by rfl) (by rfl) (Blk.new _ _ _) (size_nodeOf (n := ⟨K, L, G, S, [0, 0, 0, 0, 0, 0], 0, 0⟩) rfl) rfl (NodeV.cells_one ⟨K, L, G, S, [0, 0, 0, 0, 0, 0], 0, 0⟩) (fun _ => ?_)) | fail)
  refine at_world (fun W => ∃ q, q = w_.heap.size ∧ Blk W f 205 (fcells x 8) ∧ Below w.heap.size w W ∧ Blk W b 179 (bvs x).toArray ∧ Blk W r 52 NodeV.zero.cells.toArray ∧ Blk W q 52 (NodeV.mk K L G S [0, 0, 0, 0, 0, 0] 0 0).cells.toArray) ⟨w_.heap.size, rfl, (HF.out.1.alloc _).setRow_far (Nat.ne_of_lt HF.out.1.lt) _, below_setRow (HF.out.2.1.alloc HF.out.2.1.size _) HF.out.2.1.size _, (HF.out.2.2.1.alloc _).setRow_far (Nat.ne_of_lt HF.out.2.2.1.lt) _, (HF.out.2.2.2.alloc _).setRow_far (Nat.ne_of_lt HF.out.2.2.2.lt) _, (Blk.new _ _ _).setRow_same _⟩ (fun w3 h3 => ?_)
  obtain ⟨q, hq, h3⟩ := h3
  try rw [← hq]
  have hwq : w.heap.size ≤ q := by rw [hq]; exact HF.out.2.1.size
  have hqf : ¬ q = f := by have := HF.out.1.lt; omega
  have hqb : ¬ q = b := by have := HF.out.2.2.1.lt; omega
  have hqr : ¬ q = r := by have := HF.out.2.2.2.lt; omega
  clear HF hq
  have HF := hide h3
  clear h3
  go_wp2_with fail
  go_loopg [20] 6 (fun gh x20 wr => ∃ j : Nat, gh = 6 - j ∧ j ≤ 6 ∧ x20 = .int .i64 (j : Int) ∧ Hid (Blk wr f 205 (fcells x (8 + 2 * j)) ∧ Below w.heap.size w wr ∧ Blk wr b 179 (bvs x).toArray ∧ Blk wr r 52 NodeV.zero.cells.toArray ∧ Blk wr q 52 (NodeV.mk K L G S (decDir x j ++ List.replicate (6 - j) 0) 0 0).cells.toArray))
  case atStart => exact ⟨0, rfl, Nat.zero_le _, rfl, by simpa [decDir] using HF⟩
  case round =>
    obtain ⟨j, hg, hj6, rfl, HW⟩ := hrel
    have HG := hide hg
    clear HF hg
    rcases Nat.lt_or_ge j 6 with hj | hj
    · have hjz : (j : Int) < 6 := by omega
      go_wp2_with fail
      refine (fget_ok HW.out.1 HX.out (k := 2) (by omega) (by omega)).mono ?_
      rintro e w_ ⟨rfl, hf, ht, -⟩
      obtain ⟨d, hd⟩ : ∃ u : UInt16, u.toNat = leN ((x.drop (8 + 2 * j)).take 2) := ⟨UInt16.ofNat (leN ((x.drop (8 + 2 * j)).take 2)), by
        have := leN_lt ((x.drop (8 + 2 * j)).take 2)
        rw [List.length_take, List.length_drop, HX.out, show min 2 (32 - (8 + 2 * j)) = 2 from by omega] at this
        rw [UInt16.toNat_ofNat', Nat.mod_eq_of_lt (by simpa using this)]⟩
      rw [← hd]
      have hdd : d = UInt16.ofNat (leN ((x.drop (8 + 2 * j)).take 2)) := by rw [← hd]; simp
      have hnext : (decDir x j ++ List.replicate (6 - j) 0).set j d = decDir x (j + 1) ++ List.replicate (6 - (j + 1)) 0 := by
        rw [List.set_append_right _ _ (by rw [decDir_length]; omega), decDir_length, Nat.sub_self, show 6 - j = (6 - (j + 1)) + 1 from by omega, List.replicate_succ, List.set_cons_zero, hdd]
        simp [decDir, List.range_succ]
      have hlen6 : (decDir x j ++ List.replicate (6 - j) 0).length = 6 := by simp [decDir_length]; omega
      have ldt := d.toNat_lt
      have wd : IntKind.u16.wrap (d.toNat : Int) = (d.toNat : Int) := by rw [IntKind.wrap_u16]; omega
      have HNX := hide (And.intro hnext hlen6)
      have HF2 := hide (And.intro hf (And.intro (below_own HW.out.2.1 hwf ht) (And.intro (HW.out.2.2.1.tch ht HW.out.2.2.1.lt hbf) (And.intro (HW.out.2.2.2.1.tch ht HW.out.2.2.2.1.lt hrf) (HW.out.2.2.2.2.tch ht HW.out.2.2.2.2.lt hqf)))))
      clear HW hf ht hd hdd hnext hlen6
      have cq := HF2.out.2.2.2.2.cell (4 + j)
      have hv0 : (NodeV.mk K L G S (decDir x j ++ List.replicate (6 - j) 0) 0 0).cells.toArray[4 + j]? = some (.int .u16 0) := by
        rw [List.getElem?_toArray, NodeV.cells, List.append_assoc, List.getElem?_append_right (by simp), List.getElem?_append_left (by simp [decDir_length]; omega)]
        simp only [List.length_cons, List.length_nil, Nat.zero_add, Nat.reduceAdd, Nat.add_sub_cancel_left, List.getElem?_map]
        rw [List.getElem?_append_right (by rw [decDir_length]; omega), decDir_length, Nat.sub_self, List.getElem?_replicate, if_pos (by omega)]
        rfl
      have cq := cq.trans hv0
      have fq := HF2.out.2.2.2.2.frozen (4 + j)
      have ql := HF2.out.2.2.2.2.lt
      clear hv0
      go_wp2_with (first | ((with_reducible refine at_store 39 (.tmp 27) (.tmp 25) ?_); refine wpList_store_cell rfl 39 (.tmp 27) (.tmp 25) rfl q (4 + j) _ _ _ (by rfl) (by rfl) HF2.out.2.2.2.2 (by rw [List.size_toArray, NodeV.cells_length HNX.out.2]; omega) rfl (by kernel_rfl) ?_) | fail)
      go_roundg (6 - (j + 1))
      case rel =>
        refine ⟨j + 1, rfl, by omega, by go_num, hide ⟨?_, HF2.out.2.1.setCell hwq _, ?_, ?_, ?_⟩⟩
        · have := HF2.out.1.far (p := ⟨q, 4 + j, none⟩) (fun e => hqf e.symm) (u16v d)
          rw [show 8 + 2 * (j + 1) = 8 + 2 * j + 2 from by omega]
          exact this
        · exact HF2.out.2.2.1.far (p := ⟨q, 4 + j, none⟩) (fun e => hqb e.symm) _
        · exact HF2.out.2.2.2.1.far (p := ⟨q, 4 + j, none⟩) (fun e => hqr e.symm) _
        · have := HF2.out.2.2.2.2.set_ (4 + j) (u16v d)
          rw [cells_set_dir (n := ⟨K, L, G, S, decDir x j ++ List.replicate (6 - j) 0, 0, 0⟩) (by simp only [HNX.out.2]; exact hj)] at this
          simp only [HNX.out.1] at this
          exact this
      case measure => have := HG.out; omega
    · have hj6' : j = 6 := by omega
      subst hj6'
      have HF := HW
      clear HW
      rw [show (6 - 6 : Nat) = 0 from rfl, List.replicate_zero, List.append_nil] at HF
      go_wp2_with fail
      refine (fget_ok HF.out.1 HX.out (k := 2) (by omega) (by omega)).mono ?_
      rintro e w_ ⟨rfl, hf, ht, -⟩
      obtain ⟨M, hM⟩ : ∃ u : UInt16, u.toNat = leN ((x.drop 20).take 2) := ⟨UInt16.ofNat (leN ((x.drop 20).take 2)), by
        have := leN_lt ((x.drop 20).take 2)
        rw [List.length_take, List.length_drop, HX.out] at this
        rw [UInt16.toNat_ofNat', Nat.mod_eq_of_lt (by simpa using this)]⟩
      rw [← hM]
      have HM := hide hM
      have HF2 := hide (And.intro hf (And.intro (below_own HF.out.2.1 hwf ht) (And.intro (HF.out.2.2.1.tch ht HF.out.2.2.1.lt hbf) (And.intro (HF.out.2.2.2.1.tch ht HF.out.2.2.2.1.lt hrf) (HF.out.2.2.2.2.tch ht HF.out.2.2.2.2.lt hqf)))))
      clear HF hf ht hM
      have HF := HF2
      clear HF2
      have lM := M.toNat_lt
      have wM : IntKind.u16.wrap (M.toNat : Int) = (M.toNat : Int) := by rw [IntKind.wrap_u16]; omega
      go_wp2_with fail
      refine (fget_ok HF.out.1 HX.out (k := 2) (by omega) (by omega)).mono ?_
      rintro e w_ ⟨rfl, hf, ht, -⟩
      obtain ⟨D, hD⟩ : ∃ u : UInt16, u.toNat = leN ((x.drop 22).take 2) := ⟨UInt16.ofNat (leN ((x.drop 22).take 2)), by
        have := leN_lt ((x.drop 22).take 2)
        rw [List.length_take, List.length_drop, HX.out] at this
        rw [UInt16.toNat_ofNat', Nat.mod_eq_of_lt (by simpa using this)]⟩
      rw [← hD]
      have HD := hide hD
      have HF2 := hide (And.intro hf (And.intro (below_own HF.out.2.1 hwf ht) (And.intro (HF.out.2.2.1.tch ht HF.out.2.2.1.lt hbf) (And.intro (HF.out.2.2.2.1.tch ht HF.out.2.2.2.1.lt hrf) (HF.out.2.2.2.2.tch ht HF.out.2.2.2.2.lt hqf)))))
      clear HF hf ht hD
      have HF := HF2
      clear HF2
      have lD := D.toNat_lt
      have wD : IntKind.u16.wrap (D.toNat : Int) = (D.toNat : Int) := by rw [IntKind.wrap_u16]; omega
      have hd6 := decDir_length x 6
      have HD6 := hide hd6
      clear hd6
      have c10 := HF.out.2.2.2.2.cell 10
      have c11 := HF.out.2.2.2.2.cell 11
      have f10 := HF.out.2.2.2.2.frozen 10
      have f11 := HF.out.2.2.2.2.frozen 11
      have ql := HF.out.2.2.2.2.lt
      have h10 : (NodeV.mk K L G S (decDir x 6) 0 0).cells.toArray[10]? = some (.int .u16 0) := by
        rw [List.getElem?_toArray, NodeV.cells, List.getElem?_append_right (by simp [HD6.out])]; simp [HD6.out]
      have h11 : (NodeV.mk K L G S (decDir x 6) 0 0).cells.toArray[11]? = some (.int .u16 0) := by
        rw [List.getElem?_toArray, NodeV.cells, List.getElem?_append_right (by simp [HD6.out])]; simp [HD6.out]
      rw [h10] at c10
      rw [h11] at c11
      clear h10 h11
      go_upto_region 9 with (fail)
      have hn : NodeV.mk K L G S (decDir x 6) M D = decN x := by
        unfold decN
        have e : ∀ (u : UInt8) n, u.toNat = n → u = UInt8.ofNat n := fun u n h => by rw [← h]; simp
        have e2 : ∀ (u : UInt16) n, u.toNat = n → u = UInt16.ofNat n := fun u n h => by rw [← h]; simp
        have e4 : ∀ (u : UInt32) n, u.toNat = n → u = UInt32.ofNat n := fun u n h => by rw [← h]; simp
        rw [e K _ HK.out, e L _ HL.out, e2 G _ HG1.out, e4 S _ HS.out, e2 M _ HM.out, e2 D _ HD.out, List.drop_zero]
      refine at_world (fun W => Blk W f 205 (fcells x 24) ∧ Below w.heap.size w W ∧ Blk W b 179 (bvs x).toArray ∧ Blk W r 52 NodeV.zero.cells.toArray ∧ Blk W q 52 (decN x).cells.toArray) ⟨?_, ?_, ?_, ?_, ?_⟩ (fun w4 h4 => ?_)
      · exact (HF.out.1.far (p := ⟨q, 10, none⟩) (fun e => hqf e.symm) _).far (p := ⟨q, 11, none⟩) (fun e => hqf e.symm) _
      · exact (HF.out.2.1.setCell hwq _).setCell hwq _
      · exact (HF.out.2.2.1.far (p := ⟨q, 10, none⟩) (fun e => hqb e.symm) _).far (p := ⟨q, 11, none⟩) (fun e => hqb e.symm) _
      · exact (HF.out.2.2.2.1.far (p := ⟨q, 10, none⟩) (fun e => hqr e.symm) _).far (p := ⟨q, 11, none⟩) (fun e => hqr e.symm) _
      · have h1 := HF.out.2.2.2.2.set_ 10 (u16v M)
        rw [cells_set_single (n := ⟨K, L, G, S, decDir x 6, 0, 0⟩) HD6.out] at h1
        have h2 := h1.set_ 11 (u16v D)
        rw [cells_set_double (n := ⟨K, L, G, S, decDir x 6, M, 0⟩) HD6.out] at h2
        rw [← hn]
        exact h2
      clear HF c10 c11 f10 f11 ql hn
      have HF := hide h4
      have HN6 := hide (decN_dir x)
      clear h4
      have c32 := (HF.out.1.cell 32).trans (fcells_at HX.out 24)
      have fl := HF.out.1.lt
      go_wp2_with fail
      go_loopg [39] 8 (fun gh x39 wr2 => ∃ j : Nat, gh = 8 - j ∧ j ≤ 8 ∧ wr2 = w4 ∧ x39 = .int .i64 (j : Int) ∧ Hid (∀ k, k < j → x.getD (24 + k) 0 = 0))
      case atStart => exact ⟨0, rfl, Nat.zero_le _, rfl, rfl, hide (fun k hk => by omega)⟩
      case round =>
        obtain ⟨j, hg, hj8, rfl, rfl, HA⟩ := hrel
        have HGJ := hide hg
        clear hg
        rcases Nat.lt_or_ge j 8 with hj | hj
        · have hjz : (j : Int) < 8 := by omega
          have cb := (HF.out.2.2.1.cell (24 + j)).trans (show (bvs x).toArray[24 + j]? = some (.int .u8 ((x.getD (24 + j) 0).toNat : Int)) by
            rw [List.getElem?_toArray, bvs_get, List.getD_eq_getElem?_getD, List.getElem?_eq_getElem (by rw [HX.out]; omega)]; rfl)
          have bl := HF.out.2.2.1.lt
          by_cases hz : x.getD (24 + j) 0 = 0
          · have HZ := hide hz
            have ht : (((x.getD (24 + j) 0).toNat : Int) == 0) = true := by rw [hz]; rfl
            have ht2 : (((x.getD (24 + j) 0).toNat : Int) != 0) = false := by rw [hz]; rfl
            generalize (x.getD (24 + j) 0).toNat = v at cb ht ht2
            clear hz
            go_wp2
            go_roundg (8 - (j + 1))
            case rel => exact ⟨j + 1, rfl, by omega, rfl, by go_num, hide (fun k hk => by
              rcases Nat.lt_or_ge k j with h | h
              · exact HA.out k h
              · rw [show k = j from by omega]; exact HZ.out)⟩
            case measure => have := HGJ.out; omega
          · have hv : (x.getD (24 + j) 0).toNat ≠ 0 := fun e => hz (UInt8.toNat_inj.1 (by simpa using e))
            have hno : isN x = false := by
              unfold isN
              have : (x.drop 24).all (· == 0) = false := by
                rw [List.all_eq_false]
                refine ⟨x.getD (24 + j) 0, ?_, by simpa using hz⟩
                rw [List.getD_eq_getElem?_getD, List.getElem?_eq_getElem (by rw [HX.out]; omega)]
                simp only [Option.getD_some]
                refine List.mem_iff_getElem.2 ⟨j, by rw [List.length_drop, HX.out]; omega, by rw [List.getElem_drop]⟩
              rw [this]; rfl
            have HRR := hide (show r1 = NodeV.zero.val ∧ r2 = 28 by
              obtain ⟨h1, h2⟩ := HR.out
              rw [hno] at h1 h2
              exact ⟨h1.symm, h2.symm⟩)
            generalize (x.getD (24 + j) 0).toNat = v at cb hv
            have ht : ((v : Int) == 0) = false := by simp; omega
            have ht2 : ((v : Int) != 0) = true := by simp; omega
            clear hz hv hno
            go_wp2_with (first | ((with_reducible refine at_build 52 #[] ?_); refine wpList_zero_as rfl 52 rfl _ (build_node _) ?_) | ((with_reducible refine at_store 52 (.tmp 2) (.tmp 45) ?_); refine wpList_store_blk rfl 52 (.tmp 2) (.tmp 45) rfl r _ _ _ (by rfl) (by rfl) HF.out.2.2.2.1 (size_nodeOf (n := NodeV.zero) rfl) rfl (NodeV.cells_one NodeV.zero) (fun hB3 => ?_)) | ((with_reducible refine at_end ?_); refine bodyPost_ret (v := .tuple #[NodeV.zero.val, .int .i64 28]) (results_run2 rfl (ResV.row rfl hB3 Try.underlying52 rfl (size_nodeOf (n := NodeV.zero) rfl)) rfl) rfl ⟨by rw [HRR.out.1, HRR.out.2], below_setRow HF.out.2.1 hwr _⟩) | fail)
        · have hj8' : j = 8 := by omega
          have htail : (x.drop 24).all (· == 0) = true := by
            rw [List.all_eq_true]
            intro y hy
            obtain ⟨k, hk, rfl⟩ := List.mem_iff_getElem.1 hy
            rw [List.length_drop, HX.out] at hk
            have := HA.out k (by omega)
            rw [List.getD_eq_getElem?_getD, List.getElem?_eq_getElem (by rw [HX.out]; omega)] at this
            simp only [Option.getD_some] at this
            rw [List.getElem_drop, this]; rfl
          have hisN : isN x = checkN (decN x) := by unfold isN; rw [htail, Bool.true_and]
          have hce : checkE (decN x) = if isN x then 0 else 28 := by rw [hisN]; rfl
          have hd8 : decide ((j : Int) < 8) = false := by simp; omega
          cases hch : isN x with
          | true =>
            have HRR := hide (show r1 = (decN x).val ∧ r2 = 0 by
              obtain ⟨h1, h2⟩ := HR.out
              rw [hch] at h1 h2
              exact ⟨h1.symm, h2.symm⟩)
            have hck := fun W => check_ok W HN6.out
            rw [hce, hch] at hck
            have HCK := hide hck
            clear hj8' htail hisN hce hch hck
            go_wp2_with (first | ((with_reducible refine at_load 52 (.tmp 5) ?_); refine wpList_load_blk rfl 52 (.tmp 5) rfl q _ _ _ (by rfl) HF.out.2.2.2.2 Try.underlying52 rfl (size_nodeOf HN6.out) ?_) | fail)
            refine (HCK.out _).mono ?_
            rintro e w6 ⟨rfl, hb6⟩
            have HF6 := hide (And.intro (HF.out.2.1.trans (hb6.mono HF.out.2.1.size)) (And.intro (HF.out.2.2.2.1.below hb6 HF.out.2.2.2.1.lt) (HF.out.2.2.2.2.below hb6 HF.out.2.2.2.2.lt)))
            clear hb6
            go_wp2_with (first | ((with_reducible refine at_load 52 (.tmp 5) ?_); refine wpList_load_blk rfl 52 (.tmp 5) rfl q _ _ _ (by rfl) HF6.out.2.2 Try.underlying52 rfl (size_nodeOf HN6.out) ?_) | ((with_reducible refine at_store 52 (.tmp 2) (.tmp 53) ?_); refine wpList_store_blk rfl 52 (.tmp 2) (.tmp 53) rfl r _ _ _ (by rfl) (by rfl) HF6.out.2.1 (size_nodeOf HN6.out) (by rw [List.size_toArray, List.size_toArray, NodeV.cells_length HN6.out]; rfl) (NodeV.cells_one _) (fun hB3 => ?_)) | ((with_reducible refine at_end ?_); refine bodyPost_ret (v := .tuple #[(decN x).val, .int .i64 0]) (results_run2 rfl (ResV.row rfl hB3 Try.underlying52 rfl (size_nodeOf HN6.out)) rfl) rfl ⟨by rw [HRR.out.1, HRR.out.2], below_setRow HF6.out.1 hwr _⟩) | fail)
          | false =>
            have HRR := hide (show r1 = NodeV.zero.val ∧ r2 = 28 by
              obtain ⟨h1, h2⟩ := HR.out
              rw [hch] at h1 h2
              exact ⟨h1.symm, h2.symm⟩)
            have hck := fun W => check_ok W HN6.out
            rw [hce, hch] at hck
            have HCK := hide hck
            clear hj8' htail hisN hce hch hck
            go_wp2_with (first | ((with_reducible refine at_load 52 (.tmp 5) ?_); refine wpList_load_blk rfl 52 (.tmp 5) rfl q _ _ _ (by rfl) HF.out.2.2.2.2 Try.underlying52 rfl (size_nodeOf HN6.out) ?_) | fail)
            refine (HCK.out _).mono ?_
            rintro e w6 ⟨rfl, hb6⟩
            have HF6 := hide (And.intro (HF.out.2.1.trans (hb6.mono HF.out.2.1.size)) (And.intro (HF.out.2.2.2.1.below hb6 HF.out.2.2.2.1.lt) (HF.out.2.2.2.2.below hb6 HF.out.2.2.2.2.lt)))
            clear hb6
            go_wp2_with (first | ((with_reducible refine at_build 52 #[] ?_); refine wpList_zero_as rfl 52 rfl _ (build_node _) ?_) | ((with_reducible refine at_store 52 (.tmp 2) (.tmp 51) ?_); refine wpList_store_blk rfl 52 (.tmp 2) (.tmp 51) rfl r _ _ _ (by rfl) (by rfl) HF6.out.2.1 (size_nodeOf (n := NodeV.zero) rfl) rfl (NodeV.cells_one NodeV.zero) (fun hB3 => ?_)) | ((with_reducible refine at_end ?_); refine bodyPost_ret (v := .tuple #[NodeV.zero.val, .int .i64 28]) (results_run2 rfl (ResV.row rfl hB3 Try.underlying52 rfl (size_nodeOf (n := NodeV.zero) rfl)) rfl) rfl ⟨by rw [HRR.out.1, HRR.out.2], below_setRow HF6.out.1 hwr _⟩) | fail)
end
end Go.Proofs.Ytoeejeieplhifaa

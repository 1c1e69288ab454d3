/- Nodes, walked: Decode. Nodes in blocks, walked: Place, Read, Write. Groups, walked: taken, has, Take, Give. Groups, walked: Give, Get, Put. Configurations in small numbers: the walks of a size. -/
import Derived.Test.YthmkgohfeahdhaaGreatDiPlaysLawP4
import Derived.Deep.LoopGhost
import Derived.Deep.Cut
import Derived.Deep.CutRange
import Derived.Deep.CutBlock
namespace Go.Proofs.YthmkgohfeahdhaaGreat
open Go.RowKit
set_option linter.unusedSimpArgs false
set_option linter.unusedVariables false

theorem len_cons {α : Type} {l : List α} {n : Nat} (h : l.length = n + 1) : ∃ a t, l = a :: t ∧ t.length = n := by
  cases l with
  | nil => simp at h
  | cons a t => exact ⟨a, t, rfl, by simpa using h⟩
set_option maxRecDepth 100000 in
theorem build_field (w : World) {x : List UInt8} (hx : x.length = 32) : (Instr.build 303 #[(0, .agg (bvs x).toArray)]).run Tryz.prog w = .ok (.agg (fcells x 0)) w := by
  obtain ⟨x0, y0, rfl, h0⟩ := len_cons hx
  obtain ⟨x1, y1, rfl, h1⟩ := len_cons h0
  obtain ⟨x2, y2, rfl, h2⟩ := len_cons h1
  obtain ⟨x3, y3, rfl, h3⟩ := len_cons h2
  obtain ⟨x4, y4, rfl, h4⟩ := len_cons h3
  obtain ⟨x5, y5, rfl, h5⟩ := len_cons h4
  obtain ⟨x6, y6, rfl, h6⟩ := len_cons h5
  obtain ⟨x7, y7, rfl, h7⟩ := len_cons h6
  obtain ⟨x8, y8, rfl, h8⟩ := len_cons h7
  obtain ⟨x9, y9, rfl, h9⟩ := len_cons h8
  obtain ⟨x10, y10, rfl, h10⟩ := len_cons h9
  obtain ⟨x11, y11, rfl, h11⟩ := len_cons h10
  obtain ⟨x12, y12, rfl, h12⟩ := len_cons h11
  obtain ⟨x13, y13, rfl, h13⟩ := len_cons h12
  obtain ⟨x14, y14, rfl, h14⟩ := len_cons h13
  obtain ⟨x15, y15, rfl, h15⟩ := len_cons h14
  obtain ⟨x16, y16, rfl, h16⟩ := len_cons h15
  obtain ⟨x17, y17, rfl, h17⟩ := len_cons h16
  obtain ⟨x18, y18, rfl, h18⟩ := len_cons h17
  obtain ⟨x19, y19, rfl, h19⟩ := len_cons h18
  obtain ⟨x20, y20, rfl, h20⟩ := len_cons h19
  obtain ⟨x21, y21, rfl, h21⟩ := len_cons h20
  obtain ⟨x22, y22, rfl, h22⟩ := len_cons h21
  obtain ⟨x23, y23, rfl, h23⟩ := len_cons h22
  obtain ⟨x24, y24, rfl, h24⟩ := len_cons h23
  obtain ⟨x25, y25, rfl, h25⟩ := len_cons h24
  obtain ⟨x26, y26, rfl, h26⟩ := len_cons h25
  obtain ⟨x27, y27, rfl, h27⟩ := len_cons h26
  obtain ⟨x28, y28, rfl, h28⟩ := len_cons h27
  obtain ⟨x29, y29, rfl, h29⟩ := len_cons h28
  obtain ⟨x30, y30, rfl, h30⟩ := len_cons h29
  obtain ⟨x31, y31, rfl, h31⟩ := len_cons h30
  obtain rfl := List.eq_nil_of_length_eq_zero h31
  kernel_rfl
theorem build_head (w : World) (k l : UInt8) (g : UInt16) (s : UInt32) : (Instr.build 130 #[(0, .int .u8 (k.toNat : Int)), (1, .int .u8 (l.toNat : Int)), (2, .int .u16 (g.toNat : Int)), (3, .int .u32 (s.toNat : Int))]).run Tryz.prog w = .ok (NodeV.val ⟨k, l, g, s, [0, 0, 0, 0, 0, 0], 0, 0⟩) w := by kernel_rfl
theorem size_field : (Tryz.prog.info? 303).map (·.size) = some 33 := by kernel_rfl
theorem size_fieldOf {x : List UInt8} (hx : x.length = 32) (a : Nat) : (Tryz.prog.info? 303).map (·.size) = some (fcells x a).size := by rw [size_field, fcells_size hx]
theorem cells_set_dir {n : NodeV} {j : Nat} (hj : j < n.dir.length) (d : UInt16) : n.cells.toArray.setIfInBounds (4 + j) (u16v d) = ({ n with dir := n.dir.set j d } : NodeV).cells.toArray := by
  simp only [NodeV.cells, List.setIfInBounds_toArray, List.append_assoc]
  rw [List.set_append_right _ _ (by simp), List.set_append_left _ _ (by simpa using hj)]
  simp [List.map_set]
theorem cells_set_single {n : NodeV} (h : n.dir.length = 6) (d : UInt16) : n.cells.toArray.setIfInBounds 10 (u16v d) = ({ n with single := d } : NodeV).cells.toArray := by
  simp only [NodeV.cells, List.setIfInBounds_toArray]
  rw [List.set_append_right _ _ (by simp [h])]
  simp [h]
theorem cells_set_double {n : NodeV} (h : n.dir.length = 6) (d : UInt16) : n.cells.toArray.setIfInBounds 11 (u16v d) = ({ n with double := d } : NodeV).cells.toArray := by
  simp only [NodeV.cells, List.setIfInBounds_toArray]
  rw [List.set_append_right _ _ (by simp [h])]
  simp [h]

section
variable {w w' : World}
theorem alloc2 (w : World) (A B : Array Value) (ta tb : TypeId) :
    Below w.heap.size w ((w.alloc (.cells A ta)).alloc (.cells B tb)) ∧ Blk ((w.alloc (.cells A ta)).alloc (.cells B tb)) w.heap.size ta A ∧ Blk ((w.alloc (.cells A ta)).alloc (.cells B tb)) (w.heap.size + 1) tb B := by
  refine ⟨((Below.refl _ _).alloc (Nat.le_refl _) _).alloc (by simp) _, (Blk.new w ta A).alloc _, ?_⟩
  have := Blk.new (w.alloc (.cells A ta)) tb B
  simpa using this

set_option maxRecDepth 100000 in
set_option maxHeartbeats 3200000 in
theorem decode_ok (w : World) {x : List UInt8} (hx : x.length = 32) :
    Calls Tryz.prog 161 #[.agg (bvs x).toArray] w fun e w' => e = .returned (.tuple #[if isN x then (decN x).val else NodeV.zero.val, .int .i64 (if isN x then 0 else 28)]) ∧ Below w.heap.size w w' := by
  have HX := hide hx
  clear hx
  obtain ⟨r1, hr1⟩ : ∃ r1, (if isN x then (decN x).val else NodeV.zero.val) = r1 := ⟨_, rfl⟩
  obtain ⟨r2, hr2⟩ : ∃ r2 : Int, (if isN x then 0 else 28) = r2 := ⟨_, rfl⟩
  rw [hr1, hr2]
  have HR := hide (And.intro hr1 hr2)
  clear hr1 hr2
  go_enter Tryz.func161, Tryz.ntmps161
  go_upto_region 1 with (first | ((with_reducible refine at_alloc 130 ?_); refine wpList_alloc_as rfl 130 rfl _ (zero_node _) ?_) | fail)
  try simp only [World.size_alloc]
  refine at_world (fun W => ∃ b r, b = w.heap.size ∧ r = w.heap.size + 1 ∧ W.heap.size = w.heap.size + 2 ∧ Below w.heap.size w W ∧ Blk W b 255 (bvs x).toArray ∧ Blk W r 130 NodeV.zero.cells.toArray) ⟨w.heap.size, w.heap.size + 1, rfl, rfl, by simp, alloc2 w _ _ _ _⟩ (fun w1 h1 => ?_)
  obtain ⟨b, r, hb, hr, hs1, hb1, hB, hR⟩ := h1
  rw [← hr, ← hb]
  go_upto_region 2 with (first | ((with_reducible refine at_load 255 (.tmp 1) ?_); refine wpList_load_blk rfl 255 (.tmp 1) rfl b _ _ _ (by rfl) hB Tryz.underlying255 rfl (size_arrOf HX.out) ?_) | ((with_reducible refine at_build 303 #[(0, .tmp 10)] ?_); refine wpList_run rfl _ (exec_build 303 #[(0, .tmp 10)] rfl #[(0, .agg (bvs x).toArray)] (by simp only [List.map_toArray, List.map_cons, List.map_nil]; rfl) _ (build_field _ HX.out)) ?_) | ((with_reducible refine at_alloc 303 ?_); refine wpList_alloc_as rfl 303 rfl _ (zero_field _) ?_) | ((with_reducible refine at_store 303 (.tmp 4) (.tmp 11) ?_); refine wpList_store_blk rfl 303 (.tmp 4) (.tmp 11) rfl w1.heap.size _ _ _ (by rfl) (by rfl) (Blk.new _ _ _) (size_fieldOf HX.out 0) ((fcells_size z32_length 0).trans (fcells_size HX.out 0).symm) (fcells_all _ _) (fun _ => ?_)) | fail)
  refine at_world (fun W => ∃ f, f = w1.heap.size ∧ W.heap.size = w1.heap.size + 1 ∧ Blk W f 303 (fcells x 0) ∧ Below w.heap.size w W ∧ Blk W b 255 (bvs x).toArray ∧ Blk W r 130 NodeV.zero.cells.toArray) ⟨w1.heap.size, rfl, by simp, (Blk.new _ _ _).setRow_same _, below_setRow (hb1.alloc hb1.size _) hb1.size _, (hB.alloc _).setRow_far (Nat.ne_of_lt hB.lt) _, (hR.alloc _).setRow_far (Nat.ne_of_lt hR.lt) _⟩ (fun w2 h2 => ?_)
  obtain ⟨f, hf, hs2, h2⟩ := h2
  try rw [← hf]
  have hwf : w.heap.size ≤ f := by omega
  have hbf : ¬ b = f := by omega
  have hrf : ¬ r = f := by omega
  have hwr : w.heap.size ≤ r := by omega
  have HSZ := hide (And.intro hs2 hf)
  have HF := hide h2
  clear hf h2 hB hR hb1 hs1 hb hr hs2
  go_wp2_with fail
  refine (fget_ok HF.out.1 HX.out (k := 1) (by omega) (by omega)).mono ?_
  rintro e w_ ⟨rfl, hf, ht, -⟩
  obtain ⟨K, hK⟩ : ∃ u : UInt8, u.toNat = leN ((x.drop 0).take 1) := ⟨UInt8.ofNat (leN ((x.drop 0).take 1)), by
    have := leN_lt ((x.drop 0).take 1)
    rw [List.length_take, List.length_drop, HX.out] at this
    rw [UInt8.toNat_ofNat', Nat.mod_eq_of_lt (by simpa using this)]⟩
  rw [← hK]
  have HK := hide hK
  have HF2 := hide (And.intro hf (And.intro (below_own HF.out.2.1 hwf ht) (And.intro (HF.out.2.2.1.tch ht HF.out.2.2.1.lt hbf) (HF.out.2.2.2.tch ht HF.out.2.2.2.lt hrf))))
  clear HF hf ht hK
  have HF := HF2
  clear HF2
  have lK := K.toNat_lt
  have wK : IntKind.u8.wrap (K.toNat : Int) = (K.toNat : Int) := by rw [IntKind.wrap_u8]; omega
  go_wp2_with fail
  refine (fget_ok HF.out.1 HX.out (k := 1) (by omega) (by omega)).mono ?_
  rintro e w_ ⟨rfl, hf, ht, -⟩
  obtain ⟨L, hL⟩ : ∃ u : UInt8, u.toNat = leN ((x.drop 1).take 1) := ⟨UInt8.ofNat (leN ((x.drop 1).take 1)), by
    have := leN_lt ((x.drop 1).take 1)
    rw [List.length_take, List.length_drop, HX.out] at this
    rw [UInt8.toNat_ofNat', Nat.mod_eq_of_lt (by simpa using this)]⟩
  rw [← hL]
  have HL := hide hL
  have HF2 := hide (And.intro hf (And.intro (below_own HF.out.2.1 hwf ht) (And.intro (HF.out.2.2.1.tch ht HF.out.2.2.1.lt hbf) (HF.out.2.2.2.tch ht HF.out.2.2.2.lt hrf))))
  clear HF hf ht hL
  have HF := HF2
  clear HF2
  have lL := L.toNat_lt
  have wL : IntKind.u8.wrap (L.toNat : Int) = (L.toNat : Int) := by rw [IntKind.wrap_u8]; omega
  go_wp2_with fail
  refine (fget_ok HF.out.1 HX.out (k := 2) (by omega) (by omega)).mono ?_
  rintro e w_ ⟨rfl, hf, ht, -⟩
  obtain ⟨G, hG⟩ : ∃ u : UInt16, u.toNat = leN ((x.drop 2).take 2) := ⟨UInt16.ofNat (leN ((x.drop 2).take 2)), by
    have := leN_lt ((x.drop 2).take 2)
    rw [List.length_take, List.length_drop, HX.out] at this
    rw [UInt16.toNat_ofNat', Nat.mod_eq_of_lt (by simpa using this)]⟩
  rw [← hG]
  have HG1 := hide hG
  have HF2 := hide (And.intro hf (And.intro (below_own HF.out.2.1 hwf ht) (And.intro (HF.out.2.2.1.tch ht HF.out.2.2.1.lt hbf) (HF.out.2.2.2.tch ht HF.out.2.2.2.lt hrf))))
  clear HF hf ht hG
  have HF := HF2
  clear HF2
  have lG := G.toNat_lt
  have wG : IntKind.u16.wrap (G.toNat : Int) = (G.toNat : Int) := by rw [IntKind.wrap_u16]; omega
  go_wp2_with fail
  refine (fget_ok HF.out.1 HX.out (k := 4) (by omega) (by omega)).mono ?_
  rintro e w_ ⟨rfl, hf, ht, -⟩
  obtain ⟨S, hS⟩ : ∃ u : UInt32, u.toNat = leN ((x.drop 4).take 4) := ⟨UInt32.ofNat (leN ((x.drop 4).take 4)), by
    have := leN_lt ((x.drop 4).take 4)
    rw [List.length_take, List.length_drop, HX.out] at this
    rw [UInt32.toNat_ofNat', Nat.mod_eq_of_lt (by simpa using this)]⟩
  rw [← hS]
  have HS := hide hS
  have HF2 := hide (And.intro hf (And.intro (below_own HF.out.2.1 hwf ht) (And.intro (HF.out.2.2.1.tch ht HF.out.2.2.1.lt hbf) (HF.out.2.2.2.tch ht HF.out.2.2.2.lt hrf))))
  clear HF hf ht hS
  have HF := HF2
  clear HF2
  have lS := S.toNat_lt
  go_upto_region 3 with (first | ((with_reducible refine at_build 130 #[(0, .tmp 13), (1, .tmp 15), (2, .tmp 17), (3, .tmp 18)] ?_); refine wpList_run rfl _ (exec_build 130 #[(0, .tmp 13), (1, .tmp 15), (2, .tmp 17), (3, .tmp 18)] rfl #[(0, .int .u8 (K.toNat : Int)), (1, .int .u8 (L.toNat : Int)), (2, .int .u16 (G.toNat : Int)), (3, .int .u32 (S.toNat : Int))] (by simp only [List.map_toArray, List.map_cons, List.map_nil]; rfl) _ (build_head _ K L G S)) ?_) | ((with_reducible refine at_alloc 130 ?_); refine wpList_alloc_as rfl 130 rfl _ (zero_node _) ?_) | ((with_reducible refine at_store 130 (.tmp 5) (.tmp 19) ?_); refine wpList_store_blk rfl 130 (.tmp 5) (.tmp 19) rfl w_.heap.size _ _ _ (by rfl) (by rfl) (Blk.new _ _ _) (size_nodeOf (n := ⟨K, L, G, S, [0, 0, 0, 0, 0, 0], 0, 0⟩) rfl) rfl (NodeV.cells_one ⟨K, L, G, S, [0, 0, 0, 0, 0, 0], 0, 0⟩) (fun _ => ?_)) | fail)
  refine at_world (fun W => ∃ q, q = w_.heap.size ∧ Blk W f 303 (fcells x 8) ∧ Below w.heap.size w W ∧ Blk W b 255 (bvs x).toArray ∧ Blk W r 130 NodeV.zero.cells.toArray ∧ Blk W q 130 (NodeV.mk K L G S [0, 0, 0, 0, 0, 0] 0 0).cells.toArray) ⟨w_.heap.size, rfl, (HF.out.1.alloc _).setRow_far (Nat.ne_of_lt HF.out.1.lt) _, below_setRow (HF.out.2.1.alloc HF.out.2.1.size _) HF.out.2.1.size _, (HF.out.2.2.1.alloc _).setRow_far (Nat.ne_of_lt HF.out.2.2.1.lt) _, (HF.out.2.2.2.alloc _).setRow_far (Nat.ne_of_lt HF.out.2.2.2.lt) _, (Blk.new _ _ _).setRow_same _⟩ (fun w3 h3 => ?_)
  obtain ⟨q, hq, h3⟩ := h3
  try rw [← hq]
  have hwq : w.heap.size ≤ q := by rw [hq]; exact HF.out.2.1.size
  have hqf : ¬ q = f := by have := HF.out.1.lt; omega
  have hqb : ¬ q = b := by have := HF.out.2.2.1.lt; omega
  have hqr : ¬ q = r := by have := HF.out.2.2.2.lt; omega
  clear HF hq
  have HF := hide h3
  clear h3
  go_wp2_with fail
  go_loopg [20] 6 (fun gh x20 wr => ∃ j : Nat, gh = 6 - j ∧ j ≤ 6 ∧ x20 = .int .i64 (j : Int) ∧ Hid (Blk wr f 303 (fcells x (8 + 2 * j)) ∧ Below w.heap.size w wr ∧ Blk wr b 255 (bvs x).toArray ∧ Blk wr r 130 NodeV.zero.cells.toArray ∧ Blk wr q 130 (NodeV.mk K L G S (decDir x j ++ List.replicate (6 - j) 0) 0 0).cells.toArray))
  case atStart => exact ⟨0, rfl, Nat.zero_le _, rfl, by simpa [decDir] using HF⟩
  case round =>
    obtain ⟨j, hg, hj6, rfl, HW⟩ := hrel
    have HG := hide hg
    clear HF hg
    rcases Nat.lt_or_ge j 6 with hj | hj
    · have hjz : (j : Int) < 6 := by omega
      go_wp2_with fail
      refine (fget_ok HW.out.1 HX.out (k := 2) (by omega) (by omega)).mono ?_
      rintro e w_ ⟨rfl, hf, ht, -⟩
      obtain ⟨d, hd⟩ : ∃ u : UInt16, u.toNat = leN ((x.drop (8 + 2 * j)).take 2) := ⟨UInt16.ofNat (leN ((x.drop (8 + 2 * j)).take 2)), by
        have := leN_lt ((x.drop (8 + 2 * j)).take 2)
        rw [List.length_take, List.length_drop, HX.out, show min 2 (32 - (8 + 2 * j)) = 2 from by omega] at this
        rw [UInt16.toNat_ofNat', Nat.mod_eq_of_lt (by simpa using this)]⟩
      rw [← hd]
      have hdd : d = UInt16.ofNat (leN ((x.drop (8 + 2 * j)).take 2)) := by rw [← hd]; simp
      have hnext : (decDir x j ++ List.replicate (6 - j) 0).set j d = decDir x (j + 1) ++ List.replicate (6 - (j + 1)) 0 := by
        rw [List.set_append_right _ _ (by rw [decDir_length]; omega), decDir_length, Nat.sub_self, show 6 - j = (6 - (j + 1)) + 1 from by omega, List.replicate_succ, List.set_cons_zero, hdd]
        simp [decDir, List.range_succ]
      have hlen6 : (decDir x j ++ List.replicate (6 - j) 0).length = 6 := by simp [decDir_length]; omega
      have ldt := d.toNat_lt
      have wd : IntKind.u16.wrap (d.toNat : Int) = (d.toNat : Int) := by rw [IntKind.wrap_u16]; omega
      have HNX := hide (And.intro hnext hlen6)
      have HF2 := hide (And.intro hf (And.intro (below_own HW.out.2.1 hwf ht) (And.intro (HW.out.2.2.1.tch ht HW.out.2.2.1.lt hbf) (And.intro (HW.out.2.2.2.1.tch ht HW.out.2.2.2.1.lt hrf) (HW.out.2.2.2.2.tch ht HW.out.2.2.2.2.lt hqf)))))
      clear HW hf ht hd hdd hnext hlen6
      have cq := HF2.out.2.2.2.2.cell (4 + j)
      have hv0 : (NodeV.mk K L G S (decDir x j ++ List.replicate (6 - j) 0) 0 0).cells.toArray[4 + j]? = some (.int .u16 0) := by
        rw [List.getElem?_toArray, NodeV.cells, List.append_assoc, List.getElem?_append_right (by simp), List.getElem?_append_left (by simp [decDir_length]; omega)]
        simp only [List.length_cons, List.length_nil, Nat.zero_add, Nat.reduceAdd, Nat.add_sub_cancel_left, List.getElem?_map]
        rw [List.getElem?_append_right (by rw [decDir_length]; omega), decDir_length, Nat.sub_self, List.getElem?_replicate, if_pos (by omega)]
        rfl
      have cq := cq.trans hv0
      have fq := HF2.out.2.2.2.2.frozen (4 + j)
      have ql := HF2.out.2.2.2.2.lt
      clear hv0
      go_wp2_with (first | ((with_reducible refine at_store 37 (.tmp 27) (.tmp 25) ?_); refine wpList_store_cell rfl 37 (.tmp 27) (.tmp 25) rfl q (4 + j) _ _ _ (by rfl) (by rfl) HF2.out.2.2.2.2 (by rw [List.size_toArray, NodeV.cells_length HNX.out.2]; omega) rfl (by kernel_rfl) ?_) | fail)
      go_roundg (6 - (j + 1))
      case rel =>
        refine ⟨j + 1, rfl, by omega, by go_num, hide ⟨?_, HF2.out.2.1.setCell hwq _, ?_, ?_, ?_⟩⟩
        · have := HF2.out.1.far (p := ⟨q, 4 + j, none⟩) (fun e => hqf e.symm) (u16v d)
          rw [show 8 + 2 * (j + 1) = 8 + 2 * j + 2 from by omega]
          exact this
        · exact HF2.out.2.2.1.far (p := ⟨q, 4 + j, none⟩) (fun e => hqb e.symm) _
        · exact HF2.out.2.2.2.1.far (p := ⟨q, 4 + j, none⟩) (fun e => hqr e.symm) _
        · have := HF2.out.2.2.2.2.set_ (4 + j) (u16v d)
          rw [cells_set_dir (n := ⟨K, L, G, S, decDir x j ++ List.replicate (6 - j) 0, 0, 0⟩) (by simp only [HNX.out.2]; exact hj)] at this
          simp only [HNX.out.1] at this
          exact this
      case measure => have := HG.out; omega
    · have hj6' : j = 6 := by omega
      subst hj6'
      have HF := HW
      clear HW
      rw [show (6 - 6 : Nat) = 0 from rfl, List.replicate_zero, List.append_nil] at HF
      go_wp2_with fail
      refine (fget_ok HF.out.1 HX.out (k := 2) (by omega) (by omega)).mono ?_
      rintro e w_ ⟨rfl, hf, ht, -⟩
      obtain ⟨M, hM⟩ : ∃ u : UInt16, u.toNat = leN ((x.drop 20).take 2) := ⟨UInt16.ofNat (leN ((x.drop 20).take 2)), by
        have := leN_lt ((x.drop 20).take 2)
        rw [List.length_take, List.length_drop, HX.out] at this
        rw [UInt16.toNat_ofNat', Nat.mod_eq_of_lt (by simpa using this)]⟩
      rw [← hM]
      have HM := hide hM
      have HF2 := hide (And.intro hf (And.intro (below_own HF.out.2.1 hwf ht) (And.intro (HF.out.2.2.1.tch ht HF.out.2.2.1.lt hbf) (And.intro (HF.out.2.2.2.1.tch ht HF.out.2.2.2.1.lt hrf) (HF.out.2.2.2.2.tch ht HF.out.2.2.2.2.lt hqf)))))
      clear HF hf ht hM
      have HF := HF2
      clear HF2
      have lM := M.toNat_lt
      have wM : IntKind.u16.wrap (M.toNat : Int) = (M.toNat : Int) := by rw [IntKind.wrap_u16]; omega
      go_wp2_with fail
      refine (fget_ok HF.out.1 HX.out (k := 2) (by omega) (by omega)).mono ?_
      rintro e w_ ⟨rfl, hf, ht, -⟩
      obtain ⟨D, hD⟩ : ∃ u : UInt16, u.toNat = leN ((x.drop 22).take 2) := ⟨UInt16.ofNat (leN ((x.drop 22).take 2)), by
        have := leN_lt ((x.drop 22).take 2)
        rw [List.length_take, List.length_drop, HX.out] at this
        rw [UInt16.toNat_ofNat', Nat.mod_eq_of_lt (by simpa using this)]⟩
      rw [← hD]
      have HD := hide hD
      have HF2 := hide (And.intro hf (And.intro (below_own HF.out.2.1 hwf ht) (And.intro (HF.out.2.2.1.tch ht HF.out.2.2.1.lt hbf) (And.intro (HF.out.2.2.2.1.tch ht HF.out.2.2.2.1.lt hrf) (HF.out.2.2.2.2.tch ht HF.out.2.2.2.2.lt hqf)))))
      clear HF hf ht hD
      have HF := HF2
      clear HF2
      have lD := D.toNat_lt
      have wD : IntKind.u16.wrap (D.toNat : Int) = (D.toNat : Int) := by rw [IntKind.wrap_u16]; omega
      have hd6 := decDir_length x 6
      have HD6 := hide hd6
      clear hd6
      have c10 := HF.out.2.2.2.2.cell 10
      have c11 := HF.out.2.2.2.2.cell 11
      have f10 := HF.out.2.2.2.2.frozen 10
      have f11 := HF.out.2.2.2.2.frozen 11
      have ql := HF.out.2.2.2.2.lt
      have h10 : (NodeV.mk K L G S (decDir x 6) 0 0).cells.toArray[10]? = some (.int .u16 0) := by
        rw [List.getElem?_toArray, NodeV.cells, List.getElem?_append_right (by simp [HD6.out])]; simp [HD6.out]
      have h11 : (NodeV.mk K L G S (decDir x 6) 0 0).cells.toArray[11]? = some (.int .u16 0) := by
        rw [List.getElem?_toArray, NodeV.cells, List.getElem?_append_right (by simp [HD6.out])]; simp [HD6.out]
      rw [h10] at c10
      rw [h11] at c11
      clear h10 h11
      go_upto_region 9 with (fail)
      have hn : NodeV.mk K L G S (decDir x 6) M D = decN x := by
        unfold decN
        have e : ∀ (u : UInt8) n, u.toNat = n → u = UInt8.ofNat n := fun u n h => by rw [← h]; simp
        have e2 : ∀ (u : UInt16) n, u.toNat = n → u = UInt16.ofNat n := fun u n h => by rw [← h]; simp
        have e4 : ∀ (u : UInt32) n, u.toNat = n → u = UInt32.ofNat n := fun u n h => by rw [← h]; simp
        rw [e K _ HK.out, e L _ HL.out, e2 G _ HG1.out, e4 S _ HS.out, e2 M _ HM.out, e2 D _ HD.out, List.drop_zero]
      refine at_world (fun W => Blk W f 303 (fcells x 24) ∧ Below w.heap.size w W ∧ Blk W b 255 (bvs x).toArray ∧ Blk W r 130 NodeV.zero.cells.toArray ∧ Blk W q 130 (decN x).cells.toArray) ⟨?_, ?_, ?_, ?_, ?_⟩ (fun w4 h4 => ?_)
      · exact (HF.out.1.far (p := ⟨q, 10, none⟩) (fun e => hqf e.symm) _).far (p := ⟨q, 11, none⟩) (fun e => hqf e.symm) _
      · exact (HF.out.2.1.setCell hwq _).setCell hwq _
      · exact (HF.out.2.2.1.far (p := ⟨q, 10, none⟩) (fun e => hqb e.symm) _).far (p := ⟨q, 11, none⟩) (fun e => hqb e.symm) _
      · exact (HF.out.2.2.2.1.far (p := ⟨q, 10, none⟩) (fun e => hqr e.symm) _).far (p := ⟨q, 11, none⟩) (fun e => hqr e.symm) _
      · have h1 := HF.out.2.2.2.2.set_ 10 (u16v M)
        rw [cells_set_single (n := ⟨K, L, G, S, decDir x 6, 0, 0⟩) HD6.out] at h1
        have h2 := h1.set_ 11 (u16v D)
        rw [cells_set_double (n := ⟨K, L, G, S, decDir x 6, M, 0⟩) HD6.out] at h2
        rw [← hn]
        exact h2
      clear HF c10 c11 f10 f11 ql hn
      have HF := hide h4
      have HN6 := hide (decN_dir x)
      clear h4
      have c32 := (HF.out.1.cell 32).trans (fcells_at HX.out 24)
      have fl := HF.out.1.lt
      go_wp2_with fail
      go_loopg [39] 8 (fun gh x39 wr2 => ∃ j : Nat, gh = 8 - j ∧ j ≤ 8 ∧ wr2 = w4 ∧ x39 = .int .i64 (j : Int) ∧ Hid (∀ k, k < j → x.getD (24 + k) 0 = 0))
      case atStart => exact ⟨0, rfl, Nat.zero_le _, rfl, rfl, hide (fun k hk => by omega)⟩
      case round =>
        obtain ⟨j, hg, hj8, rfl, rfl, HA⟩ := hrel
        have HGJ := hide hg
        clear hg
        rcases Nat.lt_or_ge j 8 with hj | hj
        · have hjz : (j : Int) < 8 := by omega
          have cb := (HF.out.2.2.1.cell (24 + j)).trans (show (bvs x).toArray[24 + j]? = some (.int .u8 ((x.getD (24 + j) 0).toNat : Int)) by
            rw [List.getElem?_toArray, bvs_get, List.getD_eq_getElem?_getD, List.getElem?_eq_getElem (by rw [HX.out]; omega)]; rfl)
          have bl := HF.out.2.2.1.lt
          by_cases hz : x.getD (24 + j) 0 = 0
          · have HZ := hide hz
            have ht : (((x.getD (24 + j) 0).toNat : Int) == 0) = true := by rw [hz]; rfl
            have ht2 : (((x.getD (24 + j) 0).toNat : Int) != 0) = false := by rw [hz]; rfl
            generalize (x.getD (24 + j) 0).toNat = v at cb ht ht2
            clear hz
            go_wp2
            go_roundg (8 - (j + 1))
            case rel => exact ⟨j + 1, rfl, by omega, rfl, by go_num, hide (fun k hk => by
              rcases Nat.lt_or_ge k j with h | h
              · exact HA.out k h
              · rw [show k = j from by omega]; exact HZ.out)⟩
            case measure => have := HGJ.out; omega
          · have hv : (x.getD (24 + j) 0).toNat ≠ 0 := fun e => hz (UInt8.toNat_inj.1 (by simpa using e))
            have hno : isN x = false := by
              unfold isN
              have : (x.drop 24).all (· == 0) = false := by
                rw [List.all_eq_false]
                refine ⟨x.getD (24 + j) 0, ?_, by simpa using hz⟩
                rw [List.getD_eq_getElem?_getD, List.getElem?_eq_getElem (by rw [HX.out]; omega)]
                simp only [Option.getD_some]
                refine List.mem_iff_getElem.2 ⟨j, by rw [List.length_drop, HX.out]; omega, by rw [List.getElem_drop]⟩
              rw [this]; rfl
            have HRR := hide (show r1 = NodeV.zero.val ∧ r2 = 28 by
              obtain ⟨h1, h2⟩ := HR.out
              rw [hno] at h1 h2
              exact ⟨h1.symm, h2.symm⟩)
            generalize (x.getD (24 + j) 0).toNat = v at cb hv
            have ht : ((v : Int) == 0) = false := by simp; omega
            have ht2 : ((v : Int) != 0) = true := by simp; omega
            clear hz hv hno
            go_wp2_with (first | ((with_reducible refine at_build 130 #[] ?_); refine wpList_zero_as rfl 130 rfl _ (build_node _) ?_) | ((with_reducible refine at_store 130 (.tmp 2) (.tmp 45) ?_); refine wpList_store_blk rfl 130 (.tmp 2) (.tmp 45) rfl r _ _ _ (by rfl) (by rfl) HF.out.2.2.2.1 (size_nodeOf (n := NodeV.zero) rfl) rfl (NodeV.cells_one NodeV.zero) (fun hB3 => ?_)) | ((with_reducible refine at_end ?_); refine bodyPost_ret (v := .tuple #[NodeV.zero.val, .int .i64 28]) (results_run2 rfl (ResV.row rfl hB3 Tryz.underlying130 rfl (size_nodeOf (n := NodeV.zero) rfl)) rfl) rfl ⟨by rw [HRR.out.1, HRR.out.2], below_setRow HF.out.2.1 hwr _⟩) | fail)
        · have hj8' : j = 8 := by omega
          have htail : (x.drop 24).all (· == 0) = true := by
            rw [List.all_eq_true]
            intro y hy
            obtain ⟨k, hk, rfl⟩ := List.mem_iff_getElem.1 hy
            rw [List.length_drop, HX.out] at hk
            have := HA.out k (by omega)
            rw [List.getD_eq_getElem?_getD, List.getElem?_eq_getElem (by rw [HX.out]; omega)] at this
            simp only [Option.getD_some] at this
            rw [List.getElem_drop, this]; rfl
          have hisN : isN x = checkN (decN x) := by unfold isN; rw [htail, Bool.true_and]
          have hce : checkE (decN x) = if isN x then 0 else 28 := by rw [hisN]; rfl
          have hd8 : decide ((j : Int) < 8) = false := by simp; omega
          cases hch : isN x with
          | true =>
            have HRR := hide (show r1 = (decN x).val ∧ r2 = 0 by
              obtain ⟨h1, h2⟩ := HR.out
              rw [hch] at h1 h2
              exact ⟨h1.symm, h2.symm⟩)
            have hck := fun W => check_ok W HN6.out
            rw [hce, hch] at hck
            have HCK := hide hck
            clear hj8' htail hisN hce hch hck
            go_wp2_with (first | ((with_reducible refine at_load 130 (.tmp 5) ?_); refine wpList_load_blk rfl 130 (.tmp 5) rfl q _ _ _ (by rfl) HF.out.2.2.2.2 Tryz.underlying130 rfl (size_nodeOf HN6.out) ?_) | fail)
            refine (HCK.out _).mono ?_
            rintro e w6 ⟨rfl, hb6⟩
            have HF6 := hide (And.intro (HF.out.2.1.trans (hb6.mono HF.out.2.1.size)) (And.intro (HF.out.2.2.2.1.below hb6 HF.out.2.2.2.1.lt) (HF.out.2.2.2.2.below hb6 HF.out.2.2.2.2.lt)))
            clear hb6
            go_wp2_with (first | ((with_reducible refine at_load 130 (.tmp 5) ?_); refine wpList_load_blk rfl 130 (.tmp 5) rfl q _ _ _ (by rfl) HF6.out.2.2 Tryz.underlying130 rfl (size_nodeOf HN6.out) ?_) | ((with_reducible refine at_store 130 (.tmp 2) (.tmp 53) ?_); refine wpList_store_blk rfl 130 (.tmp 2) (.tmp 53) rfl r _ _ _ (by rfl) (by rfl) HF6.out.2.1 (size_nodeOf HN6.out) (by rw [List.size_toArray, List.size_toArray, NodeV.cells_length HN6.out]; rfl) (NodeV.cells_one _) (fun hB3 => ?_)) | ((with_reducible refine at_end ?_); refine bodyPost_ret (v := .tuple #[(decN x).val, .int .i64 0]) (results_run2 rfl (ResV.row rfl hB3 Tryz.underlying130 rfl (size_nodeOf HN6.out)) rfl) rfl ⟨by rw [HRR.out.1, HRR.out.2], below_setRow HF6.out.1 hwr _⟩) | fail)
          | false =>
            have HRR := hide (show r1 = NodeV.zero.val ∧ r2 = 28 by
              obtain ⟨h1, h2⟩ := HR.out
              rw [hch] at h1 h2
              exact ⟨h1.symm, h2.symm⟩)
            have hck := fun W => check_ok W HN6.out
            rw [hce, hch] at hck
            have HCK := hide hck
            clear hj8' htail hisN hce hch hck
            go_wp2_with (first | ((with_reducible refine at_load 130 (.tmp 5) ?_); refine wpList_load_blk rfl 130 (.tmp 5) rfl q _ _ _ (by rfl) HF.out.2.2.2.2 Tryz.underlying130 rfl (size_nodeOf HN6.out) ?_) | fail)
            refine (HCK.out _).mono ?_
            rintro e w6 ⟨rfl, hb6⟩
            have HF6 := hide (And.intro (HF.out.2.1.trans (hb6.mono HF.out.2.1.size)) (And.intro (HF.out.2.2.2.1.below hb6 HF.out.2.2.2.1.lt) (HF.out.2.2.2.2.below hb6 HF.out.2.2.2.2.lt)))
            clear hb6
            go_wp2_with (first | ((with_reducible refine at_build 130 #[] ?_); refine wpList_zero_as rfl 130 rfl _ (build_node _) ?_) | ((with_reducible refine at_store 130 (.tmp 2) (.tmp 51) ?_); refine wpList_store_blk rfl 130 (.tmp 2) (.tmp 51) rfl r _ _ _ (by rfl) (by rfl) HF6.out.2.1 (size_nodeOf (n := NodeV.zero) rfl) rfl (NodeV.cells_one NodeV.zero) (fun hB3 => ?_)) | ((with_reducible refine at_end ?_); refine bodyPost_ret (v := .tuple #[NodeV.zero.val, .int .i64 28]) (results_run2 rfl (ResV.row rfl hB3 Tryz.underlying130 rfl (size_nodeOf (n := NodeV.zero) rfl)) rfl) rfl ⟨by rw [HRR.out.1, HRR.out.2], below_setRow HF6.out.1 hwr _⟩) | fail)
end
end Go.Proofs.YthmkgohfeahdhaaGreat
namespace Go.Proofs.YthmkgohfeahdhaaGreat
open Go.RowKit
set_option linter.unusedSimpArgs false
set_option linter.unusedVariables false

section
variable {P : Program} {ops : Array Oper} {rest : List Oper} {o : Oper} {a : Act} {w : World} {Q : Exit → Act → World → Prop}
theorem wp_copy_as {K : Act → World → Prop} (d s : Operand) (t t' : TypeId) (ho : o.op = .call { callee := .builtin .copy, args := #[d, s], argTypes := #[t, t'] }) (v u : Value) (hd : a.eval d = v) (hs : a.eval s = u) {v' : Value} {w' : World}
    (hr : (Builtin.copy_ #[t, t'] o.type #[v, u]).run P w = .ok v' w') (h : K (a.put o.dst v') w') : o.wp P a w K Q := by
  unfold Oper.wp execOp
  simp only [ho, resolve, invoke, builtin, Sem.run_bind, Sem.run_pure, Result.andThen_ok, List.map_toArray, List.map_cons, List.map_nil, hd, hs, hr]
  exact h
theorem at_sap (ty : TypeId) (x : Operand) {d : Option Tmp} {k : TypeId} {p : String} {f : Array Edge} {g : Option (Nat × Bool)} (h : wpList P ops Q (⟨d, .sliceToArrayPointer ty x, k, p, f, g⟩ :: rest) a w) : wpList P ops Q (⟨d, .sliceToArrayPointer ty x, k, p, f, g⟩ :: rest) a w := h
theorem exec_sap (ty : TypeId) (x : Operand) (ho : o.op = .sliceToArrayPointer ty x) (n : Nat) (p : Addr) (l c : Nat) (e : TypeId) (hx : a.eval x = .slice (some p) l c) (hu : P.underlying ty = some (.array n e)) (hn : n ≤ l) :
    (execOp a.eval o).run P w = .ok (.value (.pointer (some p))) w := by
  unfold execOp
  simp [ho, hx, Instr.arrayAt, run_underlying hu, Result.andThen, show ¬ l < n by omega]
end

/-- where a group lies -/
structure GeoN where
  base : Nat
  bitmap : Nat
  table : Nat
  data : Nat
  blocks : Nat
  nodes : Nat
def GeoN.cells (g : GeoN) : List Value := [.int .i64 (g.base : Int), .int .i64 (g.bitmap : Int), .int .i64 (g.table : Int), .int .i64 (g.data : Int), .int .i64 (g.blocks : Int), .int .i64 (g.nodes : Int)]
def GeoN.val (g : GeoN) : Value := .agg g.cells.toArray
structure GeoN.Ok (g : GeoN) (total : Nat) : Prop where
  base : 32 ≤ g.base
  data : g.data = g.base + g.bitmap + g.table
  fits : g.data + g.blocks ≤ total
  map : g.blocks ≤ g.bitmap * 512
  map1 : g.bitmap * 512 < g.blocks + 512
  tab : g.nodes ≤ g.table * 2
  small : total ≤ 65536
/-- the bytes of a node of a number -/
def Sto.nodeX (s : Sto) (g : GeoN) (num : Nat) : List UInt8 := ((s.at_ (g.base + g.bitmap + (num - 1) / 2)).drop ((num - 1) % 2 * 32)).take 32
theorem geo_one (g : GeoN) : g.cells.toArray.all (·.oneCell') = true := by simp [GeoN.cells, Value.oneCell']
theorem size_geo (g : GeoN) : (Tryz.prog.info? 169).map (·.size) = some g.cells.toArray.size := by
  have : (Tryz.prog.info? 169).map (·.size) = some 6 := by kernel_rfl
  rw [this]; rfl

section
variable {w w' : World} {i : Ids} {s : Sto}
set_option maxRecDepth 100000 in
theorem place_node (w : World) {g : GeoN} {total num : Nat} (hg : g.Ok total) (h1 : 1 ≤ num) (h2 : num ≤ g.nodes) :
    Calls Tryz.prog 131 #[g.val, .int .i64 (num : Int)] w fun e w' => e = .returned (.tuple #[.int .i64 ((g.base + g.bitmap + (num - 1) / 2 : Nat) : Int), .int .i64 (((num - 1) % 2 * 32 : Nat) : Int), .bool true]) ∧ Below w.heap.size w w' := by
  have b1 : g.base + g.bitmap + g.table + g.blocks ≤ 65536 := by have := hg.fits; have := hg.data; have := hg.small; omega
  have b2 : g.nodes ≤ 131072 := by have := hg.tab; omega
  obtain ⟨gb, gm, gt, gd, gk, gn⟩ := g
  simp only at h2 b1 b2 ⊢
  obtain ⟨k, rfl⟩ : ∃ k, num = k + 1 := ⟨num - 1, by omega⟩
  rw [show k + 1 - 1 = k from rfl]
  have k0 : decide (((k + 1 : Nat) : Int) < 1) = false := by simp; omega
  have k1 : decide ((gn : Int) < ((k + 1 : Nat) : Int)) = false := by simp; omega
  have e1 : IntKind.i64.wrap ((gb : Int) + (gm : Int)) = ((gb + gm : Nat) : Int) := by rw [IntWalk.i64_in _ (by omega)]; omega
  simp only [GeoN.val, GeoN.cells]
  go_enter Tryz.func131, Tryz.ntmps131
  go_wp2
  go_returns
  refine ⟨?_, (Below.refl _ _).alloc (Nat.le_refl _) _⟩
  simp


/-- what reading a node comes to -/
def Sto.nodeV (s : Sto) (g : GeoN) (num : Nat) : NodeV := if isN (s.nodeX g num) then decN (s.nodeX g num) else NodeV.zero
def Sto.nodeE (s : Sto) (g : GeoN) (num : Nat) : Int := if isN (s.nodeX g num) then 0 else 28
theorem nodeV_dir (s : Sto) (g : GeoN) (num : Nat) : (s.nodeV g num).dir.length = 6 := by
  unfold Sto.nodeV
  split
  · exact decN_dir _
  · rfl
set_option maxRecDepth 100000 in
set_option maxHeartbeats 1600000 in
theorem read_node {g : GeoN} {num : Nat} (h : TxAt w i s) (hg : g.Ok s.D.length) (h1 : 1 ≤ num) (h2 : num ≤ g.nodes) :
    Calls Tryz.prog 122 #[.pointer (some ⟨i.tt, 0, none⟩), g.val, .int .i64 (num : Int)] w fun e w' => e = .returned (.tuple #[(s.nodeV g num).val, .int .i64 (s.nodeE g num)]) ∧ TxAt w' i s ∧ Tch w.heap.size (· = i.dd) w w' := by
  have hp := fun W => place_node W hg h1 h2
  have hnl : g.base + g.bitmap + (num - 1) / 2 < s.D.length := by have := hg.fits; have := hg.data; have := hg.tab; omega
  have hal : (num - 1) % 2 * 32 = 0 ∨ (num - 1) % 2 * 32 = 32 := by omega
  have hx64 := Sto.at_length h.ok (g.base + g.bitmap + (num - 1) / 2)
  have hx32 : (s.nodeX g num).length = 32 := by
    unfold Sto.nodeX
    rw [List.length_take, List.length_drop, hx64]; omega
  obtain ⟨v, hv⟩ : ∃ v, s.nodeV g num = v := ⟨_, rfl⟩
  obtain ⟨r, hr⟩ : ∃ r, s.nodeE g num = r := ⟨_, rfl⟩
  have hvd : v.dir.length = 6 := by rw [← hv]; exact nodeV_dir _ _ _
  rw [hv, hr]
  have hdec := fun W => decode_ok W hx32
  have hdv : (if isN (s.nodeX g num) then (decN (s.nodeX g num)).val else NodeV.zero.val) = v.val := by
    rw [← hv]; unfold Sto.nodeV; split <;> rfl
  have hdr : (if isN (s.nodeX g num) = true then (0 : Int) else 28) = r := hr
  rw [hdv, hdr] at hdec
  have hget := fun W (hW : TxAt W i s) => get_ok hW hnl
  have hxe : s.nodeX g num = ((s.at_ (g.base + g.bitmap + (num - 1) / 2)).drop ((num - 1) % 2 * 32)).take 32 := rfl
  generalize s.nodeX g num = x at hx32 hdec hxe
  generalize s.at_ (g.base + g.bitmap + (num - 1) / 2) = bl at hx64 hget hxe
  generalize g.base + g.bitmap + (num - 1) / 2 = n at hp hnl hget
  generalize (num - 1) % 2 * 32 = a at hp hal hxe
  have H := hide h
  have HP := hide hp
  have HD := hide hdec
  have HGT := hide hget
  have HXE := hide (And.intro hxe (And.intro hx64 hx32))
  have HVD := hide hvd
  clear h hp hdec hget hxe hx64 hx32 hvd hv hr hdv hdr hg
  go_enter Tryz.func122, Tryz.ntmps122
  go_upto_region 1 with (first | ((with_reducible refine at_alloc 130 ?_); refine wpList_alloc_as rfl 130 rfl _ (zero_node _) ?_) | fail)
  try simp only [World.size_alloc]
  refine at_world (fun W => ∃ b q, b = w.heap.size ∧ q = w.heap.size + 1 ∧ W.heap.size = w.heap.size + 2 ∧ Below w.heap.size w W ∧ Blk W b 169 g.cells.toArray ∧ Blk W q 130 NodeV.zero.cells.toArray) ⟨w.heap.size, w.heap.size + 1, rfl, rfl, by simp, alloc2 w _ _ _ _⟩ (fun w1 hw1 => ?_)
  obtain ⟨b, q, hb, hq, hs1, hb1, hB, hQ⟩ := hw1
  rw [← hq, ← hb]
  have hwq : w.heap.size ≤ q := by omega
  have hdq : ¬ q = i.dd := by have := H.out.log.disk.dlt; omega
  have HBQ := hide (And.intro hb (And.intro hq hs1))
  have HB1 := hide (And.intro hb1 (And.intro hB hQ))
  clear hb hq hs1 hb1 hQ hB
  go_wp2_with (first | ((with_reducible refine at_load 169 (.tmp 4) ?_); refine wpList_load_blk rfl 169 (.tmp 4) rfl b _ _ _ (by rfl) HB1.out.2.1 Tryz.underlying169 rfl (size_geo g) ?_) | fail)
  refine (HP.out _).mono ?_
  rintro e w2 ⟨rfl, hb2⟩
  have hx2 := (H.out.below HB1.out.1).below hb2
  have HW2 := hide (And.intro (HB1.out.1.trans (hb2.mono HB1.out.1.size)) (And.intro hx2 (HB1.out.2.2.below hb2 HB1.out.2.2.lt)))
  clear hb2 hx2
  go_wp2_with fail
  refine (HGT.out _ HW2.out.2.1).mono ?_
  rintro e w3 ⟨rfl, hx3, ht3⟩
  have HW3 := hide (And.intro ((Tch.of_below (S := (· = i.dd)) HW2.out.1).trans (ht3.mono HW2.out.1.size fun _ _ h => h)) (And.intro hx3 (HW2.out.2.2.tch ht3 HW2.out.2.2.lt hdq)))
  clear hx3 ht3
  go_upto_region 5 with (first | ((with_reducible refine at_alloc 106 ?_); refine wpList_alloc_as rfl 106 rfl _ (zero_block _) ?_) | ((with_reducible refine at_store 106 (.tmp 11) (.tmp 27) ?_); refine wpList_store_blk rfl 106 (.tmp 11) (.tmp 27) rfl w3.heap.size 106 _ _ (by rfl) (by rfl) (Blk.new _ _ _) (size_blockOf HXE.out.2.1) ((bvs_size zeroB_length).trans (bvs_size HXE.out.2.1).symm) (bvs_oneCell _) (fun _ => ?_)) | fail)
  refine at_world (fun W => ∃ p, p = w3.heap.size ∧ Below w3.heap.size w3 W ∧ Blk W p 106 (bvs bl).toArray) ⟨_, rfl, below_setRow ((Below.refl _ _).alloc (Nat.le_refl _) _) (Nat.le_refl _) _, (Blk.new _ _ _).setRow_same _⟩ (fun w4 hw4 => ?_)
  obtain ⟨p, hp, hb4, hP⟩ := hw4
  rw [← hp]
  have HW4 := hide (And.intro (HW3.out.2.1.below hb4) (And.intro (HW3.out.1.trans (Tch.of_below (hb4.mono HW3.out.1.size))) (HW3.out.2.2.below hb4 HW3.out.2.2.lt)))
  have HR := hide (hP.range (o := a) (xs := bvs x) fun j u hj => by
    have hj32 : j < 32 := by have := (List.getElem?_eq_some_iff.1 hj).1; rw [bvs_length, HXE.out.2.2] at this; exact this
    rw [bvs_get, HXE.out.1, List.getElem?_take_of_lt hj32, List.getElem?_drop] at hj
    rw [List.getElem?_toArray, bvs_get]
    exact hj)
  clear hp hb4
  have pl := hP.lt
  have HA := hide hal
  clear hal
  rcases HA.out with rfl | rfl
  · go_wp2_with (first | ((with_reducible refine at_load 255 (.tmp 37) ?_); refine wpList_load_mid rfl 255 (.tmp 37) rfl p 0 (by rfl) (bvs x) _ HR.out Tryz.underlying255 rfl (size_arrL HXE.out.2.2) ?_) | ((with_reducible refine at_sap 255 (.tmp 36) ?_); refine wpList_run rfl _ (exec_sap 255 (.tmp 36) rfl 32 ⟨p, 0, none⟩ _ _ _ rfl Tryz.underlying255 (by omega)) ?_) | fail)
    refine (HD.out _).mono ?_
    rintro e w5 ⟨rfl, hb5⟩
    have HW5 := hide (And.intro (HW4.out.1.below hb5) (And.intro (HW4.out.2.1.trans (Tch.of_below (hb5.mono HW4.out.2.1.size))) (HW4.out.2.2.below hb5 HW4.out.2.2.lt)))
    clear hb5 pl
    go_wp2_with (first | ((with_reducible refine at_store 130 (.tmp 6) (.tmp 40) ?_); refine wpList_store_blk rfl 130 (.tmp 6) (.tmp 40) rfl q _ _ _ (by rfl) (by rfl) HW5.out.2.2 (size_nodeOf HVD.out) (by rw [List.size_toArray, List.size_toArray, NodeV.cells_length HVD.out]; rfl) (NodeV.cells_one _) (fun hB3 => ?_)) | ((with_reducible refine at_end ?_); refine bodyPost_ret (v := .tuple #[v.val, .int .i64 r]) (results_run2 rfl (ResV.row rfl hB3 Tryz.underlying130 rfl (size_nodeOf HVD.out)) rfl) rfl ⟨rfl, ?_, ?_⟩) | fail)
    · exact H.out.setRow_new hwq HW5.out.1 _
    · exact HW5.out.2.1.trans (Tch.setRow fun hp => absurd hp (by omega))
  · go_wp2_with (first | ((with_reducible refine at_load 255 (.tmp 37) ?_); refine wpList_load_mid rfl 255 (.tmp 37) rfl p 32 (by rfl) (bvs x) _ HR.out Tryz.underlying255 rfl (size_arrL HXE.out.2.2) ?_) | ((with_reducible refine at_sap 255 (.tmp 36) ?_); refine wpList_run rfl _ (exec_sap 255 (.tmp 36) rfl 32 ⟨p, 32, none⟩ _ _ _ rfl Tryz.underlying255 (by omega)) ?_) | fail)
    refine (HD.out _).mono ?_
    rintro e w5 ⟨rfl, hb5⟩
    have HW5 := hide (And.intro (HW4.out.1.below hb5) (And.intro (HW4.out.2.1.trans (Tch.of_below (hb5.mono HW4.out.2.1.size))) (HW4.out.2.2.below hb5 HW4.out.2.2.lt)))
    clear hb5 pl
    go_wp2_with (first | ((with_reducible refine at_store 130 (.tmp 6) (.tmp 40) ?_); refine wpList_store_blk rfl 130 (.tmp 6) (.tmp 40) rfl q _ _ _ (by rfl) (by rfl) HW5.out.2.2 (size_nodeOf HVD.out) (by rw [List.size_toArray, List.size_toArray, NodeV.cells_length HVD.out]; rfl) (NodeV.cells_one _) (fun hB3 => ?_)) | ((with_reducible refine at_end ?_); refine bodyPost_ret (v := .tuple #[v.val, .int .i64 r]) (results_run2 rfl (ResV.row rfl hB3 Tryz.underlying130 rfl (size_nodeOf HVD.out)) rfl) rfl ⟨rfl, ?_, ?_⟩) | fail)
    · exact H.out.setRow_new hwq HW5.out.1 _
    · exact HW5.out.2.1.trans (Tch.setRow fun hp => absurd hp (by omega))


/-- what writing a node comes to -/
def Sto.setNode (s : Sto) (g : GeoN) (num : Nat) (n : NodeV) : Sto := s.put (g.base + g.bitmap + (num - 1) / 2) (wrB (s.at_ (g.base + g.bitmap + (num - 1) / 2)) ((num - 1) % 2 * 32) (encN n))
set_option maxRecDepth 100000 in
set_option maxHeartbeats 1600000 in
theorem write_node {g : GeoN} {num : Nat} {n : NodeV} (h : TxAt w i s) (hg : g.Ok s.D.length) (h1 : 1 ≤ num) (h2 : num ≤ g.nodes) (hnd : n.dir.length = 6) (hck : checkN n = true) (hc : s.Can (g.base + g.bitmap + (num - 1) / 2)) :
    Calls Tryz.prog 80 #[.pointer (some ⟨i.tt, 0, none⟩), g.val, .int .i64 (num : Int), n.val] w fun e w' => e = .returned (.int .i64 0) ∧ TxAt w' i (s.setNode g num n) ∧ Tch w.heap.size i.own w w' := by
  have hp := fun W => place_node W hg h1 h2
  have hal : (num - 1) % 2 * 32 = 0 ∨ (num - 1) % 2 * 32 = 32 := by omega
  have hx64 := Sto.at_length h.ok (g.base + g.bitmap + (num - 1) / 2)
  have hget := fun W (hW : TxAt W i s) => get_ok hW hc.lt
  have hce : checkE n = 0 := by unfold checkE; rw [hck]; rfl
  have hchk := fun W => check_ok W hnd
  rw [hce] at hchk
  have hel := encN_length hnd
  obtain ⟨s1, hs1⟩ : ∃ s1, s.setNode g num n = s1 := ⟨_, rfl⟩
  rw [hs1]
  unfold Sto.setNode at hs1
  generalize s.at_ (g.base + g.bitmap + (num - 1) / 2) = bl at hx64 hget hs1
  generalize g.base + g.bitmap + (num - 1) / 2 = k at hp hc hget hs1
  generalize (num - 1) % 2 * 32 = a at hp hal hs1
  have H := hide h
  have HP := hide hp
  have HGT := hide hget
  have HX := hide (And.intro hx64 (And.intro hel hs1))
  have HCK := hide hchk
  have HC := hide hc
  have HND := hide hnd
  have HA := hide hal
  clear h hp hget hx64 hel hs1 hchk hc hnd hg hce hck hal
  go_enter Tryz.func80, Tryz.ntmps80
  go_upto_region 1 with (fail)
  refine at_world (fun W => ∃ b q, b = w.heap.size ∧ q = w.heap.size + 1 ∧ W.heap.size = w.heap.size + 2 ∧ Below w.heap.size w W ∧ Blk W b 169 g.cells.toArray ∧ Blk W q 130 n.cells.toArray) ⟨w.heap.size, w.heap.size + 1, rfl, rfl, by simp, alloc2 w _ _ _ _⟩ (fun w1 hw1 => ?_)
  obtain ⟨b, q, hb, hq, hs1, hb1, hB, hQ⟩ := hw1
  rw [← hq, ← hb]
  have hwq : w.heap.size ≤ q := by omega
  have hdq : ¬ q = i.dd := by have := H.out.log.disk.dlt; omega
  have HB1 := hide (And.intro hb1 (And.intro hB hQ))
  clear hb hq hs1 hb1 hQ hB
  go_wp2_with (first | ((with_reducible refine at_load 169 (.tmp 5) ?_); refine wpList_load_blk rfl 169 (.tmp 5) rfl b _ _ _ (by rfl) HB1.out.2.1 Tryz.underlying169 rfl (size_geo g) ?_) | fail)
  refine (HP.out _).mono ?_
  rintro e w2 ⟨rfl, hb2⟩
  have HW2 := hide (And.intro (HB1.out.1.trans (hb2.mono HB1.out.1.size)) (HB1.out.2.2.below hb2 HB1.out.2.2.lt))
  clear hb2
  go_wp2_with (first | ((with_reducible refine at_load 130 (.tmp 7) ?_); refine wpList_load_blk rfl 130 (.tmp 7) rfl q _ _ _ (by rfl) HW2.out.2 Tryz.underlying130 rfl (size_nodeOf HND.out) ?_) | fail)
  refine (HCK.out _).mono ?_
  rintro e w3 ⟨rfl, hb3⟩
  have HW3 := hide (And.intro (HW2.out.1.trans (hb3.mono HW2.out.1.size)) (HW2.out.2.below hb3 HW2.out.2.lt))
  clear hb3
  go_wp2_with fail
  refine (HGT.out _ (H.out.below HW3.out.1)).mono ?_
  rintro e w4 ⟨rfl, hx4, ht4⟩
  have HW4 := hide (And.intro hx4 (And.intro ((Tch.of_below (S := i.own) HW3.out.1).trans (ht4.own_dd.mono HW3.out.1.size fun _ _ h => h)) (HW3.out.2.tch ht4 HW3.out.2.lt hdq)))
  clear hx4 ht4
  go_upto_region 8 with (first | ((with_reducible refine at_alloc 106 ?_); refine wpList_alloc_as rfl 106 rfl _ (zero_block _) ?_) | ((with_reducible refine at_store 106 (.tmp 13) (.tmp 34) ?_); refine wpList_store_blk rfl 106 (.tmp 13) (.tmp 34) rfl w4.heap.size 106 _ _ (by rfl) (by rfl) (Blk.new _ _ _) (size_blockOf HX.out.1) ((bvs_size zeroB_length).trans (bvs_size HX.out.1).symm) (bvs_oneCell _) (fun _ => ?_)) | fail)
  refine at_world (fun W => ∃ p, p = w4.heap.size ∧ Below w4.heap.size w4 W ∧ Blk W p 106 (bvs bl).toArray) ⟨_, rfl, below_setRow ((Below.refl _ _).alloc (Nat.le_refl _) _) (Nat.le_refl _) _, (Blk.new _ _ _).setRow_same _⟩ (fun w5 hw5 => ?_)
  obtain ⟨p, hp, hb5, hP⟩ := hw5
  rw [← hp]
  have hwp : w4.heap.size ≤ p := Nat.le_of_eq hp.symm
  have HW5 := hide (And.intro hb5 (And.intro hP (HW4.out.2.2.below hb5 HW4.out.2.2.lt)))
  clear hp hb5 hP
  go_wp2_with (first | ((with_reducible refine at_load 130 (.tmp 7) ?_); refine wpList_load_blk rfl 130 (.tmp 7) rfl q _ _ _ (by rfl) HW5.out.2.2 Tryz.underlying130 rfl (size_nodeOf HND.out) ?_) | fail)
  refine (encode_ok _ HND.out).mono ?_
  rintro e w6 ⟨rfl, hb6⟩
  go_upto_region 11 with (first | ((with_reducible refine at_alloc 255 ?_); refine wpList_alloc_as rfl 255 rfl _ (zero_arr _) ?_) | ((with_reducible refine at_store 255 (.tmp 15) (.tmp 40) ?_); refine wpList_store_blk rfl 255 (.tmp 15) (.tmp 40) rfl w6.heap.size _ _ _ (by rfl) (by rfl) (Blk.new _ _ _) (size_arrOf HX.out.2.1) (by simp [bvs, z32_length, HX.out.2.1]) (bvs_oneCell _) (fun _ => ?_)) | fail)
  refine at_world (fun W => ∃ u, u = w6.heap.size ∧ Below w4.heap.size w4 W ∧ Blk W p 106 (bvs bl).toArray ∧ Blk W u 255 (bvs (encN n)).toArray) ⟨_, rfl, ?_, ?_, (Blk.new _ _ _).setRow_same _⟩ (fun w7 hw7 => ?_)
  · exact HW5.out.1.trans ((hb6.mono HW5.out.1.size).trans ((below_setRow ((Below.refl _ w6).alloc (Nat.le_refl _) _) (Nat.le_refl _) _).mono (Nat.le_trans HW5.out.1.size hb6.size)))
  · exact (HW5.out.2.1.below hb6 HW5.out.2.1.lt |>.alloc _).setRow_far (by have := HW5.out.2.1.lt; have := hb6.size; omega) _
  obtain ⟨u, hu, hb7, hP7, hU7⟩ := hw7
  rw [← hu]
  have HW7 := hide (And.intro hb7 (And.intro hP7 hU7))
  clear hu hb7 hP7 hU7 hb6
  have pl := HW7.out.2.1.lt
  have ul := HW7.out.2.2.lt
  rcases HA.out with rfl | rfl
  · refine wp_region_text [0, 0, 0, 2] (· = w7.drew) (by kernel_rfl) (by kernel_rfl) rfl ?_
    iterate 3 (refine wpOrd_q (v := ?_) (by rfl) (fun W hW => ?_) ?_; rotate_left; (focus ((cases hW; go_simp); try with_reducible rfl)); try simp only [Act.put, List.setIfInBounds_toArray, List.set_cons_zero, List.set_cons_succ])
    have hrow := run_copy_row (P := Tryz.prog) w7.drew 24 24 3 5 p 0 64 64 ⟨u, 0, none⟩ 32 32 (bvs bl).toArray 106 (bvs (encN n)) Tryz.underlying24 (by kernel_rfl) HW7.out.2.1.drew (by rw [bvs_length, HX.out.2.1]; rfl) (fun j v hj => by
      have := (HW7.out.2.2.drew.range (o := 0) (xs := bvs (encN n)) fun j v hj => by rw [Nat.zero_add, List.getElem?_toArray]; exact hj) j v hj
      rw [Addr.add_mid, Nat.zero_add]
      rw [Nat.zero_add] at this
      exact this) (by rw [bvs_length, HX.out.2.1, bvs_size HX.out.1]; omega) (bvs_one _)
    have hcs : (bvs bl).take 0 ++ bvs (encN n) ++ (bvs bl).drop (0 + (bvs (encN n)).length) = bvs (wrB bl 0 (encN n)) := by
      rw [bvs_take, bvs_drop, bvs_length, ← bvs_append, ← bvs_append]
      rfl
    rw [show (bvs bl).toArray.toList = bvs bl from rfl, hcs] at hrow
    have HROW := hide hrow
    clear hrow hcs
    refine wpOrd_b (by rfl) (fun K hK => ?_)
    refine wp_copy_as (.tmp 42) (.tmp 43) 24 24 rfl _ _ (by rfl) (by rfl) HROW.out ?_
    refine hK (fun _ => True) _ _ trivial (wpOrd_nil ?_)
    clear hK K
    have hwl : (wrB bl 0 (encN n)).length = 64 := by rw [wrB_length (by rw [HX.out.1, HX.out.2.1]; omega)]; exact HX.out.1
    refine at_world (fun W => TxAt W i s ∧ Tch w.heap.size i.own w W ∧ Blk W p 106 (bvs (wrB bl 0 (encN n))).toArray) ⟨HW4.out.1.setRow_new hwp (HW4.out.1.below HW7.out.1.drew) _, (HW4.out.2.1.trans (Tch.of_below (HW7.out.1.drew.mono HW4.out.2.1.size))).trans (Tch.setRow fun hp => absurd hp (by have := HW4.out.2.1.size; omega)), HW7.out.2.1.drew.setRow_same _⟩ (fun w8 hw8 => ?_)
    have hs1 := HX.out.2.2
    generalize wrB bl 0 (encN n) = bl2 at hw8 hwl hs1
    have HW8 := hide (And.intro hw8 (And.intro hwl hs1))
    clear hw8 hwl hs1 pl ul HROW
    go_wp2_with (first | ((with_reducible refine at_load 106 (.tmp 13) ?_); refine wpList_load_blk rfl 106 (.tmp 13) rfl p 106 _ _ (by rfl) HW8.out.1.2.2 Tryz.underlying106 rfl (size_blockOf HW8.out.2.1) ?_) | fail)
    refine (put_ok HW8.out.1.1 HW8.out.2.1 HC.out.lt HC.out.free HC.out.room).mono ?_
    rintro e w9 ⟨rfl, hx9, ht9⟩
    rw [HW8.out.2.2] at hx9
    have HF := hide (And.intro hx9 (HW8.out.1.2.1.trans ((ht9.sub fun _ h => Ids.own_mm h).mono HW8.out.1.2.1.size fun _ _ h => h)))
    clear hx9 ht9
    go_wp2
    go_returns
    exact ⟨rfl, HF.out.1, HF.out.2⟩
  · refine wp_region_text [0, 0, 0, 2] (· = w7.drew) (by kernel_rfl) (by kernel_rfl) rfl ?_
    iterate 3 (refine wpOrd_q (v := ?_) (by rfl) (fun W hW => ?_) ?_; rotate_left; (focus ((cases hW; go_simp); try with_reducible rfl)); try simp only [Act.put, List.setIfInBounds_toArray, List.set_cons_zero, List.set_cons_succ])
    have hrow := run_copy_row (P := Tryz.prog) w7.drew 24 24 3 5 p 32 32 32 ⟨u, 0, none⟩ 32 32 (bvs bl).toArray 106 (bvs (encN n)) Tryz.underlying24 (by kernel_rfl) HW7.out.2.1.drew (by rw [bvs_length, HX.out.2.1]; rfl) (fun j v hj => by
      have := (HW7.out.2.2.drew.range (o := 0) (xs := bvs (encN n)) fun j v hj => by rw [Nat.zero_add, List.getElem?_toArray]; exact hj) j v hj
      rw [Addr.add_mid, Nat.zero_add]
      rw [Nat.zero_add] at this
      exact this) (by rw [bvs_length, HX.out.2.1, bvs_size HX.out.1]; omega) (bvs_one _)
    have hcs : (bvs bl).take 32 ++ bvs (encN n) ++ (bvs bl).drop (32 + (bvs (encN n)).length) = bvs (wrB bl 32 (encN n)) := by
      rw [bvs_take, bvs_drop, bvs_length, ← bvs_append, ← bvs_append]
      rfl
    rw [show (bvs bl).toArray.toList = bvs bl from rfl, hcs] at hrow
    have HROW := hide hrow
    clear hrow hcs
    refine wpOrd_b (by rfl) (fun K hK => ?_)
    refine wp_copy_as (.tmp 42) (.tmp 43) 24 24 rfl _ _ (by rfl) (by rfl) HROW.out ?_
    refine hK (fun _ => True) _ _ trivial (wpOrd_nil ?_)
    clear hK K
    have hwl : (wrB bl 32 (encN n)).length = 64 := by rw [wrB_length (by rw [HX.out.1, HX.out.2.1]; omega)]; exact HX.out.1
    refine at_world (fun W => TxAt W i s ∧ Tch w.heap.size i.own w W ∧ Blk W p 106 (bvs (wrB bl 32 (encN n))).toArray) ⟨HW4.out.1.setRow_new hwp (HW4.out.1.below HW7.out.1.drew) _, (HW4.out.2.1.trans (Tch.of_below (HW7.out.1.drew.mono HW4.out.2.1.size))).trans (Tch.setRow fun hp => absurd hp (by have := HW4.out.2.1.size; omega)), HW7.out.2.1.drew.setRow_same _⟩ (fun w8 hw8 => ?_)
    have hs1 := HX.out.2.2
    generalize wrB bl 32 (encN n) = bl2 at hw8 hwl hs1
    have HW8 := hide (And.intro hw8 (And.intro hwl hs1))
    clear hw8 hwl hs1 pl ul HROW
    go_wp2_with (first | ((with_reducible refine at_load 106 (.tmp 13) ?_); refine wpList_load_blk rfl 106 (.tmp 13) rfl p 106 _ _ (by rfl) HW8.out.1.2.2 Tryz.underlying106 rfl (size_blockOf HW8.out.2.1) ?_) | fail)
    refine (put_ok HW8.out.1.1 HW8.out.2.1 HC.out.lt HC.out.free HC.out.room).mono ?_
    rintro e w9 ⟨rfl, hx9, ht9⟩
    rw [HW8.out.2.2] at hx9
    have HF := hide (And.intro hx9 (HW8.out.1.2.1.trans ((ht9.sub fun _ h => Ids.own_mm h).mono HW8.out.1.2.1.size fun _ _ h => h)))
    clear hx9 ht9
    go_wp2
    go_returns
    exact ⟨rfl, HF.out.1, HF.out.2⟩


end
end Go.Proofs.YthmkgohfeahdhaaGreat
namespace Go.Proofs.YthmkgohfeahdhaaGreat
open Go.RowKit
set_option linter.unusedSimpArgs false
set_option linter.unusedVariables false

/-- a group of a label, over a transaction -/
abbrev gpcells (tt : Nat) (g : GeoN) (lab : Int) : Array Value := #[.pointer (some ⟨tt, 0, none⟩), .int .i64 (g.base : Int), .int .i64 (g.bitmap : Int), .int .i64 (g.table : Int), .int .i64 (g.data : Int), .int .i64 (g.blocks : Int), .int .i64 (g.nodes : Int), .int .i64 lab]
def GroupAt (w : World) (gg tt : Nat) (g : GeoN) (lab : Int) : Prop := Blk w gg 185 (gpcells tt g lab)
theorem can_of {s : Sto} {n : Nat} (h1 : n < s.D.length) (h2 : 32 ≤ n) (h3 : s.M.length < 30) : s.Can n := ⟨h1, .inr (by omega), .inr h3⟩
theorem setBit_len (s : Sto) (f k : Nat) (on : Bool) : (s.setBit f k on).M.length ≤ s.M.length + 1 := by
  unfold Sto.setBit
  split
  · omega
  · exact Sto.put_len _ _ _
theorem setBit_D (s : Sto) (f k : Nat) (on : Bool) : (s.setBit f k on).D = s.D := by
  unfold Sto.setBit
  split <;> rfl

section
variable {w w' : World} {i : Ids} {s : Sto} {gg : Nat} {g : GeoN} {lab : Int}
theorem GroupAt.not_own (h : TxAt w i s) (hG : GroupAt w gg i.tt g lab) : ¬ i.own gg := h.other hG (by decide) (by decide) (by decide)
theorem GroupAt.tch (h : TxAt w i s) (hG : GroupAt w gg i.tt g lab) (ht : Tch w.heap.size i.own w w') : GroupAt w' gg i.tt g lab := Blk.tch hG ht hG.lt (hG.not_own h)
theorem GroupAt.below {tt : Nat} (hG : GroupAt w gg tt g lab) (hb : Below w.heap.size w w') : GroupAt w' gg tt g lab := Blk.below hG hb hG.lt

set_option maxRecDepth 100000 in
theorem taken_ok {tt : Nat} (hG : GroupAt w gg tt g lab) (hf : g.base ≤ 65536) (hm : g.blocks ≤ 65536) :
    Calls Tryz.prog 100 #[.pointer (some ⟨gg, 0, none⟩)] w fun e w' => ∃ bm, e = .returned (.pointer (some ⟨bm, 0, none⟩)) ∧ w.heap.size ≤ bm ∧ BitsAt w' bm tt g.base g.blocks ∧ Below w.heap.size w w' := by
  have c0 := hG.cell 0
  have c1 := hG.cell 1
  have c5 := hG.cell 5
  have cl := hG.lt
  go_enter Tryz.func100, Tryz.ntmps100
  go_wp2
  refine wp_region_text [0, 0, 0, 0, 0, 0, 0, 0, 0, 0, 0, 0, 0, 0, 1, 0, 0, 0, 0, 0] (Below w.heap.size w) (by kernel_rfl) (by kernel_rfl) (Below.refl _ _).drew ?_
  iterate 14 (refine wpOrd_q (v := ?_) (by rfl) (fun W hW => ?_) ?_; rotate_left; (focus ((obtain ⟨hWc, hWf⟩ := bcell hW; go_simp); try with_reducible rfl)); try simp only [Act.put, List.setIfInBounds_toArray, List.set_cons_zero, List.set_cons_succ])
  refine wpOrd_x (by rfl) (fun K hK => ?_)
  go_simp
  refine (bits_new tt hf hm w.drew).mono ?_
  rintro e w1 ⟨bm, rfl, hbm, hB, hb1⟩
  have hb1 : Below w.heap.size w w1 := (Below.refl _ _).drew.trans hb1
  refine hK _ _ _ (fun _ h => h) hb1 ?_
  clear hK K
  try simp only [Act.put, List.setIfInBounds_toArray, List.set_cons_zero, List.set_cons_succ]
  iterate 5 (refine wpOrd_q (v := ?_) (by rfl) (fun W hW => ?_) ?_; rotate_left; (focus ((obtain ⟨hWc, hWf⟩ := bcell hW; go_simp); try with_reducible rfl)); try simp only [Act.put, List.setIfInBounds_toArray, List.set_cons_zero, List.set_cons_succ])
  refine wpOrd_nil ?_
  have HB := hide (And.intro hB hb1)
  have HBM := hide hbm
  clear hB hb1 hbm c0 c1 c5
  go_wp2
  go_returns
  exact ⟨bm, rfl, HBM.out, HB.out.1, HB.out.2⟩

theorem has_yes {tt n : Nat} (hG : GroupAt w gg tt g lab) (hn : n < 65536) (h1 : 1 ≤ n) (h2 : n ≤ g.blocks) :
    Calls Tryz.prog 148 #[.pointer (some ⟨gg, 0, none⟩), .int .u16 (n : Int)] w fun e w' => e = .returned (.bool true) ∧ w = w' := by
  have c5 := hG.cell 5
  have cl := hG.lt
  have hz : (n : Int) ≤ 65535 := by omega
  have k1 : decide ((1 : Int) ≤ (n : Int)) = true := by simp; omega
  have k2 : decide (n ≤ g.blocks) = true := by simpa using h2
  go_enter Tryz.func148, Tryz.ntmps148
  go_wp2
  go_returns
  exact ⟨rfl, rfl⟩

/-- what Take comes to -/
def Sto.take (s : Sto) (g : GeoN) (k : Nat) : Sto := (s.setBit g.base k true).put (g.data + k) zeroB
theorem geo_room {s : Sto} {k : Nat} (hg : g.Ok s.D.length) (hk : k < g.blocks) (hr : s.M.length ≤ 28) : s.Can (g.base + k / 512) ∧ ∀ on, (s.setBit g.base k on).Can (g.data + k) := by
  have := hg.fits; have := hg.data; have := hg.map; have := hg.base
  refine ⟨can_of (by omega) (by omega) (by omega), fun on => can_of (by rw [setBit_D]; omega) (by omega) (by have := setBit_len s g.base k on; omega)⟩
theorem geo_bits {s : Sto} (hg : g.Ok s.D.length) : g.base ≤ 65536 ∧ g.blocks ≤ 65536 ∧ ∀ n, n * 512 < g.blocks → g.base + n < s.D.length := by
  have := hg.fits; have := hg.data; have := hg.map; have := hg.small
  exact ⟨by omega, by omega, fun n hn => by omega⟩

set_option maxRecDepth 100000 in
set_option maxHeartbeats 800000 in
theorem take_full (h : TxAt w i s) (hG : GroupAt w gg i.tt g lab) (hg : g.Ok s.D.length) (hf : s.freeBit g.base g.blocks = none) :
    Calls Tryz.prog 145 #[.pointer (some ⟨gg, 0, none⟩)] w fun e w' => e = .returned (.tuple #[.int .u16 0, .int .i64 10]) ∧ TxAt w' i s ∧ Tch w.heap.size i.own w w' := by
  obtain ⟨b1, b2, b3⟩ := geo_bits hg
  have H := hide h
  have HG := hide hG
  have HF := hide hf
  have HB := hide (And.intro b1 (And.intro b2 b3))
  clear h hG hf b1 b2 b3 hg
  go_enter Tryz.func145, Tryz.ntmps145
  go_wp2_with fail
  refine (taken_ok HG.out HB.out.1 HB.out.2.1).mono ?_
  rintro e w1 ⟨bm, rfl, -, hbm, hb1⟩
  have HW := hide (And.intro (H.out.below hb1) (And.intro hbm hb1))
  clear hbm hb1
  go_wp2_with fail
  refine (free_ok HW.out.1 HW.out.2.1 HB.out.1 HB.out.2.1 HB.out.2.2).mono ?_
  rw [HF.out]
  rintro e w2 ⟨rfl, hx2, ht2⟩
  have HF2 := hide (And.intro hx2 ((Tch.of_below (S := i.own) HW.out.2.2).trans (ht2.mono HW.out.2.2.size fun _ _ h => h)))
  clear hx2 ht2
  simp only [optI]
  go_wp2
  go_returns
  exact ⟨rfl, HF2.out.1, HF2.out.2⟩

set_option maxRecDepth 100000 in
set_option maxHeartbeats 1600000 in
theorem take_ok {k : Nat} (h : TxAt w i s) (hG : GroupAt w gg i.tt g lab) (hg : g.Ok s.D.length) (hr : s.M.length ≤ 28) (hf : s.freeBit g.base g.blocks = some k) (hk : k < g.blocks) :
    Calls Tryz.prog 145 #[.pointer (some ⟨gg, 0, none⟩)] w fun e w' => e = .returned (.tuple #[.int .u16 ((k + 1 : Nat) : Int), .int .i64 0]) ∧ TxAt w' i (s.take g k) ∧ Tch w.heap.size i.own w w' := by
  obtain ⟨b1, b2, b3⟩ := geo_bits hg
  obtain ⟨c1, c2⟩ := geo_room hg hk hr
  have hdk : g.data + k < s.D.length := by have := hg.fits; omega
  have hdl := h.ok.most
  have e1 : IntKind.i64.wrap ((g.data : Int) + (k : Int)) = ((g.data + k : Nat) : Int) := by rw [IntWalk.i64_in _ (by omega)]; omega
  obtain ⟨q, hq⟩ : ∃ q, g.data + k = q := ⟨_, rfl⟩
  have hkz : (k : Int) ≤ 65503 := by have := hg.map1; have := hg.data; have := hg.fits; have := hg.small; have := hg.base; have := hg.map; omega
  have ew : IntKind.u16.wrap ((k : Int) + 1) = (k : Int) + 1 := by rw [IntKind.wrap_u16]; omega
  have HPUT := hide (show s.take g k = (s.setBit g.base k true).put q zeroB by rw [← hq]; rfl)
  rw [hq] at e1 c2
  have H := hide h
  have HG := hide hG
  have HF := hide hf
  have HB := hide (And.intro b1 (And.intro b2 b3))
  have HC := hide (And.intro c1 c2)
  have HK := hide hk
  clear h hG hf b1 b2 b3 c1 c2 hg hq hdk hdl hr hk
  go_enter Tryz.func145, Tryz.ntmps145
  go_wp2_with fail
  refine (taken_ok HG.out HB.out.1 HB.out.2.1).mono ?_
  rintro e w1 ⟨bm, rfl, -, hbm, hb1⟩
  have HW := hide (And.intro (H.out.below hb1) (And.intro hbm (And.intro hb1 (HG.out.below hb1))))
  clear hbm hb1
  go_wp2_with fail
  refine (free_ok HW.out.1 HW.out.2.1 HB.out.1 HB.out.2.1 HB.out.2.2).mono ?_
  rw [HF.out]
  rintro e w2 ⟨rfl, hx2, ht2⟩
  have HF2 := hide (And.intro hx2 (And.intro ((Tch.of_below (S := i.own) HW.out.2.2.1).trans (ht2.mono HW.out.2.2.1.size fun _ _ h => h)) (And.intro (Blk.tch HW.out.2.1 ht2 HW.out.2.1.lt (HW.out.2.1.not_own HW.out.1)) (HW.out.2.2.2.tch HW.out.1 ht2))))
  clear hx2 ht2
  simp only [optI]
  go_wp2_with fail
  refine (set_ok HF2.out.1 HF2.out.2.2.1 HB.out.1 HB.out.2.1 HK.out HC.out.1).mono ?_
  rintro e w3 ⟨rfl, hx3, ht3⟩
  have HF3 := hide (And.intro hx3 (And.intro (HF2.out.2.1.trans (ht3.mono HF2.out.2.1.size fun _ _ h => h)) (HF2.out.2.2.2.tch HF2.out.1 ht3)))
  clear hx3 ht3
  have c0 := HF3.out.2.2.cell 0
  have c4 := HF3.out.2.2.cell 4
  have cl := HF3.out.2.2.lt
  go_upto_region 12 with (fail)
  refine wp_region_text [0, 0, 0, 0, 0, 0, 0, 0, 0, 0, 0, 0, 2, 0] (· = w3.drew) (by kernel_rfl) (by kernel_rfl) rfl ?_
  iterate 11 (refine wpOrd_q (v := ?_) (by rfl) (fun W hW => ?_) ?_; rotate_left; (focus ((cases hW; go_simp); try with_reducible rfl)); try simp only [Act.put, List.setIfInBounds_toArray, List.set_cons_zero, List.set_cons_succ])
  refine wpOrd_q (v := bval zeroB) (by rfl) (fun W hW => exec_build 106 #[] rfl #[] (by simp) _ (build_block W)) ?_
  try simp only [Act.put, List.setIfInBounds_toArray, List.set_cons_zero, List.set_cons_succ]
  refine wpOrd_b (by rfl) (fun K hK => ?_)
  go_simp
  refine (put_ok (HF3.out.1.below (Below.refl _ _).drew) (k := q) (b := zeroB) zeroB_length (HC.out.2 true).lt (HC.out.2 true).free (HC.out.2 true).room).mono ?_
  rintro e w5 ⟨rfl, hx5, ht5⟩
  rw [← HPUT.out] at hx5
  refine hK (fun _ => True) _ _ trivial ?_
  have HF5 := hide (And.intro hx5 (HF3.out.2.1.drew.trans ((ht5.sub fun _ h => Ids.own_mm h).mono HF3.out.2.1.size fun _ _ h => h)))
  clear hK K c0 c4 cl hx5 ht5
  try simp only [Act.put, List.setIfInBounds_toArray, List.set_cons_zero, List.set_cons_succ]
  iterate 1 (refine wpOrd_q (v := ?_) (by rfl) (fun W hW => ?_) ?_; rotate_left; (focus (go_simp; try with_reducible rfl)); try simp only [Act.put, List.setIfInBounds_toArray, List.set_cons_zero, List.set_cons_succ])
  refine wpOrd_nil ?_
  go_wp2
  go_returns
  exact ⟨by simp, HF5.out.1, HF5.out.2⟩
end
end Go.Proofs.YthmkgohfeahdhaaGreat
namespace Go.Proofs.YthmkgohfeahdhaaGreat
open Go.RowKit
set_option linter.unusedSimpArgs false
set_option linter.unusedVariables false

section
variable {w w' : World} {i : Ids} {s : Sto} {gg : Nat} {g : GeoN} {lab : Int}


set_option maxRecDepth 100000 in
set_option maxHeartbeats 800000 in
theorem give_ok {k : Nat} (h : TxAt w i s) (hG : GroupAt w gg i.tt g lab) (hg : g.Ok s.D.length) (hr : s.M.length ≤ 28) (hk : k < g.blocks) (hb : s.bit g.base k = true) :
    Calls Tryz.prog 103 #[.pointer (some ⟨gg, 0, none⟩), .int .u16 ((k + 1 : Nat) : Int)] w fun e w' => e = .returned (.int .i64 0) ∧ TxAt w' i (s.setBit g.base k false) ∧ Tch w.heap.size i.own w w' := by
  obtain ⟨b1, b2, b3⟩ := geo_bits hg
  obtain ⟨c1, c2⟩ := geo_room hg hk hr
  have hkz : (k : Int) ≤ 65503 := by have := hg.map1; have := hg.data; have := hg.fits; have := hg.small; have := hg.base; omega
  have hh := has_yes (w := w) (n := k + 1) hG (by omega) (by omega) (by omega)
  have hkb : g.base + k / 512 < s.D.length := b3 _ (by omega)
  have ec : IntKind.i64.wrap (((k + 1 : Nat) : Int)) = ((k + 1 : Nat) : Int) := IntWalk.i64_in _ (by omega)
  have e1 : IntKind.i64.wrap (((k + 1 : Nat) : Int) - 1) = (k : Int) := by rw [IntWalk.i64_in _ (by omega)]; omega
  obtain ⟨n, hn⟩ : ∃ n, k + 1 = n := ⟨_, rfl⟩
  rw [hn] at hh e1 ec ⊢
  have HH := hide hh
  have H := hide h
  have HG := hide hG
  have HB := hide (And.intro b1 (And.intro b2 hkb))
  have HK := hide hk
  have HBT := hide hb
  have HC := hide c1
  clear hn hh h hG b1 b2 b3 hkb hk hb hg c1 c2 hr
  go_enter Tryz.func103, Tryz.ntmps103
  go_wp2_with fail
  refine HH.out.mono ?_
  rintro e w0 ⟨rfl, rfl⟩
  go_wp2_with fail
  refine (taken_ok HG.out HB.out.1 HB.out.2.1).mono ?_
  rintro e w1 ⟨bm, rfl, -, hbm, hb1⟩
  have HW := hide (And.intro (H.out.below hb1) (And.intro hbm hb1))
  clear hbm hb1
  go_wp2_with fail
  refine (has_bit HW.out.1 HW.out.2.1 HB.out.1 HB.out.2.1 HK.out HB.out.2.2).mono ?_
  rw [HBT.out]
  rintro e w2 ⟨rfl, hx2, ht2⟩
  have HF2 := hide (And.intro hx2 (And.intro ((Tch.of_below (S := i.own) HW.out.2.2).trans (ht2.mono HW.out.2.2.size fun _ _ h => h)) (Blk.tch HW.out.2.1 ht2 HW.out.2.1.lt (HW.out.2.1.not_own HW.out.1))))
  clear hx2 ht2
  go_wp2_with fail
  refine (set_ok HF2.out.1 HF2.out.2.2 HB.out.1 HB.out.2.1 HK.out HC.out).mono ?_
  rintro e w3 ⟨rfl, hx3, ht3⟩
  have HF3 := hide (And.intro hx3 (HF2.out.2.1.trans (ht3.mono HF2.out.2.1.size fun _ _ h => h)))
  clear hx3 ht3
  go_wp2
  go_returns
  exact ⟨rfl, HF3.out.1, HF3.out.2⟩

set_option maxRecDepth 100000 in
set_option maxHeartbeats 800000 in
theorem gput_ok {k : Nat} {b : BlkV} (h : TxAt w i s) (hG : GroupAt w gg i.tt g lab) (hg : g.Ok s.D.length) (hr : s.M.length ≤ 28) (hk : k < g.blocks) (hb : b.length = 64) :
    Calls Tryz.prog 94 #[.pointer (some ⟨gg, 0, none⟩), .int .u16 ((k + 1 : Nat) : Int), bval b] w fun e w' => e = .returned (.int .i64 0) ∧ TxAt w' i (s.put (g.data + k) b) ∧ Tch w.heap.size i.own w w' := by
  have hdk : g.data + k < s.D.length := by have := hg.fits; omega
  have hcan : s.Can (g.data + k) := can_of hdk (by have := hg.data; have := hg.base; omega) (by omega)
  have hdl := h.ok.most
  have hkz : (k : Int) ≤ 65503 := by have := hg.map1; have := hg.data; have := hg.fits; have := hg.small; have := hg.base; omega
  have ec : IntKind.i64.wrap (((k + 1 : Nat) : Int)) = ((k + 1 : Nat) : Int) := IntWalk.i64_in _ (by omega)
  have e1 : IntKind.i64.wrap ((g.data : Int) + ((k + 1 : Nat) : Int)) = (g.data : Int) + ((k + 1 : Nat) : Int) := IntWalk.i64_in _ (by omega)
  have e2 : IntKind.i64.wrap ((g.data : Int) + ((k + 1 : Nat) : Int) - 1) = ((g.data + k : Nat) : Int) := by rw [IntWalk.i64_in _ (by omega)]; omega
  obtain ⟨q, hq⟩ : ∃ q, g.data + k = q := ⟨_, rfl⟩
  obtain ⟨n, hn⟩ : ∃ n, k + 1 = n := ⟨_, rfl⟩
  have hn6 : n < 65536 := by omega
  have hn1 : 1 ≤ n := by omega
  have hn2 : n ≤ g.blocks := by omega
  rw [hq] at hcan e2 ⊢
  rw [hn] at ec e1 e2 ⊢
  have H := hide h
  have HG := hide hG
  have HC := hide hcan
  have HB := hide hb
  have HN := hide (And.intro hn6 (And.intro hn1 hn2))
  clear hq hn h hG hcan hdk hb hg hr hk hn6 hn1 hn2 hdl
  go_enter Tryz.func94, Tryz.ntmps94
  go_upto_region 1 with (fail)
  refine at_world (fun W => ∃ p, p = w.heap.size ∧ Below w.heap.size w W ∧ Blk W p 106 (bvs b).toArray) ⟨_, rfl, (Below.refl _ _).alloc (Nat.le_refl _) _, Blk.new _ _ _⟩ (fun w1 hw1 => ?_)
  obtain ⟨p, hp, hb1, hP⟩ := hw1
  rw [← hp]
  have HP := hide (And.intro hP hb1)
  have HG1 := hide (HG.out.below hb1)
  clear hp hb1 hP
  go_wp2_with fail
  refine (has_yes HG1.out HN.out.1 HN.out.2.1 HN.out.2.2).mono ?_
  rintro e w0 ⟨rfl, rfl⟩
  have c0 := HG1.out.cell 0
  have c4 := HG1.out.cell 4
  have cl := HG1.out.lt
  go_upto_region 5 with (fail)
  refine wp_region_text [0, 0, 0, 0, 0, 0, 0, 0, 0, 0, 0, 0, 0, 0, 2, 0] (· = w1.drew) (by kernel_rfl) (by kernel_rfl) rfl ?_
  iterate 13 (refine wpOrd_q (v := ?_) (by rfl) (fun W hW => ?_) ?_; rotate_left; (focus ((cases hW; go_simp); try with_reducible rfl)); try simp only [Act.put, List.setIfInBounds_toArray, List.set_cons_zero, List.set_cons_succ])
  refine wpOrd_q (v := .agg (bvs b).toArray) (by rfl) (fun W hW => by cases hW; exact exec_load_blk 106 (.tmp 5) rfl p _ (bvs b).toArray _ rfl HP.out.1.drew Tryz.underlying106 rfl (size_blockOf HB.out)) ?_
  try simp only [Act.put, List.setIfInBounds_toArray, List.set_cons_zero, List.set_cons_succ]
  refine wpOrd_b (by rfl) (fun K hK => ?_)
  go_simp
  refine (put_ok (H.out.below HP.out.2.drew) (k := q) (b := b) HB.out HC.out.lt HC.out.free HC.out.room).mono ?_
  rintro e w5 ⟨rfl, hx5, ht5⟩
  refine hK (fun _ => True) _ _ trivial ?_
  have HF5 := hide (And.intro hx5 ((Tch.of_below (S := i.own) HP.out.2).drew.trans ((ht5.sub fun _ h => Ids.own_mm h).mono HP.out.2.size fun _ _ h => h)))
  clear hK K c0 c4 cl hx5 ht5
  try simp only [Act.put, List.setIfInBounds_toArray, List.set_cons_zero, List.set_cons_succ]
  iterate 1 (refine wpOrd_q (v := ?_) (by rfl) (fun W hW => ?_) ?_; rotate_left; (focus (go_simp; try with_reducible rfl)); try simp only [Act.put, List.setIfInBounds_toArray, List.set_cons_zero, List.set_cons_succ])
  refine wpOrd_nil ?_
  go_wp2
  go_returns
  exact ⟨rfl, HF5.out.1, HF5.out.2⟩

set_option maxRecDepth 100000 in
set_option maxHeartbeats 800000 in
theorem gget_ok {k : Nat} (h : TxAt w i s) (hG : GroupAt w gg i.tt g lab) (hg : g.Ok s.D.length) (hk : k < g.blocks) :
    Calls Tryz.prog 93 #[.pointer (some ⟨gg, 0, none⟩), .int .u16 ((k + 1 : Nat) : Int)] w fun e w' => e = .returned (.tuple #[bval (s.at_ (g.data + k)), .int .i64 0]) ∧ TxAt w' i s ∧ Tch w.heap.size i.own w w' := by
  have hdk : g.data + k < s.D.length := by have := hg.fits; omega
  have hdl := h.ok.most
  have hkz : (k : Int) ≤ 65503 := by have := hg.map1; have := hg.data; have := hg.fits; have := hg.small; have := hg.base; omega
  have ec : IntKind.i64.wrap (((k + 1 : Nat) : Int)) = ((k + 1 : Nat) : Int) := IntWalk.i64_in _ (by omega)
  have e1 : IntKind.i64.wrap ((g.data : Int) + ((k + 1 : Nat) : Int)) = (g.data : Int) + ((k + 1 : Nat) : Int) := IntWalk.i64_in _ (by omega)
  have e2 : IntKind.i64.wrap ((g.data : Int) + ((k + 1 : Nat) : Int) - 1) = ((g.data + k : Nat) : Int) := by rw [IntWalk.i64_in _ (by omega)]; omega
  obtain ⟨q, hq⟩ : ∃ q, g.data + k = q := ⟨_, rfl⟩
  obtain ⟨n, hn⟩ : ∃ n, k + 1 = n := ⟨_, rfl⟩
  have hn6 : n < 65536 := by omega
  have hn1 : 1 ≤ n := by omega
  have hn2 : n ≤ g.blocks := by omega
  rw [hq] at hdk e2 ⊢
  rw [hn] at ec e1 e2 ⊢
  have hx := Sto.at_length h.ok q
  obtain ⟨b, hb⟩ : ∃ b, s.at_ q = b := ⟨_, rfl⟩
  have hget := fun W (hW : TxAt W i s) => get_ok hW hdk
  rw [hb] at hx hget ⊢
  have HGT := hide hget
  have H := hide h
  have HG := hide hG
  have HB := hide hx
  have HN := hide (And.intro hn6 (And.intro hn1 hn2))
  clear hq hn h hG hdk hb hg hk hn6 hn1 hn2 hdl hget hx
  go_enter Tryz.func93, Tryz.ntmps93
  go_upto_region 1 with (first | ((with_reducible refine at_alloc 106 ?_); refine wpList_alloc_as rfl 106 rfl _ (zero_block _) ?_) | fail)
  refine at_world (fun W => ∃ p, p = w.heap.size ∧ Below w.heap.size w W ∧ Blk W p 106 (bvs zeroB).toArray) ⟨_, rfl, (Below.refl _ _).alloc (Nat.le_refl _) _, Blk.new _ _ _⟩ (fun w1 hw1 => ?_)
  obtain ⟨p, hp, hb1, hP⟩ := hw1
  rw [← hp]
  have hwp : w.heap.size ≤ p := Nat.le_of_eq hp.symm
  have HP := hide (And.intro hP hb1)
  have HG1 := hide (HG.out.below hb1)
  clear hp hb1 hP
  go_wp2_with fail
  refine (has_yes HG1.out HN.out.1 HN.out.2.1 HN.out.2.2).mono ?_
  rintro e w0 ⟨rfl, rfl⟩
  have c0 := HG1.out.cell 0
  have c4 := HG1.out.cell 4
  have cl := HG1.out.lt
  go_upto_region 5 with (fail)
  refine wp_region_text [0, 0, 0, 0, 0, 0, 0, 0, 0, 0, 0, 0, 0, 2, 0, 0, 2, 0] (· = w1.drew) (by kernel_rfl) (by kernel_rfl) rfl ?_
  iterate 13 (refine wpOrd_q (v := ?_) (by rfl) (fun W hW => ?_) ?_; rotate_left; (focus ((cases hW; go_simp); try with_reducible rfl)); try simp only [Act.put, List.setIfInBounds_toArray, List.set_cons_zero, List.set_cons_succ])
  refine wpOrd_b (by rfl) (fun K hK => ?_)
  go_simp
  refine (HGT.out _ (H.out.below HP.out.2.drew)).mono ?_
  rintro e w5 ⟨rfl, hx5, ht5⟩
  refine hK (fun _ => True) _ _ trivial ?_
  have HF5 := hide (And.intro hx5 (And.intro ((Tch.of_below (S := i.own) HP.out.2).drew.trans (ht5.own_dd.mono HP.out.2.size fun _ _ h => h)) (HP.out.1.drew.tch ht5 HP.out.1.lt (fun e => by have := H.out.log.disk.dlt; omega))))
  clear hK K c0 c4 cl hx5 ht5
  try simp only [Act.put, List.setIfInBounds_toArray, List.set_cons_zero, List.set_cons_succ]
  iterate 2 (refine wpOrd_q (v := ?_) (by rfl) (fun W hW => ?_) ?_; rotate_left; (focus (go_simp; try with_reducible rfl)); try simp only [Act.put, List.setIfInBounds_toArray, List.set_cons_zero, List.set_cons_succ])
  refine wpOrd_b (by rfl) (fun K hK => ?_)
  refine wp_store_blk 106 (.tmp 4) (.tmp 30) rfl p 106 _ _ (by rfl) (by rfl) HF5.out.2.2 (size_blockOf HB.out) ((bvs_size zeroB_length).trans (bvs_size HB.out).symm) (bvs_oneCell _) (fun hB3 => ?_)
  refine hK (fun _ => True) _ _ trivial ?_
  clear hK K
  try simp only [Act.put, List.setIfInBounds_toArray, List.set_cons_zero, List.set_cons_succ]
  iterate 1 (refine wpOrd_q (v := ?_) (by rfl) (fun W hW => ?_) ?_; rotate_left; (focus (go_simp; try with_reducible rfl)); try simp only [Act.put, List.setIfInBounds_toArray, List.set_cons_zero, List.set_cons_succ])
  refine wpOrd_nil ?_
  have HB3 := hide hB3
  clear hB3
  go_wp2_with (first | ((with_reducible refine at_end ?_); refine bodyPost_ret (v := .tuple #[bval b, .int .i64 0]) (results_run2 rfl (ResV.row rfl HB3.out Tryz.underlying106 rfl (size_blockOf HB.out)) rfl) rfl ⟨rfl, ?_, ?_⟩) | fail)
  · exact H.out.setRow_new hwp HF5.out.1 _
  · exact HF5.out.2.1.trans (Tch.setRow fun hp => absurd hp (by omega))
end
end Go.Proofs.YthmkgohfeahdhaaGreat
namespace Go.Proofs.YthmkgohfeahdhaaGreat
open Go.RowKit Go.WideMaps
set_option linter.unusedSimpArgs false
set_option linter.unusedVariables false

def szNames : List Value := [.string ⟨#[108, 111, 119]⟩, .string ⟨#[114, 101, 100]⟩, .string ⟨#[98, 108, 117, 101]⟩, .string ⟨#[116, 111, 112]⟩, .string ⟨#[104, 105, 103, 104]⟩]
def szLabels : List Value := [.int .u8 0, .int .u16 0, .int .u8 1, .int .u16 1, .int .u8 1, .int .u16 2, .int .u8 2, .int .u16 3, .int .u8 9, .int .u16 7]
theorem names_ok (w : World) : Calls Tryz.prog 108 #[] w fun e w' => ∃ g, w.heap.size ≤ g ∧ e = .returned (.slice (some ⟨g, 0, none⟩) 5 5) ∧ Below w.heap.size w w' ∧ g < w'.heap.size ∧ ∀ j v, szNames[j]? = some v → w'.cell? ⟨g, j, none⟩ = some v := by
  go_enter Tryz.func108, Tryz.ntmps108
  go_wp2
  go_returns
  refine ⟨w.heap.size, Nat.le_refl _, rfl, (Below.refl _ _).alloc (Nat.le_refl _) _, by simp, fun j v hj => ?_⟩
  rw [(Blk.new w _ _).cell j]
  simpa [szNames] using hj
theorem build_lab2 (W : World) (a b : Int) : (Instr.build 39 #[(0, .int .u8 a), (1, .int .u16 b)]).run Tryz.prog W = .ok (.agg #[.int .u8 a, .int .u16 b]) W := by kernel_rfl
section
attribute [-go_sem] Instr.build
attribute [local go_sem] build_lab0 build_lab2
theorem labels_ok (w : World) : Calls Tryz.prog 109 #[] w fun e w' => ∃ g, w.heap.size ≤ g ∧ e = .returned (.slice (some ⟨g, 0, none⟩) 5 5) ∧ Below w.heap.size w w' ∧ g < w'.heap.size ∧ ∀ j v, szLabels[j]? = some v → w'.cell? ⟨g, j, none⟩ = some v := by
  go_enter Tryz.func109, Tryz.ntmps109
  go_wp2
  go_returns
  refine ⟨w.heap.size, Nat.le_refl _, rfl, (Below.refl _ _).alloc (Nat.le_refl _) _, by simp, fun j v hj => ?_⟩
  rw [(Blk.new w _ _).cell j]
  simpa [szLabels] using hj
end


/-! ### labels and marks -/
def szCells (m : UInt8) (H : List UInt8) (A : Option Addr) (n c : Nat) : Array Value := (Value.int .u8 (m.toNat : Int) :: (bvs H ++ [Value.slice A n c])).toArray
def szClear0 (many i : Nat) : Nat := if many = 2 then 1 else if many < 4 ∧ 0 < i then i else many - 1
def szReg0 (many : Nat) (H : List UInt8) (i : Nat) : RegV := { szReg many H i with clear := (szClear0 many i : Nat) }
theorem szCells_size {m : UInt8} {H : List UInt8} {A : Option Addr} {n c : Nat} (h : H.length = 25) : (szCells m H A n c).size = 27 := by simp [szCells, h, bvs_length]
theorem szCells_many {m : UInt8} {H : List UInt8} {A : Option Addr} {n c : Nat} : (szCells m H A n c)[0]? = some (.int .u8 (m.toNat : Int)) := by simp [szCells]
theorem szCells_have {m : UInt8} {H : List UInt8} {A : Option Addr} {n c j : Nat} (h : H.length = 25) (hj : j < 25) : (szCells m H A n c)[1 + j]? = some (.int .u8 ((H.getD j 0).toNat : Int)) := by
  rw [szCells, List.getElem?_toArray, Nat.add_comm 1 j, List.getElem?_cons_succ, List.getElem?_append_left (by rw [bvs_length]; omega), bvs_get]
  simp [List.getElem?_eq_getElem (show j < H.length by omega), bv]
theorem szCells_trust {m : UInt8} {H : List UInt8} {A : Option Addr} {n c : Nat} (h : H.length = 25) : (szCells m H A n c)[26]? = some (.slice A n c) := by
  rw [szCells, List.getElem?_toArray, List.getElem?_cons_succ, List.getElem?_append_right (by rw [bvs_length]; omega), bvs_length, h]
  rfl
def MarksOk (M : Nat) (K : List MarkV) : Prop := (∀ x ∈ K, x.1.toNat < M ∧ 1 ≤ x.2.toNat ∧ x.2.toNat ≤ 8) ∧ K.Nodup ∧ K.length ≤ 9
theorem szReg0_eq {M : Nat} {H : List UInt8} (h2 : 2 ≤ M) (h3 : M ≠ 3) : (List.range M).map (szReg0 M H) = (List.range M).map (szReg M H) := by
  apply List.map_congr_left
  intro i hi
  have hc : szClear0 M i = szClear M i := by
    unfold szClear0 szClear
    by_cases e2 : M = 2
    · rw [if_pos e2, if_pos e2]
    · rw [if_neg e2, if_neg e2, if_neg h3, if_neg (by omega)]
  unfold szReg0
  rw [hc]
  rfl
theorem szReg0_three (H : List UInt8) : ((List.range 3).map (szReg0 3 H)).set 0 { szReg0 3 H 0 with clear := (1 : Int) } = (List.range 3).map (szReg 3 H) := rfl
theorem szNames_at {k : Nat} (h : k < 5) : szNames[k]? = some (.string ⟨(szName k).toArray⟩) := by
  rcases k with _ | _ | _ | _ | _ | k <;> first | rfl | omega
theorem szLabels_at {k : Nat} (h : k < 5) : szLabels[k * 2]? = some (.int .u8 ((szLev k).toNat : Int)) ∧ szLabels[k * 2 + 1]? = some (.int .u16 ((szCat k).toNat : Int)) := by
  rcases k with _ | _ | _ | _ | _ | k <;> first | exact ⟨rfl, rfl⟩ | omega

section
variable {m : UInt8} {H : List UInt8} {A : Option Addr} {n c : Nat} {T : List UInt8} {w : World}
set_option maxRecDepth 100000 in
set_option maxHeartbeats 4000000 in
theorem size_regs (hH : H.length = 25) (hT : Rd w w.heap.size 1 A n (bvs T)) (hnm : n ≤ 9223372036854775807) :
    Calls Tryz.prog 45 #[.agg (szCells m H A n c)] w fun e w' => ∃ (K : List MarkV) (A1 A2 : Option Addr) (c1 c2 : Nat), e = .returned (.tuple #[.slice A1 (szMany m) c1, .slice A2 K.length c2]) ∧ Below w.heap.size w w' ∧
      w'.ownsRow w.heap.size 41 9 (.slice A1 (szMany m) c1) (szMany m) (rcellsOf (szRegs m H)) ∧ w'.ownsRow w.heap.size 199 2 (.slice A2 K.length c2) K.length (mcellsOf K) ∧ MarksOk (szMany m) K := by
  have hsz : (szCells m H A n c).size = 27 := szCells_size hH
  go_enter Tryz.func45, Tryz.ntmps45
  go_upto_region 1 with (fail)
  refine at_world (fun W => ∃ bx, bx = w.heap.size ∧ Below w.heap.size w W ∧ Blk W bx 26 (szCells m H A n c)) ⟨_, rfl, (Below.refl _ _).alloc (Nat.le_refl _) _, Blk.new _ _ _⟩ (fun w1 h1 => ?_)
  obtain ⟨bx, hbx, hb1, hX1⟩ := h1
  rw [← hbx]
  have HBX := hide hbx
  clear hbx
  have x0 := (hX1.cell 0).trans szCells_many
  have x26 := (hX1.cell 26).trans (szCells_trust hH)
  have xl := hX1.lt
  have hm4 : (m.toNat : Int).tmod 4 = ((m.toNat % 4 : Nat) : Int) := by rw [IntWalk.rem_in _ _ (by omega)]; rfl
  have hm5 : wrap64 ((m.toNat % 4 : Nat) : Int) = ((m.toNat % 4 : Nat) : Int) := IntWalk.wrap64_in _ (by omega)
  obtain ⟨M, hM⟩ : ∃ M, M = szMany m := ⟨_, rfl⟩
  have hM2 := szMany_ge m
  have hM5 := szMany_le m
  rw [← hM] at hM2 hM5
  have hm6 : (2 : Int) + (m.toNat : Int) % 4 = (M : Int) := by rw [hM]; unfold szMany; omega
  have HM := hide hM
  have HX1 := hide hX1
  have HB1 := hide hb1
  clear hM hX1 hb1
  go_upto_region 4 with (fail)
  clear hm4 hm5 hm6 x0 x26 xl hsz
  go_loopg [5, 6, 7, 8, 22] M (fun g x5 x6 x7 x8 x22 wr => ∃ (k : Nat) (Ak : Option Addr) (ck : Nat), k ≤ M ∧ g = M - k ∧ x22 = .int .i64 k ∧ x5 = .slice Ak k ck ∧ Aside (Below w1.heap.size w1 wr ∧ wr.ownsRow w1.heap.size 41 9 (.slice Ak k ck) k (rcellsOf ((List.range k).map (szReg0 M H)))))
  case atStart => exact ⟨0, none, 0, Nat.zero_le _, rfl, rfl, rfl, Below.refl _ _, World.ownsRow_nil _ _ _ _⟩
  case round =>
    obtain ⟨k, Ak, ck, hk, hg, rfl, rfl, hA⟩ := hrel
    by_cases hkM : k < M
    · have hkz : (k : Int) < M := by omega
      obtain ⟨hbr, hor⟩ := hA.out
      have HBR := hide hbr
      have HOR := hide hor
      have hX := HX1.out.below hbr HX1.out.lt
      have y (j : Nat) (hj : j < 5) : wr.cell? ⟨bx, 1 + k * 5 + j, none⟩ = some (.int .u8 ((H.getD (5 * k + j) 0).toNat : Int)) := by
        rw [show 1 + k * 5 + j = 1 + (5 * k + j) from by omega]
        exact (hX.cell _).trans (szCells_have hH (by omega))
      have y0 := y 0 (by omega)
      have y1 := y 1 (by omega)
      have y2 := y 2 (by omega)
      have y3 := y 3 (by omega)
      have y4 := y 4 (by omega)
      simp only [Nat.add_zero] at y0
      have hk5 : k < 5 := by omega
      have hk5z : (k : Int) < 5 := by omega
      have xl := hX.lt
      clear y hA hbr hor hX
      generalize hh0 : (H.getD (5 * k) 0) = h0 at y0
      generalize hh1 : (H.getD (5 * k + 1) 0) = h1 at y1
      generalize hh2 : (H.getD (5 * k + 2) 0) = h2 at y2
      generalize hh3 : (H.getD (5 * k + 3) 0) = h3 at y3
      generalize hh4 : (H.getD (5 * k + 4) 0) = h4 at y4
      have HHS := hide (And.intro hh0 (And.intro hh1 (And.intro hh2 (And.intro hh3 hh4))))
      clear hh0 hh1 hh2 hh3 hh4
      go_upto_region 7 with (fail)
      refine at_world (fun W => ∃ b7, b7 = wr.heap.size ∧ Below wr.heap.size wr W ∧ Blk W b7 22 #[.int .u8 (h0.toNat : Int), .int .u8 (h1.toNat : Int), .int .u8 (h2.toNat : Int), .int .u8 (h3.toNat : Int), .int .u8 (h4.toNat : Int)]) ⟨_, rfl, (Below.refl _ _).alloc (Nat.le_refl _) _, Blk.new _ _ _⟩ (fun w4 h4 => ?_)
      obtain ⟨b7, e7, hb4, hk7⟩ := h4
      rw [← e7]
      have z0 := hk7.cell 0
      have z1 := hk7.cell 1
      have z2 := hk7.cell 2
      have z3 := hk7.cell 3
      have z4 := hk7.cell 4
      have zl := hk7.lt
      have HB4 := hide hb4
      clear e7 hb4 hk7 y0 y1 y2 y3 y4 xl
      obtain ⟨a0, ha0⟩ : ∃ a0, a0 = h0.toNat % 60 := ⟨_, rfl⟩
      have fa0 : (h0.toNat : Int).tmod 60 = (a0 : Int) := by rw [IntWalk.rem_in _ _ (by omega)]; omega
      have fb0 : IntKind.i64.wrap (a0 : Int) = (a0 : Int) := IntWalk.i64_in _ (by omega)
      obtain ⟨a1, ha1⟩ : ∃ a1, a1 = h1.toNat % 12 := ⟨_, rfl⟩
      have fa1 : (h1.toNat : Int).tmod 12 = (a1 : Int) := by rw [IntWalk.rem_in _ _ (by omega)]; omega
      have fb1 : IntKind.i64.wrap (a1 : Int) = (a1 : Int) := IntWalk.i64_in _ (by omega)
      obtain ⟨a2, ha2⟩ : ∃ a2, a2 = h2.toNat % 40 := ⟨_, rfl⟩
      have fa2 : (h2.toNat : Int).tmod 40 = (a2 : Int) := by rw [IntWalk.rem_in _ _ (by omega)]; omega
      have fb2 : IntKind.i64.wrap (a2 : Int) = (a2 : Int) := IntWalk.i64_in _ (by omega)
      obtain ⟨a3, ha3⟩ : ∃ a3, a3 = h3.toNat % 6 := ⟨_, rfl⟩
      have fa3 : (h3.toNat : Int).tmod 6 = (a3 : Int) := by rw [IntWalk.rem_in _ _ (by omega)]; omega
      have fb3 : IntKind.i64.wrap (a3 : Int) = (a3 : Int) := IntWalk.i64_in _ (by omega)
      obtain ⟨a4, ha4⟩ : ∃ a4, a4 = h4.toNat % 14 := ⟨_, rfl⟩
      have fa4 : (h4.toNat : Int).tmod 14 = (a4 : Int) := by rw [IntWalk.rem_in _ _ (by omega)]; omega
      have fb4 : IntKind.i64.wrap (a4 : Int) = (a4 : Int) := IntWalk.i64_in _ (by omega)
      have fc0 : IntKind.i64.wrap (8 + (a0 : Int)) = 8 + (a0 : Int) := IntWalk.i64_in _ (by omega)
      have fc1 : IntKind.i64.wrap (2 * (a1 : Int)) = 2 * (a1 : Int) := IntWalk.i64_in _ (by omega)
      have fd1 : IntKind.i64.wrap (8 + 2 * (a1 : Int)) = 8 + 2 * (a1 : Int) := IntWalk.i64_in _ (by omega)
      have fc2 : IntKind.i64.wrap (4 + (a2 : Int)) = 4 + (a2 : Int) := IntWalk.i64_in _ (by omega)
      have fc3 : IntKind.i64.wrap (1 + (a3 : Int)) = 1 + (a3 : Int) := IntWalk.i64_in _ (by omega)
      have fc4 : IntKind.i64.wrap (2 + (a4 : Int)) = 2 + (a4 : Int) := IntWalk.i64_in _ (by omega)
      have fM : IntKind.i64.wrap ((M : Int) - 1) = (M : Int) - 1 := IntWalk.i64_in _ (by omega)
      have HA := hide (And.intro ha0 (And.intro ha1 (And.intro ha2 (And.intro ha3 ha4))))
      clear ha0 ha1 ha2 ha3 ha4
      go_cut [8] from 29 to 65 (fun x8 wc => ∃ g8, x8 = .pointer (some ⟨g8, 0, none⟩) ∧ Below w4.heap.size w4 wc ∧ w4.heap.size ≤ g8 ∧ Blk wc g8 41 #[.string ⟨(szName k).toArray⟩, .int .u8 ((szLev k).toNat : Int), .int .u16 ((szCat k).toNat : Int), .int .i64 (8 + (a0 : Int)), .int .i64 (8 + 2 * (a1 : Int)), .int .i64 (4 + (a2 : Int)), .int .i64 (1 + (a3 : Int)), .int .i64 (2 + (a4 : Int)), .int .i64 ((M : Int) - 1)])
      case first =>
        refine wp_region_tree (.q 1 (.q 5 (.q 8 (.q 9 (.q 10 (.q 11 (.q 12 (.q 13 (.q 14 (.q 15 (.q 16 (.q 17 (.q 18 (.q 19 (.q 20 (.q 21 (.q 22 (.q 23 (.q 24 (.q 25 (.q 26 (.q 27 (.q 28 (.q 29 (.q 30 (.q 31 (.q 32 (.q 33 (.q 34 (.q 35 (.br 0 (.q 2 (.q 3 (.br 4 (.q 6 (.q 7 (.q 36 (.x 37 (.x 38 .nil))))) 37 (.x 4 (.q 6 (.q 7 (.q 36 (.x 38 .nil)))))))) 37 (.x 0 (.q 2 (.q 3 (.x 4 (.q 6 (.q 7 (.q 36 (.x 38 .nil))))))))))))))))))))))))))))))))))))))) (Below w4.heap.size w4) (by kernel_rfl) (by kernel_rfl) (Below.refl _ _).drew ?_
        iterate 30 (refine wpT_q (v := ?_) (by simp only [List.getElem?_toArray, List.getElem?_cons_succ, List.getElem?_cons_zero]; try rfl) (by rfl) (fun W hW => ?_) ?_; rotate_left; (focus ((obtain ⟨hWc, hWf⟩ := bcell hW); go_simp; try with_reducible rfl)); try simp only [Act.put, List.setIfInBounds_toArray, List.set_cons_zero, List.set_cons_succ])
        refine at_world (fun W => Below w4.heap.size w4 W) (Below.refl _ _).drew (fun w20 hbx => ?_)
        have Bw20 := hide hbx
        clear hbx
        refine wpT_br ?_ ?_
        · refine wpT_x (by simp only [List.getElem?_toArray, List.getElem?_cons_succ, List.getElem?_cons_zero]; try rfl) (by rfl) (fun K hK => ?_)
          go_simp
          refine (names_ok _).mono ?_
          rintro e w21 ⟨g29, hge, rfl, hbx, hgl, hcell⟩
          have hN := hcell k _ (szNames_at hk5)
          have Bw21 := hide (Bw20.out.trans (hbx.mono Bw20.out.size))
          have Nw21 : Hid (w21.cell? ⟨g29, k, none⟩ = some (.string ⟨(szName k).toArray⟩)) := hide hN; have G29w21 := hide hgl
          refine hK (fun W => Below w4.heap.size w4 W ∧ W.cell? ⟨g29, k, none⟩ = some (.string ⟨(szName k).toArray⟩)) _ _ (fun _ h => h.1) ⟨Bw21.out, hN⟩ ?_
          clear hK K hbx hcell hN hge; try simp only [Act.put, List.setIfInBounds_toArray, List.set_cons_zero, List.set_cons_succ]
          iterate 2 (refine wpT_q (v := ?_) (by simp only [List.getElem?_toArray, List.getElem?_cons_succ, List.getElem?_cons_zero]; try rfl) (by rfl) (fun W hW => ?_) ?_; rotate_left; (focus ((obtain ⟨hWB, hW1⟩ := hW; obtain ⟨hWc, hWf⟩ := bcell hWB); go_simp; try with_reducible rfl)); try simp only [Act.put, List.setIfInBounds_toArray, List.set_cons_zero, List.set_cons_succ])
          refine wpT_br ?_ ?_
          · refine wpT_x (by simp only [List.getElem?_toArray, List.getElem?_cons_succ, List.getElem?_cons_zero]; try rfl) (by rfl) (fun K hK => ?_)
            go_simp
            refine (labels_ok _).mono ?_
            rintro e w22 ⟨g33, hge, rfl, hbx, hgl, hcell⟩
            have hL1 := hcell _ _ (szLabels_at hk5).1
            have hL2 := hcell _ _ (szLabels_at hk5).2
            have Bw22 := hide (Bw21.out.trans (hbx.mono Bw21.out.size))
            have Nw22 : Hid (w22.cell? ⟨g29, k, none⟩ = some (.string ⟨(szName k).toArray⟩)) := hide ((hbx.cell (p := ⟨g29, k, none⟩) G29w21.out).trans Nw21.out); have G29w22 := hide (Nat.lt_of_lt_of_le G29w21.out hbx.size)
            have Lw22 : Hid (w22.cell? ⟨g33, k * 2, none⟩ = some (.int .u8 ((szLev k).toNat : Int)) ∧ w22.cell? ⟨g33, k * 2 + 1, none⟩ = some (.int .u16 ((szCat k).toNat : Int))) := hide ⟨hL1, hL2⟩; have G33w22 := hide hgl
            refine hK (fun W => Below w4.heap.size w4 W ∧ W.cell? ⟨g29, k, none⟩ = some (.string ⟨(szName k).toArray⟩) ∧ W.cell? ⟨g33, k * 2, none⟩ = some (.int .u8 ((szLev k).toNat : Int)) ∧ W.cell? ⟨g33, k * 2 + 1, none⟩ = some (.int .u16 ((szCat k).toNat : Int))) _ _ (fun _ h => ⟨h.1, h.2.1⟩) ⟨Bw22.out, Nw22.out, hL1, hL2⟩ ?_
            clear hK K hbx hcell hL1 hL2 hge; try simp only [Act.put, List.setIfInBounds_toArray, List.set_cons_zero, List.set_cons_succ]
            iterate 3 (refine wpT_q (v := ?_) (by simp only [List.getElem?_toArray, List.getElem?_cons_succ, List.getElem?_cons_zero]; try rfl) (by rfl) (fun W hW => ?_) ?_; rotate_left; (focus ((obtain ⟨hWB, hW1, hW2, hW3⟩ := hW; obtain ⟨hWc, hWf⟩ := bcell hWB); go_simp; try with_reducible rfl)); try simp only [Act.put, List.setIfInBounds_toArray, List.set_cons_zero, List.set_cons_succ])
            refine wpT_x (by simp only [List.getElem?_toArray, List.getElem?_cons_succ, List.getElem?_cons_zero]; try rfl) (by rfl) (fun K hK => ?_)
            go_simp
            have hbx : Below w22.heap.size w22 (w22.alloc (.cells #[.string ByteArray.empty, .int .u8 0, .int .u16 0, .int .i64 0, .int .i64 0, .int .i64 0, .int .i64 0, .int .i64 0, .int .i64 0] 41)) := (Below.refl _ _).alloc (Nat.le_refl _) _
            refine hK (fun W => Below w4.heap.size w4 W ∧ W.cell? ⟨g29, k, none⟩ = some (.string ⟨(szName k).toArray⟩) ∧ W.cell? ⟨g33, k * 2, none⟩ = some (.int .u8 ((szLev k).toNat : Int)) ∧ W.cell? ⟨g33, k * 2 + 1, none⟩ = some (.int .u16 ((szCat k).toNat : Int))) _ _ (fun _ h => h) ⟨Bw22.out.trans (hbx.mono Bw22.out.size), (hbx.cell (p := ⟨g29, k, none⟩) G29w22.out).trans Nw22.out, (hbx.cell (p := ⟨g33, k * 2, none⟩) G33w22.out).trans Lw22.out.1, (hbx.cell (p := ⟨g33, k * 2 + 1, none⟩) G33w22.out).trans Lw22.out.2⟩ ?_
            clear hK K hbx; try simp only [Act.put, List.setIfInBounds_toArray, List.set_cons_zero, List.set_cons_succ]
            refine at_world (fun W => ∃ g8, g8 = w22.heap.size ∧ Below w22.heap.size w22 W ∧ Blk W g8 41 #[.string ByteArray.empty, .int .u8 0, .int .u16 0, .int .i64 0, .int .i64 0, .int .i64 0, .int .i64 0, .int .i64 0, .int .i64 0]) ⟨_, rfl, (Below.refl _ _).alloc (Nat.le_refl _) _, Blk.new _ _ _⟩ (fun w23 h9 => ?_)
            obtain ⟨g8, e8, hbx, hk8⟩ := h9
            rw [← e8]
            have Bw23 := hide (Bw22.out.trans (hbx.mono Bw22.out.size))
            have Nw23 : Hid (w23.cell? ⟨g29, k, none⟩ = some (.string ⟨(szName k).toArray⟩)) := hide ((hbx.cell (p := ⟨g29, k, none⟩) G29w22.out).trans Nw22.out); have G29w23 := hide (Nat.lt_of_lt_of_le G29w22.out hbx.size)
            have Lw23 : Hid (w23.cell? ⟨g33, k * 2, none⟩ = some (.int .u8 ((szLev k).toNat : Int)) ∧ w23.cell? ⟨g33, k * 2 + 1, none⟩ = some (.int .u16 ((szCat k).toNat : Int))) := hide ⟨(hbx.cell (p := ⟨g33, k * 2, none⟩) G33w22.out).trans Lw22.out.1, (hbx.cell (p := ⟨g33, k * 2 + 1, none⟩) G33w22.out).trans Lw22.out.2⟩; have G33w23 := hide (Nat.lt_of_lt_of_le G33w22.out hbx.size)
            have Kw23 := hide hk8
            have hg8 : w4.heap.size ≤ g8 := by rw [e8]; exact Bw22.out.size
            have ne29 : g8 ≠ g29 := by have := G29w22.out; omega
            have ne33 : g8 ≠ g33 := by have := G33w22.out; omega
            clear hbx hk8 e8
            refine wpT_x (by simp only [List.getElem?_toArray, List.getElem?_cons_succ, List.getElem?_cons_zero]; try rfl) (by rfl) (fun K hK => ?_)
            refine wp_store_row 41 (.tmp 8) (.tmp 65) (by rfl) g8 #[.string ⟨(szName k).toArray⟩, .int .u8 ((szLev k).toNat : Int), .int .u16 ((szCat k).toNat : Int), .int .i64 (8 + (a0 : Int)), .int .i64 (8 + 2 * (a1 : Int)), .int .i64 (4 + (a2 : Int)), .int .i64 (1 + (a3 : Int)), .int .i64 (2 + (a4 : Int)), .int .i64 ((M : Int) - 1)] (by rfl) (by rfl) 41 _ Kw23.out (by kernel_rfl) (by rfl) (by simp [Value.oneCell']) ?_
            refine hK (fun W => Below w4.heap.size w4 W ∧ W.cell? ⟨g29, k, none⟩ = some (.string ⟨(szName k).toArray⟩) ∧ W.cell? ⟨g33, k * 2, none⟩ = some (.int .u8 ((szLev k).toNat : Int)) ∧ W.cell? ⟨g33, k * 2 + 1, none⟩ = some (.int .u16 ((szCat k).toNat : Int))) _ _ (fun _ h => h) ⟨below_setRow Bw23.out hg8 _, (World.cell?_of_block (a := ⟨g29, k, none⟩) (setRow_other _ g8 g29 _ (fun e => ne29 e.symm))).trans Nw23.out, (World.cell?_of_block (a := ⟨g33, k * 2, none⟩) (setRow_other _ g8 g33 _ (fun e => ne33 e.symm))).trans Lw23.out.1, (World.cell?_of_block (a := ⟨g33, k * 2 + 1, none⟩) (setRow_other _ g8 g33 _ (fun e => ne33 e.symm))).trans Lw23.out.2⟩ ?_
            clear hK K; try simp only [Act.put, List.setIfInBounds_toArray, List.set_cons_zero, List.set_cons_succ]
            refine wpT_nil ?_
            go_wp2
            go_meet
            case rel => exact ⟨g8, rfl, below_setRow Bw23.out hg8 _, hg8, setRow_heap _ _ _ _ _ _ Kw23.out⟩
          · refine wpT_x (by simp only [List.getElem?_toArray, List.getElem?_cons_succ, List.getElem?_cons_zero]; try rfl) (by rfl) (fun K hK => ?_)
            go_simp
            have hbx : Below w21.heap.size w21 (w21.alloc (.cells #[.string ByteArray.empty, .int .u8 0, .int .u16 0, .int .i64 0, .int .i64 0, .int .i64 0, .int .i64 0, .int .i64 0, .int .i64 0] 41)) := (Below.refl _ _).alloc (Nat.le_refl _) _
            refine hK (fun W => Below w4.heap.size w4 W ∧ W.cell? ⟨g29, k, none⟩ = some (.string ⟨(szName k).toArray⟩)) _ _ (fun _ h => h) ⟨Bw21.out.trans (hbx.mono Bw21.out.size), (hbx.cell (p := ⟨g29, k, none⟩) G29w21.out).trans Nw21.out⟩ ?_
            clear hK K hbx; try simp only [Act.put, List.setIfInBounds_toArray, List.set_cons_zero, List.set_cons_succ]
            refine at_world (fun W => ∃ g8, g8 = w21.heap.size ∧ Below w21.heap.size w21 W ∧ Blk W g8 41 #[.string ByteArray.empty, .int .u8 0, .int .u16 0, .int .i64 0, .int .i64 0, .int .i64 0, .int .i64 0, .int .i64 0, .int .i64 0]) ⟨_, rfl, (Below.refl _ _).alloc (Nat.le_refl _) _, Blk.new _ _ _⟩ (fun w22 h9 => ?_)
            obtain ⟨g8, e8, hbx, hk8⟩ := h9
            rw [← e8]
            have Bw22 := hide (Bw21.out.trans (hbx.mono Bw21.out.size))
            have Nw22 : Hid (w22.cell? ⟨g29, k, none⟩ = some (.string ⟨(szName k).toArray⟩)) := hide ((hbx.cell (p := ⟨g29, k, none⟩) G29w21.out).trans Nw21.out); have G29w22 := hide (Nat.lt_of_lt_of_le G29w21.out hbx.size)
            have Kw22 := hide hk8
            have hg8 : w4.heap.size ≤ g8 := by rw [e8]; exact Bw21.out.size
            have ne29 : g8 ≠ g29 := by have := G29w21.out; omega
            clear hbx hk8 e8
            refine wpT_x (by simp only [List.getElem?_toArray, List.getElem?_cons_succ, List.getElem?_cons_zero]; try rfl) (by rfl) (fun K hK => ?_)
            go_simp
            refine (labels_ok _).mono ?_
            rintro e w23 ⟨g33, hge, rfl, hbx, hgl, hcell⟩
            have hL1 := hcell _ _ (szLabels_at hk5).1
            have hL2 := hcell _ _ (szLabels_at hk5).2
            have Bw23 := hide (Bw22.out.trans (hbx.mono Bw22.out.size))
            have Nw23 : Hid (w23.cell? ⟨g29, k, none⟩ = some (.string ⟨(szName k).toArray⟩)) := hide ((hbx.cell (p := ⟨g29, k, none⟩) G29w22.out).trans Nw22.out); have G29w23 := hide (Nat.lt_of_lt_of_le G29w22.out hbx.size)
            have Kw23 := hide (Kw22.out.below hbx Kw22.out.lt)
            have Lw23 : Hid (w23.cell? ⟨g33, k * 2, none⟩ = some (.int .u8 ((szLev k).toNat : Int)) ∧ w23.cell? ⟨g33, k * 2 + 1, none⟩ = some (.int .u16 ((szCat k).toNat : Int))) := hide ⟨hL1, hL2⟩; have G33w23 := hide hgl
            have ne33 : g8 ≠ g33 := by have := Kw22.out.lt; omega
            refine hK (fun W => Below w4.heap.size w4 W ∧ W.cell? ⟨g29, k, none⟩ = some (.string ⟨(szName k).toArray⟩) ∧ W.cell? ⟨g33, k * 2, none⟩ = some (.int .u8 ((szLev k).toNat : Int)) ∧ W.cell? ⟨g33, k * 2 + 1, none⟩ = some (.int .u16 ((szCat k).toNat : Int))) _ _ (fun _ h => ⟨h.1, h.2.1⟩) ⟨Bw23.out, Nw23.out, hL1, hL2⟩ ?_
            clear hK K hbx hcell hL1 hL2 hge; try simp only [Act.put, List.setIfInBounds_toArray, List.set_cons_zero, List.set_cons_succ]
            iterate 3 (refine wpT_q (v := ?_) (by simp only [List.getElem?_toArray, List.getElem?_cons_succ, List.getElem?_cons_zero]; try rfl) (by rfl) (fun W hW => ?_) ?_; rotate_left; (focus ((obtain ⟨hWB, hW1, hW2, hW3⟩ := hW; obtain ⟨hWc, hWf⟩ := bcell hWB); go_simp; try with_reducible rfl)); try simp only [Act.put, List.setIfInBounds_toArray, List.set_cons_zero, List.set_cons_succ])
            refine wpT_x (by simp only [List.getElem?_toArray, List.getElem?_cons_succ, List.getElem?_cons_zero]; try rfl) (by rfl) (fun K hK => ?_)
            refine wp_store_row 41 (.tmp 8) (.tmp 65) (by rfl) g8 #[.string ⟨(szName k).toArray⟩, .int .u8 ((szLev k).toNat : Int), .int .u16 ((szCat k).toNat : Int), .int .i64 (8 + (a0 : Int)), .int .i64 (8 + 2 * (a1 : Int)), .int .i64 (4 + (a2 : Int)), .int .i64 (1 + (a3 : Int)), .int .i64 (2 + (a4 : Int)), .int .i64 ((M : Int) - 1)] (by rfl) (by rfl) 41 _ Kw23.out (by kernel_rfl) (by rfl) (by simp [Value.oneCell']) ?_
            refine hK (fun W => Below w4.heap.size w4 W ∧ W.cell? ⟨g29, k, none⟩ = some (.string ⟨(szName k).toArray⟩) ∧ W.cell? ⟨g33, k * 2, none⟩ = some (.int .u8 ((szLev k).toNat : Int)) ∧ W.cell? ⟨g33, k * 2 + 1, none⟩ = some (.int .u16 ((szCat k).toNat : Int))) _ _ (fun _ h => h) ⟨below_setRow Bw23.out hg8 _, (World.cell?_of_block (a := ⟨g29, k, none⟩) (setRow_other _ g8 g29 _ (fun e => ne29 e.symm))).trans Nw23.out, (World.cell?_of_block (a := ⟨g33, k * 2, none⟩) (setRow_other _ g8 g33 _ (fun e => ne33 e.symm))).trans Lw23.out.1, (World.cell?_of_block (a := ⟨g33, k * 2 + 1, none⟩) (setRow_other _ g8 g33 _ (fun e => ne33 e.symm))).trans Lw23.out.2⟩ ?_
            clear hK K; try simp only [Act.put, List.setIfInBounds_toArray, List.set_cons_zero, List.set_cons_succ]
            refine wpT_nil ?_
            go_wp2
            go_meet
            case rel => exact ⟨g8, rfl, below_setRow Bw23.out hg8 _, hg8, setRow_heap _ _ _ _ _ _ Kw23.out⟩
        · refine wpT_x (by simp only [List.getElem?_toArray, List.getElem?_cons_succ, List.getElem?_cons_zero]; try rfl) (by rfl) (fun K hK => ?_)
          go_simp
          have hbx : Below w20.heap.size w20 (w20.alloc (.cells #[.string ByteArray.empty, .int .u8 0, .int .u16 0, .int .i64 0, .int .i64 0, .int .i64 0, .int .i64 0, .int .i64 0, .int .i64 0] 41)) := (Below.refl _ _).alloc (Nat.le_refl _) _
          refine hK (fun W => Below w4.heap.size w4 W) _ _ (fun _ h => h) (Bw20.out.trans (hbx.mono Bw20.out.size)) ?_
          clear hK K hbx; try simp only [Act.put, List.setIfInBounds_toArray, List.set_cons_zero, List.set_cons_succ]
          refine at_world (fun W => ∃ g8, g8 = w20.heap.size ∧ Below w20.heap.size w20 W ∧ Blk W g8 41 #[.string ByteArray.empty, .int .u8 0, .int .u16 0, .int .i64 0, .int .i64 0, .int .i64 0, .int .i64 0, .int .i64 0, .int .i64 0]) ⟨_, rfl, (Below.refl _ _).alloc (Nat.le_refl _) _, Blk.new _ _ _⟩ (fun w21 h9 => ?_)
          obtain ⟨g8, e8, hbx, hk8⟩ := h9
          rw [← e8]
          have Bw21 := hide (Bw20.out.trans (hbx.mono Bw20.out.size))
          have Kw21 := hide hk8
          have hg8 : w4.heap.size ≤ g8 := by rw [e8]; exact Bw20.out.size
          clear hbx hk8 e8
          refine wpT_x (by simp only [List.getElem?_toArray, List.getElem?_cons_succ, List.getElem?_cons_zero]; try rfl) (by rfl) (fun K hK => ?_)
          go_simp
          refine (names_ok _).mono ?_
          rintro e w22 ⟨g29, hge, rfl, hbx, hgl, hcell⟩
          have hN := hcell k _ (szNames_at hk5)
          have Bw22 := hide (Bw21.out.trans (hbx.mono Bw21.out.size))
          have Kw22 := hide (Kw21.out.below hbx Kw21.out.lt)
          have Nw22 : Hid (w22.cell? ⟨g29, k, none⟩ = some (.string ⟨(szName k).toArray⟩)) := hide hN; have G29w22 := hide hgl
          have ne29 : g8 ≠ g29 := by have := Kw21.out.lt; omega
          refine hK (fun W => Below w4.heap.size w4 W ∧ W.cell? ⟨g29, k, none⟩ = some (.string ⟨(szName k).toArray⟩)) _ _ (fun _ h => h.1) ⟨Bw22.out, hN⟩ ?_
          clear hK K hbx hcell hN hge; try simp only [Act.put, List.setIfInBounds_toArray, List.set_cons_zero, List.set_cons_succ]
          iterate 2 (refine wpT_q (v := ?_) (by simp only [List.getElem?_toArray, List.getElem?_cons_succ, List.getElem?_cons_zero]; try rfl) (by rfl) (fun W hW => ?_) ?_; rotate_left; (focus ((obtain ⟨hWB, hW1⟩ := hW; obtain ⟨hWc, hWf⟩ := bcell hWB); go_simp; try with_reducible rfl)); try simp only [Act.put, List.setIfInBounds_toArray, List.set_cons_zero, List.set_cons_succ])
          refine wpT_x (by simp only [List.getElem?_toArray, List.getElem?_cons_succ, List.getElem?_cons_zero]; try rfl) (by rfl) (fun K hK => ?_)
          go_simp
          refine (labels_ok _).mono ?_
          rintro e w23 ⟨g33, hge, rfl, hbx, hgl, hcell⟩
          have hL1 := hcell _ _ (szLabels_at hk5).1
          have hL2 := hcell _ _ (szLabels_at hk5).2
          have Bw23 := hide (Bw22.out.trans (hbx.mono Bw22.out.size))
          have Nw23 : Hid (w23.cell? ⟨g29, k, none⟩ = some (.string ⟨(szName k).toArray⟩)) := hide ((hbx.cell (p := ⟨g29, k, none⟩) G29w22.out).trans Nw22.out); have G29w23 := hide (Nat.lt_of_lt_of_le G29w22.out hbx.size)
          have Kw23 := hide (Kw22.out.below hbx Kw22.out.lt)
          have Lw23 : Hid (w23.cell? ⟨g33, k * 2, none⟩ = some (.int .u8 ((szLev k).toNat : Int)) ∧ w23.cell? ⟨g33, k * 2 + 1, none⟩ = some (.int .u16 ((szCat k).toNat : Int))) := hide ⟨hL1, hL2⟩; have G33w23 := hide hgl
          have ne33 : g8 ≠ g33 := by have := Kw22.out.lt; omega
          refine hK (fun W => Below w4.heap.size w4 W ∧ W.cell? ⟨g29, k, none⟩ = some (.string ⟨(szName k).toArray⟩) ∧ W.cell? ⟨g33, k * 2, none⟩ = some (.int .u8 ((szLev k).toNat : Int)) ∧ W.cell? ⟨g33, k * 2 + 1, none⟩ = some (.int .u16 ((szCat k).toNat : Int))) _ _ (fun _ h => ⟨h.1, h.2.1⟩) ⟨Bw23.out, Nw23.out, hL1, hL2⟩ ?_
          clear hK K hbx hcell hL1 hL2 hge; try simp only [Act.put, List.setIfInBounds_toArray, List.set_cons_zero, List.set_cons_succ]
          iterate 3 (refine wpT_q (v := ?_) (by simp only [List.getElem?_toArray, List.getElem?_cons_succ, List.getElem?_cons_zero]; try rfl) (by rfl) (fun W hW => ?_) ?_; rotate_left; (focus ((obtain ⟨hWB, hW1, hW2, hW3⟩ := hW; obtain ⟨hWc, hWf⟩ := bcell hWB); go_simp; try with_reducible rfl)); try simp only [Act.put, List.setIfInBounds_toArray, List.set_cons_zero, List.set_cons_succ])
          refine wpT_x (by simp only [List.getElem?_toArray, List.getElem?_cons_succ, List.getElem?_cons_zero]; try rfl) (by rfl) (fun K hK => ?_)
          refine wp_store_row 41 (.tmp 8) (.tmp 65) (by rfl) g8 #[.string ⟨(szName k).toArray⟩, .int .u8 ((szLev k).toNat : Int), .int .u16 ((szCat k).toNat : Int), .int .i64 (8 + (a0 : Int)), .int .i64 (8 + 2 * (a1 : Int)), .int .i64 (4 + (a2 : Int)), .int .i64 (1 + (a3 : Int)), .int .i64 (2 + (a4 : Int)), .int .i64 ((M : Int) - 1)] (by rfl) (by rfl) 41 _ Kw23.out (by kernel_rfl) (by rfl) (by simp [Value.oneCell']) ?_
          refine hK (fun W => Below w4.heap.size w4 W ∧ W.cell? ⟨g29, k, none⟩ = some (.string ⟨(szName k).toArray⟩) ∧ W.cell? ⟨g33, k * 2, none⟩ = some (.int .u8 ((szLev k).toNat : Int)) ∧ W.cell? ⟨g33, k * 2 + 1, none⟩ = some (.int .u16 ((szCat k).toNat : Int))) _ _ (fun _ h => h) ⟨below_setRow Bw23.out hg8 _, (World.cell?_of_block (a := ⟨g29, k, none⟩) (setRow_other _ g8 g29 _ (fun e => ne29 e.symm))).trans Nw23.out, (World.cell?_of_block (a := ⟨g33, k * 2, none⟩) (setRow_other _ g8 g33 _ (fun e => ne33 e.symm))).trans Lw23.out.1, (World.cell?_of_block (a := ⟨g33, k * 2 + 1, none⟩) (setRow_other _ g8 g33 _ (fun e => ne33 e.symm))).trans Lw23.out.2⟩ ?_
          clear hK K; try simp only [Act.put, List.setIfInBounds_toArray, List.set_cons_zero, List.set_cons_succ]
          refine wpT_nil ?_
          go_wp2
          go_meet
          case rel => exact ⟨g8, rfl, below_setRow Bw23.out hg8 _, hg8, setRow_heap _ _ _ _ _ _ Kw23.out⟩
      case rest =>
        obtain ⟨g8, rfl, hbc, hg8, hk8⟩ := hcut
        clear z0 z1 z2 z3 z4 zl fa0 fa1 fa2 fa3 fa4 fb0 fb1 fb2 fb3 fb4 fc0 fc1 fd1 fc2 fc3 fc4 fM
        have B8 := hide (Below.then_ HB4.out HB4.out.size hbc)
        have hrow := own_below HOR.out B8.out
        have hnob : (Value.slice Ak k ck).ownBlock ≠ some g8 := fun e => by have := (own_block_ge HOR.out e).2; have := HB4.out.size; omega
        have c0 := hk8.cell 0
        have c1 := hk8.cell 1
        have c2 := hk8.cell 2
        have c3 := hk8.cell 3
        have c4 := hk8.cell 4
        have c5 := hk8.cell 5
        have c6 := hk8.cell 6
        have c7 := hk8.cell 7
        have c8 := hk8.cell 8
        have f8 := hk8.frozen 8
        have l8 := hk8.lt
        have HROW := hide hrow
        have HNOB := hide hnob
        have hg8w : wr.heap.size ≤ g8 := Nat.le_trans HB4.out.size hg8
        have hBW := HBR.out.size
        clear hbc hk8 hrow hnob
        obtain ⟨r0, hr0, r1, r2, r3⟩ := info_parts info_reg
        have HCELLS : Hid ((szReg0 M H k).cells = (#[.string ⟨(szName k).toArray⟩, .int .u8 ((szLev k).toNat : Int), .int .u16 ((szCat k).toNat : Int), .int .i64 (8 + (a0 : Int)), .int .i64 (8 + 2 * (a1 : Int)), .int .i64 (4 + (a2 : Int)), .int .i64 (1 + (a3 : Int)), .int .i64 (2 + (a4 : Int)), .int .i64 ((szClear0 M k : Nat) : Int)] : Array Value).toList) := by
          obtain ⟨ha0, ha1, ha2, ha3, ha4⟩ := HA.out
          obtain ⟨hh0, hh1, hh2, hh3, hh4⟩ := HHS.out
          have e0 : (h0.toNat : Int) % 60 = (a0 : Int) := by omega
          have e1 : (h1.toNat : Int) % 12 = (a1 : Int) := by omega
          have e2 : (h2.toNat : Int) % 40 = (a2 : Int) := by omega
          have e3 : (h3.toNat : Int) % 6 = (a3 : Int) := by omega
          have e4 : (h4.toNat : Int) % 14 = (a4 : Int) := by omega
          simp only [RegV.cells, szReg0, szReg, hh0, hh1, hh2, hh3, hh4, e0, e1, e2, e3, e4]
          exact hide trivial
        by_cases m4 : M < 4
        · by_cases k0 : 0 < k
          · by_cases m2 : M = 2
            · have u1 : decide ((M : Int) < 4) = true := by simp; omega
              have u1' : (M : Int) < 4 := by omega
              have u2 : decide ((0 : Int) < (k : Int)) = true := by simp; omega
              have u2' : 0 < k := by omega
              have u3 : ((M : Int) == 2) = true := by simp; omega
              have HM2 := hide m2
              clear m2
              have hown9 := hide (ownsRow_setCell_other (a := ⟨g8, 8, none⟩) (ownsRow_setCell_other (a := ⟨g8, 8, none⟩) HROW.out HNOB.out (.int .i64 (k : Int))) HNOB.out (.int .i64 1))
              have hb9 := hide ((B8.out.setCell (p := ⟨g8, 8, none⟩) hg8w (.int .i64 (k : Int))).setCell (p := ⟨g8, 8, none⟩) hg8w (.int .i64 1))
              go_wp2_with (at_builtin; refine wpList_append_one rfl (.tmp 77) (.tmp 79) 75 rfl w1.heap.size 41 r0 (.agg #[.string ByteArray.empty, .int .u8 0, .int .u16 0, .int .i64 0, .int .i64 0, .int .i64 0, .int .i64 0, .int .i64 0, .int .i64 0]) 9 72 Tryz.underlying75 hr0 r1 r2 r3 rfl (by decide) Ak ck k (rcellsOf ((List.range k).map (szReg0 M H))) (#[.string ⟨(szName k).toArray⟩, .int .u8 ((szLev k).toNat : Int), .int .u16 ((szCat k).toNat : Int), .int .i64 (8 + (a0 : Int)), .int .i64 (8 + 2 * (a1 : Int)), .int .i64 (4 + (a2 : Int)), .int .i64 (1 + (a3 : Int)), .int .i64 (2 + (a4 : Int)), .int .i64 1]).toList ((wc.setCell ⟨g8, 8, none⟩ (.int .i64 (k : Int))).setCell ⟨g8, 8, none⟩ (.int .i64 1)) rfl hown9.out (by simp [World.setCell]) (by simp [Act.eval]) rfl (by simp [Value.oneCell']) (by omega) (by decide) (by first | exact Nat.le_trans hBW hb9.out.size | omega) ?_; intro A' c' w9 hown hg hb hat)
              go_roundg (M - (k + 1))
              case measure => omega
              case rel =>
                have hcl : ((szClear0 M k : Nat) : Int) = 1 := by unfold szClear0; rw [if_pos HM2.out]; rfl
                have hrw := HCELLS.out
                rw [hcl] at hrw
                refine ⟨k + 1, A', c', by omega, rfl, by go_num, rfl, HBR.out.trans ((hb9.out.mono hBW).trans hb), ?_⟩
                rw [List.range_succ, List.map_append, List.map_singleton, rcellsOf_snoc, hrw]
                exact hown
            · have u1 : decide ((M : Int) < 4) = true := by simp; omega
              have u1' : (M : Int) < 4 := by omega
              have u2 : decide ((0 : Int) < (k : Int)) = true := by simp; omega
              have u2' : 0 < k := by omega
              have u3 : ((M : Int) == 2) = false := by simp; omega
              have hown9 := hide (ownsRow_setCell_other (a := ⟨g8, 8, none⟩) HROW.out HNOB.out (.int .i64 (k : Int)))
              have hb9 := hide (B8.out.setCell (p := ⟨g8, 8, none⟩) hg8w (.int .i64 (k : Int)))
              go_wp2_with (at_builtin; refine wpList_append_one rfl (.tmp 77) (.tmp 79) 75 rfl w1.heap.size 41 r0 (.agg #[.string ByteArray.empty, .int .u8 0, .int .u16 0, .int .i64 0, .int .i64 0, .int .i64 0, .int .i64 0, .int .i64 0, .int .i64 0]) 9 72 Tryz.underlying75 hr0 r1 r2 r3 rfl (by decide) Ak ck k (rcellsOf ((List.range k).map (szReg0 M H))) (#[.string ⟨(szName k).toArray⟩, .int .u8 ((szLev k).toNat : Int), .int .u16 ((szCat k).toNat : Int), .int .i64 (8 + (a0 : Int)), .int .i64 (8 + 2 * (a1 : Int)), .int .i64 (4 + (a2 : Int)), .int .i64 (1 + (a3 : Int)), .int .i64 (2 + (a4 : Int)), .int .i64 (k : Int)]).toList (wc.setCell ⟨g8, 8, none⟩ (.int .i64 (k : Int))) rfl hown9.out (by simp [World.setCell]) (by simp [Act.eval]) rfl (by simp [Value.oneCell']) (by omega) (by decide) (by first | exact Nat.le_trans hBW hb9.out.size | omega) ?_; intro A' c' w9 hown hg hb hat)
              go_roundg (M - (k + 1))
              case measure => omega
              case rel =>
                have hcl : ((szClear0 M k : Nat) : Int) = (k : Int) := by unfold szClear0; rw [if_neg m2, if_pos ⟨m4, k0⟩]
                have hrw := HCELLS.out
                rw [hcl] at hrw
                refine ⟨k + 1, A', c', by omega, rfl, by go_num, rfl, HBR.out.trans ((hb9.out.mono hBW).trans hb), ?_⟩
                rw [List.range_succ, List.map_append, List.map_singleton, rcellsOf_snoc, hrw]
                exact hown
          · by_cases m2 : M = 2
            · have u1 : decide ((M : Int) < 4) = true := by simp; omega
              have u1' : (M : Int) < 4 := by omega
              have u2 : decide ((0 : Int) < (k : Int)) = false := by have hk0 : k = 0 := (by omega); rw [hk0]; rfl
              have u2' : ¬ 0 < k := by omega
              have u3 : ((M : Int) == 2) = true := by simp; omega
              have HM2 := hide m2
              clear m2
              have hown9 := hide (ownsRow_setCell_other (a := ⟨g8, 8, none⟩) HROW.out HNOB.out (.int .i64 1))
              have hb9 := hide (B8.out.setCell (p := ⟨g8, 8, none⟩) hg8w (.int .i64 1))
              go_wp2_with (at_builtin; refine wpList_append_one rfl (.tmp 77) (.tmp 79) 75 rfl w1.heap.size 41 r0 (.agg #[.string ByteArray.empty, .int .u8 0, .int .u16 0, .int .i64 0, .int .i64 0, .int .i64 0, .int .i64 0, .int .i64 0, .int .i64 0]) 9 72 Tryz.underlying75 hr0 r1 r2 r3 rfl (by decide) Ak ck k (rcellsOf ((List.range k).map (szReg0 M H))) (#[.string ⟨(szName k).toArray⟩, .int .u8 ((szLev k).toNat : Int), .int .u16 ((szCat k).toNat : Int), .int .i64 (8 + (a0 : Int)), .int .i64 (8 + 2 * (a1 : Int)), .int .i64 (4 + (a2 : Int)), .int .i64 (1 + (a3 : Int)), .int .i64 (2 + (a4 : Int)), .int .i64 1]).toList (wc.setCell ⟨g8, 8, none⟩ (.int .i64 1)) rfl hown9.out (by simp [World.setCell]) (by simp [Act.eval]) rfl (by simp [Value.oneCell']) (by omega) (by decide) (by first | exact Nat.le_trans hBW hb9.out.size | omega) ?_; intro A' c' w9 hown hg hb hat)
              go_roundg (M - (k + 1))
              case measure => omega
              case rel =>
                have hcl : ((szClear0 M k : Nat) : Int) = 1 := by unfold szClear0; rw [if_pos HM2.out]; rfl
                have hrw := HCELLS.out
                rw [hcl] at hrw
                refine ⟨k + 1, A', c', by omega, rfl, by go_num, rfl, HBR.out.trans ((hb9.out.mono hBW).trans hb), ?_⟩
                rw [List.range_succ, List.map_append, List.map_singleton, rcellsOf_snoc, hrw]
                exact hown
            · have u1 : decide ((M : Int) < 4) = true := by simp; omega
              have u1' : (M : Int) < 4 := by omega
              have u2 : decide ((0 : Int) < (k : Int)) = false := by have hk0 : k = 0 := (by omega); rw [hk0]; rfl
              have u2' : ¬ 0 < k := by omega
              have u3 : ((M : Int) == 2) = false := by simp; omega
              have hown9 := hide HROW.out
              have hb9 := hide B8.out
              go_wp2_with (at_builtin; refine wpList_append_one rfl (.tmp 77) (.tmp 79) 75 rfl w1.heap.size 41 r0 (.agg #[.string ByteArray.empty, .int .u8 0, .int .u16 0, .int .i64 0, .int .i64 0, .int .i64 0, .int .i64 0, .int .i64 0, .int .i64 0]) 9 72 Tryz.underlying75 hr0 r1 r2 r3 rfl (by decide) Ak ck k (rcellsOf ((List.range k).map (szReg0 M H))) (#[.string ⟨(szName k).toArray⟩, .int .u8 ((szLev k).toNat : Int), .int .u16 ((szCat k).toNat : Int), .int .i64 (8 + (a0 : Int)), .int .i64 (8 + 2 * (a1 : Int)), .int .i64 (4 + (a2 : Int)), .int .i64 (1 + (a3 : Int)), .int .i64 (2 + (a4 : Int)), .int .i64 ((M : Int) - 1)]).toList wc rfl hown9.out (by simp [World.setCell]) (by simp [Act.eval]) rfl (by simp [Value.oneCell']) (by omega) (by decide) (by first | exact Nat.le_trans hBW hb9.out.size | omega) ?_; intro A' c' w9 hown hg hb hat)
              go_roundg (M - (k + 1))
              case measure => omega
              case rel =>
                have hcl : ((szClear0 M k : Nat) : Int) = ((M : Int) - 1) := by unfold szClear0; rw [if_neg m2, if_neg (by omega)]; omega
                have hrw := HCELLS.out
                rw [hcl] at hrw
                refine ⟨k + 1, A', c', by omega, rfl, by go_num, rfl, HBR.out.trans ((hb9.out.mono hBW).trans hb), ?_⟩
                rw [List.range_succ, List.map_append, List.map_singleton, rcellsOf_snoc, hrw]
                exact hown
        · have m2 : ¬ M = 2 := by omega
          have u1 : decide ((M : Int) < 4) = false := by simp; omega
          have u1' : ¬ (M : Int) < 4 := by omega
          have u3 : ((M : Int) == 2) = false := by simp; omega
          have hown9 := hide HROW.out
          have hb9 := hide B8.out
          go_wp2_with (at_builtin; refine wpList_append_one rfl (.tmp 77) (.tmp 79) 75 rfl w1.heap.size 41 r0 (.agg #[.string ByteArray.empty, .int .u8 0, .int .u16 0, .int .i64 0, .int .i64 0, .int .i64 0, .int .i64 0, .int .i64 0, .int .i64 0]) 9 72 Tryz.underlying75 hr0 r1 r2 r3 rfl (by decide) Ak ck k (rcellsOf ((List.range k).map (szReg0 M H))) (#[.string ⟨(szName k).toArray⟩, .int .u8 ((szLev k).toNat : Int), .int .u16 ((szCat k).toNat : Int), .int .i64 (8 + (a0 : Int)), .int .i64 (8 + 2 * (a1 : Int)), .int .i64 (4 + (a2 : Int)), .int .i64 (1 + (a3 : Int)), .int .i64 (2 + (a4 : Int)), .int .i64 ((M : Int) - 1)]).toList wc rfl hown9.out (by simp [World.setCell]) (by simp [Act.eval]) rfl (by simp [Value.oneCell']) (by omega) (by decide) (by first | exact Nat.le_trans hBW hb9.out.size | omega) ?_; intro A' c' w9 hown hg hb hat)
          go_roundg (M - (k + 1))
          case measure => omega
          case rel =>
            have hcl : ((szClear0 M k : Nat) : Int) = ((M : Int) - 1) := by unfold szClear0; rw [if_neg m2, if_neg (by omega)]; omega
            have hrw := HCELLS.out
            rw [hcl] at hrw
            refine ⟨k + 1, A', c', by omega, rfl, by go_num, rfl, HBR.out.trans ((hb9.out.mono hBW).trans hb), ?_⟩
            rw [List.range_succ, List.map_append, List.map_singleton, rcellsOf_snoc, hrw]
            exact hown
    · obtain rfl : k = M := by omega
      obtain ⟨hbr, hor⟩ := hA.out
      have HX2 := HX1.out.below hbr HX1.out.lt
      have HBR := hide hbr
      have HOR := hide hor
      clear hA hbr hor
      obtain ⟨g5, hA5, hg5b, hg5, hcr5⟩ := own_base HOR.out (by omega)
      have hr0 : ((List.range k).map (szReg0 k H))[0]? = some (szReg0 k H 0) := by rw [List.getElem?_map, List.getElem?_range (by omega)]; rfl
      have y5 := hcr5 _ _ (flat_get RegV.cells 9 (fun _ => rfl) _ 0 _ hr0 8 _ rfl)
      simp only [Nat.zero_mul, Nat.zero_add] at y5
      subst hA5
      have f5 := own_frozen (i := 8) HOR.out
      have hk0z : (0 : Int) < (k : Int) := by omega
      clear hcr5 hr0
      go_upto_if 83 with (fail)
      go_cut [] from 84 to 86 (fun wd => Below w1.heap.size w1 wd ∧ wd.ownsRow w1.heap.size 41 9 (.slice (some ⟨g5, 0, none⟩) k ck) k (rcellsOf ((List.range k).map (szReg k H))))
      case first =>
        by_cases m3 : k = 3
        · have u3 : ((k : Int) == 3) = true := by simp; omega
          go_wp2
          go_meet
          case rel =>
            refine ⟨HBR.out.setCell hg5b _, ?_⟩
            have h2 := own_set (i := 8) (u := .int .i64 1) HOR.out
            subst m3
            rw [show (8 : Nat) = 0 * 9 + 8 from rfl, rcells_set _ 0 (szReg0 3 H 0) 1 rfl, szReg0_three] at h2
            exact h2
        · have u3 : ((k : Int) == 3) = false := by simp; omega
          go_wp2
          go_meet
          case rel => exact ⟨HBR.out, by rw [← szReg0_eq hM2 m3]; exact HOR.out⟩
      case rest =>
        clear y5 f5
        obtain ⟨hbr, hor⟩ := hcut
        have hX := HX1.out.below hbr HX1.out.lt
        have x26 := (hX.cell 26).trans (szCells_trust hH)
        have xl := hX.lt
        have hTn : T.length = n := by have := hT.1; rw [bvs_length] at this; omega
        have HTN := hide hTn
        have HBR2 := hide hbr
        have HOR2 := hide hor
        have HT := hide hT
        clear hX hbr hor hTn hT HBR HOR
        go_wp2_with fail
        go_loopg [9, 90] n (fun g x9 x90 wr => ∃ (i : Nat) (K : List MarkV) (A2 : Option Addr) (c2 : Nat), i ≤ n ∧ g = n - i ∧ x9 = .slice A2 K.length c2 ∧ x90 = .int .i64 (i : Int) ∧ Below w1.heap.size w1 wr ∧
          wr.ownsRow w1.heap.size 41 9 (.slice (some ⟨g5, 0, none⟩) k ck) k (rcellsOf ((List.range k).map (szReg k H))) ∧ wr.ownsRow w1.heap.size 199 2 (.slice A2 K.length c2) K.length (mcellsOf K) ∧ Hid (MarksOk k K ∧ K.length ≤ i))
        case atStart => exact ⟨0, [], none, 0, Nat.zero_le _, rfl, rfl, rfl, HBR2.out, HOR2.out, ⟨rfl, .inl ⟨rfl, rfl⟩⟩, hide ⟨⟨by simp, by simp, by simp⟩, Nat.zero_le _⟩⟩
        case round =>
          obtain ⟨i, K, A2, c2, hi, hg, rfl, rfl, hbr, o1, o2, hK⟩ := hrel
          rcases Nat.lt_or_ge i n with hin | hin
          · have hiz : (i : Int) < n := by omega
            have hbw := HB1.out.trans (hbr.mono HB1.out.size)
            obtain ⟨bt, ot, hA, hbt, hcell⟩ := (HT.out.below hbw).byte hin
            have hbt2 : bt < wr.heap.size := Nat.lt_of_lt_of_le hbt hbw.size
            have jx := hcell i hin
            subst hA
            generalize T.getD i 0 = x at jx
            have hx256 := x.toNat_lt
            obtain ⟨p, hp⟩ : ∃ p, p = x.toNat % k := ⟨_, rfl⟩
            obtain ⟨q, hq⟩ : ∃ q, q = x.toNat / 8 % 4 := ⟨_, rfl⟩
            obtain ⟨r8, hr8⟩ : ∃ r8, r8 = x.toNat / 8 := ⟨_, rfl⟩
            have hpk : p < k := by rw [hp]; exact Nat.mod_lt _ (by omega)
            have hq4 : q < 4 := by rw [hq]; exact Nat.mod_lt _ (by omega)
            have e1 : IntKind.u8.wrap (k : Int) = (k : Int) := by rw [IntKind.wrap_u8]; omega
            have e2 : (x.toNat : Int).tmod (k : Int) = (p : Int) := by rw [IntWalk.rem_in _ _ (by omega), hp]; rfl
            have e3 : ((k : Int) == 0) = false := by simp; omega
            have e4 : (x.toNat : Int).tdiv 8 = (r8 : Int) := by rw [Int.tdiv_eq_ediv_of_nonneg (by omega), hr8]; rfl
            have e5 : (r8 : Int).tmod 4 = (q : Int) := by rw [IntWalk.rem_in _ _ (by omega), hq, ← hr8]; rfl
            have e6 : IntKind.u16.wrap (q : Int) = (q : Int) := by rw [IntKind.wrap_u16]; omega
            have e7 : IntKind.u16.wrap (4 + (q : Int)) = 4 + (q : Int) := by rw [IntKind.wrap_u16]; omega
            have BB := hide hbr
            have O1 := hide o1
            have O2 := hide o2
            have HQ8 : Hid ((r8 : Int) % 4 = (q : Int)) := hide (by rw [hq, ← hr8]; rfl)
            clear hp hq hr8 hbr o1 o2 hcell hbw x26 xl hx256
            go_wp2_with fail
            refine at_world (fun W => ∃ b12, b12 = wr.heap.size ∧ Below wr.heap.size wr W ∧ Blk W b12 199 #[.int .u8 (p : Int), .int .u16 (4 + (q : Int))]) ⟨_, rfl, (Below.refl _ _).alloc (Nat.le_refl _) _, by rw [← HQ8.out]; exact Blk.new _ _ _⟩ (fun w7 h7 => ?_)
            obtain ⟨b12, e12, hb7, hk7⟩ := h7
            rw [← e12]
            have B7 := hide (BB.out.trans (hb7.mono BB.out.size))
            have P1 := hide (own_below O1.out hb7)
            have P2 := hide (own_below O2.out hb7)
            have z0 := hk7.cell 0
            have z1 := hk7.cell 1
            have zl := hk7.lt
            have hpu : (UInt8.ofNat p).toNat = p := by simp; omega
            have hqu : (UInt16.ofNat (4 + q)).toNat = 4 + q := by simp; omega
            obtain ⟨mk, hmk⟩ : ∃ mk : MarkV, mk = (UInt8.ofNat p, UInt16.ofNat (4 + q)) := ⟨_, rfl⟩
            have HPQ := hide (And.intro hpu (And.intro hqu hmk))
            clear hmk
            clear e12 hb7 hk7 jx e1 e2 e3 e4 e5 e6 e7 hbt hbt2 hpu hqu
            have hK9 : K.length ≤ 9 := hK.out.1.2.2
            go_loopg [13, 109] K.length (fun g x13 x109 wr => ∃ (j : Nat) (bb : Bool), j ≤ K.length ∧ g = K.length - j ∧ x13 = .bool bb ∧ x109 = .int .i64 (j : Int) ∧ Below w7.heap.size w7 wr ∧ Hid (bb = (decide (8 < i) || decide (mk ∈ K.take j))))
            case atStart => exact ⟨0, decide (8 < i), Nat.zero_le _, rfl, by congr 1; simp; omega, rfl, Below.refl _ _, hide (by simp)⟩
            case round =>
              obtain ⟨j, bb, hj, hg2, rfl, rfl, hbx, hbb⟩ := hrel
              rcases Nat.lt_or_ge j K.length with hjK | hjK
              · have hjz : (j : Int) < K.length := by omega
                obtain ⟨y, hy⟩ : ∃ y, K[j]? = some y := ⟨_, List.getElem?_eq_getElem hjK⟩
                obtain ⟨g2, hA2, _, hg2l, hcr2⟩ := own_base (own_below P2.out hbx) (by omega)
                have v0 := hcr2 _ _ (flat_get markCells 2 (fun _ => rfl) K j y hy 0 _ rfl)
                have v1 := hcr2 _ _ (flat_get markCells 2 (fun _ => rfl) K j y hy 1 _ rfl)
                simp only [Nat.add_zero] at v0
                have zz0 := (hbx.cell (p := ⟨b12, 0, none⟩) zl).trans z0
                have zz1 := (hbx.cell (p := ⟨b12, 1, none⟩) zl).trans z1
                have zzl := Nat.lt_of_lt_of_le zl hbx.size
                have htk : K.take (j + 1) = K.take j ++ [y] := by rw [List.take_add_one, hy]; rfl
                have HBX3 := hide (hbx.alloc hbx.size (.cells #[.int .u8 (y.1.toNat : Int), .int .u16 (y.2.toNat : Int)] 199))
                have HTK := hide htk
                subst hA2
                clear hcr2 hbx htk hy
                cases bb with
                | true =>
                  go_wp2
                  go_roundg (K.length - (j + 1))
                  case measure => omega
                  case rel =>
                    refine ⟨j + 1, true, by omega, rfl, rfl, by go_num, HBX3.out, hide ?_⟩
                    have h := hbb.out
                    rw [HTK.out]
                    simp only [List.mem_append]
                    rcases Bool.or_eq_true_iff.1 h.symm with h | h
                    · rw [h]; rfl
                    · have h2 := of_decide_eq_true h; simp only [h2, true_or, decide_true, Bool.or_true]
                | false =>
                  obtain ⟨hpu, hqu, hmk⟩ := HPQ.out
                  by_cases hym : y = mk
                  · have ey1 : (y.1.toNat : Int) = (p : Int) := by rw [hym, hmk, hpu]
                    have ey2 : (y.2.toNat : Int) = 4 + (q : Int) := by rw [hym, hmk, hqu]; simp
                    rw [ey1, ey2] at HBX3
                    change wr.cell? _ = some (Value.int .u8 (y.1.toNat : Int)) at v0
                    change wr.cell? _ = some (Value.int .u16 (y.2.toNat : Int)) at v1
                    rw [ey1] at v0
                    rw [ey2] at v1
                    have HYM := hide hym
                    clear hym hpu hqu hmk ey1 ey2
                    go_wp2
                    go_roundg (K.length - (j + 1))
                    case measure => omega
                    case rel =>
                      refine ⟨j + 1, true, by omega, rfl, rfl, by go_num, HBX3.out, hide ?_⟩
                      rw [HTK.out, HYM.out]
                      simp
                  · have hbb2 : false = (decide (8 < i) || decide (mk ∈ K.take (j + 1))) := by
                      have h := hbb.out
                      have h2 := Bool.or_eq_false_iff.1 h.symm
                      have h3 : mk ∉ K.take j := of_decide_eq_false h2.2
                      rw [HTK.out, h2.1]
                      simp only [List.mem_append, List.mem_singleton, h3, false_or, Bool.false_or]
                      simp only [show (mk = y) ↔ False from ⟨fun e => hym e.symm, False.elim⟩, decide_false]
                    have HBB2 := hide hbb2
                    change wr.cell? _ = some (Value.int .u8 (y.1.toNat : Int)) at v0
                    change wr.cell? _ = some (Value.int .u16 (y.2.toNat : Int)) at v1
                    by_cases ey1 : y.1.toNat = p
                    · have ey2 : ¬ y.2.toNat = 4 + q := fun e => hym (by
                        rw [hmk]
                        exact Prod.ext (UInt8.toNat_inj.1 (ey1.trans hpu.symm)) (UInt16.toNat_inj.1 (e.trans hqu.symm)))
                      have u1 : ((y.2.toNat : Int) == 4 + (q : Int)) = false := by simp; omega
                      rw [ey1] at HBX3 v0
                      clear hym hpu hqu hmk ey1 ey2 hbb2
                      go_wp2
                      go_roundg (K.length - (j + 1))
                      case measure => omega
                      case rel => exact ⟨j + 1, false, by omega, rfl, rfl, by go_num, HBX3.out, HBB2⟩
                    · have u1 : ((y.1.toNat : Int) == (p : Int)) = false := by simp; omega
                      clear hym hpu hqu hmk ey1 hbb2
                      go_wp2
                      go_roundg (K.length - (j + 1))
                      case measure => omega
                      case rel => exact ⟨j + 1, false, by omega, rfl, rfl, by go_num, HBX3.out, HBB2⟩
              · obtain rfl : j = K.length := by omega
                have hb9 := B7.out.trans (hbx.mono B7.out.size)
                have q1 := own_below P1.out hbx
                have q2 := own_below P2.out hbx
                have hKo := hK.out
                have h := hbb.out
                rw [List.take_length] at h
                cases bb with
                | true =>
                  clear hbx h
                  go_wp2
                  go_roundg (n - (i + 1))
                  case measure => omega
                  case rel => exact ⟨i + 1, K, A2, c2, by omega, rfl, rfl, by go_num, hb9, q1, q2, hide ⟨hKo.1, by have := hKo.2; omega⟩⟩
                | false =>
                  have h2 := Bool.or_eq_false_iff.1 h.symm
                  have hi8 : ¬ 8 < i := of_decide_eq_false h2.1
                  have hmK : mk ∉ K := of_decide_eq_false h2.2
                  have zz0 := (hbx.cell (p := ⟨b12, 0, none⟩) zl).trans z0
                  have zz1 := (hbx.cell (p := ⟨b12, 1, none⟩) zl).trans z1
                  have zzl := Nat.lt_of_lt_of_le zl hbx.size
                  have hBW := hb9.size
                  have hKl6 : K.length ≤ 1000000 := by omega
                  obtain ⟨m0, hm0, m1, m2, m3⟩ := info_parts info_mark
                  clear hbx h h2
                  have Q1 := hide q1
                  have Q2 := hide q2
                  have HB9 := hide hb9
                  clear q1 q2 hb9
                  go_wp2_with (at_builtin; refine wpList_append_one rfl (.tmp 122) (.tmp 124) 99 rfl w1.heap.size 199 m0 (.agg #[.int .u8 0, .int .u16 0]) 2 4 Tryz.underlying99 hm0 m1 m2 m3 rfl (by decide) A2 c2 K.length (mcellsOf K) [.int .u8 (p : Int), .int .u16 (4 + (q : Int))] wr rfl Q2.out rfl rfl rfl (by simp [Value.oneCell']) hKl6 (by decide) hBW ?_; intro A' c' w34 hown hg3 hb3 hat3)
                  go_roundg (n - (i + 1))
                  case measure => omega
                  case rel =>
                    obtain ⟨hpu, hqu, hmk⟩ := HPQ.out
                    have hmc : markCells mk = [.int .u8 (p : Int), .int .u16 (4 + (q : Int))] := by rw [hmk]; simp only [markCells, hpu, hqu]; simp
                    refine ⟨i + 1, K ++ [mk], A', c', by omega, rfl, by simp, by go_num, HB9.out.trans hb3, own_besides Q1.out Q2.out (by decide) hg3, ?_, hide ⟨⟨?_, ?_, ?_⟩, ?_⟩⟩
                    · rw [mcellsOf_snoc, List.length_append, List.length_singleton, hmc]; exact hown
                    · intro x hx
                      rcases List.mem_append.1 hx with hx | hx
                      · exact hKo.1.1 x hx
                      · simp only [List.mem_singleton] at hx
                        rw [hx, hmk]
                        simp only [hpu, hqu]
                        omega
                    · rw [List.nodup_append]
                      exact ⟨hKo.1.2.1, by simp, fun a ha b hb e => by simp only [List.mem_singleton] at hb; exact hmK (by rw [← hb, ← e]; exact ha)⟩
                    · have := hKo.2; simp; omega
                    · have := hKo.2; simp; omega
          · obtain rfl : i = n := by omega
            go_wp2
            go_returns
            have hs := HB1.out.size
            exact ⟨K, some ⟨g5, 0, none⟩, A2, ck, c2, by rw [← HM.out]; rfl, HB1.out.trans (hbr.mono hs), own_mono (by have h := o1; rw [HM.out] at h; exact h) hs, own_mono o2 hs, by rw [← HM.out]; exact hK.out.1⟩
end

end Go.Proofs.YthmkgohfeahdhaaGreat

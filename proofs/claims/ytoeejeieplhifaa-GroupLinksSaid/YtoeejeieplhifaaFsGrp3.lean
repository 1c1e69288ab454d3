/- Groups, walked: Node, Set. -/
import Derived.Test.YtoeejeieplhifaaFsLaw
import Derived.Test.YtoeejeieplhifaaFsNone
namespace Go.Proofs.Ytoeejeieplhifaa
open Go.RowKit
set_option linter.unusedSimpArgs false
set_option linter.unusedVariables false

theorem GroupAt.geo_range {w : World} {gg tt : Nat} {g : GeoN} {lab : Int} (hG : GroupAt w gg tt g lab) : w.rangeAt gg 1 g.cells := Blk.range hG fun j v hj => by
  rw [gpcells, List.getElem?_toArray, Nat.add_comm 1 j, List.getElem?_cons_succ]
  have : (g.cells ++ [Value.int .i64 lab])[j]? = some v := by
    rw [List.getElem?_append_left (List.getElem?_eq_some_iff.1 hj).1]; exact hj
  simpa [GeoN.cells] using this
theorem size_geoL (g : GeoN) : (Try.prog.info? 112).map (·.size) = some g.cells.length := by
  rw [size_geo g]; rfl
section
variable {w w' : World} {i : Ids} {s : Sto} {gg : Nat} {g : GeoN} {lab : Int}
set_option maxRecDepth 100000 in
set_option maxHeartbeats 800000 in
theorem gnode_any {v : NodeV} {r num : Int} (h : TxAt w i s) (hG : GroupAt w gg i.tt g lab) (hv : v.dir.length = 6)
    (hrd : ∀ W, TxAt W i s → Calls Try.prog 49 #[.pointer (some ⟨i.tt, 0, none⟩), g.val, .int .i64 num] W fun e w' => e = .returned (.tuple #[v.val, .int .i64 r]) ∧ TxAt w' i s ∧ Tch W.heap.size (· = i.dd) W w') :
    Calls Try.prog 16 #[.pointer (some ⟨gg, 0, none⟩), .int .i64 num] w fun e w' => e = .returned (.tuple #[v.val, .int .i64 r]) ∧ TxAt w' i s ∧ Tch w.heap.size i.own w w' := by
  have H := hide h
  have HG := hide hG
  have HV := hide hv
  have HRD := hide hrd
  clear h hG hv hrd
  go_enter Try.func16, Try.ntmps16
  go_upto_region 1 with (first | ((with_reducible refine at_alloc 52 ?_); refine wpList_alloc_as rfl 52 rfl _ (zero_node _) ?_) | fail)
  refine at_world (fun W => ∃ p, p = w.heap.size ∧ Below w.heap.size w W ∧ Blk W p 52 NodeV.zero.cells.toArray) ⟨_, rfl, (Below.refl _ _).alloc (Nat.le_refl _) _, Blk.new _ _ _⟩ (fun w1 hw1 => ?_)
  obtain ⟨p, hp, hb1, hP⟩ := hw1
  rw [← hp]
  have hwp : w.heap.size ≤ p := Nat.le_of_eq hp.symm
  have HP := hide (And.intro hP hb1)
  have HG1 := hide (HG.out.below hb1)
  clear hp hb1 hP
  go_upto_region 3 with (fail)
  have c0 := HG1.out.cell 0
  have cl := HG1.out.lt
  refine wp_region_text [0, 0, 0, 0, 0, 0, 0, 0, 0, 2, 0, 0, 2, 0] (· = w1.drew) (by kernel_rfl) (by kernel_rfl) rfl ?_
  iterate 7 (refine wpOrd_q (v := ?_) (by rfl) (fun W hW => ?_) ?_; rotate_left; (focus ((cases hW; go_simp); try with_reducible rfl)); try simp only [Act.put, List.setIfInBounds_toArray, List.set_cons_zero, List.set_cons_succ])
  refine wpOrd_q (v := .agg (g.cells).toArray) (by rfl) (fun W hW => by cases hW; exact exec_load_mid 112 (.tmp 15) rfl gg 1 rfl (g.cells) _ (GroupAt.geo_range (w := w1.drew) HG1.out) Try.underlying112 rfl (size_geoL g)) ?_
  try simp only [Act.put, List.setIfInBounds_toArray, List.set_cons_zero, List.set_cons_succ]
  iterate 1 (refine wpOrd_q (v := ?_) (by rfl) (fun W hW => ?_) ?_; rotate_left; (focus ((cases hW; go_simp); try with_reducible rfl)); try simp only [Act.put, List.setIfInBounds_toArray, List.set_cons_zero, List.set_cons_succ])
  refine wpOrd_b (by rfl) (fun K hK => ?_)
  go_simp
  refine (HRD.out _ (H.out.below HP.out.2.drew)).mono ?_
  rintro e w5 ⟨rfl, hx5, ht5⟩
  refine hK (fun _ => True) _ _ trivial ?_
  have HF5 := hide (And.intro hx5 (And.intro ((Tch.of_below (S := i.own) HP.out.2).drew.trans (ht5.own_dd.mono HP.out.2.size fun _ _ h => h)) (HP.out.1.drew.tch ht5 HP.out.1.lt (fun e => by have := H.out.log.disk.dlt; omega))))
  clear hK K c0 cl hx5 ht5
  try simp only [Act.put, List.setIfInBounds_toArray, List.set_cons_zero, List.set_cons_succ]
  iterate 2 (refine wpOrd_q (v := ?_) (by rfl) (fun W hW => ?_) ?_; rotate_left; (focus (go_simp; try with_reducible rfl)); try simp only [Act.put, List.setIfInBounds_toArray, List.set_cons_zero, List.set_cons_succ])
  refine wpOrd_b (by rfl) (fun K hK => ?_)
  refine wp_store_blk 52 (.tmp 4) (.tmp 19) rfl p 52 _ _ (by rfl) (by rfl) HF5.out.2.2 (size_nodeOf HV.out) (by rw [List.size_toArray, List.size_toArray, NodeV.cells_length HV.out]; rfl) (NodeV.cells_one _) (fun hB3 => ?_)
  refine hK (fun _ => True) _ _ trivial ?_
  clear hK K
  try simp only [Act.put, List.setIfInBounds_toArray, List.set_cons_zero, List.set_cons_succ]
  iterate 1 (refine wpOrd_q (v := ?_) (by rfl) (fun W hW => ?_) ?_; rotate_left; (focus (go_simp; try with_reducible rfl)); try simp only [Act.put, List.setIfInBounds_toArray, List.set_cons_zero, List.set_cons_succ])
  refine wpOrd_nil ?_
  have HB3 := hide hB3
  clear hB3
  go_wp2_with (first | ((with_reducible refine at_end ?_); refine bodyPost_ret (v := .tuple #[v.val, .int .i64 r]) (results_run2 rfl (ResV.row rfl HB3.out Try.underlying52 rfl (size_nodeOf HV.out)) rfl) rfl ⟨rfl, ?_, ?_⟩) | fail)
  · exact H.out.setRow_new hwp HF5.out.1 _
  · exact HF5.out.2.1.trans (Tch.setRow fun hp => absurd hp (by omega))
theorem gnode_ok {num : Nat} (h : TxAt w i s) (hG : GroupAt w gg i.tt g lab) (hg : g.Ok s.D.length) (h1 : 1 ≤ num) (h2 : num ≤ g.nodes) :
    Calls Try.prog 16 #[.pointer (some ⟨gg, 0, none⟩), .int .i64 (num : Int)] w fun e w' => e = .returned (.tuple #[(s.nodeV g num).val, .int .i64 (s.nodeE g num)]) ∧ TxAt w' i s ∧ Tch w.heap.size i.own w w' :=
  gnode_any h hG (nodeV_dir s g num) fun W hW => read_node hW hg h1 h2
theorem gnode_none {num : Int} (h : TxAt w i s) (hG : GroupAt w gg i.tt g lab) (hn : num < 1 ∨ (g.nodes : Int) < num) :
    Calls Try.prog 16 #[.pointer (some ⟨gg, 0, none⟩), .int .i64 num] w fun e w' => e = .returned (.tuple #[NodeV.zero.val, .int .i64 27]) ∧ TxAt w' i s ∧ Tch w.heap.size i.own w w' :=
  gnode_any h hG rfl fun W hW => (read_none hW hn).mono fun e w' ⟨h1, h2⟩ => ⟨h1, hW.below h2, Tch.of_below h2⟩

set_option maxRecDepth 100000 in
set_option maxHeartbeats 800000 in
theorem gset_any {v : NodeV} {r num : Int} {s' : Sto} (h : TxAt w i s) (hG : GroupAt w gg i.tt g lab) (hv : v.dir.length = 6)
    (hwr : ∀ W, TxAt W i s → Calls Try.prog 46 #[.pointer (some ⟨i.tt, 0, none⟩), g.val, .int .i64 num, v.val] W fun e w' => e = .returned (.int .i64 r) ∧ TxAt w' i s' ∧ Tch W.heap.size i.own W w') :
    Calls Try.prog 30 #[.pointer (some ⟨gg, 0, none⟩), .int .i64 num, v.val] w fun e w' => e = .returned (.int .i64 r) ∧ TxAt w' i s' ∧ Tch w.heap.size i.own w w' := by
  have H := hide h
  have HG := hide hG
  have HV := hide hv
  have HWR := hide hwr
  clear h hG hv hwr
  go_enter Try.func30, Try.ntmps30
  go_upto_region 1 with (fail)
  refine at_world (fun W => ∃ p, p = w.heap.size ∧ Below w.heap.size w W ∧ Blk W p 52 v.cells.toArray) ⟨_, rfl, (Below.refl _ _).alloc (Nat.le_refl _) _, Blk.new _ _ _⟩ (fun w1 hw1 => ?_)
  obtain ⟨p, hp, hb1, hP⟩ := hw1
  rw [← hp]
  have HP := hide (And.intro hP hb1)
  have HG1 := hide (HG.out.below hb1)
  clear hp hb1 hP
  go_upto_region 3 with (fail)
  have c0 := HG1.out.cell 0
  have cl := HG1.out.lt
  refine wp_region_text [0, 0, 0, 0, 0, 0, 0, 0, 0, 0, 2, 0] (· = w1.drew) (by kernel_rfl) (by kernel_rfl) rfl ?_
  iterate 7 (refine wpOrd_q (v := ?_) (by rfl) (fun W hW => ?_) ?_; rotate_left; (focus ((cases hW; go_simp); try with_reducible rfl)); try simp only [Act.put, List.setIfInBounds_toArray, List.set_cons_zero, List.set_cons_succ])
  refine wpOrd_q (v := .agg (g.cells).toArray) (by rfl) (fun W hW => by cases hW; exact exec_load_mid 112 (.tmp 15) rfl gg 1 rfl (g.cells) _ (GroupAt.geo_range (w := w1.drew) HG1.out) Try.underlying112 rfl (size_geoL g)) ?_
  try simp only [Act.put, List.setIfInBounds_toArray, List.set_cons_zero, List.set_cons_succ]
  iterate 1 (refine wpOrd_q (v := ?_) (by rfl) (fun W hW => ?_) ?_; rotate_left; (focus ((cases hW; go_simp); try with_reducible rfl)); try simp only [Act.put, List.setIfInBounds_toArray, List.set_cons_zero, List.set_cons_succ])
  refine wpOrd_q (v := .agg v.cells.toArray) (by rfl) (fun W hW => by cases hW; exact exec_load_blk 52 (.tmp 5) rfl p _ v.cells.toArray _ rfl HP.out.1.drew Try.underlying52 rfl (size_nodeOf HV.out)) ?_
  try simp only [Act.put, List.setIfInBounds_toArray, List.set_cons_zero, List.set_cons_succ]
  refine wpOrd_b (by rfl) (fun K hK => ?_)
  go_simp
  refine (HWR.out _ (H.out.below HP.out.2.drew)).mono ?_
  rintro e w5 ⟨rfl, hx5, ht5⟩
  refine hK (fun _ => True) _ _ trivial ?_
  have HF5 := hide (And.intro hx5 ((Tch.of_below (S := i.own) HP.out.2).drew.trans (ht5.mono HP.out.2.size fun _ _ h => h)))
  clear hK K c0 cl hx5 ht5
  try simp only [Act.put, List.setIfInBounds_toArray, List.set_cons_zero, List.set_cons_succ]
  iterate 1 (refine wpOrd_q (v := ?_) (by rfl) (fun W hW => ?_) ?_; rotate_left; (focus (go_simp; try with_reducible rfl)); try simp only [Act.put, List.setIfInBounds_toArray, List.set_cons_zero, List.set_cons_succ])
  refine wpOrd_nil ?_
  go_wp2
  go_returns
  exact ⟨rfl, HF5.out.1, HF5.out.2⟩
theorem gset_ok {num : Nat} {n : NodeV} (h : TxAt w i s) (hG : GroupAt w gg i.tt g lab) (hg : g.Ok s.D.length) (h1 : 1 ≤ num) (h2 : num ≤ g.nodes) (hnd : n.dir.length = 6) (hck : checkN n = true) (hc : s.Can (g.base + g.bitmap + (num - 1) / 2)) :
    Calls Try.prog 30 #[.pointer (some ⟨gg, 0, none⟩), .int .i64 (num : Int), n.val] w fun e w' => e = .returned (.int .i64 0) ∧ TxAt w' i (s.setNode g num n) ∧ Tch w.heap.size i.own w w' :=
  gset_any h hG hnd fun W hW => write_node hW hg h1 h2 hnd hck hc
theorem gset_none {num : Int} {n : NodeV} (h : TxAt w i s) (hG : GroupAt w gg i.tt g lab) (hnd : n.dir.length = 6) (hn : num < 1 ∨ (g.nodes : Int) < num) :
    Calls Try.prog 30 #[.pointer (some ⟨gg, 0, none⟩), .int .i64 num, n.val] w fun e w' => e = .returned (.int .i64 27) ∧ TxAt w' i s ∧ Tch w.heap.size i.own w w' :=
  gset_any h hG hnd fun W hW => (write_none W i.tt hn).mono fun e w' ⟨h1, h2⟩ => ⟨h1, hW.below h2, Tch.of_below h2⟩
theorem gset_bad {num : Nat} {n : NodeV} (h : TxAt w i s) (hG : GroupAt w gg i.tt g lab) (hg : g.Ok s.D.length) (h1 : 1 ≤ num) (h2 : num ≤ g.nodes) (hnd : n.dir.length = 6) (hck : checkN n = false) :
    Calls Try.prog 30 #[.pointer (some ⟨gg, 0, none⟩), .int .i64 (num : Int), n.val] w fun e w' => e = .returned (.int .i64 28) ∧ TxAt w' i s ∧ Tch w.heap.size i.own w w' :=
  gset_any h hG hnd fun W hW => (write_bad W i.tt hg h1 h2 hnd hck).mono fun e w' ⟨h1, h2⟩ => ⟨h1, hW.below h2, Tch.of_below h2⟩
end
end Go.Proofs.Ytoeejeieplhifaa

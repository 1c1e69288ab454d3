/- Nodes in blocks, walked: Place, Read, Write. -/
import Derived.Test.YtoeejeieplhifaaFsNode4
namespace Go.Proofs.Ytoeejeieplhifaa
open Go.RowKit
set_option linter.unusedSimpArgs false
set_option linter.unusedVariables false

section
variable {P : Program} {ops : Array Oper} {rest : List Oper} {o : Oper} {a : Act} {w : World} {Q : Exit → Act → World → Prop}
theorem wp_copy_as {K : Act → World → Prop} (d s : Operand) (t t' : TypeId) (ho : o.op = .call { callee := .builtin .copy, args := #[d, s], argTypes := #[t, t'] }) (v u : Value) (hd : a.eval d = v) (hs : a.eval s = u) {v' : Value} {w' : World}
    (hr : (Builtin.copy_ #[t, t'] o.type #[v, u]).run P w = .ok v' w') (h : K (a.put o.dst v') w') : o.wp P a w K Q := by
  unfold Oper.wp execOp
  simp only [ho, resolve, invoke, builtin, Sem.run_bind, Sem.run_pure, Result.andThen_ok, List.map_toArray, List.map_cons, List.map_nil, hd, hs, hr]
  exact h
theorem at_sap (ty : TypeId) (x : Operand) {d : Option Tmp} {k : TypeId} {p : String} {f : Array Edge} {g : Option (Nat × Bool)} (h : wpList P ops Q (⟨d, .sliceToArrayPointer ty x, k, p, f, g⟩ :: rest) a w) : wpList P ops Q (⟨d, .sliceToArrayPointer ty x, k, p, f, g⟩ :: rest) a w := h
theorem exec_sap (ty : TypeId) (x : Operand) (ho : o.op = .sliceToArrayPointer ty x) (n : Nat) (p : Addr) (l c : Nat) (e : TypeId) (hx : a.eval x = .slice (some p) l c) (hu : P.underlying ty = some (.array n e)) (hn : n ≤ l) :
    (execOp a.eval o).run P w = .ok (.value (.pointer (some p))) w := by
  unfold execOp
  simp [ho, hx, Instr.arrayAt, run_underlying hu, Result.andThen, show ¬ l < n by omega]
end

/-- where a group lies -/
structure GeoN where
  base : Nat
  bitmap : Nat
  table : Nat
  data : Nat
  blocks : Nat
  nodes : Nat
def GeoN.cells (g : GeoN) : List Value := [.int .i64 (g.base : Int), .int .i64 (g.bitmap : Int), .int .i64 (g.table : Int), .int .i64 (g.data : Int), .int .i64 (g.blocks : Int), .int .i64 (g.nodes : Int)]
def GeoN.val (g : GeoN) : Value := .agg g.cells.toArray
structure GeoN.Ok (g : GeoN) (total : Nat) : Prop where
  base : 32 ≤ g.base
  data : g.data = g.base + g.bitmap + g.table
  fits : g.data + g.blocks ≤ total
  map : g.blocks ≤ g.bitmap * 512
  map1 : g.bitmap * 512 < g.blocks + 512
  tab : g.nodes ≤ g.table * 2
  small : total ≤ 65536
/-- the bytes of a node of a number -/
def Sto.nodeX (s : Sto) (g : GeoN) (num : Nat) : List UInt8 := ((s.at_ (g.base + g.bitmap + (num - 1) / 2)).drop ((num - 1) % 2 * 32)).take 32
theorem geo_one (g : GeoN) : g.cells.toArray.all (·.oneCell') = true := by simp [GeoN.cells, Value.oneCell']
theorem size_geo (g : GeoN) : (Try.prog.info? 112).map (·.size) = some g.cells.toArray.size := by
  have : (Try.prog.info? 112).map (·.size) = some 6 := by kernel_rfl
  rw [this]; rfl

section
variable {w w' : World} {i : Ids} {s : Sto}
set_option maxRecDepth 100000 in
theorem place_node (w : World) {g : GeoN} {total num : Nat} (hg : g.Ok total) (h1 : 1 ≤ num) (h2 : num ≤ g.nodes) :
    Calls Try.prog 79 #[g.val, .int .i64 (num : Int)] w fun e w' => e = .returned (.tuple #[.int .i64 ((g.base + g.bitmap + (num - 1) / 2 : Nat) : Int), .int .i64 (((num - 1) % 2 * 32 : Nat) : Int), .bool true]) ∧ Below w.heap.size w w' := by
  have b1 : g.base + g.bitmap + g.table + g.blocks ≤ 65536 := by have := hg.fits; have := hg.data; have := hg.small; omega
  have b2 : g.nodes ≤ 131072 := by have := hg.tab; omega
  obtain ⟨gb, gm, gt, gd, gk, gn⟩ := g
  simp only at h2 b1 b2 ⊢
  obtain ⟨k, rfl⟩ : ∃ k, num = k + 1 := ⟨num - 1, by omega⟩
  rw [show k + 1 - 1 = k from rfl]
  have k0 : decide (((k + 1 : Nat) : Int) < 1) = false := by simp; omega
  have k1 : decide ((gn : Int) < ((k + 1 : Nat) : Int)) = false := by simp; omega
  have e1 : IntKind.i64.wrap ((gb : Int) + (gm : Int)) = ((gb + gm : Nat) : Int) := by rw [IntWalk.i64_in _ (by omega)]; omega
  simp only [GeoN.val, GeoN.cells]
  go_enter Try.func79, Try.ntmps79
  go_wp2
  go_returns
  refine ⟨?_, (Below.refl _ _).alloc (Nat.le_refl _) _⟩
  simp

set_option maxRecDepth 100000 in
theorem place_none (w : World) {g : GeoN} {num : Int} (h : num < 1 ∨ (g.nodes : Int) < num) :
    Calls Try.prog 79 #[g.val, .int .i64 num] w fun e w' => e = .returned (.tuple #[.int .i64 0, .int .i64 0, .bool false]) ∧ Below w.heap.size w w' := by
  obtain ⟨gb, gm, gt, gd, gk, gn⟩ := g
  simp only at h
  simp only [GeoN.val, GeoN.cells]
  by_cases h1 : num < 1
  · have k0 : decide (num < 1) = true := by simpa using h1
    clear h
    go_enter Try.func79, Try.ntmps79
    go_wp2
    go_returns
    exact ⟨rfl, (Below.refl _ _).alloc (Nat.le_refl _) _⟩
  · have k0 : decide (num < 1) = false := by simpa using h1
    have k1 : decide ((gn : Int) < num) = true := by simp; omega
    clear h
    go_enter Try.func79, Try.ntmps79
    go_wp2
    go_returns
    exact ⟨rfl, (Below.refl _ _).alloc (Nat.le_refl _) _⟩

/-- what reading a node comes to -/
def Sto.nodeV (s : Sto) (g : GeoN) (num : Nat) : NodeV := if isN (s.nodeX g num) then decN (s.nodeX g num) else NodeV.zero
def Sto.nodeE (s : Sto) (g : GeoN) (num : Nat) : Int := if isN (s.nodeX g num) then 0 else 28
theorem nodeV_dir (s : Sto) (g : GeoN) (num : Nat) : (s.nodeV g num).dir.length = 6 := by
  unfold Sto.nodeV
  split
  · exact decN_dir _
  · rfl
set_option maxRecDepth 100000 in
set_option maxHeartbeats 1600000 in
theorem read_node {g : GeoN} {num : Nat} (h : TxAt w i s) (hg : g.Ok s.D.length) (h1 : 1 ≤ num) (h2 : num ≤ g.nodes) :
    Calls Try.prog 49 #[.pointer (some ⟨i.tt, 0, none⟩), g.val, .int .i64 (num : Int)] w fun e w' => e = .returned (.tuple #[(s.nodeV g num).val, .int .i64 (s.nodeE g num)]) ∧ TxAt w' i s ∧ Tch w.heap.size (· = i.dd) w w' := by
  have hp := fun W => place_node W hg h1 h2
  have hnl : g.base + g.bitmap + (num - 1) / 2 < s.D.length := by have := hg.fits; have := hg.data; have := hg.tab; omega
  have hal : (num - 1) % 2 * 32 = 0 ∨ (num - 1) % 2 * 32 = 32 := by omega
  have hx64 := Sto.at_length h.ok (g.base + g.bitmap + (num - 1) / 2)
  have hx32 : (s.nodeX g num).length = 32 := by
    unfold Sto.nodeX
    rw [List.length_take, List.length_drop, hx64]; omega
  obtain ⟨v, hv⟩ : ∃ v, s.nodeV g num = v := ⟨_, rfl⟩
  obtain ⟨r, hr⟩ : ∃ r, s.nodeE g num = r := ⟨_, rfl⟩
  have hvd : v.dir.length = 6 := by rw [← hv]; exact nodeV_dir _ _ _
  rw [hv, hr]
  have hdec := fun W => decode_ok W hx32
  have hdv : (if isN (s.nodeX g num) then (decN (s.nodeX g num)).val else NodeV.zero.val) = v.val := by
    rw [← hv]; unfold Sto.nodeV; split <;> rfl
  have hdr : (if isN (s.nodeX g num) = true then (0 : Int) else 28) = r := hr
  rw [hdv, hdr] at hdec
  have hget := fun W (hW : TxAt W i s) => get_ok hW hnl
  have hxe : s.nodeX g num = ((s.at_ (g.base + g.bitmap + (num - 1) / 2)).drop ((num - 1) % 2 * 32)).take 32 := rfl
  generalize s.nodeX g num = x at hx32 hdec hxe
  generalize s.at_ (g.base + g.bitmap + (num - 1) / 2) = bl at hx64 hget hxe
  generalize g.base + g.bitmap + (num - 1) / 2 = n at hp hnl hget
  generalize (num - 1) % 2 * 32 = a at hp hal hxe
  have H := hide h
  have HP := hide hp
  have HD := hide hdec
  have HGT := hide hget
  have HXE := hide (And.intro hxe (And.intro hx64 hx32))
  have HVD := hide hvd
  clear h hp hdec hget hxe hx64 hx32 hvd hv hr hdv hdr hg
  go_enter Try.func49, Try.ntmps49
  go_upto_region 1 with (first | ((with_reducible refine at_alloc 52 ?_); refine wpList_alloc_as rfl 52 rfl _ (zero_node _) ?_) | fail)
  try simp only [World.size_alloc]
  refine at_world (fun W => ∃ b q, b = w.heap.size ∧ q = w.heap.size + 1 ∧ W.heap.size = w.heap.size + 2 ∧ Below w.heap.size w W ∧ Blk W b 112 g.cells.toArray ∧ Blk W q 52 NodeV.zero.cells.toArray) ⟨w.heap.size, w.heap.size + 1, rfl, rfl, by simp, alloc2 w _ _ _ _⟩ (fun w1 hw1 => ?_)
  obtain ⟨b, q, hb, hq, hs1, hb1, hB, hQ⟩ := hw1
  rw [← hq, ← hb]
  have hwq : w.heap.size ≤ q := by omega
  have hdq : ¬ q = i.dd := by have := H.out.log.disk.dlt; omega
  have HBQ := hide (And.intro hb (And.intro hq hs1))
  have HB1 := hide (And.intro hb1 (And.intro hB hQ))
  clear hb hq hs1 hb1 hQ hB
  go_wp2_with (first | ((with_reducible refine at_load 112 (.tmp 4) ?_); refine wpList_load_blk rfl 112 (.tmp 4) rfl b _ _ _ (by rfl) HB1.out.2.1 Try.underlying112 rfl (size_geo g) ?_) | fail)
  refine (HP.out _).mono ?_
  rintro e w2 ⟨rfl, hb2⟩
  have hx2 := (H.out.below HB1.out.1).below hb2
  have HW2 := hide (And.intro (HB1.out.1.trans (hb2.mono HB1.out.1.size)) (And.intro hx2 (HB1.out.2.2.below hb2 HB1.out.2.2.lt)))
  clear hb2 hx2
  go_wp2_with fail
  refine (HGT.out _ HW2.out.2.1).mono ?_
  rintro e w3 ⟨rfl, hx3, ht3⟩
  have HW3 := hide (And.intro ((Tch.of_below (S := (· = i.dd)) HW2.out.1).trans (ht3.mono HW2.out.1.size fun _ _ h => h)) (And.intro hx3 (HW2.out.2.2.tch ht3 HW2.out.2.2.lt hdq)))
  clear hx3 ht3
  go_upto_region 5 with (first | ((with_reducible refine at_alloc 67 ?_); refine wpList_alloc_as rfl 67 rfl _ (zero_block _) ?_) | ((with_reducible refine at_store 67 (.tmp 11) (.tmp 27) ?_); refine wpList_store_blk rfl 67 (.tmp 11) (.tmp 27) rfl w3.heap.size 67 _ _ (by rfl) (by rfl) (Blk.new _ _ _) (size_blockOf HXE.out.2.1) ((bvs_size zeroB_length).trans (bvs_size HXE.out.2.1).symm) (bvs_oneCell _) (fun _ => ?_)) | fail)
  refine at_world (fun W => ∃ p, p = w3.heap.size ∧ Below w3.heap.size w3 W ∧ Blk W p 67 (bvs bl).toArray) ⟨_, rfl, below_setRow ((Below.refl _ _).alloc (Nat.le_refl _) _) (Nat.le_refl _) _, (Blk.new _ _ _).setRow_same _⟩ (fun w4 hw4 => ?_)
  obtain ⟨p, hp, hb4, hP⟩ := hw4
  rw [← hp]
  have HW4 := hide (And.intro (HW3.out.2.1.below hb4) (And.intro (HW3.out.1.trans (Tch.of_below (hb4.mono HW3.out.1.size))) (HW3.out.2.2.below hb4 HW3.out.2.2.lt)))
  have HR := hide (hP.range (o := a) (xs := bvs x) fun j u hj => by
    have hj32 : j < 32 := by have := (List.getElem?_eq_some_iff.1 hj).1; rw [bvs_length, HXE.out.2.2] at this; exact this
    rw [bvs_get, HXE.out.1, List.getElem?_take_of_lt hj32, List.getElem?_drop] at hj
    rw [List.getElem?_toArray, bvs_get]
    exact hj)
  clear hp hb4
  have pl := hP.lt
  have HA := hide hal
  clear hal
  rcases HA.out with rfl | rfl
  · go_wp2_with (first | ((with_reducible refine at_load 179 (.tmp 37) ?_); refine wpList_load_mid rfl 179 (.tmp 37) rfl p 0 (by rfl) (bvs x) _ HR.out Try.underlying179 rfl (size_arrL HXE.out.2.2) ?_) | ((with_reducible refine at_sap 179 (.tmp 36) ?_); refine wpList_run rfl _ (exec_sap 179 (.tmp 36) rfl 32 ⟨p, 0, none⟩ _ _ _ rfl Try.underlying179 (by omega)) ?_) | fail)
    refine (HD.out _).mono ?_
    rintro e w5 ⟨rfl, hb5⟩
    have HW5 := hide (And.intro (HW4.out.1.below hb5) (And.intro (HW4.out.2.1.trans (Tch.of_below (hb5.mono HW4.out.2.1.size))) (HW4.out.2.2.below hb5 HW4.out.2.2.lt)))
    clear hb5 pl
    go_wp2_with (first | ((with_reducible refine at_store 52 (.tmp 6) (.tmp 40) ?_); refine wpList_store_blk rfl 52 (.tmp 6) (.tmp 40) rfl q _ _ _ (by rfl) (by rfl) HW5.out.2.2 (size_nodeOf HVD.out) (by rw [List.size_toArray, List.size_toArray, NodeV.cells_length HVD.out]; rfl) (NodeV.cells_one _) (fun hB3 => ?_)) | ((with_reducible refine at_end ?_); refine bodyPost_ret (v := .tuple #[v.val, .int .i64 r]) (results_run2 rfl (ResV.row rfl hB3 Try.underlying52 rfl (size_nodeOf HVD.out)) rfl) rfl ⟨rfl, ?_, ?_⟩) | fail)
    · exact H.out.setRow_new hwq HW5.out.1 _
    · exact HW5.out.2.1.trans (Tch.setRow fun hp => absurd hp (by omega))
  · go_wp2_with (first | ((with_reducible refine at_load 179 (.tmp 37) ?_); refine wpList_load_mid rfl 179 (.tmp 37) rfl p 32 (by rfl) (bvs x) _ HR.out Try.underlying179 rfl (size_arrL HXE.out.2.2) ?_) | ((with_reducible refine at_sap 179 (.tmp 36) ?_); refine wpList_run rfl _ (exec_sap 179 (.tmp 36) rfl 32 ⟨p, 32, none⟩ _ _ _ rfl Try.underlying179 (by omega)) ?_) | fail)
    refine (HD.out _).mono ?_
    rintro e w5 ⟨rfl, hb5⟩
    have HW5 := hide (And.intro (HW4.out.1.below hb5) (And.intro (HW4.out.2.1.trans (Tch.of_below (hb5.mono HW4.out.2.1.size))) (HW4.out.2.2.below hb5 HW4.out.2.2.lt)))
    clear hb5 pl
    go_wp2_with (first | ((with_reducible refine at_store 52 (.tmp 6) (.tmp 40) ?_); refine wpList_store_blk rfl 52 (.tmp 6) (.tmp 40) rfl q _ _ _ (by rfl) (by rfl) HW5.out.2.2 (size_nodeOf HVD.out) (by rw [List.size_toArray, List.size_toArray, NodeV.cells_length HVD.out]; rfl) (NodeV.cells_one _) (fun hB3 => ?_)) | ((with_reducible refine at_end ?_); refine bodyPost_ret (v := .tuple #[v.val, .int .i64 r]) (results_run2 rfl (ResV.row rfl hB3 Try.underlying52 rfl (size_nodeOf HVD.out)) rfl) rfl ⟨rfl, ?_, ?_⟩) | fail)
    · exact H.out.setRow_new hwq HW5.out.1 _
    · exact HW5.out.2.1.trans (Tch.setRow fun hp => absurd hp (by omega))

set_option maxRecDepth 100000 in
theorem read_none {g : GeoN} {num : Int} (h : TxAt w i s) (hn : num < 1 ∨ (g.nodes : Int) < num) :
    Calls Try.prog 49 #[.pointer (some ⟨i.tt, 0, none⟩), g.val, .int .i64 num] w fun e w' => e = .returned (.tuple #[NodeV.zero.val, .int .i64 27]) ∧ Below w.heap.size w w' := by
  have hp := fun W => place_none W hn
  have HP := hide hp
  clear hp hn
  go_enter Try.func49, Try.ntmps49
  go_upto_region 1 with (first | ((with_reducible refine at_alloc 52 ?_); refine wpList_alloc_as rfl 52 rfl _ (zero_node _) ?_) | fail)
  try simp only [World.size_alloc]
  refine at_world (fun W => ∃ b q, b = w.heap.size ∧ q = w.heap.size + 1 ∧ W.heap.size = w.heap.size + 2 ∧ Below w.heap.size w W ∧ Blk W b 112 g.cells.toArray ∧ Blk W q 52 NodeV.zero.cells.toArray) ⟨w.heap.size, w.heap.size + 1, rfl, rfl, by simp, alloc2 w _ _ _ _⟩ (fun w1 hw1 => ?_)
  obtain ⟨b, q, hb, hq, hs1, hb1, hB, hQ⟩ := hw1
  rw [← hq, ← hb]
  have hwq : w.heap.size ≤ q := by omega
  have HB1 := hide (And.intro hb1 (And.intro hB hQ))
  clear hb hq hs1 hb1 hQ hB
  go_wp2_with (first | ((with_reducible refine at_load 112 (.tmp 4) ?_); refine wpList_load_blk rfl 112 (.tmp 4) rfl b _ _ _ (by rfl) HB1.out.2.1 Try.underlying112 rfl (size_geo g) ?_) | fail)
  refine (HP.out _).mono ?_
  rintro e w2 ⟨rfl, hb2⟩
  have HW2 := hide (And.intro (HB1.out.1.trans (hb2.mono HB1.out.1.size)) (HB1.out.2.2.below hb2 HB1.out.2.2.lt))
  clear hb2
  go_wp2_with (first | ((with_reducible refine at_build 52 #[] ?_); refine wpList_zero_as rfl 52 rfl _ (build_node _) ?_) | ((with_reducible refine at_store 52 (.tmp 6) (.tmp 22) ?_); refine wpList_store_blk rfl 52 (.tmp 6) (.tmp 22) rfl q _ _ _ (by rfl) (by rfl) HW2.out.2 (size_nodeOf (n := NodeV.zero) rfl) rfl (NodeV.cells_one NodeV.zero) (fun hB3 => ?_)) | ((with_reducible refine at_end ?_); refine bodyPost_ret (v := .tuple #[NodeV.zero.val, .int .i64 27]) (results_run2 rfl (ResV.row rfl hB3 Try.underlying52 rfl (size_nodeOf (n := NodeV.zero) rfl)) rfl) rfl ⟨rfl, below_setRow HW2.out.1 hwq _⟩) | fail)

/-- what writing a node comes to -/
def Sto.setNode (s : Sto) (g : GeoN) (num : Nat) (n : NodeV) : Sto := s.put (g.base + g.bitmap + (num - 1) / 2) (wrB (s.at_ (g.base + g.bitmap + (num - 1) / 2)) ((num - 1) % 2 * 32) (encN n))
set_option maxRecDepth 100000 in
set_option maxHeartbeats 1600000 in
theorem write_node {g : GeoN} {num : Nat} {n : NodeV} (h : TxAt w i s) (hg : g.Ok s.D.length) (h1 : 1 ≤ num) (h2 : num ≤ g.nodes) (hnd : n.dir.length = 6) (hck : checkN n = true) (hc : s.Can (g.base + g.bitmap + (num - 1) / 2)) :
    Calls Try.prog 46 #[.pointer (some ⟨i.tt, 0, none⟩), g.val, .int .i64 (num : Int), n.val] w fun e w' => e = .returned (.int .i64 0) ∧ TxAt w' i (s.setNode g num n) ∧ Tch w.heap.size i.own w w' := by
  have hp := fun W => place_node W hg h1 h2
  have hal : (num - 1) % 2 * 32 = 0 ∨ (num - 1) % 2 * 32 = 32 := by omega
  have hx64 := Sto.at_length h.ok (g.base + g.bitmap + (num - 1) / 2)
  have hget := fun W (hW : TxAt W i s) => get_ok hW hc.lt
  have hce : checkE n = 0 := by unfold checkE; rw [hck]; rfl
  have hchk := fun W => check_ok W hnd
  rw [hce] at hchk
  have hel := encN_length hnd
  obtain ⟨s1, hs1⟩ : ∃ s1, s.setNode g num n = s1 := ⟨_, rfl⟩
  rw [hs1]
  unfold Sto.setNode at hs1
  generalize s.at_ (g.base + g.bitmap + (num - 1) / 2) = bl at hx64 hget hs1
  generalize g.base + g.bitmap + (num - 1) / 2 = k at hp hc hget hs1
  generalize (num - 1) % 2 * 32 = a at hp hal hs1
  have H := hide h
  have HP := hide hp
  have HGT := hide hget
  have HX := hide (And.intro hx64 (And.intro hel hs1))
  have HCK := hide hchk
  have HC := hide hc
  have HND := hide hnd
  have HA := hide hal
  clear h hp hget hx64 hel hs1 hchk hc hnd hg hce hck hal
  go_enter Try.func46, Try.ntmps46
  go_upto_region 1 with (fail)
  refine at_world (fun W => ∃ b q, b = w.heap.size ∧ q = w.heap.size + 1 ∧ W.heap.size = w.heap.size + 2 ∧ Below w.heap.size w W ∧ Blk W b 112 g.cells.toArray ∧ Blk W q 52 n.cells.toArray) ⟨w.heap.size, w.heap.size + 1, rfl, rfl, by simp, alloc2 w _ _ _ _⟩ (fun w1 hw1 => ?_)
  obtain ⟨b, q, hb, hq, hs1, hb1, hB, hQ⟩ := hw1
  rw [← hq, ← hb]
  have hwq : w.heap.size ≤ q := by omega
  have hdq : ¬ q = i.dd := by have := H.out.log.disk.dlt; omega
  have HB1 := hide (And.intro hb1 (And.intro hB hQ))
  clear hb hq hs1 hb1 hQ hB
  go_wp2_with (first | ((with_reducible refine at_load 112 (.tmp 5) ?_); refine wpList_load_blk rfl 112 (.tmp 5) rfl b _ _ _ (by rfl) HB1.out.2.1 Try.underlying112 rfl (size_geo g) ?_) | fail)
  refine (HP.out _).mono ?_
  rintro e w2 ⟨rfl, hb2⟩
  have HW2 := hide (And.intro (HB1.out.1.trans (hb2.mono HB1.out.1.size)) (HB1.out.2.2.below hb2 HB1.out.2.2.lt))
  clear hb2
  go_wp2_with (first | ((with_reducible refine at_load 52 (.tmp 7) ?_); refine wpList_load_blk rfl 52 (.tmp 7) rfl q _ _ _ (by rfl) HW2.out.2 Try.underlying52 rfl (size_nodeOf HND.out) ?_) | fail)
  refine (HCK.out _).mono ?_
  rintro e w3 ⟨rfl, hb3⟩
  have HW3 := hide (And.intro (HW2.out.1.trans (hb3.mono HW2.out.1.size)) (HW2.out.2.below hb3 HW2.out.2.lt))
  clear hb3
  go_wp2_with fail
  refine (HGT.out _ (H.out.below HW3.out.1)).mono ?_
  rintro e w4 ⟨rfl, hx4, ht4⟩
  have HW4 := hide (And.intro hx4 (And.intro ((Tch.of_below (S := i.own) HW3.out.1).trans (ht4.own_dd.mono HW3.out.1.size fun _ _ h => h)) (HW3.out.2.tch ht4 HW3.out.2.lt hdq)))
  clear hx4 ht4
  go_upto_region 8 with (first | ((with_reducible refine at_alloc 67 ?_); refine wpList_alloc_as rfl 67 rfl _ (zero_block _) ?_) | ((with_reducible refine at_store 67 (.tmp 13) (.tmp 34) ?_); refine wpList_store_blk rfl 67 (.tmp 13) (.tmp 34) rfl w4.heap.size 67 _ _ (by rfl) (by rfl) (Blk.new _ _ _) (size_blockOf HX.out.1) ((bvs_size zeroB_length).trans (bvs_size HX.out.1).symm) (bvs_oneCell _) (fun _ => ?_)) | fail)
  refine at_world (fun W => ∃ p, p = w4.heap.size ∧ Below w4.heap.size w4 W ∧ Blk W p 67 (bvs bl).toArray) ⟨_, rfl, below_setRow ((Below.refl _ _).alloc (Nat.le_refl _) _) (Nat.le_refl _) _, (Blk.new _ _ _).setRow_same _⟩ (fun w5 hw5 => ?_)
  obtain ⟨p, hp, hb5, hP⟩ := hw5
  rw [← hp]
  have hwp : w4.heap.size ≤ p := Nat.le_of_eq hp.symm
  have HW5 := hide (And.intro hb5 (And.intro hP (HW4.out.2.2.below hb5 HW4.out.2.2.lt)))
  clear hp hb5 hP
  go_wp2_with (first | ((with_reducible refine at_load 52 (.tmp 7) ?_); refine wpList_load_blk rfl 52 (.tmp 7) rfl q _ _ _ (by rfl) HW5.out.2.2 Try.underlying52 rfl (size_nodeOf HND.out) ?_) | fail)
  refine (encode_ok _ HND.out).mono ?_
  rintro e w6 ⟨rfl, hb6⟩
  go_upto_region 11 with (first | ((with_reducible refine at_alloc 179 ?_); refine wpList_alloc_as rfl 179 rfl _ (zero_arr _) ?_) | ((with_reducible refine at_store 179 (.tmp 15) (.tmp 40) ?_); refine wpList_store_blk rfl 179 (.tmp 15) (.tmp 40) rfl w6.heap.size _ _ _ (by rfl) (by rfl) (Blk.new _ _ _) (size_arrOf HX.out.2.1) (by simp [bvs, z32_length, HX.out.2.1]) (bvs_oneCell _) (fun _ => ?_)) | fail)
  refine at_world (fun W => ∃ u, u = w6.heap.size ∧ Below w4.heap.size w4 W ∧ Blk W p 67 (bvs bl).toArray ∧ Blk W u 179 (bvs (encN n)).toArray) ⟨_, rfl, ?_, ?_, (Blk.new _ _ _).setRow_same _⟩ (fun w7 hw7 => ?_)
  · exact HW5.out.1.trans ((hb6.mono HW5.out.1.size).trans ((below_setRow ((Below.refl _ w6).alloc (Nat.le_refl _) _) (Nat.le_refl _) _).mono (Nat.le_trans HW5.out.1.size hb6.size)))
  · exact (HW5.out.2.1.below hb6 HW5.out.2.1.lt |>.alloc _).setRow_far (by have := HW5.out.2.1.lt; have := hb6.size; omega) _
  obtain ⟨u, hu, hb7, hP7, hU7⟩ := hw7
  rw [← hu]
  have HW7 := hide (And.intro hb7 (And.intro hP7 hU7))
  clear hu hb7 hP7 hU7 hb6
  have pl := HW7.out.2.1.lt
  have ul := HW7.out.2.2.lt
  rcases HA.out with rfl | rfl
  · refine wp_region_text [0, 0, 0, 2] (· = w7.drew) (by kernel_rfl) (by kernel_rfl) rfl ?_
    iterate 3 (refine wpOrd_q (v := ?_) (by rfl) (fun W hW => ?_) ?_; rotate_left; (focus ((cases hW; go_simp); try with_reducible rfl)); try simp only [Act.put, List.setIfInBounds_toArray, List.set_cons_zero, List.set_cons_succ])
    have hrow := run_copy_row (P := Try.prog) w7.drew 24 24 3 5 p 0 64 64 ⟨u, 0, none⟩ 32 32 (bvs bl).toArray 67 (bvs (encN n)) Try.underlying24 (by kernel_rfl) HW7.out.2.1.drew (by rw [bvs_length, HX.out.2.1]; rfl) (fun j v hj => by
      have := (HW7.out.2.2.drew.range (o := 0) (xs := bvs (encN n)) fun j v hj => by rw [Nat.zero_add, List.getElem?_toArray]; exact hj) j v hj
      rw [Addr.add_mid, Nat.zero_add]
      rw [Nat.zero_add] at this
      exact this) (by rw [bvs_length, HX.out.2.1, bvs_size HX.out.1]; omega) (bvs_one _)
    have hcs : (bvs bl).take 0 ++ bvs (encN n) ++ (bvs bl).drop (0 + (bvs (encN n)).length) = bvs (wrB bl 0 (encN n)) := by
      rw [bvs_take, bvs_drop, bvs_length, ← bvs_append, ← bvs_append]
      rfl
    rw [show (bvs bl).toArray.toList = bvs bl from rfl, hcs] at hrow
    have HROW := hide hrow
    clear hrow hcs
    refine wpOrd_b (by rfl) (fun K hK => ?_)
    refine wp_copy_as (.tmp 42) (.tmp 43) 24 24 rfl _ _ (by rfl) (by rfl) HROW.out ?_
    refine hK (fun _ => True) _ _ trivial (wpOrd_nil ?_)
    clear hK K
    have hwl : (wrB bl 0 (encN n)).length = 64 := by rw [wrB_length (by rw [HX.out.1, HX.out.2.1]; omega)]; exact HX.out.1
    refine at_world (fun W => TxAt W i s ∧ Tch w.heap.size i.own w W ∧ Blk W p 67 (bvs (wrB bl 0 (encN n))).toArray) ⟨HW4.out.1.setRow_new hwp (HW4.out.1.below HW7.out.1.drew) _, (HW4.out.2.1.trans (Tch.of_below (HW7.out.1.drew.mono HW4.out.2.1.size))).trans (Tch.setRow fun hp => absurd hp (by have := HW4.out.2.1.size; omega)), HW7.out.2.1.drew.setRow_same _⟩ (fun w8 hw8 => ?_)
    have hs1 := HX.out.2.2
    generalize wrB bl 0 (encN n) = bl2 at hw8 hwl hs1
    have HW8 := hide (And.intro hw8 (And.intro hwl hs1))
    clear hw8 hwl hs1 pl ul HROW
    go_wp2_with (first | ((with_reducible refine at_load 67 (.tmp 13) ?_); refine wpList_load_blk rfl 67 (.tmp 13) rfl p 67 _ _ (by rfl) HW8.out.1.2.2 Try.underlying67 rfl (size_blockOf HW8.out.2.1) ?_) | fail)
    refine (put_ok HW8.out.1.1 HW8.out.2.1 HC.out.lt HC.out.free HC.out.room).mono ?_
    rintro e w9 ⟨rfl, hx9, ht9⟩
    rw [HW8.out.2.2] at hx9
    have HF := hide (And.intro hx9 (HW8.out.1.2.1.trans ((ht9.sub fun _ h => Ids.own_mm h).mono HW8.out.1.2.1.size fun _ _ h => h)))
    clear hx9 ht9
    go_wp2
    go_returns
    exact ⟨rfl, HF.out.1, HF.out.2⟩
  · refine wp_region_text [0, 0, 0, 2] (· = w7.drew) (by kernel_rfl) (by kernel_rfl) rfl ?_
    iterate 3 (refine wpOrd_q (v := ?_) (by rfl) (fun W hW => ?_) ?_; rotate_left; (focus ((cases hW; go_simp); try with_reducible rfl)); try simp only [Act.put, List.setIfInBounds_toArray, List.set_cons_zero, List.set_cons_succ])
    have hrow := run_copy_row (P := Try.prog) w7.drew 24 24 3 5 p 32 32 32 ⟨u, 0, none⟩ 32 32 (bvs bl).toArray 67 (bvs (encN n)) Try.underlying24 (by kernel_rfl) HW7.out.2.1.drew (by rw [bvs_length, HX.out.2.1]; rfl) (fun j v hj => by
      have := (HW7.out.2.2.drew.range (o := 0) (xs := bvs (encN n)) fun j v hj => by rw [Nat.zero_add, List.getElem?_toArray]; exact hj) j v hj
      rw [Addr.add_mid, Nat.zero_add]
      rw [Nat.zero_add] at this
      exact this) (by rw [bvs_length, HX.out.2.1, bvs_size HX.out.1]; omega) (bvs_one _)
    have hcs : (bvs bl).take 32 ++ bvs (encN n) ++ (bvs bl).drop (32 + (bvs (encN n)).length) = bvs (wrB bl 32 (encN n)) := by
      rw [bvs_take, bvs_drop, bvs_length, ← bvs_append, ← bvs_append]
      rfl
    rw [show (bvs bl).toArray.toList = bvs bl from rfl, hcs] at hrow
    have HROW := hide hrow
    clear hrow hcs
    refine wpOrd_b (by rfl) (fun K hK => ?_)
    refine wp_copy_as (.tmp 42) (.tmp 43) 24 24 rfl _ _ (by rfl) (by rfl) HROW.out ?_
    refine hK (fun _ => True) _ _ trivial (wpOrd_nil ?_)
    clear hK K
    have hwl : (wrB bl 32 (encN n)).length = 64 := by rw [wrB_length (by rw [HX.out.1, HX.out.2.1]; omega)]; exact HX.out.1
    refine at_world (fun W => TxAt W i s ∧ Tch w.heap.size i.own w W ∧ Blk W p 67 (bvs (wrB bl 32 (encN n))).toArray) ⟨HW4.out.1.setRow_new hwp (HW4.out.1.below HW7.out.1.drew) _, (HW4.out.2.1.trans (Tch.of_below (HW7.out.1.drew.mono HW4.out.2.1.size))).trans (Tch.setRow fun hp => absurd hp (by have := HW4.out.2.1.size; omega)), HW7.out.2.1.drew.setRow_same _⟩ (fun w8 hw8 => ?_)
    have hs1 := HX.out.2.2
    generalize wrB bl 32 (encN n) = bl2 at hw8 hwl hs1
    have HW8 := hide (And.intro hw8 (And.intro hwl hs1))
    clear hw8 hwl hs1 pl ul HROW
    go_wp2_with (first | ((with_reducible refine at_load 67 (.tmp 13) ?_); refine wpList_load_blk rfl 67 (.tmp 13) rfl p 67 _ _ (by rfl) HW8.out.1.2.2 Try.underlying67 rfl (size_blockOf HW8.out.2.1) ?_) | fail)
    refine (put_ok HW8.out.1.1 HW8.out.2.1 HC.out.lt HC.out.free HC.out.room).mono ?_
    rintro e w9 ⟨rfl, hx9, ht9⟩
    rw [HW8.out.2.2] at hx9
    have HF := hide (And.intro hx9 (HW8.out.1.2.1.trans ((ht9.sub fun _ h => Ids.own_mm h).mono HW8.out.1.2.1.size fun _ _ h => h)))
    clear hx9 ht9
    go_wp2
    go_returns
    exact ⟨rfl, HF.out.1, HF.out.2⟩

set_option maxRecDepth 100000 in
theorem write_none (w : World) (tt : Nat) {g : GeoN} {num : Int} {n : NodeV} (hn : num < 1 ∨ (g.nodes : Int) < num) :
    Calls Try.prog 46 #[.pointer (some ⟨tt, 0, none⟩), g.val, .int .i64 num, n.val] w fun e w' => e = .returned (.int .i64 27) ∧ Below w.heap.size w w' := by
  have hp := fun W => place_none W hn
  have HP := hide hp
  clear hp hn
  go_enter Try.func46, Try.ntmps46
  go_upto_region 1 with (fail)
  refine at_world (fun W => ∃ b q, b = w.heap.size ∧ q = w.heap.size + 1 ∧ W.heap.size = w.heap.size + 2 ∧ Below w.heap.size w W ∧ Blk W b 112 g.cells.toArray ∧ Blk W q 52 n.cells.toArray) ⟨w.heap.size, w.heap.size + 1, rfl, rfl, by simp, alloc2 w _ _ _ _⟩ (fun w1 hw1 => ?_)
  obtain ⟨b, q, hb, hq, hs1, hb1, hB, hQ⟩ := hw1
  rw [← hq, ← hb]
  have HB1 := hide (And.intro hb1 (And.intro hB hQ))
  clear hb hq hs1 hb1 hQ hB
  go_wp2_with (first | ((with_reducible refine at_load 112 (.tmp 5) ?_); refine wpList_load_blk rfl 112 (.tmp 5) rfl b _ _ _ (by rfl) HB1.out.2.1 Try.underlying112 rfl (size_geo g) ?_) | fail)
  refine (HP.out _).mono ?_
  rintro e w2 ⟨rfl, hb2⟩
  have HW2 := hide (And.intro (HB1.out.1.trans (hb2.mono HB1.out.1.size)) (HB1.out.2.2.below hb2 HB1.out.2.2.lt))
  clear hb2
  go_wp2
  go_returns
  exact ⟨rfl, HW2.out.1⟩

set_option maxRecDepth 100000 in
theorem write_bad (w : World) (tt : Nat) {g : GeoN} {total num : Nat} {n : NodeV} (hg : g.Ok total) (h1 : 1 ≤ num) (h2 : num ≤ g.nodes) (hnd : n.dir.length = 6) (hck : checkN n = false) :
    Calls Try.prog 46 #[.pointer (some ⟨tt, 0, none⟩), g.val, .int .i64 (num : Int), n.val] w fun e w' => e = .returned (.int .i64 28) ∧ Below w.heap.size w w' := by
  have hp := fun W => place_node W hg h1 h2
  have hce : checkE n = 28 := by unfold checkE; rw [hck]; rfl
  have hchk := fun W => check_ok W hnd
  rw [hce] at hchk
  generalize g.base + g.bitmap + (num - 1) / 2 = k at hp
  generalize (num - 1) % 2 * 32 = a at hp
  have HP := hide hp
  have HCK := hide hchk
  have HND := hide hnd
  clear hp hchk hnd hg hce hck
  go_enter Try.func46, Try.ntmps46
  go_upto_region 1 with (fail)
  refine at_world (fun W => ∃ b q, b = w.heap.size ∧ q = w.heap.size + 1 ∧ W.heap.size = w.heap.size + 2 ∧ Below w.heap.size w W ∧ Blk W b 112 g.cells.toArray ∧ Blk W q 52 n.cells.toArray) ⟨w.heap.size, w.heap.size + 1, rfl, rfl, by simp, alloc2 w _ _ _ _⟩ (fun w1 hw1 => ?_)
  obtain ⟨b, q, hb, hq, hs1, hb1, hB, hQ⟩ := hw1
  rw [← hq, ← hb]
  have HB1 := hide (And.intro hb1 (And.intro hB hQ))
  clear hb hq hs1 hb1 hQ hB
  go_wp2_with (first | ((with_reducible refine at_load 112 (.tmp 5) ?_); refine wpList_load_blk rfl 112 (.tmp 5) rfl b _ _ _ (by rfl) HB1.out.2.1 Try.underlying112 rfl (size_geo g) ?_) | fail)
  refine (HP.out _).mono ?_
  rintro e w2 ⟨rfl, hb2⟩
  have HW2 := hide (And.intro (HB1.out.1.trans (hb2.mono HB1.out.1.size)) (HB1.out.2.2.below hb2 HB1.out.2.2.lt))
  clear hb2
  go_wp2_with (first | ((with_reducible refine at_load 52 (.tmp 7) ?_); refine wpList_load_blk rfl 52 (.tmp 7) rfl q _ _ _ (by rfl) HW2.out.2 Try.underlying52 rfl (size_nodeOf HND.out) ?_) | fail)
  refine (HCK.out _).mono ?_
  rintro e w3 ⟨rfl, hb3⟩
  have HW3 := hide (HW2.out.1.trans (hb3.mono HW2.out.1.size))
  clear hb3
  go_wp2
  go_returns
  exact ⟨rfl, HW3.out⟩
end
end Go.Proofs.Ytoeejeieplhifaa

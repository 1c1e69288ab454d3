/- Groups, walked: Make, MakeLink, Wipe, Ino, Usage. -/
import Derived.Test.YtoeejeieplhifaaFsGrp4
namespace Go.Proofs.Ytoeejeieplhifaa
open Go.RowKit
set_option linter.unusedSimpArgs false
set_option linter.unusedVariables false

/-- a node that is made -/
def newN (k : UInt8) : NodeV := { NodeV.zero with kind := k, links := 1 }
/-- may a node of a kind be made? -/
def canMake (k : UInt8) : Bool := decide (k = 1 ∨ k = 2 ∨ k = 3 ∨ k = 5)
theorem check_new {k : UInt8} (h : canMake k = true) (old : NodeV) : checkN (nextN (newN k) old) = true := by
  simp only [canMake, decide_eq_true_eq] at h
  rcases h with rfl | rfl | rfl | rfl <;> rfl
theorem build_new (w : World) (k : UInt8) : (Instr.build 52 #[(0, .int .u8 (k.toNat : Int)), (1, .int .u8 1)]).run Try.prog w = .ok (newN k).val w := by kernel_rfl
theorem build_gone (w : World) (x : UInt16) : (Instr.build 52 #[(2, .int .u16 (x.toNat : Int))]).run Try.prog w = .ok ({ NodeV.zero with gen := x } : NodeV).val w := by kernel_rfl
/-- what making a node comes to: its number, the error -/
def Sto.makeR (s : Sto) (g : GeoN) : Int × Int := match s.freeNode g with
  | none => (0, 10)
  | some num => ((num : Int), 0)
def Sto.makeS (s : Sto) (g : GeoN) (n : NodeV) : Sto := match s.freeNode g with
  | none => s
  | some num => s.setNode g num (nextN n (s.nodeV g num))
theorem node_can {s : Sto} {g : GeoN} {num : Nat} (hg : g.Ok s.D.length) (hr : s.M.length ≤ 29) (h1 : 1 ≤ num) (h2 : num ≤ g.nodes) : s.Can (g.base + g.bitmap + (num - 1) / 2) := by
  have := hg.fits; have := hg.data; have := hg.tab; have := hg.base
  exact can_of (by omega) (by omega) (by omega)
section
variable {w w' : World} {i : Ids} {s : Sto} {gg : Nat} {g : GeoN} {lab : Int}
theorem make_ok {n : NodeV} (h : TxAt w i s) (hG : GroupAt w gg i.tt g lab) (hg : g.Ok s.D.length) (hok : s.NodesOk g) (hr : s.M.length ≤ 29) (hnd : n.dir.length = 6) (hck : ∀ old, checkN (nextN n old) = true) :
    Calls Try.prog 48 #[.pointer (some ⟨gg, 0, none⟩), n.val] w fun e w' => e = .returned (.tuple #[.int .i64 (s.makeR g).1, .int .i64 (s.makeR g).2]) ∧ TxAt w' i (s.makeS g n) ∧ Tch w.heap.size i.own w w' := by
  refine make_walk h hG hg hok hnd (fun hn => ?_) (fun num hn => ?_)
  · unfold Sto.makeR Sto.makeS; rw [hn]; exact ⟨rfl, rfl⟩
  · have hrg := freeFrom_range s g _ _ _ hn
    unfold Sto.makeR Sto.makeS
    rw [hn]
    exact ⟨rfl, fun W hW hGW => gset_ok hW hGW hg (by omega) (by omega) hnd (hck _) (node_can hg hr (by omega) (by omega))⟩

set_option maxRecDepth 100000 in
theorem gmake_ok {k : UInt8} (h : TxAt w i s) (hG : GroupAt w gg i.tt g lab) (hg : g.Ok s.D.length) (hok : s.NodesOk g) (hr : s.M.length ≤ 29) (hk : canMake k = true) :
    Calls Try.prog 21 #[.pointer (some ⟨gg, 0, none⟩), .int .u8 (k.toNat : Int)] w fun e w' => e = .returned (.tuple #[.int .i64 (s.makeR g).1, .int .i64 (s.makeR g).2]) ∧ TxAt w' i (s.makeS g (newN k)) ∧ Tch w.heap.size i.own w w' := by
  have hmk := make_ok (n := newN k) h hG hg hok hr rfl (fun old => check_new hk old)
  have HMK := hide hmk
  clear hmk h hG hg hok hr
  simp only [canMake, decide_eq_true_eq] at hk
  have hb := fun W => build_new W k
  have HB := hide hb
  clear hb
  have t1 : decide ((k.toNat : Int) < 1) = false := by rcases hk with rfl | rfl | rfl | rfl <;> rfl
  have t2 : decide ((5 : Int) < (k.toNat : Int)) = false := by rcases hk with rfl | rfl | rfl | rfl <;> rfl
  have t3 : ((k.toNat : Int) == 4) = false := by rcases hk with rfl | rfl | rfl | rfl <;> rfl
  clear hk
  go_enter Try.func21, Try.ntmps21
  go_wp2_with (first | ((with_reducible refine at_build 52 #[(0, .tmp 21), (1, .const (.int .u8 1))] ?_); refine wpList_run rfl _ (exec_build 52 #[(0, .tmp 21), (1, .const (.int .u8 1))] rfl #[(0, .int .u8 (k.toNat : Int)), (1, .int .u8 1)] (by simp only [List.map_toArray, List.map_cons, List.map_nil]; rfl) _ (HB.out _)) ?_) | fail)
  refine HMK.out.mono ?_
  rintro e w1 ⟨rfl, hx, ht⟩
  have HF := hide (And.intro hx ht)
  clear hx ht HMK
  go_wp2
  go_returns
  exact ⟨rfl, HF.out.1, HF.out.2⟩

/-- a symbolic link that is made -/
def newL (size : UInt32) (block : UInt16) : NodeV := { NodeV.zero with kind := 4, links := 1, size := size, dir := [block, 0, 0, 0, 0, 0] }
theorem build_dir (w : World) (b : UInt16) : (Instr.build 50 #[(0, .int .u16 (b.toNat : Int))]).run Try.prog w = .ok (.agg (([b, 0, 0, 0, 0, 0] : List UInt16).map u16v).toArray) w := by kernel_rfl
theorem build_link (w : World) (s : UInt32) (b : UInt16) : (Instr.build 52 #[(0, .int .u8 4), (1, .int .u8 1), (3, .int .u32 (s.toNat : Int)), (4, .agg (([b, 0, 0, 0, 0, 0] : List UInt16).map u16v).toArray)]).run Try.prog w = .ok (newL s b).val w := by kernel_rfl
theorem check_link {size : UInt32} {block : UInt16} (h1 : 1 ≤ size.toNat) (h2 : size.toNat ≤ 60) (old : NodeV) : checkN (nextN (newL size block) old) = true := by
  have h : checkN (nextN (newL size block) old) = (decide (size.toNat ≤ 16384) && decide (1 ≤ size.toNat ∧ size.toNat ≤ 60)) := rfl
  rw [h]
  simp
  omega
set_option maxRecDepth 100000 in
theorem glink_ok {size block : Nat} (h : TxAt w i s) (hG : GroupAt w gg i.tt g lab) (hg : g.Ok s.D.length) (hok : s.NodesOk g) (hr : s.M.length ≤ 29) (h1 : 1 ≤ size) (h2 : size ≤ 60) (h3 : 1 ≤ block) (h4 : block ≤ g.blocks) :
    Calls Try.prog 15 #[.pointer (some ⟨gg, 0, none⟩), .int .i64 (size : Int), .int .i64 (block : Int)] w fun e w' => e = .returned (.tuple #[.int .i64 (s.makeR g).1, .int .i64 (s.makeR g).2]) ∧ TxAt w' i (s.makeS g (newL (UInt32.ofNat size) (UInt16.ofNat block))) ∧ Tch w.heap.size i.own w w' := by
  have hb6 : block < 65536 := by have := hg.map1; have := hg.data; have := hg.fits; have := hg.small; have := hg.base; omega
  have hs : (UInt32.ofNat size).toNat = size := by rw [UInt32.toNat_ofNat', Nat.mod_eq_of_lt (by omega)]
  have hb : (UInt16.ofNat block).toNat = block := by rw [UInt16.toNat_ofNat', Nat.mod_eq_of_lt (by omega)]
  have hmk := make_ok (n := newL (UInt32.ofNat size) (UInt16.ofNat block)) h hG hg hok hr rfl (fun old => check_link (by omega) (by omega) old)
  have hbd := fun W => build_dir W (UInt16.ofNat block)
  have hbl := fun W => build_link W (UInt32.ofNat size) (UInt16.ofNat block)
  generalize newL (UInt32.ofNat size) (UInt16.ofNat block) = nl at *
  generalize List.map u16v [UInt16.ofNat block, 0, 0, 0, 0, 0] = dl at *
  rw [hb] at hbd
  rw [hs] at hbl
  have c5 := hG.cell 5
  have cl := hG.lt
  have HMK := hide hmk
  have HBD := hide hbd
  have HBL := hide hbl
  have t1 : decide ((size : Int) < 1) = false := by simp; omega
  have t2 : decide ((60 : Int) < (size : Int)) = false := by simp; omega
  have t3 : decide ((block : Int) < 1) = false := by simp; omega
  have t4 : decide (g.blocks < block) = false := by simp; omega
  have e1 : IntKind.u32.wrap (size : Int) = (size : Int) := by rw [IntKind.wrap_u32]; omega
  have e2 : IntKind.u16.wrap (block : Int) = (block : Int) := by rw [IntKind.wrap_u16]; omega
  clear hs hb hmk hbd hbl h hG hg hok hr h1 h2 h3 h4 hb6
  go_enter Try.func15, Try.ntmps15
  go_wp2_with (first | ((with_reducible refine at_build 50 #[(0, .tmp 35)] ?_); refine wpList_run rfl _ (exec_build 50 #[(0, .tmp 35)] rfl #[(0, .int .u16 (block : Int))] (by simp only [List.map_toArray, List.map_cons, List.map_nil]; rfl) _ (HBD.out _)) ?_) | ((with_reducible refine at_build 52 #[(0, .const (.int .u8 4)), (1, .const (.int .u8 1)), (3, .tmp 33), (4, .tmp 36)] ?_); refine wpList_run rfl _ (exec_build 52 #[(0, .const (.int .u8 4)), (1, .const (.int .u8 1)), (3, .tmp 33), (4, .tmp 36)] rfl #[(0, .int .u8 4), (1, .int .u8 1), (3, .int .u32 (size : Int)), (4, .agg dl.toArray)] (by simp only [List.map_toArray, List.map_cons, List.map_nil]; rfl) _ (HBL.out _)) ?_) | fail)
  refine HMK.out.mono ?_
  rintro e w1 ⟨rfl, hx, ht⟩
  have HF := hide (And.intro hx ht)
  clear hx ht HMK
  go_wp2
  go_returns
  exact ⟨rfl, HF.out.1, HF.out.2⟩
set_option maxRecDepth 100000 in
theorem glink_no {size block : Int} {tt : Nat} (hG : GroupAt w gg tt g lab) (hn : size < 1 ∨ 60 < size ∨ block < 1 ∨ (g.blocks : Int) < block) :
    Calls Try.prog 15 #[.pointer (some ⟨gg, 0, none⟩), .int .i64 size, .int .i64 block] w fun e w' => e = .returned (.tuple #[.int .i64 0, .int .i64 27]) ∧ w = w' := by
  have c5 := hG.cell 5
  have cl := hG.lt
  clear hG
  by_cases a1 : size < 1
  · have t1 : decide (size < 1) = true := by simpa using a1
    clear hn a1
    go_enter Try.func15, Try.ntmps15
    go_wp2
    go_returns
    exact ⟨rfl, rfl⟩
  · have t1 : decide (size < 1) = false := by simpa using a1
    by_cases a2 : 60 < size
    · have t2 : decide ((60 : Int) < size) = true := by simpa using a2
      clear hn a1 a2
      go_enter Try.func15, Try.ntmps15
      go_wp2
      go_returns
      exact ⟨rfl, rfl⟩
    · have t2 : decide ((60 : Int) < size) = false := by simpa using a2
      by_cases a3 : block < 1
      · have t3 : decide (block < 1) = true := by simpa using a3
        clear hn a1 a2 a3
        go_enter Try.func15, Try.ntmps15
        go_wp2
        go_returns
        exact ⟨rfl, rfl⟩
      · have t3 : decide (block < 1) = false := by simpa using a3
        have t4 : decide ((g.blocks : Int) < block) = true := by simp; omega
        clear hn a1 a2 a3
        go_enter Try.func15, Try.ntmps15
        go_wp2
        go_returns
        exact ⟨rfl, rfl⟩

/-- a node that is gone -/
def goneN (v : NodeV) : NodeV := { NodeV.zero with gen := v.gen }
theorem check_gone (v : NodeV) : checkN (goneN v) = true := by
  have : checkN (goneN v) = blankN (goneN v) := rfl
  rw [this]
  unfold blankN goneN
  simp
set_option maxRecDepth 100000 in
set_option maxHeartbeats 800000 in
theorem wipe_ok {num : Int} {v : NodeV} {r : Int} {s' : Sto} (h : TxAt w i s) (hG : GroupAt w gg i.tt g lab) (hvd : v.dir.length = 6)
    (hnd : Calls Try.prog 16 #[.pointer (some ⟨gg, 0, none⟩), .int .i64 num] w fun e w' => e = .returned (.tuple #[v.val, .int .i64 0]) ∧ TxAt w' i s ∧ Tch w.heap.size i.own w w')
    (hst : ∀ W, TxAt W i s → GroupAt W gg i.tt g lab → Calls Try.prog 30 #[.pointer (some ⟨gg, 0, none⟩), .int .i64 num, (goneN v).val] W fun e w' => e = .returned (.int .i64 r) ∧ TxAt w' i s' ∧ Tch W.heap.size i.own W w') :
    Calls Try.prog 28 #[.pointer (some ⟨gg, 0, none⟩), .int .i64 num] w fun e w' => e = .returned (.int .i64 r) ∧ TxAt w' i s' ∧ Tch w.heap.size i.own w w' := by
  have H := hide h
  have HG := hide hG
  have HND := hide hnd
  have HST := hide hst
  have HVD := hide hvd
  have hbg := fun W => build_gone W v.gen
  have HBG := hide hbg
  clear h hG hnd hst hvd hbg
  go_enter Try.func28, Try.ntmps28
  go_wp2_with fail
  refine HND.out.mono ?_
  rintro e w2 ⟨rfl, hx2, ht2⟩
  have HX2 := hide hx2
  have HT2 := hide ht2
  clear hx2 ht2 HND
  go_upto_region 2 with (first | ((with_reducible refine at_alloc 52 ?_); refine wpList_alloc_as rfl 52 rfl _ (zero_node _) ?_) | ((with_reducible refine at_store 52 (.tmp 5) (.tmp 11) ?_); refine wpList_store_blk rfl 52 (.tmp 5) (.tmp 11) rfl w2.heap.size _ _ _ (by rfl) (by rfl) (Blk.new _ _ _) (size_nodeOf HVD.out) (by rw [List.size_toArray, List.size_toArray, NodeV.cells_length HVD.out]; rfl) (NodeV.cells_one _) (fun _ => ?_)) | fail)
  refine at_world (fun W => ∃ q, q = w2.heap.size ∧ Below w2.heap.size w2 W ∧ Blk W q 52 v.cells.toArray) ⟨_, rfl, below_setRow ((Below.refl _ _).alloc (Nat.le_refl _) _) (Nat.le_refl _) _, (Blk.new _ _ _).setRow_same _⟩ (fun w3 h3 => ?_)
  obtain ⟨q, hq, hb3, hQ3⟩ := h3
  rw [← hq]
  have HX3 := hide (HX2.out.below hb3)
  have HT3 := hide (HT2.out.trans ((Tch.of_below hb3).mono HT2.out.size fun _ _ h => h))
  have HG3 := hide (GroupAt.tch H.out HG.out HT3.out)
  have q2 := (hQ3.cell 2).trans (node_cells_at v).2.2.1
  have ql := hQ3.lt
  clear hq hb3 hQ3 HX2 HT2
  go_wp2_with (first | ((with_reducible refine at_build 52 #[(2, .tmp 19)] ?_); refine wpList_run rfl _ (exec_build 52 #[(2, .tmp 19)] rfl #[(2, .int .u16 (v.gen.toNat : Int))] (by simp only [List.map_toArray, List.map_cons, List.map_nil]; rfl) _ (HBG.out _)) ?_) | fail)
  refine (HST.out w3 HX3.out HG3.out).mono ?_
  rintro e w4 ⟨rfl, hx4, ht4⟩
  have HF := hide (And.intro hx4 (HT3.out.trans (ht4.mono HT3.out.size fun _ _ h => h)))
  clear hx4 ht4 HST q2 ql
  go_wp2
  go_returns
  exact ⟨rfl, HF.out.1, HF.out.2⟩
set_option maxRecDepth 100000 in
set_option maxHeartbeats 800000 in
theorem wipe_no {num : Int} {v : NodeV} {r : Int} (h : TxAt w i s) (hvd : v.dir.length = 6) (hr : r ≠ 0)
    (hnd : Calls Try.prog 16 #[.pointer (some ⟨gg, 0, none⟩), .int .i64 num] w fun e w' => e = .returned (.tuple #[v.val, .int .i64 r]) ∧ TxAt w' i s ∧ Tch w.heap.size i.own w w') :
    Calls Try.prog 28 #[.pointer (some ⟨gg, 0, none⟩), .int .i64 num] w fun e w' => e = .returned (.int .i64 r) ∧ TxAt w' i s ∧ Tch w.heap.size i.own w w' := by
  have H := hide h
  have HND := hide hnd
  have HVD := hide hvd
  have t1 : (r == 0) = false := by simpa using hr
  clear h hnd hvd hr
  go_enter Try.func28, Try.ntmps28
  go_wp2_with fail
  refine HND.out.mono ?_
  rintro e w2 ⟨rfl, hx2, ht2⟩
  have HX2 := hide hx2
  have HT2 := hide ht2
  clear hx2 ht2 HND
  go_upto_region 2 with (first | ((with_reducible refine at_alloc 52 ?_); refine wpList_alloc_as rfl 52 rfl _ (zero_node _) ?_) | ((with_reducible refine at_store 52 (.tmp 5) (.tmp 11) ?_); refine wpList_store_blk rfl 52 (.tmp 5) (.tmp 11) rfl w2.heap.size _ _ _ (by rfl) (by rfl) (Blk.new _ _ _) (size_nodeOf HVD.out) (by rw [List.size_toArray, List.size_toArray, NodeV.cells_length HVD.out]; rfl) (NodeV.cells_one _) (fun _ => ?_)) | fail)
  refine at_world (fun W => Below w2.heap.size w2 W) (below_setRow ((Below.refl _ _).alloc (Nat.le_refl _) _) (Nat.le_refl _) _) (fun w3 hb3 => ?_)
  have HX3 := hide (HX2.out.below hb3)
  have HT3 := hide (HT2.out.trans ((Tch.of_below hb3).mono HT2.out.size fun _ _ h => h))
  clear hb3 HX2 HT2
  go_wp2
  go_returns
  exact ⟨rfl, HX3.out, HT3.out⟩


/-- how many nodes are there, up to one -/
def Sto.ncnt (s : Sto) (g : GeoN) (m : Nat) : Nat := ((List.range m).filter fun k => decide ((s.nodeV g (k + 1)).kind ≠ 0)).length
theorem ncnt_succ (s : Sto) (g : GeoN) (k : Nat) : s.ncnt g (k + 1) = s.ncnt g k + if (s.nodeV g (k + 1)).kind = 0 then 0 else 1 := by
  unfold Sto.ncnt
  rw [List.range_succ, List.filter_append, List.length_append]
  congr 1
  by_cases h : (s.nodeV g (k + 1)).kind = 0 <;> simp [h]
theorem ncnt_le (s : Sto) (g : GeoN) (m : Nat) : s.ncnt g m ≤ m := by
  have := List.length_filter_le (fun k => decide ((s.nodeV g (k + 1)).kind ≠ 0)) (List.range m)
  rw [List.length_range] at this
  exact this
set_option maxRecDepth 100000 in
set_option maxHeartbeats 1600000 in
theorem usage_ok (h : TxAt w i s) (hG : GroupAt w gg i.tt g lab) (hg : g.Ok s.D.length) (hok : s.NodesOk g) :
    Calls Try.prog 24 #[.pointer (some ⟨gg, 0, none⟩)] w fun e w' => e = .returned (.tuple #[.int .i64 (s.cntBit g.base g.blocks : Int), .int .i64 (s.ncnt g g.nodes : Int), .int .i64 0]) ∧ TxAt w' i s ∧ Tch w.heap.size i.own w w' := by
  obtain ⟨b1, b2, b3⟩ := geo_bits hg
  have hgn : g.nodes ≤ 131072 := by have := hg.tab; have := hg.fits; have := hg.data; have := hg.small; omega
  have hcnt := fun W bm (hW : TxAt W i s) (hB : BitsAt W bm i.tt g.base g.blocks) => count_ok hW hB b1 b2 b3
  generalize s.cntBit g.base g.blocks = cb at *
  have H := hide h
  have HG := hide hG
  have HGO := hide hg
  have HOK := hide hok
  have HB := hide (And.intro b1 b2)
  have HC := hide hcnt
  clear h hG hg hok b1 b2 b3 hcnt
  go_enter Try.func24, Try.ntmps24
  go_wp2_with fail
  refine (taken_ok HG.out HB.out.1 HB.out.2).mono ?_
  rintro e w1 ⟨bm, rfl, -, hbm, hb1⟩
  have HW := hide (And.intro (H.out.below hb1) (And.intro hbm hb1))
  clear hbm hb1
  go_wp2_with fail
  refine (HC.out w1 bm HW.out.1 HW.out.2.1).mono ?_
  rintro e w2 ⟨rfl, hx2, ht2⟩
  have HX2 := hide hx2
  have HT2 := hide ((Tch.of_below (S := i.own) HW.out.2.2).trans (ht2.mono HW.out.2.2.size fun _ _ h => h))
  clear hx2 ht2 HW
  go_wp2_with fail
  go_loopg [2, 3, 5] g.nodes (fun gh x2 x3 x5 wr => ∃ k : Nat, k ≤ g.nodes ∧ gh = g.nodes - k ∧ x2 = .int .i64 (cb : Int) ∧ x3 = .int .i64 (s.ncnt g k : Int) ∧ x5 = .int .i64 ((k : Int) + 1) ∧ Hid (TxAt wr i s) ∧ Hid (Tch w.heap.size i.own w wr))
  case atStart => exact ⟨0, Nat.zero_le _, rfl, rfl, rfl, rfl, HX2, HT2⟩
  case round =>
    obtain ⟨k, hk, hgh, rfl, rfl, rfl, HX, HT⟩ := hrel
    have HGH := hide hgh
    clear hgh
    have HGr := hide (GroupAt.tch H.out HG.out HT.out)
    have c6 := HGr.out.cell 6
    have cl := HGr.out.lt
    rcases Nat.lt_or_ge k g.nodes with hkl | hkl
    · have t1 : decide ((k : Int) + 1 ≤ (g.nodes : Int)) = true := by simp; omega
      have hgn := gnode_ok (num := k + 1) HX.out HGr.out HGO.out (by omega) (by omega)
      rw [HOK.out (k + 1) (by omega) (by omega), show ((k + 1 : Nat) : Int) = (k : Int) + 1 from by omega] at hgn
      have hvd := nodeV_dir s g (k + 1)
      have hcs := ncnt_succ s g k
      have hcl := ncnt_le s g k
      generalize s.nodeV g (k + 1) = v at hgn hvd hcs
      generalize s.ncnt g k = cc at hcs hcl ⊢
      have HGN := hide hgn
      have HVD := hide hvd
      have HCS := hide hcs
      have e3 : IntKind.i64.wrap ((cc : Int) + 1) = (cc : Int) + 1 := IntWalk.i64_in _ (by omega)
      have e5 : IntKind.i64.wrap ((k : Int) + 1 + 1) = (k : Int) + 1 + 1 := IntWalk.i64_in _ (by omega)
      clear hgn hvd hcs hcl
      go_wp2_with fail
      refine HGN.out.mono ?_
      rintro e w2 ⟨rfl, hx2, ht2⟩
      have HX2 := hide hx2
      have HT2 := hide (HT.out.trans (ht2.mono HT.out.size fun _ _ h => h))
      clear hx2 ht2 HX HT HGN HGr c6 cl
      go_upto_region 10 with (first | ((with_reducible refine at_alloc 52 ?_); refine wpList_alloc_as rfl 52 rfl _ (zero_node _) ?_) | ((with_reducible refine at_store 52 (.tmp 6) (.tmp 32) ?_); refine wpList_store_blk rfl 52 (.tmp 6) (.tmp 32) rfl w2.heap.size _ _ _ (by rfl) (by rfl) (Blk.new _ _ _) (size_nodeOf HVD.out) (by rw [List.size_toArray, List.size_toArray, NodeV.cells_length HVD.out]; rfl) (NodeV.cells_one _) (fun _ => ?_)) | fail)
      refine at_world (fun W => ∃ q, q = w2.heap.size ∧ Below w2.heap.size w2 W ∧ Blk W q 52 v.cells.toArray) ⟨_, rfl, below_setRow ((Below.refl _ _).alloc (Nat.le_refl _) _) (Nat.le_refl _) _, (Blk.new _ _ _).setRow_same _⟩ (fun w3 h3 => ?_)
      obtain ⟨q, hq, hb3, hQ3⟩ := h3
      rw [← hq]
      have HX3 := hide (HX2.out.below hb3)
      have HT3 := hide (HT2.out.trans ((Tch.of_below hb3).mono HT2.out.size fun _ _ h => h))
      have q0 := (hQ3.cell 0).trans (node_cells_at v).1
      have ql := hQ3.lt
      have hkz := kind_zero v.kind
      clear hq hb3 hQ3 HX2 HT2
      by_cases hk0 : v.kind = 0
      · have tk : ((v.kind.toNat : Int) == 0) = true := by rw [beq_iff_eq]; exact hkz.1 hk0
        have HN : Hid (s.ncnt g (k + 1) = cc) := hide (by rw [HCS.out, if_pos hk0]; rfl)
        clear hk0 hkz HCS
        go_wp2
        go_roundg (g.nodes - (k + 1))
        case rel => exact ⟨k + 1, by omega, rfl, rfl, by rw [HN.out], by first | rfl | go_num, HX3, HT3⟩
        case measure => have := HGH.out; omega
      · have tk : ((v.kind.toNat : Int) == 0) = false := by rw [beq_eq_false_iff_ne]; exact fun e => hk0 (hkz.2 e)
        have HN : Hid (s.ncnt g (k + 1) = cc + 1) := hide (by rw [HCS.out, if_neg hk0])
        clear hk0 hkz HCS
        go_wp2
        go_roundg (g.nodes - (k + 1))
        case rel => exact ⟨k + 1, by omega, rfl, rfl, by rw [HN.out]; first | rfl | go_num, by first | rfl | go_num, HX3, HT3⟩
        case measure => have := HGH.out; omega
    · have t1 : decide ((k : Int) + 1 ≤ (g.nodes : Int)) = false := by simp; omega
      have hke : k = g.nodes := by omega
      have HKE := hide hke
      clear hke
      go_wp2
      go_returns
      exact ⟨by rw [HKE.out]; rfl, HX.out, HT.out⟩

/-- which node is meant -/
def inoC (l n g : Int) : Array Value := #[.int .u8 l, .int .u16 n, .int .u16 g]
theorem zero_ino (w : World) : (zeroValue 153).run Try.prog w = .ok (.agg (inoC 0 0 0)) w := by kernel_rfl
theorem build_ino0 (w : World) : (Instr.build 153 #[]).run Try.prog w = .ok (.agg (inoC 0 0 0)) w := by kernel_rfl
theorem build_ino (w : World) (l n g : Int) : (Instr.build 153 #[(0, .int .u8 l), (1, .int .u16 n), (2, .int .u16 g)]).run Try.prog w = .ok (.agg (inoC l n g)) w := by kernel_rfl
theorem size_ino (l n g : Int) : (Try.prog.info? 153).map (·.size) = some (inoC l n g).size := by
  have : (Try.prog.info? 153).map (·.size) = some 3 := by kernel_rfl
  rw [this]; rfl
theorem ino_one (l n g : Int) : (inoC l n g).all (·.oneCell') = true := by simp [inoC, Value.oneCell']
set_option maxRecDepth 100000 in
set_option maxHeartbeats 1600000 in
theorem ino_any {num : Int} {v : NodeV} {r : Int} (h : TxAt w i s) (hG : GroupAt w gg i.tt g lab) (hvd : v.dir.length = 6) {x : Array Value} {r' : Int}
    (hx0 : r ≠ 0 → x = inoC 0 0 0 ∧ r' = r) (hx1 : r = 0 → v.kind = 0 → x = inoC 0 0 0 ∧ r' = 3) (hx2 : r = 0 → v.kind ≠ 0 → x = inoC (IntKind.u8.wrap lab) (IntKind.u16.wrap num) (v.gen.toNat : Int) ∧ r' = 0)
    (hnd : ∀ W, TxAt W i s → GroupAt W gg i.tt g lab → Calls Try.prog 16 #[.pointer (some ⟨gg, 0, none⟩), .int .i64 num] W fun e w' => e = .returned (.tuple #[v.val, .int .i64 r]) ∧ TxAt w' i s ∧ Tch W.heap.size i.own W w') :
    Calls Try.prog 67 #[.pointer (some ⟨gg, 0, none⟩), .int .i64 num] w fun e w' => e = .returned (.tuple #[.agg x, .int .i64 r']) ∧ TxAt w' i s ∧ Tch w.heap.size i.own w w' := by
  have H := hide h
  have HG := hide hG
  have HND := hide hnd
  have HVD := hide hvd
  have HX0 := hide hx0
  have HX1 := hide hx1
  have HXX := hide hx2
  clear h hG hnd hvd hx0 hx1 hx2
  go_enter Try.func67, Try.ntmps67
  go_upto_region 1 with (first | ((with_reducible refine at_alloc 153 ?_); refine wpList_alloc_as rfl 153 rfl _ (zero_ino _) ?_) | fail)
  refine at_world (fun W => ∃ p, p = w.heap.size ∧ Below w.heap.size w W ∧ Blk W p 153 (inoC 0 0 0)) ⟨_, rfl, (Below.refl _ _).alloc (Nat.le_refl _) _, Blk.new _ _ _⟩ (fun w1 hw1 => ?_)
  obtain ⟨p, hp, hb1, hP⟩ := hw1
  rw [← hp]
  have HWP := hide (show w.heap.size ≤ p from Nat.le_of_eq hp.symm)
  have HP := hide hP
  have HT1 := hide (Tch.of_below (S := i.own) hb1)
  have hn1 := HND.out w1 (H.out.below hb1) (HG.out.below hb1)
  have HN1 := hide hn1
  clear hp hb1 hP hn1 HND
  go_wp2_with fail
  refine HN1.out.mono ?_
  rintro e w2 ⟨rfl, hx2, ht2⟩
  have HX2 := hide hx2
  have HT2 := hide (HT1.out.trans (ht2.mono HT1.out.size fun _ _ h => h))
  have HP2 := hide (HP.out.tch ht2 HP.out.lt (fun hk => H.out.other_new HWP.out hk))
  clear hx2 ht2 HN1 HP HT1
  go_upto_region 2 with (first | ((with_reducible refine at_alloc 52 ?_); refine wpList_alloc_as rfl 52 rfl _ (zero_node _) ?_) | ((with_reducible refine at_store 52 (.tmp 6) (.tmp 12) ?_); refine wpList_store_blk rfl 52 (.tmp 6) (.tmp 12) rfl w2.heap.size _ _ _ (by rfl) (by rfl) (Blk.new _ _ _) (size_nodeOf HVD.out) (by rw [List.size_toArray, List.size_toArray, NodeV.cells_length HVD.out]; rfl) (NodeV.cells_one _) (fun _ => ?_)) | fail)
  refine at_world (fun W => ∃ q, q = w2.heap.size ∧ Below w2.heap.size w2 W ∧ Blk W q 52 v.cells.toArray) ⟨_, rfl, below_setRow ((Below.refl _ _).alloc (Nat.le_refl _) _) (Nat.le_refl _) _, (Blk.new _ _ _).setRow_same _⟩ (fun w3 h3 => ?_)
  obtain ⟨q, hq, hb3, hQ3⟩ := h3
  rw [← hq]
  have HX3 := hide (HX2.out.below hb3)
  have HT3 := hide (HT2.out.trans ((Tch.of_below hb3).mono HT2.out.size fun _ _ h => h))
  have HP3 := hide (HP2.out.below hb3 HP2.out.lt)
  have HG3 := hide (GroupAt.tch H.out HG.out HT3.out)
  have q0 := (hQ3.cell 0).trans (node_cells_at v).1
  have q2 := (hQ3.cell 2).trans (node_cells_at v).2.2.1
  have ql := hQ3.lt
  have hpq : q ≠ p := by have := HP2.out.lt; omega
  clear hq hb3 hQ3 HX2 HT2 HP2
  by_cases hr : r = 0
  · have hkz := kind_zero v.kind
    have t0 : (r == 0) = true := by simpa using hr
    by_cases hk0 : v.kind = 0
    · have tk : ((v.kind.toNat : Int) == 0) = true := by rw [beq_iff_eq]; exact hkz.1 hk0
      obtain ⟨rfl, rfl⟩ := HX1.out hr hk0
      clear hkz hk0 hr HX0 HX1 HXX
      go_wp2_with (first | ((with_reducible refine at_build 153 #[] ?_); refine wpList_zero_as rfl 153 rfl _ (build_ino0 _) ?_) | ((with_reducible refine at_store 153 (.tmp 4) (.tmp 23) ?_); refine wpList_store_blk rfl 153 (.tmp 4) (.tmp 23) rfl p _ _ _ (by rfl) (by rfl) HP3.out (size_ino _ _ _) rfl (ino_one _ _ _) (fun hB4 => ?_)) | ((with_reducible refine at_end ?_); refine bodyPost_ret (v := .tuple #[.agg (inoC 0 0 0), .int .i64 3]) (results_run2 rfl (ResV.row rfl hB4 Try.underlying153 rfl (size_ino _ _ _)) rfl) rfl ⟨rfl, ?_, ?_⟩) | fail)
      · exact H.out.setRow_new HWP.out HX3.out _
      · exact HT3.out.trans (Tch.setRow fun hp => absurd hp (by have := HWP.out; omega))
    · have tk : ((v.kind.toNat : Int) == 0) = false := by rw [beq_eq_false_iff_ne]; exact fun e => hk0 (hkz.2 e)
      obtain ⟨rfl, rfl⟩ := HXX.out hr hk0
      clear hkz hk0 hr HX0 HX1 HXX
      have c7 := HG3.out.cell 7
      have cl := HG3.out.lt
      go_upto_region 6 with (fail)
      refine wp_region_text [0, 0, 0, 0, 0, 0, 0, 0, 0, 0, 2, 0] (· = w3.drew) (by kernel_rfl) (by kernel_rfl) rfl ?_
      iterate 9 (refine wpOrd_q (v := ?_) (by rfl) (fun W hW => ?_) ?_; rotate_left; (focus ((cases hW; go_simp); try with_reducible rfl)); try simp only [Act.put, List.setIfInBounds_toArray, List.set_cons_zero, List.set_cons_succ])
      refine wpOrd_q (v := .agg (inoC (IntKind.u8.wrap lab) (IntKind.u16.wrap num) (v.gen.toNat : Int))) (by rfl) (fun W hW => exec_build 153 _ rfl _ (by simp only [List.map_toArray, List.map_cons, List.map_nil]; rfl) _ (build_ino _ _ _ _)) ?_
      try simp only [Act.put, List.setIfInBounds_toArray, List.set_cons_zero, List.set_cons_succ]
      refine wpOrd_b (by rfl) (fun K hK => ?_)
      refine wp_store_blk 153 (.tmp 4) (.tmp 33) rfl p 153 _ _ (by rfl) (by rfl) HP3.out.drew (size_ino (IntKind.u8.wrap lab) (IntKind.u16.wrap num) (v.gen.toNat : Int)) rfl (ino_one (IntKind.u8.wrap lab) (IntKind.u16.wrap num) (v.gen.toNat : Int)) (fun hB4 => ?_)
      refine hK (fun _ => True) _ _ trivial ?_
      clear hK K
      try simp only [Act.put, List.setIfInBounds_toArray, List.set_cons_zero, List.set_cons_succ]
      iterate 1 (refine wpOrd_q (v := ?_) (by rfl) (fun W hW => ?_) ?_; rotate_left; (focus (go_simp; try with_reducible rfl)); try simp only [Act.put, List.setIfInBounds_toArray, List.set_cons_zero, List.set_cons_succ])
      refine wpOrd_nil ?_
      have HB4 := hide hB4
      clear hB4 c7 cl
      go_wp2_with (first | ((with_reducible refine at_end ?_); refine bodyPost_ret (v := .tuple #[.agg (inoC (IntKind.u8.wrap lab) (IntKind.u16.wrap num) (v.gen.toNat : Int)), .int .i64 0]) (results_run2 rfl (ResV.row rfl HB4.out Try.underlying153 rfl (size_ino _ _ _)) rfl) rfl ⟨rfl, ?_, ?_⟩) | fail)
      · exact H.out.setRow_new HWP.out (HX3.out.below (Below.refl _ _).drew) _
      · exact (HT3.out.drew).trans (Tch.setRow fun hp => absurd hp (by have := HWP.out; omega))
  · have t0 : (r == 0) = false := by simpa using hr
    obtain ⟨rfl, rfl⟩ := HX0.out hr
    clear hr HX0 HX1 HXX
    go_wp2_with (first | ((with_reducible refine at_build 153 #[] ?_); refine wpList_zero_as rfl 153 rfl _ (build_ino0 _) ?_) | ((with_reducible refine at_store 153 (.tmp 4) (.tmp 17) ?_); refine wpList_store_blk rfl 153 (.tmp 4) (.tmp 17) rfl p _ _ _ (by rfl) (by rfl) HP3.out (size_ino _ _ _) rfl (ino_one _ _ _) (fun hB4 => ?_)) | ((with_reducible refine at_end ?_); refine bodyPost_ret (v := .tuple #[.agg (inoC 0 0 0), .int .i64 r']) (results_run2 rfl (ResV.row rfl hB4 Try.underlying153 rfl (size_ino _ _ _)) rfl) rfl ⟨rfl, ?_, ?_⟩) | fail)
    · exact H.out.setRow_new HWP.out HX3.out _
    · exact HT3.out.trans (Tch.setRow fun hp => absurd hp (by have := HWP.out; omega))

set_option maxRecDepth 100000 in
theorem gput_no {tt n : Nat} {b : BlkV} (hG : GroupAt w gg tt g lab) (hn : n < 65536) (h : n < 1 ∨ g.blocks < n) :
    Calls Try.prog 27 #[.pointer (some ⟨gg, 0, none⟩), .int .u16 (n : Int), bval b] w fun e w' => e = .returned (.int .i64 27) ∧ Below w.heap.size w w' := by
  go_enter Try.func27, Try.ntmps27
  go_upto_region 1 with (fail)
  refine at_world (fun W => Below w.heap.size w W) ((Below.refl _ _).alloc (Nat.le_refl _) _) (fun w1 hb1 => ?_)
  have hh := has_not (hG.below hb1) hn h
  have HH := hide hh
  have HB := hide hb1
  clear hh hb1 hG h
  go_wp2_with fail
  refine HH.out.mono ?_
  rintro e w2 ⟨rfl, rfl⟩
  go_wp2
  go_returns
  exact ⟨rfl, HB.out⟩
set_option maxRecDepth 100000 in
theorem gget_no {tt n : Nat} (hG : GroupAt w gg tt g lab) (hn : n < 65536) (h : n < 1 ∨ g.blocks < n) :
    Calls Try.prog 29 #[.pointer (some ⟨gg, 0, none⟩), .int .u16 (n : Int)] w fun e w' => e = .returned (.tuple #[bval zeroB, .int .i64 27]) ∧ Below w.heap.size w w' := by
  go_enter Try.func29, Try.ntmps29
  go_upto_region 1 with (first | ((with_reducible refine at_alloc 67 ?_); refine wpList_alloc_as rfl 67 rfl _ (zero_block _) ?_) | fail)
  refine at_world (fun W => ∃ p, p = w.heap.size ∧ Below w.heap.size w W ∧ Blk W p 67 (bvs zeroB).toArray) ⟨_, rfl, (Below.refl _ _).alloc (Nat.le_refl _) _, Blk.new _ _ _⟩ (fun w1 hw1 => ?_)
  obtain ⟨p, hp, hb1, hP⟩ := hw1
  rw [← hp]
  have hwp : w.heap.size ≤ p := Nat.le_of_eq hp.symm
  have hh := has_not (hG.below hb1) hn h
  have HH := hide hh
  have HB := hide hb1
  have HP := hide hP
  clear hh hb1 hP hG h hp
  go_wp2_with fail
  refine HH.out.mono ?_
  rintro e w2 ⟨rfl, rfl⟩
  go_wp2_with (first | ((with_reducible refine at_build 67 #[] ?_); refine wpList_zero_as rfl 67 rfl _ (build_block _) ?_) | ((with_reducible refine at_store 67 (.tmp 4) (.tmp 15) ?_); refine wpList_store_blk rfl 67 (.tmp 4) (.tmp 15) rfl p 67 _ _ (by rfl) (by rfl) HP.out (size_blockOf zeroB_length) ((bvs_size zeroB_length).trans (bvs_size zeroB_length).symm) (bvs_oneCell _) (fun hB3 => ?_)) | ((with_reducible refine at_end ?_); refine bodyPost_ret (v := .tuple #[bval zeroB, .int .i64 27]) (results_run2 rfl (ResV.row rfl hB3 Try.underlying67 rfl (size_blockOf zeroB_length)) rfl) rfl ⟨rfl, below_setRow HB.out hwp _⟩) | fail)
end
end Go.Proofs.Ytoeejeieplhifaa

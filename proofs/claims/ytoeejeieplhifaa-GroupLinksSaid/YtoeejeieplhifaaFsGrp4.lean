/- Groups, walked: make, Make, MakeLink. -/
import Derived.Test.YtoeejeieplhifaaFsGrp3
namespace Go.Proofs.Ytoeejeieplhifaa
open Go.RowKit
set_option linter.unusedSimpArgs false
set_option linter.unusedVariables false

/-- the first free node of those from num on, so many -/
def Sto.freeFrom (s : Sto) (g : GeoN) : Nat → Nat → Option Nat
  | _, 0 => none
  | num, m + 1 => if (s.nodeV g num).kind = 0 then some num else s.freeFrom g (num + 1) m
/-- the first free node -/
def Sto.freeNode (s : Sto) (g : GeoN) : Option Nat := s.freeFrom g 1 g.nodes
/-- all nodes have a right form -/
def Sto.NodesOk (s : Sto) (g : GeoN) : Prop := ∀ num, 1 ≤ num → num ≤ g.nodes → s.nodeE g num = 0
theorem kind_zero (k : UInt8) : (k = 0) ↔ ((k.toNat : Int) = 0) := ⟨fun e => by rw [e]; rfl, fun e => UInt8.toNat_inj.1 (by simpa using e)⟩
theorem freeFrom_range (s : Sto) (g : GeoN) : ∀ (m num k : Nat), s.freeFrom g num m = some k → num ≤ k ∧ k < num + m
  | 0, _, _, h => by simp [Sto.freeFrom] at h
  | m + 1, num, k, h => by
    unfold Sto.freeFrom at h
    split at h
    · cases h; omega
    · have := freeFrom_range s g m (num + 1) k h; omega
/-- a node of the next generation -/
def nextN (n : NodeV) (old : NodeV) : NodeV := { n with gen := old.gen + 1 }

theorem node_gen (n : NodeV) (x : UInt16) : n.cells.toArray.setIfInBounds 2 (.int .u16 (x.toNat : Int)) = ({ n with gen := x } : NodeV).cells.toArray := by
  simp [NodeV.cells]
theorem gen_next' (x : UInt16) : ((x.toNat : Int) + 1) % 65536 = ((x + 1).toNat : Int) := by
  have h := x.toNat_lt
  rw [UInt16.toNat_add]
  simp
theorem TxAt.setCell_new {w w2 : World} {i : Ids} {s : Sto} {q k : Nat} (h : TxAt w i s) (hq : w.heap.size ≤ q) (hx : TxAt w2 i s) (v : Value) : TxAt (w2.setCell ⟨q, k, none⟩ v) i s := by
  have a1 := h.txn.lt
  have a2 := h.map.lt
  have a3 := h.log.log.lt
  have a4 := h.log.disk.row.lt
  have a5 := h.log.disk.dlt
  exact ⟨hx.txn.far (p := ⟨q, k, none⟩) (by simp only; omega) v, hx.map.keep (heap_setCell_other _ _ _ _ (by simp only; omega)), ⟨hx.log.log.far (p := ⟨q, k, none⟩) (by simp only; omega) v, hx.log.disk.keep (heap_setCell_other _ _ _ _ (by simp only; omega)) (heap_setCell_other _ _ _ _ (by simp only; omega))⟩, hx.ok⟩
theorem gen_next (x : UInt16) : IntKind.u16.wrap ((x.toNat : Int) + 1) = ((x + 1).toNat : Int) := by
  have h := x.toNat_lt
  rw [IntKind.wrap_u16, UInt16.toNat_add]
  simp
section
variable {w w' : World} {i : Ids} {s : Sto} {gg : Nat} {g : GeoN} {lab : Int}
set_option maxRecDepth 100000 in
set_option maxHeartbeats 1600000 in
theorem make_walk {n : NodeV} {r : Int × Int} {s' : Sto} (h : TxAt w i s) (hG : GroupAt w gg i.tt g lab) (hg : g.Ok s.D.length) (hok : s.NodesOk g) (hnd : n.dir.length = 6)
    (hnone : s.freeNode g = none → r = (0, 10) ∧ s' = s)
    (hsome : ∀ num, s.freeNode g = some num → r.1 = (num : Int) ∧ ∀ W, TxAt W i s → GroupAt W gg i.tt g lab → Calls Try.prog 30 #[.pointer (some ⟨gg, 0, none⟩), .int .i64 (num : Int), (nextN n (s.nodeV g num)).val] W fun e w' => e = .returned (.int .i64 r.2) ∧ TxAt w' i s' ∧ Tch W.heap.size i.own W w') :
    Calls Try.prog 48 #[.pointer (some ⟨gg, 0, none⟩), n.val] w fun e w' => e = .returned (.tuple #[.int .i64 r.1, .int .i64 r.2]) ∧ TxAt w' i s' ∧ Tch w.heap.size i.own w w' := by
  have hgn : g.nodes ≤ 131072 := by have := hg.tab; have := hg.fits; have := hg.data; have := hg.small; omega
  have H := hide h
  have HG := hide hG
  have HGO := hide hg
  have HOK := hide hok
  have HND := hide hnd
  have HN := hide hnone
  have HS := hide hsome
  clear h hG hg hok hnd hnone hsome
  go_enter Try.func48, Try.ntmps48
  go_upto_region 1 with (fail)
  refine at_world (fun W => ∃ p, p = w.heap.size ∧ Below w.heap.size w W ∧ Blk W p 52 n.cells.toArray) ⟨_, rfl, (Below.refl _ _).alloc (Nat.le_refl _) _, Blk.new _ _ _⟩ (fun w1 hw1 => ?_)
  obtain ⟨p, hp, hb1, hP⟩ := hw1
  rw [← hp]
  have HP := hide (show ¬ i.own p ∧ w.heap.size ≤ p from ⟨fun hk => H.out.other_new (Nat.le_of_eq hp.symm) hk, Nat.le_of_eq hp.symm⟩)
  have HB1 := hide hb1
  have HP1 := hide hP
  clear hp hb1 hP
  go_wp2_with fail
  go_loopg [6] g.nodes (fun gh x6 wr => ∃ k : Nat, k ≤ g.nodes ∧ gh = g.nodes - k ∧ x6 = .int .i64 ((k : Int) + 1) ∧ Hid (TxAt wr i s) ∧ Hid (Tch w.heap.size i.own w wr) ∧ Hid (Blk wr p 52 n.cells.toArray) ∧ Hid (s.freeFrom g (k + 1) (g.nodes - k) = s.freeNode g))
  case atStart => exact ⟨0, Nat.zero_le _, rfl, rfl, hide (H.out.below HB1.out), hide (Tch.of_below HB1.out), HP1, hide rfl⟩
  case round =>
    obtain ⟨k, hk, hgh, rfl, HX, HT, HPr, HF⟩ := hrel
    have HGH := hide hgh
    clear hgh
    have HGr := hide (GroupAt.tch H.out HG.out HT.out)
    have c6 := HGr.out.cell 6
    have cl := HGr.out.lt
    rcases Nat.lt_or_ge k g.nodes with hkl | hkl
    · have t1 : decide ((k : Int) + 1 ≤ (g.nodes : Int)) = true := by simp; omega
      have hgn := gnode_ok (num := k + 1) HX.out HGr.out HGO.out (by omega) (by omega)
      rw [HOK.out (k + 1) (by omega) (by omega), show ((k + 1 : Nat) : Int) = (k : Int) + 1 from by omega] at hgn
      have hvd := nodeV_dir s g (k + 1)
      have HS1 := hide (HS.out (k + 1))
      have HF1 : Hid (s.freeNode g = if (s.nodeV g (k + 1)).kind = 0 then some (k + 1) else s.freeFrom g (k + 1 + 1) (g.nodes - (k + 1))) := hide (by
        rw [← HF.out, show g.nodes - k = (g.nodes - (k + 1)) + 1 from by omega, Sto.freeFrom])
      generalize s.nodeV g (k + 1) = v at hgn hvd HS1 HF1
      have HGN := hide hgn
      have HVD := hide hvd
      clear hgn hvd HF
      go_wp2_with fail
      refine HGN.out.mono ?_
      rintro e w2 ⟨rfl, hx2, ht2⟩
      have HX2 := hide hx2
      have HT2 := hide (HT.out.trans (ht2.mono HT.out.size fun _ _ h => h))
      have HP2 := hide (HPr.out.tch ht2 HPr.out.lt HP.out.1)
      clear hx2 ht2 HX HT HPr HGN HGr c6 cl
      go_upto_region 5 with (first | ((with_reducible refine at_alloc 52 ?_); refine wpList_alloc_as rfl 52 rfl _ (zero_node _) ?_) | ((with_reducible refine at_store 52 (.tmp 7) (.tmp 22) ?_); refine wpList_store_blk rfl 52 (.tmp 7) (.tmp 22) rfl w2.heap.size _ _ _ (by rfl) (by rfl) (Blk.new _ _ _) (size_nodeOf HVD.out) (by rw [List.size_toArray, List.size_toArray, NodeV.cells_length HVD.out]; rfl) (NodeV.cells_one _) (fun _ => ?_)) | fail)
      refine at_world (fun W => ∃ q, q = w2.heap.size ∧ Below w2.heap.size w2 W ∧ Blk W q 52 v.cells.toArray) ⟨_, rfl, below_setRow ((Below.refl _ _).alloc (Nat.le_refl _) _) (Nat.le_refl _) _, (Blk.new _ _ _).setRow_same _⟩ (fun w3 h3 => ?_)
      obtain ⟨q, hq, hb3, hQ3⟩ := h3
      rw [← hq]
      have HX3 := hide (HX2.out.below hb3)
      have HT3 := hide (HT2.out.trans ((Tch.of_below hb3).mono HT2.out.size fun _ _ h => h))
      have HP3 := hide (HP2.out.below hb3 HP2.out.lt)
      have HG3 := hide (GroupAt.tch H.out HG.out HT3.out)
      have hqp : q ≠ p := by have := HP2.out.lt; omega
      have q0 := (hQ3.cell 0).trans (node_cells_at v).1
      have q2 := (hQ3.cell 2).trans (node_cells_at v).2.2.1
      have ql := hQ3.lt
      have p2 := HP3.out.cell 2
      have p2f := HP3.out.frozen 2
      have pl := HP3.out.lt
      have hkz := kind_zero v.kind
      clear hq hb3 hQ3 HX2 HT2 HP2
      by_cases hk0 : v.kind = 0
      · have tk : ((v.kind.toNat : Int) == 0) = true := by rw [beq_iff_eq]; exact hkz.1 hk0
        have hset := HS1.out (by rw [HF1.out, if_pos hk0])
        rw [show ((k + 1 : Nat) : Int) = (k : Int) + 1 from by omega] at hset
        have hr1 := hset.1
        have hgx := gen_next v.gen
        have HR1 := hide hr1
        have HSET := hide hset.2
        clear hk0 hkz hset hr1 HS1 HF1
        go_upto_region 9 with (fail)
        rw [gen_next']
        refine at_world (fun W => Blk W p 52 (nextN n v).cells.toArray ∧ TxAt W i s ∧ Tch w.heap.size i.own w W) ⟨by rw [nextN, ← node_gen]; exact HP3.out.set_ 2 _, H.out.setCell_new HP.out.2 HX3.out _, HT3.out.trans (Tch.setCell (p := ⟨p, 2, none⟩) fun hk => absurd hk (by have := HP.out.2; simp only; omega))⟩ (fun w4 h4 => ?_)
        obtain ⟨hP4, hX4, hT4⟩ := h4
        have HP4 := hide hP4
        have HX4 := hide hX4
        have HT4 := hide hT4
        have HG4 := hide (GroupAt.tch H.out HG.out hT4)
        clear hP4 hX4 hT4 q0 q2 ql p2 p2f pl tk hgx HX3 HT3 HP3 HG3
        go_wp2_with (first | ((with_reducible refine at_load 52 (.tmp 3) ?_); refine wpList_load_blk rfl 52 (.tmp 3) rfl p _ _ _ (by rfl) HP4.out Try.underlying52 rfl (size_nodeOf (n := nextN n v) HND.out) ?_) | fail)
        refine (HSET.out w4 HX4.out HG4.out).mono ?_
        rintro e w5 ⟨rfl, hx5, ht5⟩
        have HF5 := hide (And.intro hx5 (HT4.out.trans (ht5.mono HT4.out.size fun _ _ h => h)))
        clear hx5 ht5 HSET
        go_wp2
        go_returns
        exact ⟨by rw [HR1.out]; rfl, HF5.out.1, HF5.out.2⟩
      · have tk : ((v.kind.toNat : Int) == 0) = false := by rw [beq_eq_false_iff_ne]; exact fun e => hk0 (hkz.2 e)
        have HF2 : Hid (s.freeFrom g (k + 1 + 1) (g.nodes - (k + 1)) = s.freeNode g) := hide (by rw [HF1.out, if_neg hk0])
        have e1 : IntKind.i64.wrap ((k : Int) + 1 + 1) = (k : Int) + 1 + 1 := IntWalk.i64_in _ (by omega)
        clear hk0 hkz HS1 HF1
        go_wp2
        go_roundg (g.nodes - (k + 1))
        case rel => exact ⟨k + 1, by omega, rfl, by first | rfl | go_num, HX3, HT3, HP3, HF2⟩
        case measure => have := HGH.out; omega
    · have t1 : decide ((k : Int) + 1 ≤ (g.nodes : Int)) = false := by simp; omega
      have hf0 : s.freeNode g = none := by rw [← HF.out, show g.nodes - k = 0 from by omega, Sto.freeFrom]
      obtain ⟨hr, hs'⟩ := HN.out hf0
      have HR := hide (And.intro hr hs')
      clear hf0 hr hs' HF
      go_wp2
      go_returns
      exact ⟨by rw [HR.out.1]; rfl, by rw [HR.out.2]; exact HX.out, HT.out⟩
end
end Go.Proofs.Ytoeejeieplhifaa

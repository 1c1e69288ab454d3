/- Files: the block that a file's block needs: walked. Slices of arrays and of rows of bytes: operations. No program in sight. Files: bytes read: walked. Files: bytes written: walked. Files: the blocks of a file, plain: which there are, how one more is taken. Files: one block more, plain. Files: the way to a block, plain. Files: as many blocks as a file needs, plain. -/
import Derived.Test.YthmkgohfeahdhaaGreatDiPlaysLawP6
namespace Go.Proofs.YthmkgohfeahdhaaGreat
open Go.RowKit
set_option linter.unusedSimpArgs false
set_option linter.unusedVariables false

/-- a node with the pointer changed with which a way begins -/
def NodeV.setRoot (n : NodeV) (v : WayV) (x : UInt16) : NodeV := if v.steps = 0 then { n with dir := n.dir.set v.a0 x } else if v.steps = 1 then { n with single := x } else { n with double := x }
theorem NodeV.setRoot_dir (n : NodeV) (v : WayV) (x : UInt16) : (n.setRoot v x).dir.length = n.dir.length := by
  unfold NodeV.setRoot
  split
  · simp
  · split <;> rfl
theorem NodeV.setRoot_cells {n : NodeV} (hn : n.dir.length = 6) {v : WayV} (h : v.Ok) (x : UInt16) : n.cells.toArray.setIfInBounds v.root (.int .u16 (x.toNat : Int)) = (n.setRoot v x).cells.toArray := by
  obtain ⟨k, l, g, s, dir, y, z⟩ := n
  simp only at hn
  obtain ⟨d0, d1, d2, d3, d4, d5, rfl⟩ : ∃ d0 d1 d2 d3 d4 d5, dir = [d0, d1, d2, d3, d4, d5] := by
    match dir, hn with
    | [d0, d1, d2, d3, d4, d5], _ => exact ⟨d0, d1, d2, d3, d4, d5, rfl⟩
  obtain ⟨s, a, b⟩ := v
  rcases h with ⟨rfl, h0⟩ | ⟨rfl, _⟩ | ⟨rfl, _, _⟩
  · simp only at h0
    obtain rfl | rfl | rfl | rfl | rfl | rfl : a = 0 ∨ a = 1 ∨ a = 2 ∨ a = 3 ∨ a = 4 ∨ a = 5 := by omega
    all_goals simp [NodeV.cells, NodeV.setRoot, WayV.root]
  · simp [NodeV.cells, NodeV.setRoot, WayV.root]
  · simp [NodeV.cells, NodeV.setRoot, WayV.root]
/-- a file's block is got, with the blocks of pointers on the way: error, the pointers gone through, what is left -/
def needGo (m : Nat) : List Nat → GS → Nat → Int × List Nat × GS
  | [], G, p => (0, [p], G)
  | j :: r, G, p =>
    if ptrB (G.by_ (p - 1)) j = 0 then
      match G.free m with
      | none => (10, [p], G)
      | some k => ((needGo m r ((G.take k).put (p - 1) (pointB (G.by_ (p - 1)) j (k + 1))) (k + 1)).1, p :: (needGo m r ((G.take k).put (p - 1) (pointB (G.by_ (p - 1)) j (k + 1))) (k + 1)).2.1, (needGo m r ((G.take k).put (p - 1) (pointB (G.by_ (p - 1)) j (k + 1))) (k + 1)).2.2)
    else ((needGo m r G (ptrB (G.by_ (p - 1)) j)).1, p :: (needGo m r G (ptrB (G.by_ (p - 1)) j)).2.1, (needGo m r G (ptrB (G.by_ (p - 1)) j)).2.2)
def needOk (m : Nat) : List Nat → GS → Nat → Prop
  | [], _, p => p ≤ 65535
  | j :: r, G, p => 1 ≤ p ∧ p ≤ m ∧ (ptrB (G.by_ (p - 1)) j ≠ 0 → needOk m r G (ptrB (G.by_ (p - 1)) j)) ∧
      (ptrB (G.by_ (p - 1)) j = 0 → ∀ k, G.free m = some k → needOk m r ((G.take k).put (p - 1) (pointB (G.by_ (p - 1)) j (k + 1))) (k + 1))
/-- the last of the pointers gone through -/
def lastP (l : List Nat) : Nat := l.getLast?.getD 0
section
variable {w w' : World} {i : Ids} {s : Sto} {gg : Nat} {g : GeoN} {lab : Int} {G G' : GS} {K : List Nat}
/-- which blocks are to be written behind it -/
def needL (g : GeoN) (K V : List Nat) : List Nat := K ++ g.base :: V.map fun p => g.data + (p - 1)
theorem needL_length (g : GeoN) (K V : List Nat) : (needL g K V).length = K.length + 1 + V.length := by simp [needL]; omega
theorem needL_sub {g : GeoN} {K V V' : List Nat} (h : ∀ x ∈ V, x ∈ V') : ∀ x ∈ needL g K V, x ∈ needL g K V' := by
  intro x hx
  simp only [needL, List.mem_append, List.mem_cons, List.mem_map] at hx ⊢
  rcases hx with hx | hx | ⟨y, hy, e⟩
  · exact .inl hx
  · exact .inr (.inl hx)
  · exact .inr (.inr ⟨y, h y hy, e⟩)
/-- how far the getting has come -/
structure NeedAt (w0 w : World) (i : Ids) (s0 s : Sto) (gg : Nat) (g : GeoN) (lab : Int) (G : GS) (K V : List Nat) (nb : Nat) (n : NodeV) : Prop where
  ga : GAt w i s gg g lab G
  D : s.D = s0.D
  bad : s.bad = s0.bad
  far : ∀ m, (m < g.base ∨ g.data + g.blocks ≤ m) → s.at_ m = s0.at_ m
  in_ : s.In (needL g K V)
  node : Blk w nb 130 n.cells.toArray
  tch : Tch w0.heap.size (fun k => i.own k ∨ k = nb) w0 w
theorem NeedAt.below {w0 : World} {s0 : Sto} {V : List Nat} {nb : Nat} {n : NodeV} (h : NeedAt w0 w i s0 s gg g lab G K V nb n) (hb : Below w.heap.size w w') : NeedAt w0 w' i s0 s gg g lab G K V nb n :=
  ⟨h.ga.below hb, h.D, h.bad, h.far, h.in_, h.node.below hb h.node.lt, h.tch.trans ((Tch.of_below hb).mono h.tch.size fun _ _ h => h)⟩
theorem NeedAt.step {w0 : World} {s0 s' : Sto} {V V' L : List Nat} {nb : Nat} {n : NodeV} (h : NeedAt w0 w i s0 s gg g lab G K V nb n) (hg : GAt w' i s' gg g lab G') (hs : s.Step s' g L) (ht : Tch w.heap.size i.own w w') (hn : ¬ i.own nb)
    (hV : ∀ x ∈ V, x ∈ V') (hL : ∀ x ∈ L, x ∈ needL g K V') : NeedAt w0 w' i s0 s' gg g lab G' K V' nb n :=
  ⟨hg, hs.D.trans h.D, hs.bad.trans h.bad, fun m hm => (hs.far m hm).trans (h.far m hm), (hs.in_ h.in_).mono fun x hx => by
    rcases List.mem_append.1 hx with hx | hx
    · exact needL_sub hV x hx
    · exact hL x hx, h.node.tch ht h.node.lt hn, h.tch.trans (ht.mono h.tch.size fun _ _ h => .inl h)⟩
end
section
variable {w w' : World} {i : Ids} {s : Sto} {gg : Nat} {g : GeoN} {lab : Int} {G G' : GS} {K : List Nat}
/-- what lies apart from a transaction's own blocks may change -/
theorem TxAt.apart {S : Nat → Prop} (h : TxAt w i s) (ht : Tch w.heap.size S w w') (hS : ∀ k, S k → ¬ i.own k ∧ k ≠ i.ll) : TxAt w' i s :=
  ⟨h.txn.tch ht h.txn.lt (fun hk => (hS _ hk).1 (.inl rfl)), h.map.keep (ht.block _ h.map.lt (fun hk => (hS _ hk).1 (.inr (.inl rfl)))),
    ⟨h.log.log.tch ht h.log.log.lt (fun hk => (hS _ hk).2 rfl), h.log.disk.keep (ht.block _ h.log.disk.dlt (fun hk => (hS _ hk).1 (.inr (.inr (.inl rfl))))) (ht.block _ h.log.disk.row.lt (fun hk => (hS _ hk).1 (.inr (.inr (.inr rfl)))))⟩, h.ok⟩
theorem NeedAt.setNode {w0 : World} {s0 : Sto} {V : List Nat} {nb r : Nat} {n n' : NodeV} {u : Value} (h : NeedAt w0 w i s0 s gg g lab G K V nb n) (hc : n.cells.toArray.setIfInBounds r u = n'.cells.toArray) : NeedAt w0 (w.setCell ⟨nb, r, none⟩ u) i s0 s gg g lab G K V nb n' := by
  have ht : Tch w.heap.size (· = nb) w (w.setCell ⟨nb, r, none⟩ u) := Tch.setCell fun _ => rfl
  have h1 : ¬ i.own nb := h.ga.tx.other h.node (by decide) (by decide) (by decide)
  have h2 : nb ≠ i.ll := h.node.ne h.ga.tx.log.log (by decide)
  have h3 : gg ≠ nb := h.ga.gp.ne h.node (by decide)
  exact ⟨⟨h.ga.tx.apart ht (fun k hk => by subst hk; exact ⟨h1, h2⟩), Blk.tch h.ga.gp ht h.ga.gp.lt h3, h.ga.ok, h.ga.is, h.ga.gok⟩, h.D, h.bad, h.far, h.in_, by rw [← hc]; exact h.node.set_ r u,
    h.tch.trans (ht.mono h.tch.size fun k _ hk => .inr hk)⟩
theorem NeedAt.more {w0 : World} {s0 : Sto} {V V' : List Nat} {nb : Nat} {n : NodeV} (h : NeedAt w0 w i s0 s gg g lab G K V nb n) (hV : ∀ x ∈ V, x ∈ V') : NeedAt w0 w i s0 s gg g lab G K V' nb n :=
  ⟨h.ga, h.D, h.bad, h.far, h.in_.mono (needL_sub hV), h.node, h.tch⟩
theorem NeedAt.res {w0 : World} {s0 : Sto} {V V' L : List Nat} {nb : Nat} {n : NodeV} (h : NeedAt w0 w i s0 s gg g lab G K V nb n) (hr : GRes w w' i s gg g lab G' L)
    (hV : ∀ x ∈ V, x ∈ V') (hL : ∀ x ∈ L, x ∈ needL g K V') : ∃ s', NeedAt w0 w' i s0 s' gg g lab G' K V' nb n := by
  obtain ⟨s', hg, hs, ht⟩ := hr
  exact ⟨s', h.step hg hs ht (h.ga.tx.other h.node (by decide) (by decide) (by decide)) hV hL⟩
end
section
variable {w w' : World} {i : Ids} {s : Sto} {gg : Nat} {g : GeoN} {lab : Int} {G G' : GS} {K : List Nat}
/-- the getting of a block from a node on -/
def needR (m : Nat) (n : NodeV) (v : WayV) (G : GS) : Int × List Nat × GS × NodeV :=
  if (n.rootV v).toNat = 0 then
    match G.free m with
    | none => (10, [], G, n)
    | some k => ((needGo m v.idx (G.take k) (k + 1)).1, (needGo m v.idx (G.take k) (k + 1)).2.1, (needGo m v.idx (G.take k) (k + 1)).2.2, n.setRoot v (UInt16.ofNat (k + 1)))
  else ((needGo m v.idx G (n.rootV v).toNat).1, (needGo m v.idx G (n.rootV v).toNat).2.1, (needGo m v.idx G (n.rootV v).toNat).2.2, n)
def needROk (m : Nat) (n : NodeV) (v : WayV) (G : GS) : Prop :=
  if (n.rootV v).toNat = 0 then ∀ k, G.free m = some k → needOk m v.idx (G.take k) (k + 1) else needOk m v.idx G (n.rootV v).toNat
theorem NodeV.rootV_set {n : NodeV} (hn : n.dir.length = 6) {v : WayV} (h : v.Ok) (x : UInt16) : (n.setRoot v x).rootV v = x := by
  unfold NodeV.setRoot NodeV.rootV
  rcases h with ⟨h, h0⟩ | ⟨h, _⟩ | ⟨h, _, _⟩
  · simp [h, List.getD_eq_getElem?_getD, List.getElem?_set, hn, h0]
  · simp [h]
  · simp [h]
set_option maxRecDepth 100000 in
set_option maxHeartbeats 4000000 in
theorem need_walk {n n' : NodeV} {b nb r : Nat} {e : Int} {V : List Nat} (hre : r = if e = 0 then lastP V else 0) (h : GAt w i s gg g lab G) (hK : s.In K) (hKl : K.length ≤ 22) (hb5 : g.blocks ≤ 512) (hb : b < 256) (hn : n.dir.length = 6) (hN : Blk w nb 130 n.cells.toArray)
    (hok : needROk g.blocks n (wayOf b) G) (hr : needR g.blocks n (wayOf b) G = (e, V, G', n')) :
    Calls Tryz.prog 92 #[.pointer (some ⟨gg, 0, none⟩), .pointer (some ⟨nb, 0, none⟩), .int .i64 (b : Int)] w fun e' w' => e' = .returned (.tuple #[.int .u16 (r : Int), .int .i64 e]) ∧ ∃ s', NeedAt w w' i s s' gg g lab G' K V nb n' := by
  have hwo := wayOf_ok hb
  have hpl := fun W => place_ok' W hb
  obtain ⟨v, hv⟩ : ∃ v, wayOf b = v := ⟨_, rfl⟩
  rw [hv] at hok hr hwo hpl
  have hNO : ¬ i.own nb := h.tx.other hN (by decide) (by decide) (by decide)
  have H := hide h
  have HK := hide (And.intro hK hKl)
  have HB5 := hide hb5
  have HN := hide hn
  have HND := hide hN
  have HOK := hide hok
  have HR := hide hr
  have HPL := hide hpl
  have HWO := hide hwo
  have HNO := hide hNO
  have HRE := hide hre
  clear hre h hK hKl hb5 hn hN hok hr hpl hwo hNO hv hb
  go_enter Tryz.func92, Tryz.ntmps92
  go_wp2_with fail
  refine (HPL.out w).mono ?_
  rintro e w2 ⟨rfl, hb2⟩
  have HB2 := hide hb2
  clear hb2 HPL
  go_upto_region 2 with (first | ((with_reducible refine at_alloc 268 ?_); refine wpList_alloc_as rfl 268 rfl _ (zero_way _) ?_) | ((with_reducible refine at_store 268 (.tmp 8) (.tmp 22) ?_); refine wpList_store_blk rfl 268 (.tmp 8) (.tmp 22) rfl w2.heap.size _ _ _ (by rfl) (by rfl) (Blk.new _ _ _) (size_way v) rfl (way_one v) (fun _ => ?_)) | fail)
  refine at_world (fun W => ∃ q, q = w2.heap.size ∧ Below w2.heap.size w2 W ∧ Blk W q 268 v.cells) ⟨_, rfl, below_setRow ((Below.refl _ _).alloc (Nat.le_refl _) _) (Nat.le_refl _) _, (Blk.new _ _ _).setRow_same _⟩ (fun w3 hw3 => ?_)
  obtain ⟨q, hq, hb3, hQ3⟩ := hw3
  rw [← hq]
  have HB3 := hide (HB2.out.trans (hb3.mono HB2.out.size))
  have HQ3 := hide hQ3
  clear hq hb3 hQ3 HB2
  go_wp2_with (first | ((with_reducible refine at_load 268 (.tmp 8) ?_); refine wpList_load_blk rfl 268 (.tmp 8) rfl q _ _ _ (by rfl) HQ3.out Tryz.underlying268 rfl (size_way v) ?_) | fail)
  refine (root_ok w3 (nb := nb) HWO.out).mono ?_
  rintro e w4 ⟨rfl, hb4⟩
  have HQ4 := hide (HQ3.out.below hb4 HQ3.out.lt)
  have HB4 := hide (HB3.out.trans (hb4.mono HB3.out.size))
  have HN4 := hide (HND.out.below HB4.out HND.out.lt)
  have HA4 := hide (H.out.below HB4.out)
  have HQO := hide (show ¬ i.own q from HA4.out.tx.other HQ4.out (by decide) (by decide) (by decide))
  have HQN := hide (show q ≠ nb from HQ4.out.ne HN4.out (by decide))
  have HS4 : Hid (NeedAt w w4 i s s gg g lab G K [] nb n) := hide ⟨HA4.out, rfl, rfl, fun _ _ => rfl, HK.out.1.mono (fun x hx => by simp [needL, hx]), HN4.out, Tch.of_below HB4.out⟩
  obtain ⟨hrc, hr12⟩ := NodeV.rootV_at HN.out HWO.out
  obtain ⟨p0, hp0⟩ : ∃ p0, (n.rootV v).toNat = p0 := ⟨_, rfl⟩
  have hp6 : p0 < 65536 := by rw [← hp0]; exact (n.rootV v).toNat_lt
  rw [hp0] at hrc
  have cr : w4.cell? ⟨nb, v.root, none⟩ = some (.int .u16 (p0 : Int)) := (HN4.out.cell v.root).trans (by rw [List.getElem?_toArray]; exact hrc)
  have cf : w4.frozen? ⟨nb, v.root, none⟩ = false := HN4.out.frozen v.root
  have nl := HN4.out.lt
  have HP0 := hide (And.intro hp0 hp6)
  have HR12 := hide hr12
  clear hb4 HQ3 HB3 HND hrc hr12 hp0 hp6 HA4 H
  go_upto_if 32 with (fail)
  go_cut [11, 12] from 32 to 43 (fun x11 x12 wc => ∃ (G1 : GS) (s1 : Sto) (n1 : NodeV) (p : Nat), Hid (NeedAt w wc i s s1 gg g lab G1 K [p] nb n1) ∧ Hid (Blk wc q 268 v.cells) ∧ Hid (n1.dir.length = 6 ∧ (n1.rootV v).toNat = p ∧ p < 65536) ∧ Hid (needOk g.blocks v.idx G1 p ∧ ((needGo g.blocks v.idx G1 p).1, (needGo g.blocks v.idx G1 p).2.1, (needGo g.blocks v.idx G1 p).2.2, n1) = (e, V, G', n')))
  case first =>
    by_cases hz : p0 = 0
    · have t1 : ((p0 : Int) == 0) = true := by simp [hz]
      have hrv : (n.rootV v).toNat = 0 := by rw [HP0.out.1]; exact hz
      have hR := HR.out
      have hOK := HOK.out
      unfold needR at hR
      unfold needROk at hOK
      rw [if_pos hrv] at hR hOK
      have hm := HS4.out.in_.len HS4.out.ga.tx.ok
      rw [needL_length, List.length_nil] at hm
      have hm28 : s.M.length ≤ 28 := by have := HK.out.2; omega
      cases hf : G.free g.blocks with
      | none =>
        rw [hf] at hR
        simp only [Prod.mk.injEq] at hR
        obtain ⟨h1, h2, h3, h4⟩ := hR
        have htk := gs_take_full HS4.out.ga hf
        have HTK := hide htk
        have HE := hide (And.intro h1 (And.intro h2 (And.intro h3 h4)))
        clear hrv hOK hz hm hm28 hf htk h1 h2 h3 h4
        go_wp2_with fail
        refine HTK.out.mono ?_
        rintro e w5 ⟨rfl, hres⟩
        obtain ⟨s5, h5⟩ := HS4.out.res hres (fun _ h => h) (by simp)
        have HF := hide h5
        clear hres h5 cr cf nl
        go_wp2
        go_returns
        obtain ⟨rfl, rfl, rfl, rfl⟩ := HE.out
        have hr0 : r = 0 := HRE.out
        subst hr0
        exact ⟨rfl, _, HF.out⟩
      | some k =>
        rw [hf] at hR
        simp only at hR
        have hk := gs_free_lt hf
        have htk := gs_take HS4.out.ga hm28 hf
        have HTK := hide htk
        have HRR := hide hR
        have HOK2 := hide (hOK k hf)
        have HKB := hide hk
        have hb5 := HB5.out
        have hkz : (k : Int) ≤ 511 := by omega
        have ec : ((k + 1 : Nat) : Int) = (k : Int) + 1 := by omega
        clear hrv hOK hz hm hm28 hf htk hR hk
        go_wp2_with fail
        refine HTK.out.mono ?_
        rintro e w5 ⟨rfl, hres⟩
        have hnd := HS4.out.res hres (V' := [k + 1]) (by simp) (fun x hx => by
          simp only [needL, List.mem_append, List.mem_cons, List.mem_map, List.not_mem_nil, or_false] at hx ⊢
          rcases hx with hx | hx
          · right; left; omega
          · right; right; exact ⟨k + 1, rfl, by omega⟩)
        obtain ⟨s5, h5⟩ := hnd
        have hQ5 : Blk w5 q 268 v.cells := by
          obtain ⟨_, _, _, ht⟩ := hres
          exact HQ4.out.tch ht HQ4.out.lt HQO.out
        have hx : (UInt16.ofNat (k + 1)).toNat = k + 1 := by rw [UInt16.toNat_ofNat', Nat.mod_eq_of_lt (by omega)]
        have hcl := NodeV.setRoot_cells HN.out HWO.out (UInt16.ofNat (k + 1))
        rw [hx] at hcl
        rw [ec] at hcl
        have h6 := h5.setNode (r := v.root) hcl
        have hQ6 : Blk (w5.setCell ⟨nb, v.root, none⟩ (.int .u16 ((k : Int) + 1))) q 268 v.cells := hQ5.far HQN.out _
        have HS6 := hide h6
        have HQ6 := hide hQ6
        have cr5 : w5.cell? ⟨nb, v.root, none⟩ = some (.int .u16 (p0 : Int)) := by
          have hh := (NodeV.rootV_at HN.out HWO.out).1
          rw [HP0.out.1] at hh
          exact (h5.node.cell v.root).trans (by rw [List.getElem?_toArray]; exact hh)
        have cf5 : w5.frozen? ⟨nb, v.root, none⟩ = false := h5.node.frozen v.root
        have nl5 := h5.node.lt
        have hrv2 := NodeV.rootV_set HN.out HWO.out (UInt16.ofNat (k + 1))
        have HRV := hide (show ((n.setRoot v (UInt16.ofNat (k + 1))).rootV v).toNat = k + 1 from by rw [hrv2, hx])
        have HDR := hide (show (n.setRoot v (UInt16.ofNat (k + 1))).dir.length = 6 from by rw [NodeV.setRoot_dir]; exact HN.out)
        clear hres h5 hQ5 hx hcl h6 hQ6 hrv2 HTK cr cf nl
        go_wp2
        go_meet
        case rel => exact ⟨_, s5, _, k + 1, by exact HS6, HQ6, hide ⟨HDR.out, HRV.out, by have := HKB.out; omega⟩, hide ⟨HOK2.out, HRR.out⟩⟩
    · have t1 : ((p0 : Int) == 0) = false := by simp [hz]
      have hrv : ¬ (n.rootV v).toNat = 0 := by rw [HP0.out.1]; exact hz
      have hR := HR.out
      have hOK := HOK.out
      unfold needR at hR
      unfold needROk at hOK
      rw [if_neg hrv, HP0.out.1] at hR hOK
      have HF := hide (And.intro hOK hR)
      clear hrv hR hOK hz
      go_wp2
      go_meet
      case rel => exact ⟨G, s, n, p0, hide (HS4.out.more (by simp)), HQ4, hide ⟨HN.out, HP0.out.1, HP0.out.2⟩, HF⟩
  case rest =>
    obtain ⟨G1, s1, n1, p, HS, HQ, HV, HG⟩ := hcut
    obtain ⟨hok1, heq⟩ := HG.out
    simp only [Prod.mk.injEq] at heq
    obtain ⟨h1, h2, h3, rfl⟩ := heq
    have crr : wc.cell? ⟨nb, v.root, none⟩ = some (.int .u16 (p : Int)) := by
      have hh := (NodeV.rootV_at HV.out.1 HWO.out).1
      rw [HV.out.2.1] at hh
      exact (HS.out.node.cell v.root).trans (by rw [List.getElem?_toArray]; exact hh)
    have nlr := HS.out.node.lt
    have c0 : wc.cell? ⟨q, 0, none⟩ = some (.int .i64 (v.steps : Int)) := HQ.out.cell 0
    have ql := HQ.out.lt
    have HLN := hide (WayV.idx_length HWO.out)
    have hst : (v.steps : Int) ≤ 3 := by rcases HWO.out with h | h | h <;> omega
    have HE := hide (And.intro hok1 (And.intro h1 (And.intro h2 h3)))
    clear hok1 h1 h2 h3 HG HR HOK HP0 HR12 HB4 HN4 HS4 HQ4 cr cf nl
    go_wp2_with fail
    clear crr nlr c0 ql
    go_loopg [13, 49] v.steps (fun gh x13 x49 wr => ∃ (k p : Nat) (Gk : GS) (sk : Sto) (U : List Nat), k ≤ v.steps ∧ gh = v.steps - k ∧ x13 = .int .u16 (p : Int) ∧ x49 = .int .i64 (k : Int) ∧ Hid (NeedAt w wr i s sk gg g lab Gk K (U ++ [p]) nb n1) ∧ Hid (Blk wr q 268 v.cells) ∧ Hid (U.length = k ∧ p < 65536) ∧ Hid (needOk g.blocks (v.idx.drop k) Gk p ∧ (needGo g.blocks (v.idx.drop k) Gk p).1 = e ∧ U ++ (needGo g.blocks (v.idx.drop k) Gk p).2.1 = V ∧ (needGo g.blocks (v.idx.drop k) Gk p).2.2 = G'))
    case atStart => exact ⟨0, p, G1, s1, [], Nat.zero_le _, rfl, rfl, rfl, HS, HQ, hide ⟨rfl, HV.out.2.2⟩, HE⟩
    case round =>
      obtain ⟨k, p, Gk, sk, U, hk, hgh, rfl, rfl, HA, HQ, HU, HO⟩ := hrel
      have HGH := hide hgh
      clear hgh HS HV HE
      rcases Nat.lt_or_ge k v.steps with hkl | hkl
      · have hkz : decide ((k : Int) < (v.steps : Int)) = true := by simp; omega
        have hkl2 : k < v.idx.length := by rw [HLN.out]; exact hkl
        obtain ⟨hj32, hcj, hk3⟩ := WayV.idx_lt HWO.out (List.getElem?_eq_getElem hkl2)
        have hdrop := List.drop_eq_getElem_cons hkl2
        obtain ⟨ho, hg1, hg2, hg3⟩ := HO.out
        rw [hdrop] at ho hg1 hg2 hg3
        generalize v.idx[k] = j at *
        rw [needGo] at hg1 hg2 hg3
        rw [needOk] at ho
        obtain ⟨hp1, hpm, ho1, ho2⟩ := ho
        have cj : wr.cell? ⟨q, 1 + k, none⟩ = some (.int .i64 (j : Int)) := (HQ.out.cell (1 + k)).trans hcj
        have hk3z : (k : Int) < 3 := by omega
        have hget := gs_get' (k := p - 1) HA.out.ga (by omega)
        rw [show ((p - 1 + 1 : Nat) : Int) = (p : Int) from by omega] at hget
        have hbl := HA.out.ga.gok.len (p - 1)
        have hpt := fun W => pointer_ok W hbl hj32
        have hlt := ptrB_lt (Gk.by_ (p - 1)) j
        generalize hbk : Gk.by_ (p - 1) = bk at *
        have HGT := hide hget
        have HPT := hide hpt
        have HBL := hide hbl
        have HCJ := hide hcj
        have HPP := hide (And.intro hp1 hpm)
        have HG := hide (And.intro hg1 (And.intro hg2 hg3))
        have HOO := hide (And.intro ho1 ho2)
        have HJ := hide hj32
        clear hcj hdrop hg1 hg2 hg3 ho1 ho2 cj hpm hp1 hget hbl hpt HO hbk hj32
        go_wp2_with fail
        refine HGT.out.mono ?_
        rintro e w5 ⟨rfl, ha5, ht5⟩
        have HA5 : Hid (NeedAt w w5 i s sk gg g lab Gk K (U ++ [p]) nb n1) := hide ⟨ha5, HA.out.D, HA.out.bad, HA.out.far, HA.out.in_, HA.out.node.tch ht5 HA.out.node.lt HNO.out, HA.out.tch.trans (ht5.mono HA.out.tch.size fun _ _ h => .inl h)⟩
        have HQ5 := hide (HQ.out.tch ht5 HQ.out.lt HQO.out)
        clear ha5 ht5 HGT HA HQ
        go_upto_region 15 with (first | ((with_reducible refine at_alloc 106 ?_); refine wpList_alloc_as rfl 106 rfl _ (zero_block _) ?_) | ((with_reducible refine at_store 106 (.tmp 15) (.tmp 56) ?_); refine wpList_store_blk rfl 106 (.tmp 15) (.tmp 56) rfl w5.heap.size 106 _ _ (by rfl) (by rfl) (Blk.new _ _ _) (size_blockOf HBL.out) ((bvs_size zeroB_length).trans (bvs_size HBL.out).symm) (bvs_oneCell _) (fun _ => ?_)) | fail)
        refine at_world (fun W => ∃ z, z = w5.heap.size ∧ Below w5.heap.size w5 W ∧ Blk W z 106 (bvs bk).toArray) ⟨_, rfl, below_setRow ((Below.refl _ _).alloc (Nat.le_refl _) _) (Nat.le_refl _) _, (Blk.new _ _ _).setRow_same _⟩ (fun w6 hw6 => ?_)
        obtain ⟨z, hz, hb6, hZ6⟩ := hw6
        rw [← hz]
        have HZO := hide (show ¬ i.own z from fun hk => HA5.out.ga.tx.other_new (Nat.le_of_eq hz.symm) hk)
        have HA6 := hide (HA5.out.below hb6)
        have HQ6 := hide (HQ5.out.below hb6 HQ5.out.lt)
        have HZ6 := hide hZ6
        clear hz hb6 hZ6 HA5 HQ5
        have cj : w6.cell? ⟨q, 1 + k, none⟩ = some (.int .i64 (j : Int)) := (HQ6.out.cell (1 + k)).trans HCJ.out
        have ql := HQ6.out.lt
        go_upto_region 17 with (fail)
        refine wp_region_text [0, 0, 0, 0, 0, 2, 0] (· = w6.drew) (by kernel_rfl) (by kernel_rfl) rfl ?_
        refine wpOrd_q (v := .agg (bvs bk).toArray) (by rfl) (fun W hW => by cases hW; exact exec_load_blk 106 (.tmp 15) rfl z _ (bvs bk).toArray _ rfl HZ6.out.drew Tryz.underlying106 rfl (size_blockOf HBL.out)) ?_
        try simp only [Act.put, List.setIfInBounds_toArray, List.set_cons_zero, List.set_cons_succ]
        iterate 4 (refine wpOrd_q (v := ?_) (by rfl) (fun W hW => ?_) ?_; rotate_left; (focus ((cases hW; go_simp); try with_reducible rfl)); try simp only [Act.put, List.setIfInBounds_toArray, List.set_cons_zero, List.set_cons_succ])
        refine wpOrd_b (by rfl) (fun K hK => ?_)
        go_simp
        refine (HPT.out _).mono ?_
        rintro e w7 ⟨rfl, hb7⟩
        refine hK (fun _ => True) _ _ trivial ?_
        have hb67 : Below w6.heap.size w6 w7 := (Below.refl _ _).drew.trans hb7
        have HA7 := hide (HA6.out.below hb67)
        have HQ7 := hide (HQ6.out.below hb67 HQ6.out.lt)
        have HZ7 := hide (HZ6.out.below hb67 HZ6.out.lt)
        clear hK hb7 hb67 cj ql HA6 HQ6 HZ6
        try simp only [Act.put, List.setIfInBounds_toArray, List.set_cons_zero, List.set_cons_succ]
        iterate 1 (refine wpOrd_q (v := ?_) (by rfl) (fun W hW => ?_) ?_; rotate_left; (focus (go_simp; try with_reducible rfl)); try simp only [Act.put, List.setIfInBounds_toArray, List.set_cons_zero, List.set_cons_succ])
        refine wpOrd_nil ?_
        by_cases hn0 : ptrB bk j = 0
        · have t1 : ((ptrB bk j : Int) == 0) = true := by simp [hn0]
          have hg1 := HG.out.1
          have hg2 := HG.out.2.1
          have hg3 := HG.out.2.2
          rw [if_pos hn0] at hg1 hg2 hg3
          have ho2 := HOO.out.2 hn0
          have hm := HA7.out.in_.len HA7.out.ga.tx.ok
          rw [needL_length, List.length_append, List.length_singleton, HU.out.1] at hm
          have hm28 : sk.M.length ≤ 26 := by have := HK.out.2; omega
          clear hlt
          cases hf : Gk.free g.blocks with
          | none =>
            rw [hf] at hg1 hg2 hg3
            simp only at hg1 hg2 hg3
            have htk := gs_take_full HA7.out.ga hf
            have HTK := hide htk
            have HE := hide (And.intro hg1 (And.intro hg2 hg3))
            clear hg1 hg2 hg3 ho2 hm hm28 hf htk hn0 HG HOO
            go_wp2_with fail
            refine HTK.out.mono ?_
            rintro e w8 ⟨rfl, hres⟩
            obtain ⟨s8, h8⟩ := HA7.out.res hres (fun _ h => h) (by simp)
            have HF := hide h8
            clear hres h8 HTK
            go_wp2
            go_returns
            obtain ⟨h1, h2, h3⟩ := HE.out
            have hr0 : r = 0 := by rw [HRE.out, if_neg (by omega)]
            subst h1 h2 h3 hr0
            exact ⟨rfl, _, HF.out⟩
          | some kk =>
            rw [hf] at hg1 hg2 hg3
            simp only at hg1 hg2 hg3
            have hkb := gs_free_lt hf
            have htk := gs_take HA7.out.ga (by omega) hf
            have hb5 := HB5.out
            have hkz : (kk : Int) ≤ 511 := by omega
            have ec : ((kk + 1 : Nat) : Int) = (kk : Int) + 1 := by omega
            rw [ec] at htk
            have HTK := hide htk
            have HEC := hide ec
            have HG2 := hide (And.intro hg1 (And.intro hg2 hg3))
            have HO2 := hide (ho2 kk hf)
            have HKB := hide hkb
            have HM := hide hm28
            clear hg1 hg2 hg3 ho2 hm hm28 hf htk hn0 HG HOO hkb ec
            go_wp2_with fail
            refine HTK.out.mono ?_
            rintro e w8 ⟨rfl, hres⟩
            have hnd := HA7.out.res hres (V' := U ++ [p] ++ [kk + 1]) (fun x hx => List.mem_append_left _ hx) (fun x hx => by
              simp only [needL, List.mem_append, List.mem_cons, List.mem_map, List.not_mem_nil, or_false] at hx ⊢
              rcases hx with hx | hx
              · right; left; omega
              · right; right; exact ⟨kk + 1, .inr rfl, by omega⟩)
            obtain ⟨s8, h8⟩ := hnd
            obtain ⟨_, _, _, ht8⟩ := hres
            have HQ8 := hide (HQ7.out.tch ht8 HQ7.out.lt HQO.out)
            have HZ8 := hide (HZ7.out.tch ht8 HZ7.out.lt HZO.out)
            have HA8 := hide h8
            have cj : w8.cell? ⟨q, 1 + k, none⟩ = some (.int .i64 (j : Int)) := (HQ8.out.cell (1 + k)).trans HCJ.out
            have ql := HQ8.out.lt
            clear h8 ht8 HTK HA7 HQ7 HZ7
            go_upto_region 22 with (fail)
            refine wp_region_text [0, 0, 0, 0, 0, 0, 0, 0, 1, 2, 0] (Below w8.heap.size w8) (by kernel_rfl) (by kernel_rfl) (Below.refl _ _).drew ?_
            iterate 2 (refine wpOrd_q (v := ?_) (by rfl) (fun W hW => ?_) ?_; rotate_left; (focus ((obtain ⟨hWc, hWf⟩ := bcell hW; go_simp); try with_reducible rfl)); try simp only [Act.put, List.setIfInBounds_toArray, List.set_cons_zero, List.set_cons_succ])
            refine wpOrd_q (v := .agg (bvs bk).toArray) (by rfl) (fun W hW => exec_load_blk 106 (.tmp 15) rfl z _ (bvs bk).toArray _ rfl (HZ8.out.below hW HZ8.out.lt) Tryz.underlying106 rfl (size_blockOf HBL.out)) ?_
            try simp only [Act.put, List.setIfInBounds_toArray, List.set_cons_zero, List.set_cons_succ]
            iterate 5 (refine wpOrd_q (v := ?_) (by rfl) (fun W hW => ?_) ?_; rotate_left; (focus ((obtain ⟨hWc, hWf⟩ := bcell hW; go_simp); try with_reducible rfl)); try simp only [Act.put, List.setIfInBounds_toArray, List.set_cons_zero, List.set_cons_succ])
            refine wpOrd_x (by rfl) (fun K hK => ?_)
            go_simp
            have hpo := point_ok w8.drew HBL.out HJ.out (n := kk + 1) (by have := HKB.out; omega)
            rw [HEC.out] at hpo
            refine hpo.mono ?_
            rintro e w9 ⟨rfl, hb9⟩
            have hb89 : Below w8.heap.size w8 w9 := (Below.refl _ _).drew.trans hb9
            refine hK _ _ _ (fun _ h => h) hb89 ?_
            have HA9 := hide (HA8.out.below hb89)
            have HQ9 := hide (HQ8.out.below hb89 HQ8.out.lt)
            have hlen : (pointB bk j (kk + 1)).length = 64 := by rw [pointB_length]; exact HBL.out
            have hm := HA9.out.in_.len HA9.out.ga.tx.ok
            have hput := gs_put (k := p - 1) (b := pointB bk j (kk + 1)) HA9.out.ga (by rw [needL_length] at hm; simp only [List.length_append, List.length_cons, List.length_nil] at hm; have := HK.out.2; have := HU.out.1; omega) (by have := HPP.out; omega) hlen
            rw [show ((p - 1 + 1 : Nat) : Int) = (p : Int) from by have := HPP.out; omega] at hput
            have HPUT := hide hput
            clear hK hpo hb9 hb89 cj ql HA8 HQ8 HZ8 hlen hm hput
            try simp only [Act.put, List.setIfInBounds_toArray, List.set_cons_zero, List.set_cons_succ]
            refine wpOrd_b (by rfl) (fun K hK => ?_)
            go_simp
            refine HPUT.out.mono ?_
            rintro e w10 ⟨rfl, hres⟩
            refine hK (fun _ => True) _ _ trivial ?_
            obtain ⟨s10, h10⟩ := HA9.out.res hres (fun _ h => h) (fun x hx => by
              simp only [needL, List.mem_append, List.mem_cons, List.mem_map, List.not_mem_nil, or_false] at hx ⊢
              right; right; exact ⟨p, .inl (.inr rfl), by omega⟩)
            obtain ⟨_, _, _, ht10⟩ := hres
            have HA10 := hide h10
            have HQ10 := hide (HQ9.out.tch ht10 HQ9.out.lt HQO.out)
            clear hK h10 ht10 HPUT HA9 HQ9
            try simp only [Act.put, List.setIfInBounds_toArray, List.set_cons_zero, List.set_cons_succ]
            iterate 1 (refine wpOrd_q (v := ?_) (by rfl) (fun W hW => ?_) ?_; rotate_left; (focus (go_simp; try with_reducible rfl)); try simp only [Act.put, List.setIfInBounds_toArray, List.set_cons_zero, List.set_cons_succ])
            refine wpOrd_nil ?_
            go_wp2
            go_roundg (v.steps - (k + 1))
            case rel => exact ⟨k + 1, kk + 1, _, s10, U ++ [p], by omega, rfl, by rw [HEC.out], by first | rfl | go_num, HA10, HQ10, hide ⟨by rw [List.length_append, List.length_singleton, HU.out.1], by have := HKB.out; omega⟩, hide ⟨HO2.out, HG2.out.1, by rw [List.append_assoc]; exact HG2.out.2.1, HG2.out.2.2⟩⟩
            case measure => have := HGH.out; omega
        · have t1 : ((ptrB bk j : Int) == 0) = false := by simp [hn0]
          have hg1 := HG.out.1
          have hg2 := HG.out.2.1
          have hg3 := HG.out.2.2
          rw [if_neg hn0] at hg1 hg2 hg3
          have ho1 := HOO.out.1 hn0
          generalize ptrB bk j = nx at *
          have HF := hide (And.intro ho1 (And.intro hg1 (And.intro hg2 hg3)))
          have HA8 := hide (HA7.out.more (V' := U ++ [p] ++ [nx]) (fun x hx => List.mem_append_left _ hx))
          clear hg1 hg2 hg3 ho1 hn0 HG HOO HA7
          go_wp2
          go_roundg (v.steps - (k + 1))
          case rel => exact ⟨k + 1, nx, Gk, sk, U ++ [p], by omega, rfl, rfl, by first | rfl | go_num, HA8, HQ7, hide ⟨by rw [List.length_append, List.length_singleton, HU.out.1], hlt⟩, hide ⟨HF.out.1, HF.out.2.1, by rw [List.append_assoc]; exact HF.out.2.2.1, HF.out.2.2.2⟩⟩
          case measure => have := HGH.out; omega
      · have hkz : decide ((k : Int) < (v.steps : Int)) = false := by simp; omega
        obtain ⟨-, hg1, hg2, hg3⟩ := HO.out
        rw [List.drop_of_length_le (by rw [HLN.out]; exact hkl)] at hg1 hg2 hg3
        rw [needGo] at hg1 hg2 hg3
        have hr : r = p := by
          rw [HRE.out, if_pos hg1.symm, ← hg2]
          unfold lastP
          rw [List.getLast?_append]
          rfl
        have HE := hide (And.intro hr (And.intro hg1 (And.intro hg2 hg3)))
        clear hr hg1 hg2 hg3 HO
        go_wp2
        go_returns
        obtain ⟨h0, h1, h2, h3⟩ := HE.out
        subst h0 h1 h2 h3
        exact ⟨rfl, sk, HA.out⟩
end
end Go.Proofs.YthmkgohfeahdhaaGreat
namespace Go.Proofs.YthmkgohfeahdhaaGreat
open Go.RowKit
set_option linter.unusedSimpArgs false
set_option linter.unusedVariables false

section
variable {P : Program} {w : World}
theorem run_slice_arr (t e : TypeId) (g n l : Nat) (k : IntKind) (hu : P.underlying t = some (.array n e)) (hs : (P.info? e).map (·.size) = some 1) (hl : l < n) :
    (Instr.sliceAt t (.pointer (some ⟨g, 0, none⟩)) (some (.int k (l : Int))) none none).run P w = .ok (.slice (some ⟨g, l, none⟩) (n - l) (n - l)) w := by
  cases hq : P.info? e with
  | none => simp [hq] at hs
  | some i =>
    have hi : i.size = 1 := by simpa [hq] using hs
    have h1 : (l : Int) ≤ (n : Int) := by omega
    have h2 : ¬ n = l := by omega
    simp [Instr.sliceAt, Instr.sureAddr, run_underlying hu, Instr.sliceBounds, run_sliceBound, h1, sizeOf, typeInfo, hq, hi, Addr.add_mid, h2, Result.andThen]
theorem run_slice_hi (t e : TypeId) (A : Option Addr) (len cap h : Nat) (k : IntKind) (hu : P.underlying t = some (.slice e)) (hs : (P.info? e).map (·.size) = some 1) (hl : h ≤ cap) :
    (Instr.sliceAt t (.slice A len cap) none (some (.int k (h : Int))) none).run P w = .ok (.slice A h cap) w := by
  cases hq : P.info? e with
  | none => simp [hq] at hs
  | some i =>
    have hi : i.size = 1 := by simpa [hq] using hs
    have h1 : (h : Int) ≤ (cap : Int) := by omega
    cases A <;> simp [Instr.sliceAt, Instr.slice, run_underlying hu, Instr.sliceBounds, run_sliceBound, h1, sizeOf, typeInfo, hq, hi, sliced, Addr.add, Result.andThen]
theorem run_slice_lo (t e : TypeId) (b o len cap l : Nat) (k : IntKind) (hu : P.underlying t = some (.slice e)) (hs : (P.info? e).map (·.size) = some 1) (hl : l ≤ len) (hc : l < cap) :
    (Instr.sliceAt t (.slice (some ⟨b, o, none⟩) len cap) (some (.int k (l : Int))) none none).run P w = .ok (.slice (some ⟨b, o + l, none⟩) (len - l) (cap - l)) w := by
  cases hq : P.info? e with
  | none => simp [hq] at hs
  | some i =>
    have hi : i.size = 1 := by simpa [hq] using hs
    have h1 : (l : Int) ≤ (len : Int) := by omega
    have h2 : ¬ cap = l := by omega
    simp [Instr.sliceAt, Instr.slice, run_underlying hu, Instr.sliceBounds, run_sliceBound, h1, sizeOf, typeInfo, hq, hi, sliced, Addr.add_mid, h2, Result.andThen]
end
section
variable {P : Program} {ops : Array Oper} {rest : List Oper} {o : Oper} {a : Act} {w : World} {Q : Exit → Act → World → Prop}
theorem at_slice (ty : TypeId) (x : Operand) (lo hi : Option Operand) {d : Option Tmp} {k : TypeId} {p : String} {f : Array Edge} {g : Option (Nat × Bool)} (h : wpList P ops Q (⟨d, .slice ty x lo hi none, k, p, f, g⟩ :: rest) a w) : wpList P ops Q (⟨d, .slice ty x lo hi none, k, p, f, g⟩ :: rest) a w := h
theorem exec_slice (ty : TypeId) (x : Operand) (lo hi : Option Operand) (ho : o.op = .slice ty x lo hi none) {v : Value} (hr : (Instr.sliceAt ty (a.eval x) (lo.map a.eval) (hi.map a.eval) none).run P w = .ok v w) : (execOp a.eval o).run P w = .ok (.value v) w := by
  unfold execOp
  simp only [ho, Option.map_none, Sem.run_bind, hr, Result.andThen_ok, Sem.run_pure]
theorem exec_slice_arr (ty e : TypeId) (x lo : Operand) (ho : o.op = .slice ty x (some lo) none none) (g n l : Nat) (k : IntKind) (hx : a.eval x = .pointer (some ⟨g, 0, none⟩)) (hlo : a.eval lo = .int k (l : Int))
    (hu : P.underlying ty = some (.array n e)) (hs : (P.info? e).map (·.size) = some 1) (hl : l < n) : (execOp a.eval o).run P w = .ok (.value (.slice (some ⟨g, l, none⟩) (n - l) (n - l))) w :=
  exec_slice ty x (some lo) none ho (by rw [hx, Option.map_some, hlo]; exact run_slice_arr ty e g n l k hu hs hl)
theorem exec_slice_hi (ty e : TypeId) (x hi : Operand) (ho : o.op = .slice ty x none (some hi) none) (A : Option Addr) (len cap h : Nat) (k : IntKind) (hx : a.eval x = .slice A len cap) (hhi : a.eval hi = .int k (h : Int))
    (hu : P.underlying ty = some (.slice e)) (hs : (P.info? e).map (·.size) = some 1) (hl : h ≤ cap) : (execOp a.eval o).run P w = .ok (.value (.slice A h cap)) w :=
  exec_slice ty x none (some hi) ho (by rw [hx, Option.map_some, hhi]; exact run_slice_hi ty e A len cap h k hu hs hl)
theorem exec_slice_lo (ty e : TypeId) (x lo : Operand) (ho : o.op = .slice ty x (some lo) none none) (b q len cap l : Nat) (k : IntKind) (hx : a.eval x = .slice (some ⟨b, q, none⟩) len cap) (hlo : a.eval lo = .int k (l : Int))
    (hu : P.underlying ty = some (.slice e)) (hs : (P.info? e).map (·.size) = some 1) (hl : l ≤ len) (hc : l < cap) : (execOp a.eval o).run P w = .ok (.value (.slice (some ⟨b, q + l, none⟩) (len - l) (cap - l))) w :=
  exec_slice ty x (some lo) none ho (by rw [hx, Option.map_some, hlo]; exact run_slice_lo ty e b q len cap l k hu hs hl hc)
end
/-- where a slice's part begins -/
def slA (A : Option Addr) (c l : Nat) : Option Addr := if c = l then A else A.map (·.add (l * 1))
section
variable {P : Program} {w : World}
theorem run_slice_lh (t e : TypeId) (A : Option Addr) (len cap l h : Nat) (k1 k2 : IntKind) (hu : P.underlying t = some (.slice e)) (hs : (P.info? e).map (·.size) = some 1) (hl : l ≤ h) (hh : h ≤ cap) :
    (Instr.sliceAt t (.slice A len cap) (some (.int k1 (l : Int))) (some (.int k2 (h : Int))) none).run P w = .ok (.slice (slA A cap l) (h - l) (cap - l)) w := by
  cases hq : P.info? e with
  | none => simp [hq] at hs
  | some i =>
    have hi : i.size = 1 := by simpa [hq] using hs
    have h1 : (l : Int) ≤ (h : Int) := by omega
    have h2 : (h : Int) ≤ (cap : Int) := by omega
    cases A <;> simp [Instr.sliceAt, Instr.slice, run_underlying hu, Instr.sliceBounds, run_sliceBound, h1, h2, sizeOf, typeInfo, hq, hi, sliced, slA, Result.andThen]
end
section
variable {P : Program} {o : Oper} {a : Act} {w : World}
theorem exec_slice_lh (ty e : TypeId) (x lo hi : Operand) (ho : o.op = .slice ty x (some lo) (some hi) none) (A : Option Addr) (len cap l h : Nat) (k1 k2 : IntKind) (hx : a.eval x = .slice A len cap) (hlo : a.eval lo = .int k1 (l : Int)) (hhi : a.eval hi = .int k2 (h : Int))
    (hu : P.underlying ty = some (.slice e)) (hs : (P.info? e).map (·.size) = some 1) (hl : l ≤ h) (hh : h ≤ cap) : (execOp a.eval o).run P w = .ok (.value (.slice (slA A cap l) (h - l) (cap - l))) w :=
  exec_slice ty x (some lo) (some hi) ho (by rw [hx, Option.map_some, hlo, Option.map_some, hhi]; exact run_slice_lh ty e A len cap l h k1 k2 hu hs hl hh)
/-- bytes as a string -/
theorem exec_str (src dst e : TypeId) (x : Operand) (ho : o.op = .convert src dst x) (A : Option Addr) (n c : Nat) (l : List UInt8) (B : Nat) (hx : a.eval x = .slice A n c) (hs : P.underlying src = some (.slice e)) (he : P.underlying e = some (.int .u8)) (hd : P.underlying dst = some .string)
    (h : Rd w B 1 A n (bvs l)) : (execOp a.eval o).run P w = .ok (.value (.string (str l))) w := by
  have hr := run_string_rd (P := P) (w := w) src e dst hs he hd (c := c) h
  unfold execOp
  simp only [ho, hx, Sem.run_bind, hr, Result.andThen_ok, Sem.run_pure]
end
theorem Rd.part {w : World} {B n c : Nat} {A : Option Addr} {l : List UInt8} (h : Rd w B 1 A n (bvs l)) (hc : n ≤ c) {lo hi : Nat} (h1 : lo ≤ hi) (h2 : hi ≤ n) : Rd w B 1 (slA A c lo) (hi - lo) (bvs ((l.drop lo).take (hi - lo))) := by
  have hn : l.length = n := by have := h.1; rw [bvs_length] at this; omega
  refine ⟨by rw [bvs_length, List.length_take, List.length_drop]; omega, fun hp => ?_⟩
  obtain ⟨b, o, rfl, hb, hcs⟩ := h.2 (by omega)
  unfold slA
  rw [if_neg (by omega)]
  refine ⟨b, o + lo, by simp [Addr.add_mid], hb, fun j u hu => ?_⟩
  have hj : j < hi - lo := by
    have := (List.getElem?_eq_some_iff.1 hu).1
    rw [bvs_length, List.length_take] at this
    omega
  rw [bvs_get, List.getElem?_take, if_pos hj, List.getElem?_drop, ← bvs_get] at hu
  have := hcs _ _ hu
  rw [show o + lo + j = o + (lo + j) from by omega]
  exact this
theorem Rd.head {w : World} {B n : Nat} {A : Option Addr} {l : List UInt8} (h : Rd w B 1 A n (bvs l)) {hi : Nat} (h2 : hi ≤ n) : Rd w B 1 A hi (bvs (l.take hi)) := by
  have hn : l.length = n := by have := h.1; rw [bvs_length] at this; omega
  refine ⟨by rw [bvs_length, List.length_take]; omega, fun hp => ?_⟩
  obtain ⟨b, o, rfl, hb, hcs⟩ := h.2 (by omega)
  refine ⟨b, o, rfl, hb, fun j u hu => ?_⟩
  have hj : j < hi := by
    have := (List.getElem?_eq_some_iff.1 hu).1
    rw [bvs_length, List.length_take] at this
    omega
  rw [bvs_get, List.getElem?_take, if_pos hj, ← bvs_get] at hu
  exact hcs _ _ hu
end Go.Proofs.YthmkgohfeahdhaaGreat
namespace Go.Proofs.YthmkgohfeahdhaaGreat
open Go.RowKit
set_option linter.unusedSimpArgs false
set_option linter.unusedVariables false

theorem info_byte : ∃ i, Tryz.prog.info? 5 = some i ∧ i.zero = some (.int .u8 0) ∧ i.size = 1 ∧ i.bytes = 1 := by
  have h : (Tryz.prog.info? 5).map (fun i => (i.zero, i.size, i.bytes)) = some (some (.int .u8 0), 1, 1) := by kernel_rfl
  cases hi : Tryz.prog.info? 5 with
  | none => rw [hi] at h; cases h
  | some i =>
    rw [hi] at h
    simp only [Option.map_some, Option.some.injEq, Prod.mk.injEq] at h
    exact ⟨i, rfl, h.1, h.2.1, h.2.2⟩
theorem own_tch {w w' : World} {base n : Nat} {e : TypeId} {size : Nat} {v : Value} {xs : List Value} {S : Nat → Prop} (h : w.ownsRow base e size v n xs) (ht : Tch w.heap.size S w w') (hS : ∀ k, base ≤ k → ¬ S k) : w'.ownsRow base e size v n xs :=
  own_keep h fun g hg => ht.block g (own_block_ge h hg).2 (hS g (own_block_ge h hg).1)
theorem row_not_blk {w : World} {base n size q : Nat} {e t : TypeId} {v : Value} {xs : List Value} {cs : Array Value} (h : w.ownsRow base e size v n xs) (hB : Blk w q t cs) (hne : t ≠ e) : v.ownBlock ≠ some q := by
  rcases h.2 with ⟨rfl, _⟩ | ⟨g, cap, cur, rfl, hg, hh, _⟩
  · simp [Value.ownBlock]
  · simp only [Value.ownBlock]
    intro he
    cases he
    rw [hB] at hh
    cases hh
    exact hne rfl
theorem GAt.apart {w w' : World} {i : Ids} {s : Sto} {gg : Nat} {g : GeoN} {lab : Int} {G : GS} {S : Nat → Prop} (h : GAt w i s gg g lab G) (ht : Tch w.heap.size S w w') (hS : ∀ k, S k → ¬ i.own k ∧ k ≠ i.ll ∧ k ≠ gg) : GAt w' i s gg g lab G :=
  ⟨h.tx.apart ht (fun k hk => ⟨(hS k hk).1, (hS k hk).2.1⟩), Blk.tch h.gp ht h.gp.lt (fun hk => (hS _ hk).2.2 rfl), h.ok, h.is, h.gok⟩
theorem own_le_cap {w : World} {base n c : Nat} {e : TypeId} {sz : Nat} {A : Option Addr} {xs : List Value} (h : w.ownsRow base e sz (.slice A n c) n xs) : n ≤ c := by
  obtain ⟨A', c', he, hn, _⟩ := own_form h
  cases he
  exact hn
/-- the data block of a file's block -/
def dataP (G : GS) (n : NodeV) (b : Nat) : Nat := blkGo G (wayOf b).idx (n.rootV (wayOf b)).toNat
/-- a file's block can be read -/
structure Rdy (G : GS) (m : Nat) (n : NodeV) (b : Nat) : Prop where
  ok : blkOk G m (wayOf b).idx (n.rootV (wayOf b)).toNat
  ge : 1 ≤ dataP G n b
  le : dataP G n b ≤ m
/-- a byte of a file -/
def fbyte (G : GS) (n : NodeV) (j : Nat) : UInt8 := (G.by_ (dataP G n (j / 64) - 1)).getD (j % 64) 0
def fbytes (G : GS) (n : NodeV) (off len : Nat) : List UInt8 := (List.range len).map fun k => fbyte G n (off + k)
theorem fbytes_add (G : GS) (n : NodeV) (off l m : Nat) : fbytes G n off (l + m) = fbytes G n off l ++ fbytes G n (off + l) m := by
  simp only [fbytes, List.range_add, List.map_append, List.map_map]
  congr 1
  apply List.map_congr_left
  intro k _
  simp only [Function.comp, Nat.add_assoc]
theorem fbytes_block {G : GS} {n : NodeV} {a m : Nat} (hm : a % 64 + m ≤ 64) (hl : (G.by_ (dataP G n (a / 64) - 1)).length = 64) : fbytes G n a m = ((G.by_ (dataP G n (a / 64) - 1)).drop (a % 64)).take m := by
  apply List.ext_getElem?
  intro j
  simp only [fbytes, List.getElem?_map, List.getElem?_take, List.getElem?_drop]
  by_cases hj : j < m
  · rw [List.getElem?_range hj, if_pos hj, Option.map_some]
    have h1 : (a + j) / 64 = a / 64 := by omega
    have h2 : (a + j) % 64 = a % 64 + j := by omega
    unfold fbyte
    rw [h1, h2, List.getD_eq_getElem?_getD, List.getElem?_eq_getElem (by omega)]
    rfl
  · rw [if_neg hj, List.getElem?_eq_none (by simp; omega)]
    rfl
section
variable {w w' : World} {i : Ids} {s : Sto} {gg : Nat} {g : GeoN} {lab : Int} {G : GS}
set_option maxRecDepth 100000 in
set_option maxHeartbeats 4000000 in
theorem read_walk {num off many en : Nat} {n : NodeV} (h : GAt w i s gg g lab G) (h1 : 1 ≤ num) (h2 : num ≤ g.nodes) (hn : G.nd num = n) (hk : n.kind ≠ 0) (hoff : off ≤ 65536) (hmany : many ≤ 4611686018427387904)
    (hen : en = min n.size.toNat (off + min many 16384)) (hs16 : n.size.toNat ≤ 16384) (hr : ∀ b, off / 64 ≤ b → b * 64 < en → Rdy G g.blocks n b) :
    Calls Tryz.prog 36 #[.pointer (some ⟨gg, 0, none⟩), .int .i64 (num : Int), .int .i64 (off : Int), .int .i64 (many : Int)] w fun e w' => ∃ (A : Option Addr) (c : Nat), e = .returned (.tuple #[.slice A (en - off) c, .int .i64 0]) ∧ Rd w' w'.heap.size 1 A (en - off) (bvs (fbytes G n off (en - off))) ∧ GAt w' i s gg g lab G ∧ Tch w.heap.size i.own w w' ∧ (∀ b, A = some b → w.heap.size ≤ b.block) ∧ en - off ≤ c ∧ w'.ownsRow w.heap.size 5 1 (.slice A (en - off) c) (en - off) (bvs (fbytes G n off (en - off))) := by
  have hnd := gs_node' h h1 h2
  rw [hn] at hnd
  have hdir : n.dir.length = 6 := by rw [← hn]; exact h.gok.dir num
  obtain ⟨i0, hi0, i1, i2, i3⟩ := info_byte
  have hkz : (n.kind.toNat : Int) ≠ 0 := fun e => hk (UInt8.toNat_inj.1 (by simpa using e))
  have tk : ((n.kind.toNat : Int) == 0) = false := by rw [beq_eq_false_iff_ne]; exact hkz
  have H := hide h
  have HND := hide hnd
  have HD := hide hdir
  have HI := hide (And.intro hi0 (And.intro i1 (And.intro i2 i3)))
  have HR := hide hr
  have HEN := hide hen
  clear h hnd hdir hi0 i1 i2 i3 hr hk hkz hn h1 h2
  go_enter Tryz.func36, Tryz.ntmps36
  go_wp2_with fail
  refine HND.out.mono ?_
  rintro e w2 ⟨rfl, ha2, ht2⟩
  have HA2 := hide ha2
  have HT2 := hide ht2
  clear ha2 ht2 HND
  go_upto_region 2 with (first | ((with_reducible refine at_alloc 130 ?_); refine wpList_alloc_as rfl 130 rfl _ (zero_node _) ?_) | ((with_reducible refine at_store 130 (.tmp 10) (.tmp 23) ?_); refine wpList_store_blk rfl 130 (.tmp 10) (.tmp 23) rfl w2.heap.size _ _ _ (by rfl) (by rfl) (Blk.new _ _ _) (size_nodeOf HD.out) (by rw [List.size_toArray, List.size_toArray, NodeV.cells_length HD.out]; rfl) (NodeV.cells_one _) (fun _ => ?_)) | fail)
  refine at_world (fun W => ∃ q, q = w2.heap.size ∧ Below w2.heap.size w2 W ∧ Blk W q 130 n.cells.toArray) ⟨_, rfl, below_setRow ((Below.refl _ _).alloc (Nat.le_refl _) _) (Nat.le_refl _) _, (Blk.new _ _ _).setRow_same _⟩ (fun w3 hw3 => ?_)
  obtain ⟨q, hq, hb3, hQ3⟩ := hw3
  rw [← hq]
  have HA3 := hide (HA2.out.below hb3)
  have HT3 := hide (HT2.out.trans ((Tch.of_below hb3).mono HT2.out.size fun _ _ h => h))
  have HQ3 := hide hQ3
  have HQO := hide (show ¬ i.own q from fun hk => HA2.out.tx.other_new (Nat.le_of_eq hq.symm) hk)
  have q0 := (hQ3.cell 0).trans (node_cells_at n).1
  have q3 := (hQ3.cell 3).trans (node_cells_at n).2.2.2
  have ql := hQ3.lt
  have t1 : decide ((off : Int) < 0) = false := by simp
  have t2 : decide ((many : Int) < 0) = false := by simp
  generalize n.size.toNat = sz at *
  clear hq hb3 hQ3 HA2 HT2
  have c1 : IntKind.i64.wrap (sz : Int) = (sz : Int) := IntWalk.i64_in _ (by omega)
  obtain ⟨mm, hmm⟩ : ∃ mm, min many 16384 = mm := ⟨_, rfl⟩
  have m1 : min (many : Int) 16384 = (mm : Int) := by omega
  have c2 : IntKind.i64.wrap ((off : Int) + (mm : Int)) = (off : Int) + (mm : Int) := IntWalk.i64_in _ (by omega)
  have m2 : min (sz : Int) ((off : Int) + (mm : Int)) = (en : Int) := by rw [hmm] at hen; omega
  have hen16 : en ≤ 16384 := by omega
  clear hmm hen
  go_wp2_with fail
  clear q0 q3 ql m1 m2 c1 c2 tk t1 t2
  have HEO := hide (show en - off ≤ 16384 from by omega)
  go_loopg [12, 14] (en - off) (fun gh x12 x14 wr => ∃ (a : Nat) (A : Option Addr) (c : Nat), off ≤ a ∧ (a ≤ en ∨ a = off) ∧ gh = en - a ∧ x14 = .int .i64 (a : Int) ∧ x12 = .slice A (a - off) c ∧ Hid (wr.ownsRow w.heap.size 5 1 (.slice A (a - off) c) (a - off) (bvs (fbytes G n off (a - off)))) ∧ Hid (GAt wr i s gg g lab G) ∧ Hid (Tch w.heap.size i.own w wr) ∧ Hid (Blk wr q 130 n.cells.toArray))
  case atStart => exact ⟨off, none, 0, Nat.le_refl _, .inr rfl, rfl, rfl, by rw [Nat.sub_self], hide (by rw [Nat.sub_self]; exact World.ownsRow_nil _ _ _ _), HA3, HT3, HQ3⟩
  case round =>
    obtain ⟨a, A, c, hoa, hae, hgh, rfl, rfl, HO, HA, HT, HQ⟩ := hrel
    have HGH := hide hgh
    clear hgh
    rcases Nat.lt_or_ge a en with hal | hal
    · have haz : decide ((a : Int) < (en : Int)) = true := by simp; omega
      have e1 : (a : Int).tdiv 64 = ((a / 64 : Nat) : Int) := by rw [Int.tdiv_eq_ediv_of_nonneg (by omega)]; omega
      have e2 : (a : Int).tmod 64 = ((a % 64 : Nat) : Int) := by rw [Int.tmod_eq_emod_of_nonneg (by omega)]; omega
      have hrd := HR.out (a / 64) (by omega) (by omega)
      have hbk := block_ok (b := a / 64) HA.out (by omega) HD.out hrd.ok
      have hge := hrd.ge
      have hle := hrd.le
      have hget := fun W (hW : GAt W i s gg g lab G) => gs_get' (k := dataP G n (a / 64) - 1) hW (by omega)
      have hbl := HA.out.gok.len (dataP G n (a / 64) - 1)
      have hfb := fun m (hm : a % 64 + m ≤ 64) => fbytes_block (G := G) (n := n) (a := a) hm hbl
      have hadd := fun m => fbytes_add G n off (a - off) m
      rw [show off + (a - off) = a from by omega] at hadd
      rw [show blkGo G (wayOf (a / 64)).idx (n.rootV (wayOf (a / 64))).toNat = dataP G n (a / 64) from rfl] at hbk
      obtain ⟨p, hp⟩ : ∃ p, dataP G n (a / 64) = p := ⟨_, rfl⟩
      rw [hp] at hbk hge hle hget hbl hfb
      rw [show ((p - 1 + 1 : Nat) : Int) = (p : Int) from by omega] at hget
      generalize G.by_ (p - 1) = bk at hget hbl hfb
      obtain ⟨kk, hkk⟩ : ∃ kk, min (64 - a % 64) (en - a) = kk := ⟨_, rfl⟩
      have hu := hfb kk (by omega)
      have hv := hadd kk
      rw [hu] at hv
      have m1 : min (64 - ((a % 64 : Nat) : Int)) ((en : Int) - (a : Int)) = (kk : Int) := by omega
      have e3 : IntKind.i64.wrap (64 - ((a % 64 : Nat) : Int)) = 64 - ((a % 64 : Nat) : Int) := IntWalk.i64_in _ (by omega)
      have e4 : IntKind.i64.wrap ((en : Int) - (a : Int)) = (en : Int) - (a : Int) := IntWalk.i64_in _ (by omega)
      have e5 : IntKind.i64.wrap ((a : Int) + (kk : Int)) = (a : Int) + (kk : Int) := IntWalk.i64_in _ (by omega)
      have hk1 : 1 ≤ kk ∧ a % 64 + kk ≤ 64 ∧ a + kk ≤ en := by omega
      have HBK := hide hbk
      have HGT := hide hget
      have HBL := hide hbl
      have HV := hide hv
      have HKK := hide hk1
      have hm64 : a % 64 < 64 := Nat.mod_lt _ (by decide)
      have e6 : IntKind.i64.wrap ((a / 64 : Nat) : Int) = ((a / 64 : Nat) : Int) := IntWalk.i64_in _ (by omega)
      have e7 : IntKind.i64.wrap ((a % 64 : Nat) : Int) = ((a % 64 : Nat) : Int) := IntWalk.i64_in _ (by omega)
      have HOA := hide hoa
      have HAL := hide hal
      generalize a / 64 = ad at *
      generalize a % 64 = ar at *
      clear hrd hbk hge hle hget hbl hfb hadd hp hu hv hkk hk1 hae hoa hal
      go_wp2_with (first | ((with_reducible refine at_load 130 (.tmp 10) ?_); refine wpList_load_blk rfl 130 (.tmp 10) rfl q _ _ _ (by rfl) HQ.out Tryz.underlying130 rfl (size_nodeOf HD.out) ?_) | fail)
      refine HBK.out.mono ?_
      rintro e w5 ⟨rfl, ha5, ht5⟩
      have hget5 := HGT.out
      have HA5 := hide ha5
      have HT5 := hide (HT.out.trans (ht5.mono HT.out.size fun _ _ h => h))
      have HQ5 := hide (HQ.out.tch ht5 HQ.out.lt HQO.out)
      have HO5 := hide (own_tch HO.out ht5 (fun k hk => H.out.tx.other_new hk))
      clear ha5 ht5 HBK HA HT HQ HO hget5
      go_wp2_with fail
      refine (HGT.out w5 HA5.out).mono ?_
      rintro e w6 ⟨rfl, ha6, ht6⟩
      have HA6 := hide ha6
      have HT6 := hide (HT5.out.trans (ht6.mono HT5.out.size fun _ _ h => h))
      have HQ6 := hide (HQ5.out.tch ht6 HQ5.out.lt HQO.out)
      have HO6 := hide (own_tch HO5.out ht6 (fun k hk => H.out.tx.other_new hk))
      clear ha6 ht6 HGT HA5 HT5 HQ5 HO5
      go_upto_region 16 with (first | ((with_reducible refine at_alloc 106 ?_); refine wpList_alloc_as rfl 106 rfl _ (zero_block _) ?_) | ((with_reducible refine at_store 106 (.tmp 17) (.tmp 67) ?_); refine wpList_store_blk rfl 106 (.tmp 17) (.tmp 67) rfl w6.heap.size 106 _ _ (by rfl) (by rfl) (Blk.new _ _ _) (size_blockOf HBL.out) ((bvs_size zeroB_length).trans (bvs_size HBL.out).symm) (bvs_oneCell _) (fun _ => ?_)) | fail)
      refine at_world (fun W => ∃ z, z = w6.heap.size ∧ Below w6.heap.size w6 W ∧ Blk W z 106 (bvs bk).toArray) ⟨_, rfl, below_setRow ((Below.refl _ _).alloc (Nat.le_refl _) _) (Nat.le_refl _) _, (Blk.new _ _ _).setRow_same _⟩ (fun w7 hw7 => ?_)
      obtain ⟨z, hz, hb7, hZ7⟩ := hw7
      rw [← hz]
      have HA7 := hide (HA6.out.below hb7)
      have HT7 := hide (HT6.out.trans ((Tch.of_below hb7).mono HT6.out.size fun _ _ h => h))
      have HQ7 := hide (HQ6.out.below hb7 HQ6.out.lt)
      have HO7 := hide (own_below HO6.out hb7)
      have HZ7 := hide hZ7
      clear hz hb7 hZ7 HA6 HT6 HQ6 HO6
      go_upto_region 19 with (fail)
      obtain ⟨hk1, hk2, hk3⟩ := HKK.out
      have HK2 := hide (And.intro hk1 (And.intro hk2 hk3))
      have hlen : (bvs ((bk.drop ar).take kk)).length = kk := by rw [bvs_length, List.length_take, List.length_drop, HBL.out]; omega
      have hR : Rd w7 w7.heap.size 1 (some ⟨z, ar, none⟩) kk (bvs ((bk.drop ar).take kk)) := ⟨by rw [hlen, Nat.mul_one], fun _ => ⟨z, ar, rfl, HZ7.out.lt, fun j u hu => by
        have h1 := HZ7.out.cell (ar + j)
        have hj : j < kk := by have := (List.getElem?_eq_some_iff.1 hu).1; rw [hlen] at this; exact this
        rw [List.getElem?_toArray, bvs_get] at h1
        rw [bvs_get, List.getElem?_take, if_pos hj, List.getElem?_drop] at hu
        rw [← hu]; exact h1⟩⟩
      have HR7 := hide hR
      have hk3z : kk ≤ 64 - ar := by omega
      clear hk1 hk2 hk3 hlen hR m1 e3 e4 e1 e6
      have HI1 := HI.out
      go_wp2_with (first | ((with_reducible refine at_slice 106 (.tmp 17) (some (.tmp 81)) none ?_); refine wpList_run rfl _ (exec_slice_arr 106 5 (.tmp 17) (.tmp 81) rfl z 64 ar .i64 (by rfl) (by rfl) Tryz.underlying106 (by kernel_rfl) hm64) ?_) | ((with_reducible refine at_slice 24 (.tmp 82) none (some (.tmp 83)) ?_); refine wpList_run rfl _ (exec_slice_hi 24 5 (.tmp 82) (.tmp 83) rfl (some ⟨z, ar, none⟩) (64 - ar) (64 - ar) kk .i64 (by rfl) (by rfl) Tryz.underlying24 (by kernel_rfl) hk3z) ?_) | (at_builtin; refine wpList_append_rd _ rfl (.tmp 79) (.tmp 84) 24 rfl w.heap.size 5 i0 (.int .u8 0) 1 1 Tryz.underlying24 HI.out.1 HI.out.2.1 HI.out.2.2.1 HI.out.2.2.2 rfl (by decide) (.slice A (a - off) c) (a - off) _ rfl HO7.out w7.heap.size (some ⟨z, ar, none⟩) kk (64 - ar) (bvs ((bk.drop ar).take kk)) (by rfl) HR7.out (bvs_one _) (by have := HOA.out; have := HK2.out; have := HEO.out; simp only [maxLen]; omega) (by have := HOA.out; have := HK2.out; omega) (by have := HT7.out.size; omega) ?_; intro v' w8 hown hg hnil hat) | fail)
      obtain ⟨A', c', rfl, hnc, hcm, hn0⟩ := own_form hown
      have hw7 := HT7.out.size
      have hgt : Tch w7.heap.size (fun k => w.heap.size ≤ k ∧ (Value.slice A (a - off) c).ownBlock = some k) w7 w8 := Tch.grown hg (Nat.le_refl _) (fun k hk _ => ⟨(own_block_ge HO7.out hk).1, hk⟩)
      have hll := H.out.tx.log.log.lt
      have hgg := H.out.gp.lt
      have HA8 := hide (HA7.out.apart hgt (fun k hk => ⟨fun ho => H.out.tx.other_new hk.1 ho, by omega, by omega⟩))
      have HT8 := hide (HT7.out.trans (hgt.mono hw7 (fun k hk hs => by omega)))
      have HQ8 := hide (HQ7.out.tch hgt HQ7.out.lt (fun hk => row_not_blk HO7.out HQ7.out (by decide) hk.2))
      have HN := hide (show a - off + kk = a + kk - off from by have := HOA.out; omega)
      have HO8 : Hid (w8.ownsRow w.heap.size 5 1 (.slice A' (a + kk - off) c') (a + kk - off) (bvs (fbytes G n off (a + kk - off)))) := hide (by
        rw [← bvs_append, ← HV.out, HN.out] at hown
        exact hown)
      rw [HN.out]
      clear hown hg hnil hat hnc hcm hn0 hgt hll hgg hw7
      go_roundg (en - (a + kk))
      case rel => exact ⟨a + kk, A', c', by have := HOA.out; omega, .inl HK2.out.2.2, rfl, by first | rfl | go_num, rfl, HO8, HA8, HT8, HQ8⟩
      case measure => have := HGH.out; have := HAL.out; have := HK2.out.1; omega
    · have haz : decide ((a : Int) < (en : Int)) = false := by simp; omega
      have hea : a - off = en - off := by omega
      rw [hea] at HO
      rw [hea]
      clear hae hoa
      go_wp2
      go_returns
      exact ⟨A, c, rfl, Rd.of_own HO.out, HA.out, HT.out, fun b hb => (own_block_ge (g := b.block) HO.out (by subst hb; rfl)).1, own_le_cap HO.out, HO.out⟩
end
end Go.Proofs.YthmkgohfeahdhaaGreat
namespace Go.Proofs.YthmkgohfeahdhaaGreat
open Go.RowKit
set_option linter.unusedSimpArgs false
set_option linter.unusedVariables false

/-- how many bytes a round takes -/
def wrK (off len a : Nat) : Nat := min (64 - (off + a) % 64) (len - a)
/-- a round's block -/
def wrG (G : GS) (off : Nat) (data : List UInt8) (a p : Nat) : GS := G.put (p - 1) (wrB (G.by_ (p - 1)) ((off + a) % 64) ((data.drop a).take (wrK off data.length a)))
def NodeV.grow (n : NodeV) (x : Nat) : NodeV := { n with size := UInt32.ofNat (max n.size.toNat x) }
theorem needGo_len (m : Nat) : ∀ (l : List Nat) (G : GS) (p : Nat), (needGo m l G p).2.1.length ≤ l.length + 1
  | [], G, p => by simp [needGo]
  | j :: r, G, p => by
    rw [needGo]
    split
    · cases G.free m with
      | none => simp
      | some k =>
        have := needGo_len m r ((G.take k).put (p - 1) (pointB (G.by_ (p - 1)) j (k + 1))) (k + 1)
        simp only [List.length_cons]
        omega
    · have := needGo_len m r G (ptrB (G.by_ (p - 1)) j)
      simp only [List.length_cons]
      omega
theorem needR_len {m : Nat} {n n' : NodeV} {v : WayV} {G G' : GS} {e : Int} {V : List Nat} (hv : v.Ok) (h : needR m n v G = (e, V, G', n')) : V.length ≤ 3 := by
  have hi : v.idx.length ≤ 2 := by rw [WayV.idx_length hv]; rcases hv with h | h | h <;> omega
  unfold needR at h
  split at h
  · split at h
    · simp only [Prod.mk.injEq] at h
      rw [← h.2.1]; simp
    · rename_i k _
      simp only [Prod.mk.injEq] at h
      rw [← h.2.1]
      have := needGo_len m v.idx (G.take k) (k + 1)
      omega
  · simp only [Prod.mk.injEq] at h
    rw [← h.2.1]
    have := needGo_len m v.idx G (n.rootV v).toNat
    omega
theorem node_grow (n : NodeV) {x : Nat} (hx : x < 4294967296) : n.cells.toArray.setIfInBounds 3 (.int .u32 (x : Int)) = ({ n with size := UInt32.ofNat x } : NodeV).cells.toArray := by
  have h : (UInt32.ofNat x).toNat = x := by rw [UInt32.toNat_ofNat', Nat.mod_eq_of_lt (by omega)]
  simp [NodeV.cells]
  omega
section
variable {w w' : World} {i : Ids} {s : Sto} {gg : Nat} {g : GeoN} {lab : Int} {G : GS} {K0 : List Nat}
set_option maxRecDepth 100000 in
set_option maxHeartbeats 4000000 in
theorem write_walk {num off c : Nat} {A : Option Addr} {data : List UInt8} (P : Nat → GS → NodeV → List Nat → Prop) (E : Int → Prop) (h : GAt w i s gg g lab G) (hK0 : s.In K0) (h1 : 1 ≤ num) (h2 : num ≤ g.nodes) (hb5 : g.blocks ≤ 512)
    (hk : (G.nd num).kind ≠ 0) (hoff : off ≤ (G.nd num).size.toNat) (hs16 : (G.nd num).size.toNat ≤ 16384) (hlen : off + data.length ≤ 16384) (hc : data.length ≤ c) (hR : Rd w w.heap.size 1 A data.length (bvs data)) (hA : ∀ b, A = some b → ¬ i.own b.block)
    (hP0 : P 0 G (G.nd num) K0)
    (hok : ∀ a G n K, a < data.length → P a G n K → needROk g.blocks n (wayOf ((off + a) / 64)) G ∧ n.dir.length = 6 ∧ K.length ≤ 22)
    (hstep : ∀ a G n K e V G1 n1, a < data.length → P a G n K → needR g.blocks n (wayOf ((off + a) / 64)) G = (e, V, G1, n1) → (e ≠ 0 → E e) ∧ (e = 0 → 1 ≤ lastP V ∧ lastP V ≤ g.blocks ∧ lastP V ∈ V ∧ ∃ K', (∀ x ∈ needL g K V, x ∈ K') ∧ P (a + wrK off data.length a) (wrG G1 off data a (lastP V)) n1 K'))
    (hfin : ∀ G' n K, P data.length G' n K → n.dir.length = 6 ∧ n.size = (G.nd num).size ∧ K.length ≤ 28 ∧ checkN (n.grow (off + data.length)) = true) :
    Calls Tryz.prog 33 #[.pointer (some ⟨gg, 0, none⟩), .int .i64 (num : Int), .int .i64 (off : Int), .slice A data.length c] w fun e w' =>
      (∃ x : Int, E x ∧ e = .returned (.int .i64 x) ∧ ∃ s' G', GAt w' i s' gg g lab G' ∧ s'.D = s.D ∧ s'.bad = s.bad ∧ (∀ m, (m < g.base ∨ g.data + g.blocks ≤ m) → s'.at_ m = s.at_ m) ∧ Tch w.heap.size i.own w w') ∨
      (e = .returned (.int .i64 0) ∧ ∃ s' G' n' K', P data.length G' n' K' ∧ GAt w' i s' gg g lab (G'.set num (n'.grow (off + data.length))) ∧ s'.In (K' ++ [g.base + g.bitmap + (num - 1) / 2]) ∧ s'.D = s.D ∧ s'.bad = s.bad ∧ (∀ m, (m < g.base ∨ g.data + g.blocks ≤ m) → s'.at_ m = s.at_ m) ∧ Tch w.heap.size i.own w w') := by
  have hnd := gs_node' h h1 h2
  have hdir : (G.nd num).dir.length = 6 := h.gok.dir num
  obtain ⟨n0, hn0⟩ : ∃ n0, G.nd num = n0 := ⟨_, rfl⟩
  rw [hn0] at hnd hdir hk hoff hs16 hP0
  have hkz : (n0.kind.toNat : Int) ≠ 0 := fun e => hk (UInt8.toNat_inj.1 (by simpa using e))
  have tk : ((n0.kind.toNat : Int) == 0) = false := by rw [beq_eq_false_iff_ne]; exact hkz
  obtain ⟨dl, hdl⟩ : ∃ dl, data.length = dl := ⟨_, rfl⟩
  rw [hdl] at hlen hc hR ⊢
  have H := hide h
  have HND := hide hnd
  have HD := hide hdir
  have HR := hide hR
  have HAO := hide hA
  have HDL := hide hdl
  have HNM := hide (And.intro h1 h2)
  have HK0 := hide hK0
  have HP0 := hide hP0
  have HOK := hide hok
  have HST := hide hstep
  have HFI := hide hfin
  have HB5 := hide hb5
  have HC := hide hc
  have HN0 := hide hn0
  clear h hnd hdir hR hA h1 h2 hK0 hP0 hok hstep hfin hb5 hc hk hkz hdl hn0
  go_enter Tryz.func33, Tryz.ntmps33
  go_wp2_with fail
  refine HND.out.mono ?_
  rintro e w2 ⟨rfl, ha2, ht2⟩
  have HA2 := hide ha2
  have HT2 := hide ht2
  clear ha2 ht2 HND
  go_upto_region 2 with (first | ((with_reducible refine at_alloc 130 ?_); refine wpList_alloc_as rfl 130 rfl _ (zero_node _) ?_) | ((with_reducible refine at_store 130 (.tmp 9) (.tmp 20) ?_); refine wpList_store_blk rfl 130 (.tmp 9) (.tmp 20) rfl w2.heap.size _ _ _ (by rfl) (by rfl) (Blk.new _ _ _) (size_nodeOf HD.out) (by rw [List.size_toArray, List.size_toArray, NodeV.cells_length HD.out]; rfl) (NodeV.cells_one _) (fun _ => ?_)) | fail)
  refine at_world (fun W => ∃ q, q = w2.heap.size ∧ Below w2.heap.size w2 W ∧ Blk W q 130 n0.cells.toArray) ⟨_, rfl, below_setRow ((Below.refl _ _).alloc (Nat.le_refl _) _) (Nat.le_refl _) _, (Blk.new _ _ _).setRow_same _⟩ (fun w3 hw3 => ?_)
  obtain ⟨q, hq, hb3, hQ3⟩ := hw3
  rw [← hq]
  have HA3 := hide (HA2.out.below hb3)
  have HT3 := hide (HT2.out.trans ((Tch.of_below hb3).mono HT2.out.size fun _ _ h => h))
  have HQ3 := hide hQ3
  have HQO := hide (show ¬ i.own q ∧ w.heap.size ≤ q from ⟨fun hk => HA2.out.tx.other_new (Nat.le_of_eq hq.symm) hk, by have := HT2.out.size; omega⟩)
  have q0 := (hQ3.cell 0).trans (node_cells_at n0).1
  have q3 := (hQ3.cell 3).trans (node_cells_at n0).2.2.2
  have ql := hQ3.lt
  have t1 : decide ((off : Int) < 0) = false := by simp
  obtain ⟨sz, hsz⟩ : ∃ sz, n0.size.toNat = sz := ⟨_, rfl⟩
  rw [hsz] at q3 hoff hs16
  have HSZ := hide hsz
  clear hq hb3 hQ3 HA2 HT2 hsz
  have c1 : IntKind.i64.wrap (sz : Int) = (sz : Int) := IntWalk.i64_in _ (by omega)
  have t2 : decide (sz < off) = false := by simp; omega
  have c2 : IntKind.i64.wrap (16384 - (off : Int)) = 16384 - (off : Int) := IntWalk.i64_in _ (by omega)
  have t3 : decide (16384 - (off : Int) < (dl : Int)) = false := by simp; omega
  go_wp2_with fail
  clear q0 q3 ql c1 c2 tk t1 t2 t3
  go_loopg [11] dl (fun gh x11 wr => ∃ (a : Nat) (Ga : GS) (sa : Sto) (na : NodeV) (Ka : List Nat), a ≤ dl ∧ gh = dl - a ∧ x11 = .int .i64 (a : Int) ∧ Hid (P a Ga na Ka) ∧ Hid (GAt wr i sa gg g lab Ga) ∧ Hid (sa.In Ka) ∧ Hid (sa.D = s.D ∧ sa.bad = s.bad ∧ ∀ m, (m < g.base ∨ g.data + g.blocks ≤ m) → sa.at_ m = s.at_ m) ∧ Hid (Tch w.heap.size i.own w wr) ∧ Hid (Blk wr q 130 na.cells.toArray))
  case atStart => exact ⟨0, G, s, n0, K0, Nat.zero_le _, rfl, rfl, HP0, HA3, HK0, hide ⟨rfl, rfl, fun _ _ => rfl⟩, HT3, HQ3⟩
  case round =>
    obtain ⟨a, Ga, sa, na, Ka, had, hgh, rfl, HP, HA, HI, HF, HT, HQ⟩ := hrel
    have HGH := hide hgh
    clear hgh
    rcases Nat.lt_or_ge a dl with hal | hal
    · have haz : decide ((a : Int) < (dl : Int)) = true := by simp; omega
      have hal2 : a < data.length := by rw [HDL.out]; exact hal
      obtain ⟨hko, hkd, hkl⟩ := HOK.out a Ga na Ka hal2 HP.out
      have e1 : IntKind.i64.wrap ((off : Int) + (a : Int)) = (off : Int) + (a : Int) := IntWalk.i64_in _ (by omega)
      have e2 : ((off : Int) + (a : Int)).tdiv 64 = (((off + a) / 64 : Nat) : Int) := by rw [Int.tdiv_eq_ediv_of_nonneg (by omega)]; omega
      have e3 : ((off : Int) + (a : Int)).tmod 64 = (((off + a) % 64 : Nat) : Int) := by rw [Int.tmod_eq_emod_of_nonneg (by omega)]; omega
      have hb : (off + a) / 64 < 256 := by omega
      have e6 : IntKind.i64.wrap (((off + a) / 64 : Nat) : Int) = (((off + a) / 64 : Nat) : Int) := IntWalk.i64_in _ (by omega)
      have e7 : IntKind.i64.wrap (((off + a) % 64 : Nat) : Int) = (((off + a) % 64 : Nat) : Int) := IntWalk.i64_in _ (by omega)
      have hm64 : (off + a) % 64 < 64 := Nat.mod_lt _ (by decide)
      obtain ⟨e, V, G1, n1, hreq⟩ : ∃ e V G1 n1, needR g.blocks na (wayOf ((off + a) / 64)) Ga = (e, V, G1, n1) := ⟨_, _, _, _, rfl⟩
      obtain ⟨hs1, hs2⟩ := HST.out a Ga na Ka e V G1 n1 hal2 HP.out hreq
      obtain ⟨r, hre⟩ : ∃ r, r = if e = 0 then lastP V else 0 := ⟨_, rfl⟩
      have hnw := need_walk (i := i) hre HA.out HI.out hkl HB5.out hb hkd HQ.out hko hreq
      have hVl := needR_len (wayOf_ok hb) hreq
      have hwk : wrK off data.length a = min (64 - (off + a) % 64) (dl - a) := by unfold wrK; rw [HDL.out]
      have HNW := hide hnw
      have HRE := hide hre
      have HS := hide (And.intro hs1 hs2)
      have HKL := hide (And.intro hkl hVl)
      have HWK := hide hwk
      have HAL := hide (And.intro hal had)
      have hwg : ∀ p, wrG G1 off data a p = G1.put (p - 1) (wrB (G1.by_ (p - 1)) ((off + a) % 64) ((data.drop a).take (min (64 - (off + a) % 64) (dl - a)))) := fun p => by unfold wrG; rw [hwk]
      have HWG := hide hwg
      generalize (off + a) / 64 = bd at *
      generalize (off + a) % 64 = ar at *
      clear hko hkd hkl hb hal2 hreq hs1 hs2 hre hnw hVl hwk hwg had
      go_wp2_with fail
      refine HNW.out.mono ?_
      rintro e' w5 ⟨rfl, s5, hn5⟩
      have HN5 := hide hn5
      clear hn5 HNW
      by_cases he : e = 0
      · obtain ⟨hp1, hp2, hp3, K', hp4, hp5⟩ := HS.out.2 he
        have hr : r = lastP V := by rw [HRE.out, if_pos he]
        rw [← hr] at hp1 hp2 hp3 hp5
        subst he
        have hget := gs_get' (k := r - 1) HN5.out.ga (by omega)
        rw [show ((r - 1 + 1 : Nat) : Int) = (r : Int) from by omega] at hget
        have hbl := HN5.out.ga.gok.len (r - 1)
        have hwg := HWG.out r
        rw [hwg] at hp5
        generalize hbk : G1.by_ (r - 1) = bk at *
        have HGT := hide hget
        have HBL := hide hbl
        have HPP := hide (And.intro hp1 (And.intro hp2 hp3))
        have HP5 := hide (And.intro hp4 hp5)
        clear hp1 hp2 hp3 hp4 hp5 hr hget hbl hwg hbk HS HRE HWG
        go_wp2_with fail
        refine HGT.out.mono ?_
        rintro e w6 ⟨rfl, ha6, ht6⟩
        have HN6 : Hid (NeedAt wr w6 i sa s5 gg g lab G1 Ka V q n1) := hide ⟨ha6, HN5.out.D, HN5.out.bad, HN5.out.far, HN5.out.in_, HN5.out.node.tch ht6 HN5.out.node.lt HQO.out.1, HN5.out.tch.trans (ht6.mono HN5.out.tch.size fun _ _ h => .inl h)⟩
        clear ha6 ht6 HGT HN5
        go_upto_region 16 with (first | ((with_reducible refine at_alloc 106 ?_); refine wpList_alloc_as rfl 106 rfl _ (zero_block _) ?_) | ((with_reducible refine at_store 106 (.tmp 14) (.tmp 66) ?_); refine wpList_store_blk rfl 106 (.tmp 14) (.tmp 66) rfl w6.heap.size 106 _ _ (by rfl) (by rfl) (Blk.new _ _ _) (size_blockOf HBL.out) ((bvs_size zeroB_length).trans (bvs_size HBL.out).symm) (bvs_oneCell _) (fun _ => ?_)) | fail)
        refine at_world (fun W => ∃ z, z = w6.heap.size ∧ Below w6.heap.size w6 W ∧ Blk W z 106 (bvs bk).toArray) ⟨_, rfl, below_setRow ((Below.refl _ _).alloc (Nat.le_refl _) _) (Nat.le_refl _) _, (Blk.new _ _ _).setRow_same _⟩ (fun w7 hw7 => ?_)
        obtain ⟨z, hz, hb7, hZ7⟩ := hw7
        rw [← hz]
        have HN7 := hide (HN6.out.below hb7)
        have HZO := hide (show ¬ i.own z ∧ w6.heap.size ≤ z from ⟨fun hk => HN6.out.ga.tx.other_new (Nat.le_of_eq hz.symm) hk, Nat.le_of_eq hz.symm⟩)
        have HZ7 := hide hZ7
        clear hz hb7 hZ7
        obtain ⟨bA, o, rfl, hbA, hcA⟩ := HR.out.2 (by omega)
        have HT7 : Hid (Tch w.heap.size i.own w w7) := hide (HT.out.trans (HN7.out.tch.mono HT.out.size fun k hk h => h.elim id (fun e => by have := HQO.out.2; omega)))
        have hal := HAL.out.1
        have hkc : (bvs ((data.drop a).take (min (64 - ar) (dl - a)))).length = min (64 - ar) (dl - a) := by rw [bvs_length, List.length_take, List.length_drop, HDL.out]; omega
        have hrow := run_copy_row (P := Tryz.prog) w7.drew 24 24 3 5 z ar (64 - ar) (64 - ar) ⟨bA, o + a, none⟩ (dl - a) (c - a) (bvs bk).toArray 106 (bvs ((data.drop a).take (min (64 - ar) (dl - a)))) Tryz.underlying24 (by kernel_rfl) HZ7.out.drew (by rw [hkc]; exact Nat.min_comm _ _) (fun j v hj => by
          have hjk : j < min (64 - ar) (dl - a) := by have := (List.getElem?_eq_some_iff.1 hj).1; rw [hkc] at this; exact this
          rw [bvs_get, List.getElem?_take, if_pos hjk, List.getElem?_drop, ← bvs_get] at hj
          rw [Addr.add_mid, show o + a + j = o + (a + j) from by omega]
          exact (World.cell?_of_block (w := w) (a := ⟨bA, o + (a + j), none⟩) (HT7.out.block bA hbA (HAO.out _ rfl))).trans (hcA _ _ hj)) (by rw [hkc, bvs_size HBL.out]; omega) (bvs_one _)
        have hcs : (bvs bk).take ar ++ bvs ((data.drop a).take (min (64 - ar) (dl - a))) ++ (bvs bk).drop (ar + (bvs ((data.drop a).take (min (64 - ar) (dl - a)))).length) = bvs (wrB bk ar ((data.drop a).take (min (64 - ar) (dl - a)))) := by
          rw [bvs_take, bvs_drop, bvs_length, ← bvs_append, ← bvs_append]
          rfl
        rw [show (bvs bk).toArray.toList = bvs bk from rfl, hcs, hkc] at hrow
        have hbl2 : (wrB bk ar ((data.drop a).take (min (64 - ar) (dl - a)))).length = 64 := by
          rw [wrB_length (by rw [bvs_length] at hkc; rw [hkc, HBL.out]; omega)]
          exact HBL.out
        have HP5' := HP5.out.2
        have hK1 : a + min (64 - ar) (dl - a) ≤ dl ∧ 1 ≤ min (64 - ar) (dl - a) := by omega
        rw [HWK.out] at HP5'
        generalize wrB bk ar ((data.drop a).take (min (64 - ar) (dl - a))) = bk2 at hrow hbl2 HP5'
        generalize min (64 - ar) (dl - a) = kk at hrow HP5' hK1
        have HROW := hide hrow
        have HB2 := hide hbl2
        have HPN := hide HP5'
        have HK1 := hide hK1
        have hkk16 : (kk : Int) ≤ 16384 := by omega
        have e8 : IntKind.i64.wrap ((a : Int) + (kk : Int)) = (a : Int) + (kk : Int) := IntWalk.i64_in _ (by omega)
        clear hkc hrow hcs hbl2 HP5' hK1 hcA
        go_upto_region 18 with (fail)
        refine wp_region_text [0, 0, 0, 0, 0, 0, 0, 0, 0, 1, 0, 0] (fun _ => True) (by kernel_rfl) (by kernel_rfl) trivial ?_
        iterate 5 (refine wpOrd_q (v := ?_) (by rfl) (fun W hW => ?_) ?_; rotate_left; (focus (go_simp; try with_reducible rfl)); try simp only [Act.put, List.setIfInBounds_toArray, List.set_cons_zero, List.set_cons_succ])
        refine wpOrd_q (v := .slice (some ⟨z, ar, none⟩) (64 - ar) (64 - ar)) (by rfl) (fun W hW => exec_slice_arr 106 5 (.tmp 14) (.tmp 75) rfl z 64 ar .i64 (by rfl) (by rfl) Tryz.underlying106 (by kernel_rfl) hm64) ?_
        try simp only [Act.put, List.setIfInBounds_toArray, List.set_cons_zero, List.set_cons_succ]
        iterate 2 (refine wpOrd_q (v := ?_) (by rfl) (fun W hW => ?_) ?_; rotate_left; (focus (go_simp; try with_reducible rfl)); try simp only [Act.put, List.setIfInBounds_toArray, List.set_cons_zero, List.set_cons_succ])
        refine wpOrd_q (v := .slice (some ⟨bA, o + a, none⟩) (dl - a) (c - a)) (by rfl) (fun W hW => exec_slice_lo 24 5 (.tmp 77) (.tmp 78) rfl bA o dl c a .i64 (by rfl) (by rfl) Tryz.underlying24 (by kernel_rfl) (by omega) (by have := HC.out; omega)) ?_
        try simp only [Act.put, List.setIfInBounds_toArray, List.set_cons_zero, List.set_cons_succ]
        refine wpOrd_x (by rfl) (fun K hK => ?_)
        refine wp_copy_as (.tmp 76) (.tmp 79) 24 24 rfl _ _ (by rfl) (by rfl) HROW.out ?_
        refine hK _ _ _ (fun _ h => h) trivial ?_
        clear hK K
        try simp only [Act.put, List.setIfInBounds_toArray, List.set_cons_zero, List.set_cons_succ]
        iterate 2 (refine wpOrd_q (v := ?_) (by rfl) (fun W hW => ?_) ?_; rotate_left; (focus (go_simp; try with_reducible rfl)); try simp only [Act.put, List.setIfInBounds_toArray, List.set_cons_zero, List.set_cons_succ])
        refine wpOrd_nil ?_
        have HZ8 := hide (HZ7.out.drew.setRow_same (bvs bk2).toArray)
        have hts : Tch w7.heap.size (· = z) w7 (w7.drew.setRow z (bvs bk2).toArray) := (Tch.of_below (Below.refl _ _).drew).trans (Tch.setRow fun _ => rfl)
        have hga8 := HN7.out.ga.apart hts (fun k hk => by
          subst hk
          exact ⟨HZO.out.1, by have := HN6.out.ga.tx.log.log.lt; have := HZO.out.2; omega, by have := HN6.out.ga.gp.lt; have := HZO.out.2; omega⟩)
        have HN8 : Hid (NeedAt wr (w7.drew.setRow z (bvs bk2).toArray) i sa s5 gg g lab G1 Ka V q n1) := hide ⟨hga8, HN7.out.D, HN7.out.bad, HN7.out.far, HN7.out.in_, HN7.out.node.tch hts HN7.out.node.lt (fun e => by have := HN6.out.node.lt; have := HZO.out.2; omega), HN7.out.tch.trans (hts.mono HN7.out.tch.size fun k hk e => by have := HZO.out.2; have := HN6.out.tch.size; omega)⟩
        clear hts hga8 HROW HN7 HT7 HZ7
        refine at_world (fun W => NeedAt wr W i sa s5 gg g lab G1 Ka V q n1 ∧ Blk W z 106 (bvs bk2).toArray) ⟨HN8.out, HZ8.out⟩ (fun w8 hw8 => ?_)
        have HW8 := hide hw8
        clear hw8 HN8 HZ8 HN6
        have hm := HW8.out.1.in_.len HW8.out.1.ga.tx.ok
        rw [needL_length] at hm
        have hput := gs_put (k := r - 1) (b := bk2) HW8.out.1.ga (by have := HKL.out; omega) (by have := HPP.out; omega) HB2.out
        rw [show ((r - 1 + 1 : Nat) : Int) = (r : Int) from by have := HPP.out; omega] at hput
        have HPUT := hide hput
        clear hm hput e1 e2 e3 e6 e7
        go_wp2_with (first | ((with_reducible refine at_load 106 (.tmp 14) ?_); refine wpList_load_blk rfl 106 (.tmp 14) rfl z 106 _ _ (by rfl) HW8.out.2 Tryz.underlying106 rfl (size_blockOf HB2.out) ?_) | fail)
        refine HPUT.out.mono ?_
        rintro e w9 ⟨rfl, hres⟩
        obtain ⟨s9, h9⟩ := HW8.out.1.res hres (fun _ h => h) (fun x hx => by
          simp only [List.mem_singleton] at hx
          simp only [needL, List.mem_append, List.mem_cons, List.mem_map]
          right; right; exact ⟨r, HPP.out.2.2, hx.symm⟩)
        have HN9 := hide h9
        have HT9 := hide (HT.out.trans (h9.tch.mono HT.out.size fun k hk h => h.elim id (fun e => by have := HQO.out.2; omega)))
        have HI9 := hide (h9.in_.mono HP5.out.1)
        have HF9 : Hid (s9.D = s.D ∧ s9.bad = s.bad ∧ ∀ m, (m < g.base ∨ g.data + g.blocks ≤ m) → s9.at_ m = s.at_ m) := hide ⟨h9.D.trans HF.out.1, h9.bad.trans HF.out.2.1, fun m hm => (h9.far m hm).trans (HF.out.2.2 m hm)⟩
        clear hres h9 HPUT HW8
        go_wp2
        go_roundg (dl - (a + kk))
        case rel => exact ⟨a + kk, _, s9, n1, _, HK1.out.1, rfl, by first | rfl | go_num, HPN, hide HN9.out.ga, HI9, HF9, HT9, hide HN9.out.node⟩
        case measure => have := HGH.out; have := HK1.out; omega
      · have te : (e == 0) = false := by simpa using he
        have hE := HS.out.1 he
        have HT5 := hide (HT.out.trans (HN5.out.tch.mono HT.out.size fun k hk h => h.elim id (fun e => by have := HQO.out.2; omega)))
        have HE := hide (And.intro hE he)
        clear hE he
        go_wp2
        go_returns
        exact .inl ⟨e, HE.out.1, rfl, s5, G1, HN5.out.ga, HN5.out.D.trans HF.out.1, HN5.out.bad.trans HF.out.2.1, fun m hm => (HN5.out.far m hm).trans (HF.out.2.2 m hm), HT5.out⟩
    · have haz : decide ((a : Int) < (dl : Int)) = false := by simp; omega
      have hae : a = dl := by omega
      subst hae
      have hfin := HP.out
      rw [← HDL.out] at hfin
      obtain ⟨hd, hsz2, hkl, hck⟩ := HFI.out Ga na Ka hfin
      rw [HN0.out] at hsz2
      have hsz3 : na.size.toNat = sz := by rw [hsz2]; exact HSZ.out
      have q3 := (HQ.out.cell 3).trans (node_cells_at na).2.2.2
      have f3 := HQ.out.frozen 3
      have ql := HQ.out.lt
      rw [hsz3] at q3
      have c1 : IntKind.i64.wrap ((off : Int) + (a : Int)) = (off : Int) + (a : Int) := IntWalk.i64_in _ (by omega)
      have c2 : IntKind.u32.wrap ((off : Int) + (a : Int)) = (off : Int) + (a : Int) := by rw [IntKind.wrap_u32]; omega
      obtain ⟨mx, hmx⟩ : ∃ mx, max sz (off + a) = mx := ⟨_, rfl⟩
      have m1 : max (sz : Int) ((off : Int) + (a : Int)) = (mx : Int) := by omega
      have hg3 := node_grow na (x := mx) (by omega)
      have hgr : ({ na with size := UInt32.ofNat mx } : NodeV) = na.grow (off + data.length) := by unfold NodeV.grow; rw [hsz3, HDL.out, hmx]
      rw [hgr] at hg3
      obtain ⟨n2, hn2⟩ : ∃ n2, na.grow (off + data.length) = n2 := ⟨_, rfl⟩
      rw [hn2] at hg3 hck
      have hd2 : n2.dir.length = 6 := by rw [← hn2]; exact hd
      have HG3 := hide hg3
      have HCK := hide hck
      have HD2 := hide hd2
      have HKL := hide hkl
      have HPF := hide hfin
      have HN2 := hide hn2
      clear hfin hd hsz2 hsz3 hck hkl hmx hg3 hgr hn2 hd2
      go_upto_region 23 with (fail)
      have hts : Tch wr.heap.size (· = q) wr (wr.setCell ⟨q, 3, none⟩ (.int .u32 (mx : Int))) := Tch.setCell fun _ => rfl
      have hga := HA.out.apart hts (fun k hk => by
        subst hk
        exact ⟨HQO.out.1, by have := H.out.tx.log.log.lt; have := HQO.out.2; omega, by have := H.out.gp.lt; have := HQO.out.2; omega⟩)
      have hqn := HQ.out.set_ 3 (.int .u32 (mx : Int))
      rw [HG3.out] at hqn
      have hT := HT.out.trans (hts.mono HT.out.size fun k hk e => by have := HQO.out.2; omega)
      refine at_world (fun W => GAt W i sa gg g lab Ga ∧ Blk W q 130 n2.cells.toArray ∧ Tch w.heap.size i.own w W) ⟨hga, hqn, hT⟩ (fun w9 hw9 => ?_)
      have HW9 := hide hw9
      have hm := HI.out.len HW9.out.1.tx.ok
      have hset := gs_set (num := num) (n := n2) HW9.out.1 (by have := HKL.out; omega) HNM.out.1 HNM.out.2 HD2.out HCK.out
      have HSET := hide hset
      clear hts hga hqn hT hw9 hm hset q3 f3 ql c1 c2 m1 HA HT HQ
      go_wp2_with (first | ((with_reducible refine at_load 130 (.tmp 9) ?_); refine wpList_load_blk rfl 130 (.tmp 9) rfl q _ _ _ (by rfl) HW9.out.2.1 Tryz.underlying130 rfl (size_nodeOf HD2.out) ?_) | fail)
      refine HSET.out.mono ?_
      rintro e w10 ⟨rfl, s10, ha10, hst10, ht10⟩
      have HF10 := hide (And.intro ha10 (And.intro hst10 (HW9.out.2.2.trans (ht10.mono HW9.out.2.2.size fun _ _ h => h))))
      clear ha10 hst10 ht10 HSET
      go_wp2
      go_returns
      refine .inr ⟨rfl, s10, Ga, na, Ka, by have h := HPF.out; rw [HDL.out] at h; exact h, ?_, HF10.out.2.1.in_ HI.out, HF10.out.2.1.D.trans HF.out.1, HF10.out.2.1.bad.trans HF.out.2.1, fun m hm => (HF10.out.2.1.far m hm).trans (HF.out.2.2 m hm), HF10.out.2.2⟩
      have h := HF10.out.1
      rw [← HN2.out, HDL.out] at h
      exact h
end
end Go.Proofs.YthmkgohfeahdhaaGreat
namespace Go.Proofs.YthmkgohfeahdhaaGreat
open Go.RowKit
set_option linter.unusedSimpArgs false
set_option linter.unusedVariables false

/-- of a file's blocks by name (data: 0 to 255; 256: the single block of pointers; 257: the double one; from 258 on: those below it): where its pointer stands: in which block (none: in the node), at which place -/
def par (c : Nat) : Option (Nat × Nat) :=
  if c < 6 then none else if c < 38 then some (256, c - 6) else if c < 256 then some (258 + (c - 38) / 32, (c - 38) % 32) else if c < 258 then none else some (257, c - 258)
theorem par_lt {c p j : Nat} (hc : c < 265) (h : par c = some (p, j)) : p < 265 ∧ j < 32 ∧ 256 ≤ p ∧ p ≠ c := by
  unfold par at h
  split at h
  · cases h
  · split at h
    · simp only [Option.some.injEq, Prod.mk.injEq] at h; omega
    · split at h
      · simp only [Option.some.injEq, Prod.mk.injEq] at h; omega
      · split at h
        · cases h
        · simp only [Option.some.injEq, Prod.mk.injEq] at h; omega
theorem par_inj {c c' p j : Nat} (hc : c < 265) (hc' : c' < 265) (h : par c = some (p, j)) (h' : par c' = some (p, j)) : c = c' := by
  unfold par at h h'
  split at h
  · cases h
  split at h
  all_goals try (split at h)
  all_goals try (split at h)
  all_goals try (cases h; done)
  all_goals (split at h')
  all_goals try (cases h'; done)
  all_goals (split at h')
  all_goals try (split at h')
  all_goals try (split at h')
  all_goals try (cases h'; done)
  all_goals (simp only [Option.some.injEq, Prod.mk.injEq] at h h'; omega)
/-- a node's pointer of a name -/
def NodeV.slot (n : NodeV) (c : Nat) : Nat := if c < 6 then (n.dir.getD c 0).toNat else if c = 256 then n.single.toNat else n.double.toNat
/-- a file's blocks: which there are, where they are -/
structure Tree (G : GS) (m : Nat) (n : NodeV) (pr : Nat → Bool) (κ : Nat → Nat) : Prop where
  dir : n.dir.length = 6
  rng : ∀ c, pr c = true → c < 265
  cls : ∀ c p j, pr c = true → par c = some (p, j) → pr p = true
  top : ∀ c, c < 265 → par c = none → n.slot c = if pr c then κ c + 1 else 0
  sub : ∀ c p j, c < 265 → par c = some (p, j) → pr p = true → ptrB (G.by_ (κ p)) j = if pr c then κ c + 1 else 0
  own : ∀ c, pr c = true → κ c < m ∧ G.tk (κ c) = true
  inj : ∀ c c', pr c = true → pr c' = true → κ c = κ c' → c = c'
theorem free_spec {G : GS} {m k : Nat} (h : G.free m = some k) : k < m ∧ G.tk k = false := by
  refine ⟨gs_free_lt h, ?_⟩
  have := List.find?_some h
  simpa using this
theorem take_cnt {G : GS} {k : Nat} (hk : G.tk k = false) : ∀ m, (G.take k).cnt m = G.cnt m + if k < m then 1 else 0
  | 0 => rfl
  | m + 1 => by
    have ih := take_cnt hk m
    unfold GS.cnt at ih ⊢
    rw [List.range_succ, List.filter_append, List.filter_append, List.length_append, List.length_append, ih]
    by_cases e : m = k
    · subst e
      have h1 : (G.take m).tk m = true := by simp [GS.take, upd]
      simp [h1, hk]
    · have : (G.take k).tk m = G.tk m := by simp [GS.take, upd, e]
      simp only [List.filter_cons, List.filter_nil, this]
      by_cases h1 : k < m
      · have h2 : k < m + 1 := by omega
        simp only [h1, h2, if_true]; omega
      · have h2 : ¬ k < m + 1 := by omega
        simp only [h1, h2, if_false]; omega
theorem put_cnt (G : GS) (k : Nat) (b : BlkV) (m : Nat) : (G.put k b).cnt m = G.cnt m := rfl
theorem free_full {G : GS} {m : Nat} (h : G.free m = none) : G.cnt m = m := by
  unfold GS.cnt
  unfold GS.free at h
  rw [List.find?_eq_none] at h
  rw [List.filter_eq_self.2 (fun x hx => by have := h x hx; simpa using this), List.length_range]
theorem cnt_le_ (G : GS) (m : Nat) : G.cnt m ≤ m := by
  have := List.length_filter_le G.tk (List.range m)
  rwa [List.length_range] at this
/-- a block more, its pointer in a block -/
theorem Tree.add {G : GS} {m : Nat} {n : NodeV} {pr : Nat → Bool} {κ : Nat → Nat} {c p j k : Nat} (h : Tree G m n pr κ) (hG : G.Ok) (hm : m ≤ 512) (hc : c < 265) (hp : par c = some (p, j)) (hpp : pr p = true) (hnc : pr c = false) (hf : G.free m = some k) :
    Tree ((G.take k).put (κ p) (pointB (G.by_ (κ p)) j (k + 1))) m n (upd pr c true) (upd κ c k) := by
  obtain ⟨hk, hkf⟩ := free_spec hf
  obtain ⟨hp5, hj, -, hpc⟩ := par_lt hc hp
  have hkp : κ p ≠ k := fun e => by have := (h.own p hpp).2; rw [e, hkf] at this; cases this
  have hby : ∀ x, ((G.take k).put (κ p) (pointB (G.by_ (κ p)) j (k + 1))).by_ x = if x = κ p then pointB (G.by_ (κ p)) j (k + 1) else if x = k then zeroB else G.by_ x := fun x => rfl
  have htk : ∀ x, ((G.take k).put (κ p) (pointB (G.by_ (κ p)) j (k + 1))).tk x = if x = k then true else G.tk x := fun x => rfl
  refine ⟨h.dir, fun c' h' => ?_, fun c' p' j' h' hp' => ?_, fun c' hc' hp' => ?_, fun c' p' j' hc' hp' hpr => ?_, fun c' h' => ?_, fun c1 c2 h1 h2 he => ?_⟩
  · simp only [upd] at h'
    split at h'
    · omega
    · exact h.rng c' h'
  · simp only [upd] at h' ⊢
    split at h'
    · rename_i e; subst e; rw [hp] at hp'; cases hp'; rw [if_neg hpc]; exact hpp
    · have := h.cls c' p' j' h' hp'
      split
      · rfl
      · exact this
  · have hne : c' ≠ c := fun e => by rw [e, hp] at hp'; cases hp'
    simp only [upd, if_neg hne]
    exact h.top c' hc' hp'
  · rw [hby]
    by_cases e1 : p' = c
    · subst e1
      rw [upd_same, if_neg (fun e => hkp e.symm), if_pos rfl, ptr_zero]
      have hne : c' ≠ p' := (par_lt hc' hp').2.2.2.symm
      have hnp : pr c' = false := by
        cases hx : pr c' with
        | false => rfl
        | true => have := h.cls c' p' j' hx hp'; rw [hnc] at this; cases this
      simp only [upd, if_neg hne, hnp]
      rfl
    · rw [upd_other _ _ e1] at hpr
      rw [upd_other _ _ e1]
      by_cases e2 : p' = p
      · subst e2
        rw [if_pos rfl, ptr_point (hG.len _) hj (by omega)]
        by_cases e3 : j' = j
        · subst e3
          have := par_inj hc' hc hp' hp
          subst this
          rw [if_pos rfl, upd_same, upd_same]
          rfl
        · rw [if_neg e3]
          have hne : c' ≠ c := fun e => by subst e; rw [hp] at hp'; cases hp'; exact e3 rfl
          simp only [upd, if_neg hne]
          exact h.sub c' p' j' hc' hp' hpr
      · have e4 : κ p' ≠ κ p := fun e => e2 (h.inj p' p hpr hpp e)
        have e5 : κ p' ≠ k := fun e => by have := (h.own p' hpr).2; rw [e, hkf] at this; cases this
        rw [if_neg e4, if_neg e5]
        have hne : c' ≠ c := fun e => by subst e; rw [hp] at hp'; cases hp'; exact e2 rfl
        simp only [upd, if_neg hne]
        exact h.sub c' p' j' hc' hp' hpr
  · by_cases e : c' = c
    · have e1 : upd κ c k c' = k := by simp [upd, e]
      rw [e1, htk]
      exact ⟨hk, by rw [if_pos rfl]⟩
    · have e1 : upd κ c k c' = κ c' := by simp [upd, e]
      rw [upd_other _ _ e] at h'
      rw [e1, htk]
      have := h.own c' h'
      exact ⟨this.1, by split; rfl; exact this.2⟩
  · simp only [upd] at h1 h2 he
    by_cases e1 : c1 = c
    · by_cases e2 : c2 = c
      · rw [e1, e2]
      · rw [if_neg e2] at h2 he
        rw [if_pos e1] at he
        have := (h.own c2 h2).2
        rw [← he, hkf] at this
        cases this
    · rw [if_neg e1] at h1 he
      by_cases e2 : c2 = c
      · rw [if_pos e2] at he
        have := (h.own c1 h1).2
        rw [he, hkf] at this
        cases this
      · rw [if_neg e2] at h2 he
        exact h.inj c1 c2 h1 h2 he
/-- a block more, its pointer in the node -/
theorem Tree.addTop {G : GS} {m : Nat} {n : NodeV} {pr : Nat → Bool} {κ : Nat → Nat} {c k : Nat} {n' : NodeV} (h : Tree G m n pr κ) (hc : c < 265) (hp : par c = none) (hnc : pr c = false) (hf : G.free m = some k)
    (hd : n'.dir.length = 6) (hn : ∀ c', c' < 265 → par c' = none → n'.slot c' = if c' = c then k + 1 else n.slot c') :
    Tree (G.take k) m n' (upd pr c true) (upd κ c k) := by
  obtain ⟨hk, hkf⟩ := free_spec hf
  have hby : ∀ x, (G.take k).by_ x = if x = k then zeroB else G.by_ x := fun x => rfl
  have htk : ∀ x, (G.take k).tk x = if x = k then true else G.tk x := fun x => rfl
  refine ⟨hd, fun c' h' => ?_, fun c' p' j' h' hp' => ?_, fun c' hc' hp' => ?_, fun c' p' j' hc' hp' hpr => ?_, fun c' h' => ?_, fun c1 c2 h1 h2 he => ?_⟩
  · simp only [upd] at h'
    split at h'
    · omega
    · exact h.rng c' h'
  · simp only [upd] at h' ⊢
    split at h'
    · rename_i e; subst e; rw [hp] at hp'; cases hp'
    · have := h.cls c' p' j' h' hp'
      split
      · rfl
      · exact this
  · rw [hn c' hc' hp']
    simp only [upd]
    by_cases e : c' = c
    · simp [e]
    · simp only [if_neg e]; exact h.top c' hc' hp'
  · have hne : c' ≠ c := fun e => by subst e; rw [hp] at hp'; cases hp'
    rw [hby]
    by_cases e1 : p' = c
    · subst e1
      rw [upd_same, if_pos rfl, ptr_zero]
      have hnp : pr c' = false := by
        cases hx : pr c' with
        | false => rfl
        | true => have := h.cls c' p' j' hx hp'; rw [hnc] at this; cases this
      simp only [upd, if_neg hne, hnp]
      rfl
    · rw [upd_other _ _ e1] at hpr
      rw [upd_other _ _ e1]
      have e5 : κ p' ≠ k := fun e => by have := (h.own p' hpr).2; rw [e, hkf] at this; cases this
      rw [if_neg e5]
      simp only [upd, if_neg hne]
      exact h.sub c' p' j' hc' hp' hpr
  · by_cases e : c' = c
    · have e1 : upd κ c k c' = k := by simp [upd, e]
      rw [e1, htk]
      exact ⟨hk, by rw [if_pos rfl]⟩
    · have e1 : upd κ c k c' = κ c' := by simp [upd, e]
      rw [upd_other _ _ e] at h'
      rw [e1, htk]
      have := h.own c' h'
      exact ⟨this.1, by split; rfl; exact this.2⟩
  · simp only [upd] at h1 h2 he
    by_cases e1 : c1 = c
    · by_cases e2 : c2 = c
      · rw [e1, e2]
      · rw [if_neg e2] at h2 he
        rw [if_pos e1] at he
        have := (h.own c2 h2).2
        rw [← he, hkf] at this
        cases this
    · rw [if_neg e1] at h1 he
      by_cases e2 : c2 = c
      · rw [if_pos e2] at he
        have := (h.own c1 h1).2
        rw [he, hkf] at this
        cases this
      · rw [if_neg e2] at h2 he
        exact h.inj c1 c2 h1 h2 he
end Go.Proofs.YthmkgohfeahdhaaGreat
namespace Go.Proofs.YthmkgohfeahdhaaGreat
open Go.RowKit
set_option linter.unusedSimpArgs false
set_option linter.unusedVariables false

/-- blocks, each the next one's block of pointers -/
def Chain : Nat → List (Nat × Nat) → Prop
  | _, [] => True
  | p, (j, c) :: r => c < 265 ∧ par c = some (p, j) ∧ Chain c r
/-- how many of them there aren't -/
def missing (pr : Nat → Bool) (l : List Nat) : Nat := (l.filter fun c => !pr c).length
theorem missing_cons (pr : Nat → Bool) (c : Nat) (l : List Nat) : missing pr (c :: l) = (if pr c then 0 else 1) + missing pr l := by
  unfold missing
  rw [List.filter_cons]
  cases pr c <;> simp <;> omega
theorem missing_upd {pr : Nat → Bool} {c : Nat} {l : List Nat} (h : c ∉ l) : missing (upd pr c true) l = missing pr l := by
  unfold missing
  rw [List.filter_congr]
  intro x hx
  rw [upd_other _ _ (fun e => h (by rw [← e]; exact hx))]
/-- what getting a block leaves of a group, apart from the file -/
structure Grown (G G' : GS) (m : Nat) (pr pr' : Nat → Bool) (κ κ' : Nat → Nat) : Prop where
  nd : G'.nd = G.nd
  ok : G'.Ok
  eq : ∀ c, pr c = true → κ' c = κ c ∧ pr' c = true
  by_ : ∀ x, G.tk x = true → (∀ c, pr c = true → 256 ≤ c → κ c ≠ x) → G'.by_ x = G.by_ x
  tk : ∀ x, G.tk x = true → G'.tk x = true
  new : ∀ x, G'.tk x = true → G.tk x = true ∨ ∃ c, pr' c = true ∧ pr c = false ∧ κ' c = x
theorem Grown.refl {G : GS} (h : G.Ok) (m : Nat) (pr : Nat → Bool) (κ : Nat → Nat) : Grown G G m pr pr κ κ := ⟨rfl, h, fun _ h => ⟨rfl, h⟩, fun _ _ _ => rfl, fun _ h => h, fun _ h => .inl h⟩
theorem Grown.trans {G G' G'' : GS} {m : Nat} {pr pr' pr'' : Nat → Bool} {κ κ' κ'' : Nat → Nat} (h : Grown G G' m pr pr' κ κ') (h' : Grown G' G'' m pr' pr'' κ' κ'')
    (hf : ∀ c, pr' c = true → pr c = false → G.tk (κ' c) = false) : Grown G G'' m pr pr'' κ κ'' where
  nd := h'.nd.trans h.nd
  ok := h'.ok
  eq c hc := ⟨((h'.eq c (h.eq c hc).2).1).trans (h.eq c hc).1, (h'.eq c (h.eq c hc).2).2⟩
  by_ x hx hc := by
    rw [h'.by_ x (h.tk x hx) (fun c hc1 hc2 => ?_), h.by_ x hx hc]
    cases hp : pr c with
    | true => rw [(h.eq c hp).1]; exact hc c hp hc2
    | false => intro e; have := hf c hc1 hp; rw [e, hx] at this; cases this
  tk x hx := h'.tk x (h.tk x hx)
  new x hx := by
    rcases h'.new x hx with h1 | ⟨c, h1, h2, h3⟩
    · rcases h.new x h1 with h4 | ⟨c, h4, h5, h6⟩
      · exact .inl h4
      · exact .inr ⟨c, (h'.eq c h4).2, h5, by rw [(h'.eq c h4).1]; exact h6⟩
    · refine .inr ⟨c, h1, ?_, h3⟩
      cases hp : pr c with
      | false => rfl
      | true => rw [(h.eq c hp).2] at h2; cases h2
theorem grown_add {G : GS} {m : Nat} {n : NodeV} {pr : Nat → Bool} {κ : Nat → Nat} {c p j k : Nat} (h : Tree G m n pr κ) (hG : G.Ok) (hp5 : 256 ≤ p) (hpp : pr p = true) (hnc : pr c = false) (hf : G.free m = some k) :
    Grown G ((G.take k).put (κ p) (pointB (G.by_ (κ p)) j (k + 1))) m pr (upd pr c true) κ (upd κ c k) := by
  obtain ⟨hk, hkf⟩ := free_spec hf
  refine ⟨rfl, (hG.take k).put _ (by rw [pointB_length]; exact hG.len _), fun c' h' => ?_, fun x hx hc => ?_, fun x hx => ?_, fun x hx => ?_⟩
  · have : c' ≠ c := fun e => by rw [e, hnc] at h'; cases h'
    exact ⟨upd_other _ _ this, by rw [upd_other _ _ this]; exact h'⟩
  · have h1 : x ≠ κ p := fun e => hc p hpp hp5 e.symm
    have h2 : x ≠ k := fun e => by rw [e, hkf] at hx; cases hx
    simp only [GS.put, GS.take, upd, if_neg h1, if_neg h2]
  · simp only [GS.put, GS.take, upd]
    split
    · rfl
    · exact hx
  · simp only [GS.put, GS.take, upd] at hx
    by_cases e : x = k
    · exact .inr ⟨c, upd_same _ _ _, hnc, by rw [upd_same, e]⟩
    · rw [if_neg e] at hx; exact .inl hx
theorem grown_top {G : GS} {m : Nat} {pr : Nat → Bool} {κ : Nat → Nat} {c k : Nat} (hG : G.Ok) (hnc : pr c = false) (hf : G.free m = some k) : Grown G (G.take k) m pr (upd pr c true) κ (upd κ c k) := by
  obtain ⟨hk, hkf⟩ := free_spec hf
  refine ⟨rfl, hG.take k, fun c' h' => ?_, fun x hx hc => ?_, fun x hx => ?_, fun x hx => ?_⟩
  · have : c' ≠ c := fun e => by rw [e, hnc] at h'; cases h'
    exact ⟨upd_other _ _ this, by rw [upd_other _ _ this]; exact h'⟩
  · have h2 : x ≠ k := fun e => by rw [e, hkf] at hx; cases hx
    simp only [GS.take, upd, if_neg h2]
  · simp only [GS.take, upd]
    split
    · rfl
    · exact hx
  · simp only [GS.take, upd] at hx
    by_cases e : x = k
    · exact .inr ⟨c, upd_same _ _ _, hnc, by rw [upd_same, e]⟩
    · rw [if_neg e] at hx; exact .inl hx
theorem upd_or {pr : Nat → Bool} {c x : Nat} : upd pr c true x = (pr x || decide (x = c)) := by
  unfold upd
  by_cases e : x = c <;> simp [e]
theorem go_tree {m : Nat} {n : NodeV} (hm : m ≤ 512) : ∀ (l : List (Nat × Nat)) (p : Nat) (G : GS) (pr : Nat → Bool) (κ : Nat → Nat), Tree G m n pr κ → G.Ok → pr p = true → Chain p l → (l.map (·.2)).Nodup →
    needOk m (l.map (·.1)) G (κ p + 1) ∧
    (((needGo m (l.map (·.1)) G (κ p + 1)).1 = 10 ∧ m < G.cnt m + missing pr (l.map (·.2))) ∨
      ((needGo m (l.map (·.1)) G (κ p + 1)).1 = 0 ∧ ∃ pr' κ', Tree (needGo m (l.map (·.1)) G (κ p + 1)).2.2 m n pr' κ' ∧ Grown G (needGo m (l.map (·.1)) G (κ p + 1)).2.2 m pr pr' κ κ' ∧
        (∀ c, pr' c = (pr c || decide (c ∈ l.map (·.2)))) ∧ (∀ c, pr' c = true → pr c = false → G.tk (κ' c) = false ∧ (c < 256 → (needGo m (l.map (·.1)) G (κ p + 1)).2.2.by_ (κ' c) = zeroB)) ∧ (needGo m (l.map (·.1)) G (κ p + 1)).2.1 = (p :: l.map (·.2)).map (fun c => κ' c + 1) ∧
        (needGo m (l.map (·.1)) G (κ p + 1)).2.2.cnt m = G.cnt m + missing pr (l.map (·.2))))
  | [], p, G, pr, κ, h, hG, hp, _, _ => by
    have := (h.own p hp).1
    refine ⟨by simp only [List.map_nil, needOk]; omega, .inr ⟨rfl, pr, κ, h, Grown.refl hG _ _ _, fun c => by simp, ?_, rfl, rfl⟩⟩
    intro c h1 h2
    rw [h2] at h1
    cases h1
  | (j, c) :: r, p, G, pr, κ, h, hG, hp, hch, hnd => by
    obtain ⟨hc, hpar, hch⟩ := hch
    obtain ⟨hp5, hj, hp256, hpc⟩ := par_lt hc hpar
    have hown := (h.own p hp).1
    have hsub := h.sub c p j hc hpar hp
    simp only [List.map_cons, List.nodup_cons] at hnd ⊢
    rw [needOk, needGo, missing_cons, show κ p + 1 - 1 = κ p from rfl, hsub]
    cases hpr : pr c with
    | true =>
      simp only [if_true]
      have ih := go_tree hm r c G pr κ h hG hpr hch hnd.2
      obtain ⟨ih1, ih2⟩ := ih
      refine ⟨⟨by omega, by omega, fun _ => ih1, fun e => absurd e (by omega)⟩, ?_⟩
      rw [if_neg (by omega)]
      rcases ih2 with ⟨h1, h2⟩ | ⟨h1, pr', κ', h2, h3, h4, h5, h6, h7⟩
      · exact .inl ⟨h1, by omega⟩
      · refine .inr ⟨h1, pr', κ', h2, h3, fun x => ?_, h5, ?_, by rw [h7]; omega⟩
        · rw [h4]
          by_cases e : x = c
          · subst e; simp [hpr]
          · have e2 : (x == c) = false := by simpa using e
            simp [e2]
        · simp only
          rw [h6, List.map_cons, (h3.eq p hp).1]
    | false =>
      simp only [Bool.false_eq_true, if_false]
      cases hf : G.free m with
      | none =>
        refine ⟨⟨by omega, by omega, fun e => absurd rfl e, fun _ k hk => by cases hk⟩, .inl ⟨rfl, by rw [free_full hf]; omega⟩⟩
      | some k =>
        obtain ⟨hk, hkf⟩ := free_spec hf
        have hT := h.add hG hm hc hpar hp hpr hf
        have hGr := grown_add (c := c) (j := j) h hG hp256 hp hpr hf
        have ih := go_tree hm r c _ _ _ hT hGr.ok (upd_same _ _ _) hch hnd.2
        rw [upd_same, missing_upd hnd.1, put_cnt, take_cnt hkf, if_pos hk] at ih
        obtain ⟨ih1, ih2⟩ := ih
        refine ⟨⟨by omega, by omega, fun e => absurd rfl e, fun _ k' hk' => by cases hk'; exact ih1⟩, ?_⟩
        simp only [if_true]
        have hfr : ∀ x, upd pr c true x = true → pr x = false → G.tk (upd κ c k x) = false := fun x h1 h2 => by
          simp only [upd] at h1 ⊢
          by_cases e : x = c
          · rw [if_pos e]; exact hkf
          · rw [if_neg e, h2] at h1; cases h1
        rcases ih2 with ⟨h1, h2⟩ | ⟨h1, pr', κ', h2, h3, h4, h5, h6, h7⟩
        · exact .inl ⟨h1, by omega⟩
        · refine .inr ⟨h1, pr', κ', h2, hGr.trans h3 hfr, fun x => ?_, fun x hx1 hx2 => ?_, ?_, by rw [h7]; omega⟩
          · rw [h4, upd_or]
            by_cases e : x = c
            · simp [e]
            · have e2 : (x == c) = false := by simpa using e
              simp [e2, e]
          · by_cases e : x = c
            · subst e
              rw [(h3.eq x (upd_same _ _ _)).1, upd_same]
              refine ⟨hkf, fun hx => ?_⟩
              have hkk : ((G.take k).put (κ p) (pointB (G.by_ (κ p)) j (k + 1))).tk k = true := by simp [GS.put, GS.take, upd]
              have hkp : k ≠ κ p := fun e => by have := (h.own p hp).2; rw [← e, hkf] at this; cases this
              rw [h3.by_ k hkk (fun c' hc1 hc2 => ?_)]
              · simp [GS.put, GS.take, upd, hkp]
              · intro e2
                simp only [upd] at hc1 e2
                by_cases e3 : c' = x
                · omega
                · rw [if_neg e3] at hc1 e2
                  have := (h.own c' hc1).2
                  rw [e2, hkf] at this
                  cases this
            · have hu : upd pr c true x = false := by rw [upd_other _ _ e]; exact hx2
              have := h5 x hx1 hu
              refine ⟨?_, this.2⟩
              have h8 := this.1
              simp only [GS.put, GS.take, upd] at h8
              split at h8
              · cases h8
              · exact h8
          · rw [h6, List.map_cons, (h3.eq p (by simp only [upd]; split; rfl; exact hp)).1, upd_other _ _ hpc]
end Go.Proofs.YthmkgohfeahdhaaGreat
namespace Go.Proofs.YthmkgohfeahdhaaGreat
open Go.RowKit
set_option linter.unusedSimpArgs false
set_option linter.unusedVariables false

def rootK (b : Nat) : Nat := if b < 6 then b else if b < 38 then 256 else 257
def pathL (b : Nat) : List (Nat × Nat) := if b < 6 then [] else if b < 38 then [(b - 6, b)] else [((b - 38) / 32, 258 + (b - 38) / 32), ((b - 38) % 32, b)]
/-- the blocks gone through to a file's block -/
def pathK (b : Nat) : List Nat := rootK b :: (pathL b).map (·.2)
theorem path_idx (b : Nat) : (wayOf b).idx = (pathL b).map (·.1) := by
  unfold wayOf pathL WayV.idx
  split
  · rfl
  · split <;> rfl
theorem path_chain {b : Nat} (hb : b < 256) : Chain (rootK b) (pathL b) := by
  unfold rootK pathL
  split
  · trivial
  · split
    · refine ⟨by omega, ?_, trivial⟩
      unfold par
      rw [if_neg (by omega), if_pos (by omega)]
    · refine ⟨by omega, ?_, by omega, ?_, trivial⟩
      · unfold par
        rw [if_neg (by omega), if_neg (by omega), if_neg (by omega), if_neg (by omega)]
        rw [show 258 + (b - 38) / 32 - 258 = (b - 38) / 32 from by omega]
      · unfold par
        rw [if_neg (by omega), if_neg (by omega), if_pos (by omega)]
theorem path_nodup {b : Nat} (hb : b < 256) : ((pathL b).map (·.2)).Nodup ∧ rootK b ∉ (pathL b).map (·.2) := by
  unfold rootK pathL
  split
  · simp
  · split
    · simp; omega
    · simp; omega
theorem par_root {b : Nat} (hb : b < 256) : par (rootK b) = none ∧ rootK b < 265 := by
  unfold rootK
  split
  · unfold par; rw [if_pos (by omega)]; exact ⟨rfl, by omega⟩
  · split <;> exact ⟨rfl, by omega⟩
theorem slot_root {b : Nat} (hb : b < 256) (n : NodeV) : (n.rootV (wayOf b)).toNat = n.slot (rootK b) := by
  unfold NodeV.rootV NodeV.slot wayOf rootK
  split
  · rename_i h; simp [h]
  · split
    · simp
    · simp
theorem slot_set {b k c : Nat} (hb : b < 256) {n : NodeV} (hd : n.dir.length = 6) (hk : k + 1 < 65536) (hc : c < 265) (hp : par c = none) : (n.setRoot (wayOf b) (UInt16.ofNat (k + 1))).slot c = if c = rootK b then k + 1 else n.slot c := by
  have hx : (UInt16.ofNat (k + 1)).toNat = k + 1 := by rw [UInt16.toNat_ofNat', Nat.mod_eq_of_lt (by omega)]
  have hc2 : c < 6 ∨ c = 256 ∨ c = 257 := by
    unfold par at hp
    split at hp
    · left; assumption
    · split at hp
      · cases hp
      · split at hp
        · cases hp
        · split at hp
          · right; omega
          · cases hp
  unfold NodeV.setRoot wayOf rootK
  by_cases h6 : b < 6
  · simp only [if_pos h6]
    simp only [if_true]
    unfold NodeV.slot
    rcases hc2 with h | rfl | rfl
    · simp only [if_pos h, List.getD_eq_getElem?_getD, List.getElem?_set]
      by_cases e : b = c
      · subst e; simp [hd, h6, hk]
      · have e2 : ¬ c = b := fun h => e h.symm
        simp [e, e2]
    · have e : ¬ 256 = b := by omega
      simp [e]
    · have e : ¬ 257 = b := by omega
      simp [e]
  · simp only [if_neg h6]
    by_cases h38 : b < 38
    · simp only [if_pos h38]
      unfold NodeV.slot
      rcases hc2 with h | rfl | rfl
      · have e : ¬ c = 256 := by omega
        simp [h, e]
      · simp [hk]
      · simp
    · simp only [if_neg h38]
      unfold NodeV.slot
      rcases hc2 with h | rfl | rfl
      · have e : ¬ c = 257 := by omega
        simp [h, e]
      · simp
      · simp [hk]
theorem lastP_path (b : Nat) (f : Nat → Nat) : lastP ((pathK b).map f) = f b := by
  unfold lastP pathK rootK pathL
  split
  · rfl
  · split <;> rfl
/-- a node but for its pointers -/
def NodeV.same (n n' : NodeV) : Prop := n'.kind = n.kind ∧ n'.links = n.links ∧ n'.gen = n.gen ∧ n'.size = n.size
theorem setRoot_same (n : NodeV) (v : WayV) (x : UInt16) : n.same (n.setRoot v x) := by
  unfold NodeV.setRoot NodeV.same
  split
  · exact ⟨rfl, rfl, rfl, rfl⟩
  · split <;> exact ⟨rfl, rfl, rfl, rfl⟩
/-- getting a file's block -/
theorem need_tree {G : GS} {m b : Nat} {n : NodeV} {pr : Nat → Bool} {κ : Nat → Nat} (hm : m ≤ 512) (hb : b < 256) (h : Tree G m n pr κ) (hG : G.Ok) :
    needROk m n (wayOf b) G ∧ ∀ e V G' n', needR m n (wayOf b) G = (e, V, G', n') →
      (e = 10 ∧ m < G.cnt m + missing pr (pathK b)) ∨
      (e = 0 ∧ ∃ pr' κ', Tree G' m n' pr' κ' ∧ Grown G G' m pr pr' κ κ' ∧ (∀ c, pr' c = (pr c || decide (c ∈ pathK b))) ∧ (∀ c, pr' c = true → pr c = false → G.tk (κ' c) = false ∧ (c < 256 → G'.by_ (κ' c) = zeroB)) ∧ V = (pathK b).map (fun c => κ' c + 1) ∧ G'.cnt m = G.cnt m + missing pr (pathK b) ∧ n.same n') := by
  obtain ⟨hr1, hr2⟩ := par_root hb
  have hch := path_chain hb
  obtain ⟨hnd, hni⟩ := path_nodup hb
  have htop := h.top _ hr2 hr1
  unfold needROk needR pathK
  rw [slot_root hb, htop, path_idx, missing_cons]
  cases hpr : pr (rootK b) with
  | true =>
    simp only [if_true]
    have ih := go_tree hm (pathL b) (rootK b) G pr κ h hG hpr hch hnd
    rw [if_neg (by omega), if_neg (by omega)]
    refine ⟨ih.1, fun e V G' n' he => ?_⟩
    simp only [Prod.mk.injEq] at he
    obtain ⟨h1, h2, h3, h4⟩ := he
    rw [h1, h2, h3] at ih
    subst h4
    rcases ih.2 with ⟨k1, k2⟩ | ⟨k1, pr', κ', k2, k3, k4, k5, k6, k7⟩
    · exact .inl ⟨k1, by omega⟩
    · refine .inr ⟨k1, pr', κ', k2, k3, fun x => ?_, k5, k6, by omega, rfl, rfl, rfl, rfl⟩
      rw [k4]
      by_cases e : x = rootK b
      · rw [e, hpr]; simp
      · have e2 : (x == rootK b) = false := by simpa using e
        simp [e2]
  | false =>
    simp only [Bool.false_eq_true, if_false, if_true]
    refine ⟨fun k hk => ?_, fun e V G' n' he => ?_⟩
    · obtain ⟨hkm, hkf⟩ := free_spec hk
      have hT := h.addTop (n' := n.setRoot (wayOf b) (UInt16.ofNat (k + 1))) hr2 hr1 hpr hk (by rw [NodeV.setRoot_dir]; exact h.dir) (fun c' h1 h2 => slot_set hb h.dir (by omega) h1 h2)
      have ih := go_tree hm (pathL b) (rootK b) _ _ _ hT (hG.take k) (upd_same _ _ _) hch hnd
      rw [upd_same] at ih
      exact ih.1
    · cases hf : G.free m with
      | none =>
        rw [hf] at he
        simp only [Prod.mk.injEq] at he
        exact .inl ⟨he.1.symm, by rw [free_full hf]; omega⟩
      | some k =>
        rw [hf] at he
        simp only [Prod.mk.injEq] at he
        obtain ⟨h1, h2, h3, h4⟩ := he
        obtain ⟨hkm, hkf⟩ := free_spec hf
        have hT := h.addTop (n' := n.setRoot (wayOf b) (UInt16.ofNat (k + 1))) hr2 hr1 hpr hf (by rw [NodeV.setRoot_dir]; exact h.dir) (fun c' h1 h2 => slot_set hb h.dir (by omega) h1 h2)
        have hGr := grown_top (κ := κ) hG hpr hf
        have ih := go_tree hm (pathL b) (rootK b) _ _ _ hT (hG.take k) (upd_same _ _ _) hch hnd
        rw [upd_same, missing_upd hni, take_cnt hkf, if_pos hkm, h1, h2, h3] at ih
        subst h4
        have hfr : ∀ x, upd pr (rootK b) true x = true → pr x = false → G.tk (upd κ (rootK b) k x) = false := fun x h1 h2 => by
          simp only [upd] at h1 ⊢
          by_cases e : x = rootK b
          · rw [if_pos e]; exact hkf
          · rw [if_neg e, h2] at h1; cases h1
        rcases ih.2 with ⟨k1, k2⟩ | ⟨k1, pr', κ', k2, k3, k4, k5, k6, k7⟩
        · exact .inl ⟨k1, by omega⟩
        · refine .inr ⟨k1, pr', κ', k2, hGr.trans k3 hfr, fun x => ?_, fun x hx1 hx2 => ?_, k6, by omega, setRoot_same _ _ _⟩
          · rw [k4, upd_or]
            by_cases e : x = rootK b
            · simp [e]
            · have e2 : (x == rootK b) = false := by simpa using e
              simp [e2, e]
          · by_cases e : x = rootK b
            · subst e
              rw [(k3.eq _ (upd_same _ _ _)).1, upd_same]
              refine ⟨hkf, fun hx => ?_⟩
              have hkk : (G.take k).tk k = true := by simp [GS.take, upd]
              rw [k3.by_ k hkk (fun c' hc1 hc2 => ?_)]
              · simp [GS.take, upd]
              · intro e2
                simp only [upd] at hc1 e2
                by_cases e3 : c' = rootK b
                · omega
                · rw [if_neg e3] at hc1 e2
                  have := (h.own c' hc1).2
                  rw [e2, hkf] at this
                  cases this
            · have hu : upd pr (rootK b) true x = false := by rw [upd_other _ _ e]; exact hx2
              have := k5 x hx1 hu
              refine ⟨?_, this.2⟩
              have h8 := this.1
              simp only [GS.take, upd] at h8
              split at h8
              · cases h8
              · exact h8
end Go.Proofs.YthmkgohfeahdhaaGreat
namespace Go.Proofs.YthmkgohfeahdhaaGreat
open Go.RowKit
set_option linter.unusedSimpArgs false
set_option linter.unusedVariables false

/-- the blocks of a file of so many data blocks -/
def prOf (c k : Nat) : Bool := decide (k < c ∨ (k = 256 ∧ 6 < c) ∨ (k = 257 ∧ 38 < c) ∨ (258 ≤ k ∧ k < 265 ∧ 38 + 32 * (k - 258) < c))
/-- how many -/
def nkeys (c : Nat) : Nat := c + (if 6 < c then 1 else 0) + (if 38 < c then 1 + (c - 38 + 31) / 32 else 0)
theorem pathK_eq (b : Nat) : pathK b = if b < 6 then [b] else if b < 38 then [256, b] else [257, 258 + (b - 38) / 32, b] := by
  unfold pathK rootK pathL
  split
  · rfl
  · split <;> rfl
theorem pr_old {b c : Nat} (hb : b < c) (hc : c ≤ 256) : ∀ k ∈ pathK b, prOf c k = true := by
  intro k hk
  rw [pathK_eq] at hk
  unfold prOf
  rw [decide_eq_true_iff]
  split at hk
  · simp at hk; omega
  · split at hk
    · simp at hk; omega
    · simp at hk; omega
theorem pr_new {c : Nat} (hc : c < 256) (k : Nat) : prOf (c + 1) k = (prOf c k || decide (k ∈ pathK c)) := by
  rw [Bool.eq_iff_iff, Bool.or_eq_true, pathK_eq]
  unfold prOf
  rw [decide_eq_true_iff, decide_eq_true_iff, decide_eq_true_iff]
  split
  · simp; omega
  · split
    · simp; omega
    · simp; omega
theorem missing_zero {pr : Nat → Bool} {l : List Nat} (h : ∀ k ∈ l, pr k = true) : missing pr l = 0 := by
  unfold missing
  rw [List.filter_eq_nil_iff.2 (fun x hx => by simp [h x hx])]
  rfl
theorem missing_new {c : Nat} (hc : c < 256) : nkeys c + missing (prOf c) (pathK c) = nkeys (c + 1) := by
  have hcc : prOf c c = false := by unfold prOf; rw [decide_eq_false_iff_not]; omega
  rw [pathK_eq]
  unfold nkeys
  have hm0 : missing (prOf c) [] = 0 := rfl
  by_cases h6 : c < 6
  · have a1 : ¬ 6 < c := by omega
    have a2 : ¬ 6 < c + 1 := by omega
    have a3 : ¬ 38 < c := by omega
    have a4 : ¬ 38 < c + 1 := by omega
    rw [if_pos h6, missing_cons, hm0, hcc, if_neg a1, if_neg a2, if_neg a3, if_neg a4]
    simp
  · rw [if_neg h6]
    by_cases h38 : c < 38
    · have e : prOf c 256 = decide (6 < c) := by
        unfold prOf
        rw [Bool.eq_iff_iff, decide_eq_true_iff, decide_eq_true_iff]
        omega
      have a2 : 6 < c + 1 := by omega
      have a3 : ¬ 38 < c := by omega
      have a4 : ¬ 38 < c + 1 := by omega
      rw [if_pos h38, missing_cons, missing_cons, hm0, hcc, e, if_pos a2, if_neg a3, if_neg a4]
      by_cases h : 6 < c
      · rw [if_pos h]; simp [h]
      · rw [if_neg h]; simp [h]
    · have e : prOf c 257 = decide (38 < c) := by
        unfold prOf
        rw [Bool.eq_iff_iff, decide_eq_true_iff, decide_eq_true_iff]
        omega
      have e2 : prOf c (258 + (c - 38) / 32) = decide (38 + 32 * ((c - 38) / 32) < c) := by
        unfold prOf
        rw [Bool.eq_iff_iff, decide_eq_true_iff, decide_eq_true_iff]
        omega
      have a1 : 6 < c := by omega
      have a2 : 6 < c + 1 := by omega
      have a4 : 38 < c + 1 := by omega
      rw [if_neg h38, missing_cons, missing_cons, missing_cons, hm0, hcc, e, e2, if_pos a1, if_pos a2, if_pos a4]
      by_cases h : 38 < c
      · rw [if_pos h]
        by_cases h2 : 38 + 32 * ((c - 38) / 32) < c
        · simp [h, h2]; omega
        · simp [h, h2]; omega
      · have h2 : ¬ 38 + 32 * ((c - 38) / 32) < c := by omega
        rw [if_neg h]
        simp [h, h2]; omega
theorem blk_tree {G : GS} {m : Nat} {n : NodeV} {pr : Nat → Bool} {κ : Nat → Nat} (h : Tree G m n pr κ) : ∀ (l : List (Nat × Nat)) (p : Nat), pr p = true → Chain p l → (∀ k ∈ l.map (·.2), pr k = true) →
    blkOk G m (l.map (·.1)) (κ p + 1) ∧ blkGo G (l.map (·.1)) (κ p + 1) = κ (((p :: l.map (·.2)).getLast?).getD 0) + 1
  | [], p, hp, _, _ => ⟨trivial, rfl⟩
  | (j, c) :: r, p, hp, hch, hall => by
    obtain ⟨hc, hpar, hch⟩ := hch
    have hpc : pr c = true := hall c (by simp)
    have hsub := h.sub c p j hc hpar hp
    rw [hpc, if_pos rfl] at hsub
    have ih := blk_tree h r c hpc hch (fun k hk => hall k (by simp at hk ⊢; exact .inr hk))
    have hown := (h.own p hp).1
    simp only [List.map_cons]
    rw [blkOk, blkGo, show κ p + 1 - 1 = κ p from rfl, hsub, if_neg (by omega)]
    refine ⟨fun _ => ⟨by omega, ih.1⟩, ?_⟩
    rw [ih.2]
    simp
theorem tree_data {G : GS} {m b : Nat} {n : NodeV} {pr : Nat → Bool} {κ : Nat → Nat} (hb : b < 256) (h : Tree G m n pr κ) (hp : ∀ k ∈ pathK b, pr k = true) : Rdy G m n b ∧ dataP G n b = κ b + 1 := by
  obtain ⟨hr1, hr2⟩ := par_root hb
  have hpr : pr (rootK b) = true := hp _ (by simp [pathK])
  have hbt := blk_tree h (pathL b) (rootK b) hpr (path_chain hb) (fun k hk => hp k (by unfold pathK; exact List.mem_cons_of_mem _ hk))
  have htop := h.top _ hr2 hr1
  rw [hpr, if_pos rfl] at htop
  have hlast : ((rootK b :: (pathL b).map (·.2)).getLast?).getD 0 = b := by
    have := lastP_path b id
    unfold lastP pathK at this
    simpa using this
  have hd : dataP G n b = κ b + 1 := by
    unfold dataP
    rw [slot_root hb, htop, path_idx, hbt.2, hlast]
  have hbm : b ∈ pathK b := by rw [pathK_eq]; split; simp; split <;> simp
  have hown := (h.own b (hp b hbm)).1
  refine ⟨⟨?_, by omega, by omega⟩, hd⟩
  rw [slot_root hb, htop, path_idx]
  exact hbt.1
/-- a data block's bytes change -/
theorem Tree.putData {G : GS} {m : Nat} {n : NodeV} {pr : Nat → Bool} {κ : Nat → Nat} (h : Tree G m n pr κ) {b : Nat} (hb : b < 256) (hp : pr b = true) (x : BlkV) : Tree (G.put (κ b) x) m n pr κ where
  dir := h.dir
  rng := h.rng
  cls := h.cls
  top := h.top
  sub c p j hc hpar hpp := by
    have h1 := (par_lt hc hpar).2.2.1
    have h2 : κ p ≠ κ b := fun e => by have := h.inj p b hpp hp e; omega
    have : (G.put (κ b) x).by_ (κ p) = G.by_ (κ p) := upd_other _ _ h2
    rw [this]
    exact h.sub c p j hc hpar hpp
  own := h.own
  inj := h.inj
/-- what is done to a file leaves of a group's other blocks -/
structure Kept (G G' : GS) (pr pr' : Nat → Bool) (κ κ' : Nat → Nat) : Prop where
  nd : G'.nd = G.nd
  ok : G'.Ok
  eq : ∀ c, pr c = true → κ' c = κ c ∧ pr' c = true
  by_ : ∀ x, G.tk x = true → (∀ c, pr c = true → κ c ≠ x) → G'.by_ x = G.by_ x
  tk : ∀ x, G.tk x = true → G'.tk x = true
  new : ∀ x, G'.tk x = true → G.tk x = true ∨ ∃ c, pr' c = true ∧ pr c = false ∧ κ' c = x
theorem Kept.refl {G : GS} (h : G.Ok) (pr : Nat → Bool) (κ : Nat → Nat) : Kept G G pr pr κ κ := ⟨rfl, h, fun _ h => ⟨rfl, h⟩, fun _ _ _ => rfl, fun _ h => h, fun _ h => .inl h⟩
theorem Kept.grown {G G' G'' : GS} {m : Nat} {pr pr' pr'' : Nat → Bool} {κ κ' κ'' : Nat → Nat} (h : Kept G G' pr pr' κ κ') (ht : ∀ c, pr' c = true → pr c = false → G.tk (κ' c) = false) (h' : Grown G' G'' m pr' pr'' κ' κ'') : Kept G G'' pr pr'' κ κ'' where
  nd := h'.nd.trans h.nd
  ok := h'.ok
  eq c hc := ⟨((h'.eq c (h.eq c hc).2).1).trans (h.eq c hc).1, (h'.eq c (h.eq c hc).2).2⟩
  by_ x hx hc := by
    rw [h'.by_ x (h.tk x hx) (fun c hc1 hc2 => ?_), h.by_ x hx hc]
    cases hp : pr c with
    | true => rw [(h.eq c hp).1]; exact hc c hp
    | false => intro e; have := ht c hc1 hp; rw [e, hx] at this; cases this
  tk x hx := h'.tk x (h.tk x hx)
  new x hx := by
    rcases h'.new x hx with h1 | ⟨c, h1, h2, h3⟩
    · rcases h.new x h1 with h4 | ⟨c, h4, h5, h6⟩
      · exact .inl h4
      · exact .inr ⟨c, (h'.eq c h4).2, h5, by rw [(h'.eq c h4).1]; exact h6⟩
    · refine .inr ⟨c, h1, ?_, h3⟩
      cases hp : pr c with
      | false => rfl
      | true => rw [(h.eq c hp).2] at h2; cases h2
theorem Kept.put {G G' : GS} {pr pr' : Nat → Bool} {κ κ' : Nat → Nat} (h : Kept G G' pr pr' κ κ') (ht : ∀ c, pr' c = true → pr c = false → G.tk (κ' c) = false) {b : Nat} (hp : pr' b = true) {x : BlkV} (hx : x.length = 64) : Kept G (G'.put (κ' b) x) pr pr' κ κ' where
  nd := h.nd
  ok := h.ok.put _ hx
  eq := h.eq
  by_ y hy hc := by
    have : y ≠ κ' b := fun e => by
      cases hpb : pr b with
      | true => exact hc b hpb (by rw [← (h.eq b hpb).1]; exact e.symm)
      | false => have := ht b hp hpb; rw [← e, hy] at this; cases this
    exact (upd_other _ _ this).trans (h.by_ y hy hc)
  tk := h.tk
  new := h.new
end Go.Proofs.YthmkgohfeahdhaaGreat

/- Files: the last block goes: walked. Files: Cut: walked. The document's groups: how they lie in memory, how much they take. The document's groups: what they take; bytes written, cut: walked. The document's groups: made, written into, cut: walked. The fixed facts of layer 7's laws: walked. A fresh disk of a configuration: walked. The fixed facts of layer 8's laws, their bytes: walked. A group's records: one more, all of them, one of them: walked. A group's records: all of them, one of them: walked. What comes in, opened: bytes, numbers. No program in sight. Labels and marks that came in, opened. No program in sight. A directory's acts that came in, opened. Paths, the plain layer: what a text is as a part and as a path. No program in sight. A directory's names: walked (as for the paths). A directory's entries as bytes: walked. A directory's entries from bytes: walked. A directory's places: walked. A directory's entries, one by one: walked. A directory: is there a name, is there any: walked. What is no directory: walked. -/
import Derived.Test.YthmkgohfeahdhaaGreatDiNoneLawP5
import Derived.ProofKit
import Derived.OpenShut
import Derived.Lib.SmallJoins
import Derived.Deep.Slices
import Derived.Deep.Fields
import Derived.Deep.Strs
import Derived.Lib.SplitLaws
import Derived.Lib.IndexBytes
import Derived.Deep.RegionHeld3
import Derived.Deep.RegionLaw
import Derived.Deep.QuietTactic
import Derived.BigQuiet
import Derived.Handy
import Derived.Deep.LoopGhost
import Derived.Deep.Cut
import Derived.Deep.CutRange
import Derived.Lib.BufferWrite
namespace Go.Proofs.YthmkgohfeahdhaaGreat
open Go.RowKit
set_option linter.unusedSimpArgs false
set_option linter.unusedVariables false

section
variable {w0 w w' : World} {i : Ids} {s0 s : Sto} {gg : Nat} {g : GeoN} {lab : Int} {G G' : GS} {K : List Nat}
theorem Stay.trans {s1 s2 s3 : Sto} (h : Stay s1 s2 g) (h' : Stay s2 s3 g) : Stay s1 s3 g := ⟨h'.D.trans h.D, h'.bad.trans h.bad, fun m hm => (h'.far m hm).trans (h.far m hm)⟩
/-- how a group lies open behind calls on a file's blocks: those to be written are among a list's -/
def CutR (w0 w : World) (i : Ids) (s0 : Sto) (gg : Nat) (g : GeoN) (lab : Int) (G : GS) (K : List Nat) : Prop :=
  ∃ s, GAt w i s gg g lab G ∧ Stay s0 s g ∧ s.In K ∧ Tch w0.heap.size i.own w0 w
theorem CutR.refl (h : GAt w i s gg g lab G) (hK : s.In K) : CutR w w i s gg g lab G K := ⟨s, h, ⟨rfl, rfl, fun _ _ => rfl⟩, hK, Tch.refl _ _ _⟩
theorem CutR.below (h : CutR w0 w i s0 gg g lab G K) (hb : Below w.heap.size w w') : CutR w0 w' i s0 gg g lab G K := by
  obtain ⟨s', h1, h2, h3, h4⟩ := h
  exact ⟨s', h1.below hb, h2, h3, h4.trans ((Tch.of_below hb).mono h4.size fun _ _ h => h)⟩
theorem CutR.drew (h : CutR w0 w i s0 gg g lab G K) : CutR w0 w.drew i s0 gg g lab G K := h.below (Below.refl _ _).drew
theorem CutR.tch (h : CutR w0 w i s0 gg g lab G K) : Tch w0.heap.size i.own w0 w := by
  obtain ⟨s', h1, h2, h3, h4⟩ := h
  exact h4
theorem CutR.gok (h : CutR w0 w i s0 gg g lab G K) : G.Ok := by
  obtain ⟨s', h1, h2, h3, h4⟩ := h
  exact h1.gok
theorem CutR.new_own (h : CutR w0 w i s0 gg g lab G K) : ¬ i.own w.heap.size := fun hk => by
  obtain ⟨s', h1, h2, h3, h4⟩ := h
  exact h1.tx.other_new (Nat.le_refl _) hk
theorem CutR.step {L : List Nat} (h : CutR w0 w i s0 gg g lab G K) (hg : GAt w' i s gg g lab G') (hs : ∃ s1, s1.In K ∧ Stay s0 s1 g ∧ s1.Step s g L) (hL : ∀ x ∈ L, x ∈ K) (ht : Tch w.heap.size i.own w w') : CutR w0 w' i s0 gg g lab G' K := by
  obtain ⟨s', h1, h2, h3, h4⟩ := h
  obtain ⟨s1, k1, k2, k3⟩ := hs
  exact ⟨s, hg, k2.trans ⟨k3.D, k3.bad, k3.far⟩, (k3.in_ k1).mono (fun x hx => by rcases List.mem_append.1 hx with h | h; exact h; exact hL x h), h4.trans (ht.mono h4.size fun _ _ h => h)⟩
/-- taking a block off, in a transaction -/
theorem cut_give {k : Nat} (h : CutR w0 w i s0 gg g lab G K) (hKl : K.length ≤ 28) (hb5 : g.blocks ≤ 512) (hK1 : g.base ∈ K) (hk : k < g.blocks) (hb : G.tk k = true) :
    Calls Tryz.prog 103 #[.pointer (some ⟨gg, 0, none⟩), .int .u16 ((k + 1 : Nat) : Int)] w fun e w' => e = .returned (.int .i64 0) ∧ CutR w0 w' i s0 gg g lab (G.give k) K ∧ Tch w.heap.size i.own w w' := by
  have h' := h
  obtain ⟨s', h1, h2, h3, h4⟩ := h
  exact (gs_give h1 (by have := h3.len h1.tx.ok; omega) hk hb).mono fun e w' ⟨he, s2, k1, k2, k3⟩ => ⟨he, h'.step k1 ⟨s', h3, h2, k2⟩ (fun x hx => by
    obtain rfl : x = g.base + k / 512 := by simpa using hx
    rw [show g.base + k / 512 = g.base from by omega]; exact hK1) k3, k3⟩
theorem cut_put {k : Nat} {b : BlkV} (h : CutR w0 w i s0 gg g lab G K) (hKl : K.length ≤ 28) (hk : k < g.blocks) (hK2 : g.data + k ∈ K) (hb : b.length = 64) :
    Calls Tryz.prog 94 #[.pointer (some ⟨gg, 0, none⟩), .int .u16 ((k + 1 : Nat) : Int), bval b] w fun e w' => e = .returned (.int .i64 0) ∧ CutR w0 w' i s0 gg g lab (G.put k b) K ∧ Tch w.heap.size i.own w w' := by
  have h' := h
  obtain ⟨s', h1, h2, h3, h4⟩ := h
  exact (gs_put h1 (by have := h3.len h1.tx.ok; omega) hk hb).mono fun e w' ⟨he, s2, k1, k2, k3⟩ => ⟨he, h'.step k1 ⟨s', h3, h2, k2⟩ (fun x hx => by
    obtain rfl : x = g.data + k := by simpa using hx
    exact hK2) k3, k3⟩
theorem cut_get {k : Nat} (h : CutR w0 w i s0 gg g lab G K) (hk : k < g.blocks) :
    Calls Tryz.prog 93 #[.pointer (some ⟨gg, 0, none⟩), .int .u16 ((k + 1 : Nat) : Int)] w fun e w' => e = .returned (.tuple #[bval (G.by_ k), .int .i64 0]) ∧ CutR w0 w' i s0 gg g lab G K ∧ Tch w.heap.size i.own w w' := by
  obtain ⟨s', h1, h2, h3, h4⟩ := h
  exact (gs_get' h1 hk).mono fun e w' ⟨he, k1, k2⟩ => ⟨he, ⟨s', k1, h2, h3, h4.trans (k2.mono h4.size fun _ _ h => h)⟩, k2⟩
set_option maxRecDepth 100000 in
set_option maxHeartbeats 4000000 in
theorem lose_leaf {v : WayV} {k p x j : Nat} (h : CutR w0 w i s0 gg g lab G K) (hKl : K.length ≤ 28) (hb5 : g.blocks ≤ 512) (hK1 : g.base ∈ K) (hK2 : g.data + p ∈ K) (hv : v.Ok) (hk : v.steps = k + 1) (hj : v.idx[k]? = some j) (hp : p < g.blocks) (hx : ptrB (G.by_ p) j = x + 1) (hxb : x < g.blocks) (hxt : G.tk x = true) :
    Calls Tryz.prog 149 #[.pointer (some ⟨gg, 0, none⟩), .int .u16 ((p + 1 : Nat) : Int), .agg v.cells, .int .i64 (k : Int)] w fun e w' => e = .returned (.int .i64 0) ∧ CutR w0 w' i s0 gg g lab ((G.give x).put p (pointB (G.by_ p) j 0)) K ∧ Tch w.heap.size i.own w w' := by
  have hwo := hv
  have hjl := hj
  obtain ⟨hj32, hcj, hk3⟩ := WayV.idx_lt hv hj
  have hbl := h.gok.len p
  have hget := fun W (hW : CutR w0 W i s0 gg g lab G K) => cut_get hW hp
  generalize hbk : G.by_ p = bk at *
  have hpt := fun W => pointer_ok W hbl hj32
  rw [hx] at hpt
  have ep : ((p + 1 : Nat) : Int) = (p : Int) + 1 := by omega
  have ex : ((x + 1 : Nat) : Int) = (x : Int) + 1 := by omega
  rw [ep] at hget ⊢
  rw [ex] at hpt
  have hkz : (k : Int) < 3 := by omega
  have hpz : (p : Int) ≤ 511 := by omega
  have hxz : (x : Int) ≤ 511 := by omega
  have hsz : (v.steps : Int) ≤ 3 := by rcases hv with h | h | h <;> omega
  have H := hide h
  have HK := hide (And.intro hKl (And.intro hK1 hK2))
  have HB5 := hide hb5
  have HBK := hide (And.intro hbk hbl)
  have HGT := hide hget
  have HPT := hide hpt
  have HV := hide (And.intro hwo hk)
  have HJ := hide (And.intro hj32 (And.intro hcj hjl))
  have HX := hide (And.intro hxb hxt)
  have HP := hide (And.intro hp (And.intro ep ex))
  clear h hKl hK1 hK2 hb5 hbk hbl hget hpt hwo hk hj32 hcj hjl hxb hxt hp ep ex hj hv hx
  go_enter Tryz.func149, Tryz.ntmps149
  go_upto_region 1 with (fail)
  refine at_world (fun W => ∃ q, q = w.heap.size ∧ Below w.heap.size w W ∧ Blk W q 268 v.cells) ⟨_, rfl, (Below.refl _ _).alloc (Nat.le_refl _) _, Blk.new _ _ _⟩ (fun w1 hw1 => ?_)
  obtain ⟨q, hq, hb1, hQ1⟩ := hw1
  rw [← hq]
  have HA1 := hide (H.out.below hb1)
  have HQ1 := hide hQ1
  have HQO := hide (show ¬ i.own q from by rw [hq]; exact H.out.new_own)
  have HT1 := hide (Tch.of_below (S := i.own) hb1)
  clear hq hb1 hQ1
  go_wp2_with fail
  refine (HGT.out w1 HA1.out).mono ?_
  rintro e w5 ⟨rfl, ha5, ht5⟩
  have HA5 := hide ha5
  have HQ5 := hide (HQ1.out.tch ht5 HQ1.out.lt HQO.out)
  have HT5 := hide (HT1.out.trans (ht5.mono HT1.out.size fun _ _ h => h))
  clear ha5 ht5 HGT HA1 HQ1 HT1
  go_upto_region 2 with (first | ((with_reducible refine at_alloc 106 ?_); refine wpList_alloc_as rfl 106 rfl _ (zero_block _) ?_) | ((with_reducible refine at_store 106 (.tmp 9) (.tmp 18) ?_); refine wpList_store_blk rfl 106 (.tmp 9) (.tmp 18) rfl w5.heap.size 106 _ _ (by rfl) (by rfl) (Blk.new _ _ _) (size_blockOf HBK.out.2) ((bvs_size zeroB_length).trans (bvs_size HBK.out.2).symm) (bvs_oneCell _) (fun _ => ?_)) | fail)
  refine at_world (fun W => ∃ z, z = w5.heap.size ∧ Below w5.heap.size w5 W ∧ Blk W z 106 (bvs bk).toArray) ⟨_, rfl, below_setRow ((Below.refl _ _).alloc (Nat.le_refl _) _) (Nat.le_refl _) _, (Blk.new _ _ _).setRow_same _⟩ (fun w6 hw6 => ?_)
  obtain ⟨z, hz, hb6, hZ6⟩ := hw6
  rw [← hz]
  have HZO := hide (show ¬ i.own z from by rw [hz]; exact HA5.out.new_own)
  have HA6 := hide (HA5.out.below hb6)
  have HQ6 := hide (HQ5.out.below hb6 HQ5.out.lt)
  have HT6 := hide (HT5.out.trans ((Tch.of_below hb6).mono HT5.out.size fun _ _ h => h))
  have HZ6 := hide hZ6
  clear hz hb6 hZ6 HA5 HQ5 HT5
  have cj : w6.cell? ⟨q, 1 + k, none⟩ = some (.int .i64 (j : Int)) := (HQ6.out.cell (1 + k)).trans HJ.out.2.1
  have ql := HQ6.out.lt
  go_upto_region 4 with (fail)
  refine wp_region_text [0, 0, 0, 0, 0, 2, 0] (· = w6.drew) (by kernel_rfl) (by kernel_rfl) rfl ?_
  refine wpOrd_q (v := .agg (bvs bk).toArray) (by rfl) (fun W hW => by cases hW; exact exec_load_blk 106 (.tmp 9) rfl z _ (bvs bk).toArray _ rfl HZ6.out.drew Tryz.underlying106 rfl (size_blockOf HBK.out.2)) ?_
  try simp only [Act.put, List.setIfInBounds_toArray, List.set_cons_zero, List.set_cons_succ]
  iterate 4 (refine wpOrd_q (v := ?_) (by rfl) (fun W hW => ?_) ?_; rotate_left; (focus ((cases hW; go_simp); try with_reducible rfl)); try simp only [Act.put, List.setIfInBounds_toArray, List.set_cons_zero, List.set_cons_succ])
  refine wpOrd_b (by rfl) (fun K hK => ?_)
  go_simp
  refine (HPT.out _).mono ?_
  rintro e w7 ⟨rfl, hb7⟩
  refine hK (fun _ => True) _ _ trivial ?_
  have hb67 : Below w6.heap.size w6 w7 := (Below.refl _ _).drew.trans hb7
  have HA7 := hide (HA6.out.below hb67)
  have HQ7 := hide (HQ6.out.below hb67 HQ6.out.lt)
  have HZ7 := hide (HZ6.out.below hb67 HZ6.out.lt)
  have HT7 := hide (HT6.out.trans ((Tch.of_below hb67).mono HT6.out.size fun _ _ h => h))
  clear hK hb7 hb67 cj ql HA6 HQ6 HZ6 HT6 HPT
  try simp only [Act.put, List.setIfInBounds_toArray, List.set_cons_zero, List.set_cons_succ]
  iterate 1 (refine wpOrd_q (v := ?_) (by rfl) (fun W hW => ?_) ?_; rotate_left; (focus (go_simp; try with_reducible rfl)); try simp only [Act.put, List.setIfInBounds_toArray, List.set_cons_zero, List.set_cons_succ])
  refine wpOrd_nil ?_
  have c0 : w7.cell? ⟨q, 0, none⟩ = some (.int .i64 (v.steps : Int)) := HQ7.out.cell 0
  have ql := HQ7.out.lt
  obtain ⟨k1, hk1⟩ : ∃ k1, k1 = k + 1 := ⟨_, rfl⟩
  have e1 : IntKind.i64.wrap ((k : Int) + 1) = (k1 : Int) := by rw [IntWalk.i64_in _ (by omega)]; omega
  have HK1 := hide hk1
  have t1 : decide (k1 < v.steps) = false := by have := HV.out.2; simp; omega
  clear hk1
  have hgv := cut_give HA7.out HK.out.1 HB5.out HK.out.2.1 HX.out.1 HX.out.2
  rw [HP.out.2.2] at hgv
  have HGV := hide hgv
  clear hgv
  go_wp2_with fail
  refine HGV.out.mono ?_
  rintro e w8 ⟨rfl, ha8, ht8⟩
  have HA8 := hide ha8
  have HQ8 := hide (HQ7.out.tch ht8 HQ7.out.lt HQO.out)
  have HZ8 := hide (HZ7.out.tch ht8 HZ7.out.lt HZO.out)
  have HT8 := hide (HT7.out.trans (ht8.mono HT7.out.size fun _ _ h => h))
  have cj : w8.cell? ⟨q, 1 + k, none⟩ = some (.int .i64 (j : Int)) := (HQ8.out.cell (1 + k)).trans HJ.out.2.1
  have ql := HQ8.out.lt
  clear ha8 ht8 HGV HA7 HQ7 HZ7 HT7
  go_upto_region 14 with (fail)
  refine wp_region_text [0, 0, 0, 0, 0, 0, 0, 1, 2, 0] (Below w8.heap.size w8) (by kernel_rfl) (by kernel_rfl) (Below.refl _ _).drew ?_
  iterate 2 (refine wpOrd_q (v := ?_) (by rfl) (fun W hW => ?_) ?_; rotate_left; (focus ((obtain ⟨hWc, hWf⟩ := bcell hW; go_simp); try with_reducible rfl)); try simp only [Act.put, List.setIfInBounds_toArray, List.set_cons_zero, List.set_cons_succ])
  refine wpOrd_q (v := .agg (bvs bk).toArray) (by rfl) (fun W hW => exec_load_blk 106 (.tmp 9) rfl z _ (bvs bk).toArray _ rfl (HZ8.out.below hW HZ8.out.lt) Tryz.underlying106 rfl (size_blockOf HBK.out.2)) ?_
  try simp only [Act.put, List.setIfInBounds_toArray, List.set_cons_zero, List.set_cons_succ]
  iterate 4 (refine wpOrd_q (v := ?_) (by rfl) (fun W hW => ?_) ?_; rotate_left; (focus ((obtain ⟨hWc, hWf⟩ := bcell hW; go_simp); try with_reducible rfl)); try simp only [Act.put, List.setIfInBounds_toArray, List.set_cons_zero, List.set_cons_succ])
  refine wpOrd_x (by rfl) (fun K hK => ?_)
  go_simp
  have hpo := point_ok w8.drew HBK.out.2 HJ.out.1 (n := 0) (by omega)
  rw [show ((0 : Nat) : Int) = 0 from rfl] at hpo
  refine hpo.mono ?_
  rintro e w9 ⟨rfl, hb9⟩
  have hb89 : Below w8.heap.size w8 w9 := (Below.refl _ _).drew.trans hb9
  refine hK _ _ _ (fun _ h => h) hb89 ?_
  have HA9 := hide (HA8.out.below hb89)
  have HT9 := hide (HT8.out.trans ((Tch.of_below hb89).mono HT8.out.size fun _ _ h => h))
  have hput := cut_put (b := pointB bk j 0) HA9.out HK.out.1 HP.out.1 HK.out.2.2 (by rw [pointB_length]; exact HBK.out.2)
  rw [HP.out.2.1] at hput
  have HPUT := hide hput
  clear hK hpo hb9 hb89 cj ql HA8 HQ8 HZ8 HT8 hput
  try simp only [Act.put, List.setIfInBounds_toArray, List.set_cons_zero, List.set_cons_succ]
  refine wpOrd_b (by rfl) (fun K hK => ?_)
  go_simp
  refine HPUT.out.mono ?_
  rintro e w10 ⟨rfl, ha10, ht10⟩
  refine hK (fun _ => True) _ _ trivial ?_
  have HF := hide (And.intro ha10 (HT9.out.trans (ht10.mono HT9.out.size fun _ _ h => h)))
  clear hK ha10 ht10 HPUT HA9 HT9
  try simp only [Act.put, List.setIfInBounds_toArray, List.set_cons_zero, List.set_cons_succ]
  iterate 1 (refine wpOrd_q (v := ?_) (by rfl) (fun W hW => ?_) ?_; rotate_left; (focus (go_simp; try with_reducible rfl)); try simp only [Act.put, List.setIfInBounds_toArray, List.set_cons_zero, List.set_cons_succ])
  refine wpOrd_nil ?_
  go_wp2
  go_returns
  exact ⟨rfl, HF.out.1, HF.out.2⟩
set_option maxRecDepth 100000 in
set_option maxHeartbeats 4000000 in
theorem lose_two {v : WayV} {k p x j x2 j2 : Nat} (h : CutR w0 w i s0 gg g lab G K) (hKl : K.length ≤ 28) (hb5 : g.blocks ≤ 512) (hK1 : g.base ∈ K) (hK2 : g.data + p ∈ K) (hK3 : g.data + x ∈ K) (hv : v.Ok) (hk : v.steps = k + 2) (hj : v.idx[k]? = some j) (hj2 : v.idx[k + 1]? = some j2) (hp : p < g.blocks) (hx : ptrB (G.by_ p) j = x + 1) (hxb : x < g.blocks) (hxt : G.tk x = true)
    (hx2 : ptrB (G.by_ x) j2 = x2 + 1) (hx2b : x2 < g.blocks) (hx2t : G.tk x2 = true) (hne : x ≠ x2) (hG' : (if 0 < j2 then (G.give x2).put x (pointB (G.by_ x) j2 0) else ((((G.give x2).put x (pointB (G.by_ x) j2 0)).give x).put p (pointB (G.by_ p) j 0))) = G') :
    Calls Tryz.prog 149 #[.pointer (some ⟨gg, 0, none⟩), .int .u16 ((p + 1 : Nat) : Int), .agg v.cells, .int .i64 (k : Int)] w fun e w' => e = .returned (.int .i64 0) ∧ CutR w0 w' i s0 gg g lab G' K ∧ Tch w.heap.size i.own w w' := by
  obtain ⟨-, hcj2, -⟩ := WayV.idx_lt hv hj2
  have hlf := fun W (hW : CutR w0 W i s0 gg g lab G K) => lose_leaf hW hKl hb5 hK1 hK3 hv hk hj2 hxb hx2 hx2b hx2t
  obtain ⟨G1, hG1⟩ : ∃ G1, (G.give x2).put x (pointB (G.by_ x) j2 0) = G1 := ⟨_, rfl⟩
  rw [hG1] at hlf hG'
  have HGG := hide hG'
  clear hG'
  have hxt1 : G1.tk x = true := by rw [← hG1]; exact (upd_other _ _ hne).trans hxt
  have HLF := hide hlf
  have HJ2 := hide hcj2
  have HX1 := hide hxt1
  have hj2z : (j2 : Int) ≤ 31 := by have := (WayV.idx_lt hv hj2).1; omega
  clear hx2 hx2b hx2t hne hG1 hj2 hcj2 hlf hxt1 hK3
  have hwo := hv
  have hjl := hj
  obtain ⟨hj32, hcj, hk3⟩ := WayV.idx_lt hv hj
  have hbl := h.gok.len p
  have hget := fun W (hW : CutR w0 W i s0 gg g lab G K) => cut_get hW hp
  generalize hbk : G.by_ p = bk at *
  have hpt := fun W => pointer_ok W hbl hj32
  rw [hx] at hpt
  have ep : ((p + 1 : Nat) : Int) = (p : Int) + 1 := by omega
  have ex : ((x + 1 : Nat) : Int) = (x : Int) + 1 := by omega
  rw [ep] at hget ⊢
  rw [ex] at hpt
  have hkz : (k : Int) < 3 := by omega
  have hpz : (p : Int) ≤ 511 := by omega
  have hxz : (x : Int) ≤ 511 := by omega
  have hsz : (v.steps : Int) ≤ 3 := by rcases hv with h | h | h <;> omega
  have H := hide h
  have HK := hide (And.intro hKl (And.intro hK1 hK2))
  have HB5 := hide hb5
  have HBK := hide (And.intro hbk hbl)
  have HGT := hide hget
  have HPT := hide hpt
  have HV := hide (And.intro hwo hk)
  have HJ := hide (And.intro hj32 (And.intro hcj hjl))
  have HX := hide (And.intro hxb hxt)
  have HP := hide (And.intro hp (And.intro ep ex))
  clear h hKl hK1 hK2 hb5 hbk hbl hget hpt hwo hk hj32 hcj hjl hxb hxt hp ep ex hj hv hx
  go_enter Tryz.func149, Tryz.ntmps149
  go_upto_region 1 with (fail)
  refine at_world (fun W => ∃ q, q = w.heap.size ∧ Below w.heap.size w W ∧ Blk W q 268 v.cells) ⟨_, rfl, (Below.refl _ _).alloc (Nat.le_refl _) _, Blk.new _ _ _⟩ (fun w1 hw1 => ?_)
  obtain ⟨q, hq, hb1, hQ1⟩ := hw1
  rw [← hq]
  have HA1 := hide (H.out.below hb1)
  have HQ1 := hide hQ1
  have HQO := hide (show ¬ i.own q from by rw [hq]; exact H.out.new_own)
  have HT1 := hide (Tch.of_below (S := i.own) hb1)
  clear hq hb1 hQ1
  go_wp2_with fail
  refine (HGT.out w1 HA1.out).mono ?_
  rintro e w5 ⟨rfl, ha5, ht5⟩
  have HA5 := hide ha5
  have HQ5 := hide (HQ1.out.tch ht5 HQ1.out.lt HQO.out)
  have HT5 := hide (HT1.out.trans (ht5.mono HT1.out.size fun _ _ h => h))
  clear ha5 ht5 HGT HA1 HQ1 HT1
  go_upto_region 2 with (first | ((with_reducible refine at_alloc 106 ?_); refine wpList_alloc_as rfl 106 rfl _ (zero_block _) ?_) | ((with_reducible refine at_store 106 (.tmp 9) (.tmp 18) ?_); refine wpList_store_blk rfl 106 (.tmp 9) (.tmp 18) rfl w5.heap.size 106 _ _ (by rfl) (by rfl) (Blk.new _ _ _) (size_blockOf HBK.out.2) ((bvs_size zeroB_length).trans (bvs_size HBK.out.2).symm) (bvs_oneCell _) (fun _ => ?_)) | fail)
  refine at_world (fun W => ∃ z, z = w5.heap.size ∧ Below w5.heap.size w5 W ∧ Blk W z 106 (bvs bk).toArray) ⟨_, rfl, below_setRow ((Below.refl _ _).alloc (Nat.le_refl _) _) (Nat.le_refl _) _, (Blk.new _ _ _).setRow_same _⟩ (fun w6 hw6 => ?_)
  obtain ⟨z, hz, hb6, hZ6⟩ := hw6
  rw [← hz]
  have HZO := hide (show ¬ i.own z from by rw [hz]; exact HA5.out.new_own)
  have HA6 := hide (HA5.out.below hb6)
  have HQ6 := hide (HQ5.out.below hb6 HQ5.out.lt)
  have HT6 := hide (HT5.out.trans ((Tch.of_below hb6).mono HT5.out.size fun _ _ h => h))
  have HZ6 := hide hZ6
  clear hz hb6 hZ6 HA5 HQ5 HT5
  have cj : w6.cell? ⟨q, 1 + k, none⟩ = some (.int .i64 (j : Int)) := (HQ6.out.cell (1 + k)).trans HJ.out.2.1
  have ql := HQ6.out.lt
  go_upto_region 4 with (fail)
  refine wp_region_text [0, 0, 0, 0, 0, 2, 0] (· = w6.drew) (by kernel_rfl) (by kernel_rfl) rfl ?_
  refine wpOrd_q (v := .agg (bvs bk).toArray) (by rfl) (fun W hW => by cases hW; exact exec_load_blk 106 (.tmp 9) rfl z _ (bvs bk).toArray _ rfl HZ6.out.drew Tryz.underlying106 rfl (size_blockOf HBK.out.2)) ?_
  try simp only [Act.put, List.setIfInBounds_toArray, List.set_cons_zero, List.set_cons_succ]
  iterate 4 (refine wpOrd_q (v := ?_) (by rfl) (fun W hW => ?_) ?_; rotate_left; (focus ((cases hW; go_simp); try with_reducible rfl)); try simp only [Act.put, List.setIfInBounds_toArray, List.set_cons_zero, List.set_cons_succ])
  refine wpOrd_b (by rfl) (fun K hK => ?_)
  go_simp
  refine (HPT.out _).mono ?_
  rintro e w7 ⟨rfl, hb7⟩
  refine hK (fun _ => True) _ _ trivial ?_
  have hb67 : Below w6.heap.size w6 w7 := (Below.refl _ _).drew.trans hb7
  have HA7 := hide (HA6.out.below hb67)
  have HQ7 := hide (HQ6.out.below hb67 HQ6.out.lt)
  have HZ7 := hide (HZ6.out.below hb67 HZ6.out.lt)
  have HT7 := hide (HT6.out.trans ((Tch.of_below hb67).mono HT6.out.size fun _ _ h => h))
  clear hK hb7 hb67 cj ql HA6 HQ6 HZ6 HT6 HPT
  try simp only [Act.put, List.setIfInBounds_toArray, List.set_cons_zero, List.set_cons_succ]
  iterate 1 (refine wpOrd_q (v := ?_) (by rfl) (fun W hW => ?_) ?_; rotate_left; (focus (go_simp; try with_reducible rfl)); try simp only [Act.put, List.setIfInBounds_toArray, List.set_cons_zero, List.set_cons_succ])
  refine wpOrd_nil ?_
  have c0 : w7.cell? ⟨q, 0, none⟩ = some (.int .i64 (v.steps : Int)) := HQ7.out.cell 0
  have ql := HQ7.out.lt
  obtain ⟨k1, hk1⟩ : ∃ k1, k1 = k + 1 := ⟨_, rfl⟩
  have e1 : IntKind.i64.wrap ((k : Int) + 1) = (k1 : Int) := by rw [IntWalk.i64_in _ (by omega)]; omega
  have HK1 := hide hk1
  have t1 : decide (k1 < v.steps) = true := by have := HV.out.2; simp; omega
  clear hk1
  have hcl := HLF.out w7 HA7.out
  rw [HP.out.2.2, show ((k + 1 : Nat) : Int) = (k1 : Int) from by rw [HK1.out]] at hcl
  have HCL := hide hcl
  clear hcl HLF
  go_wp2_with (first | ((with_reducible refine at_load 268 (.tmp 6) ?_); refine wpList_load_blk rfl 268 (.tmp 6) rfl q _ _ _ (by rfl) HQ7.out Tryz.underlying268 rfl (size_way v) ?_) | fail)
  refine HCL.out.mono ?_
  rintro e w7' ⟨rfl, ha7, ht7⟩
  have HA7' := hide ha7
  have HQ7' := hide (HQ7.out.tch ht7 HQ7.out.lt HQO.out)
  have HZ7' := hide (HZ7.out.tch ht7 HZ7.out.lt HZO.out)
  have HT7' := hide (HT7.out.trans (ht7.mono HT7.out.size fun _ _ h => h))
  clear ha7 ht7 HCL HA7 HQ7 HZ7 HT7 c0 ql
  have cj2 : w7'.cell? ⟨q, 1 + k1, none⟩ = some (.int .i64 (j2 : Int)) := (HQ7'.out.cell (1 + k1)).trans (by rw [HK1.out]; exact HJ2.out)
  have ql := HQ7'.out.lt
  have hk1z : (k1 : Int) < 3 := by have := HV.out.2; have := HK1.out; rcases HV.out.1 with h | h | h <;> omega
  by_cases hj0 : 0 < j2
  · have t2 : decide (0 < j2) = true := by simp; omega
    have hgg := HGG.out
    rw [if_pos hj0] at hgg
    have HGG2 := hide hgg
    clear hj0 hgg HGG
    go_wp2
    go_returns
    exact ⟨rfl, by rw [← HGG2.out]; exact HA7'.out, HT7'.out⟩
  have t2 : decide (0 < j2) = false := by simp; omega
  have hgg := HGG.out
  rw [if_neg hj0] at hgg
  have HGG2 := hide hgg
  clear hj0 hgg HGG
  have hgv := cut_give HA7'.out HK.out.1 HB5.out HK.out.2.1 HX.out.1 HX1.out
  rw [HP.out.2.2] at hgv
  have HGV := hide hgv
  clear hgv
  go_wp2_with fail
  refine HGV.out.mono ?_
  rintro e w8 ⟨rfl, ha8, ht8⟩
  have HA8 := hide ha8
  have HQ8 := hide (HQ7'.out.tch ht8 HQ7'.out.lt HQO.out)
  have HZ8 := hide (HZ7'.out.tch ht8 HZ7'.out.lt HZO.out)
  have HT8 := hide (HT7'.out.trans (ht8.mono HT7'.out.size fun _ _ h => h))
  have cj : w8.cell? ⟨q, 1 + k, none⟩ = some (.int .i64 (j : Int)) := (HQ8.out.cell (1 + k)).trans HJ.out.2.1
  have ql := HQ8.out.lt
  clear ha8 ht8 HGV HA7' HQ7' HZ7' HT7'
  go_upto_region 14 with (fail)
  refine wp_region_text [0, 0, 0, 0, 0, 0, 0, 1, 2, 0] (Below w8.heap.size w8) (by kernel_rfl) (by kernel_rfl) (Below.refl _ _).drew ?_
  iterate 2 (refine wpOrd_q (v := ?_) (by rfl) (fun W hW => ?_) ?_; rotate_left; (focus ((obtain ⟨hWc, hWf⟩ := bcell hW; go_simp); try with_reducible rfl)); try simp only [Act.put, List.setIfInBounds_toArray, List.set_cons_zero, List.set_cons_succ])
  refine wpOrd_q (v := .agg (bvs bk).toArray) (by rfl) (fun W hW => exec_load_blk 106 (.tmp 9) rfl z _ (bvs bk).toArray _ rfl (HZ8.out.below hW HZ8.out.lt) Tryz.underlying106 rfl (size_blockOf HBK.out.2)) ?_
  try simp only [Act.put, List.setIfInBounds_toArray, List.set_cons_zero, List.set_cons_succ]
  iterate 4 (refine wpOrd_q (v := ?_) (by rfl) (fun W hW => ?_) ?_; rotate_left; (focus ((obtain ⟨hWc, hWf⟩ := bcell hW; go_simp); try with_reducible rfl)); try simp only [Act.put, List.setIfInBounds_toArray, List.set_cons_zero, List.set_cons_succ])
  refine wpOrd_x (by rfl) (fun K hK => ?_)
  go_simp
  have hpo := point_ok w8.drew HBK.out.2 HJ.out.1 (n := 0) (by omega)
  rw [show ((0 : Nat) : Int) = 0 from rfl] at hpo
  refine hpo.mono ?_
  rintro e w9 ⟨rfl, hb9⟩
  have hb89 : Below w8.heap.size w8 w9 := (Below.refl _ _).drew.trans hb9
  refine hK _ _ _ (fun _ h => h) hb89 ?_
  have HA9 := hide (HA8.out.below hb89)
  have HT9 := hide (HT8.out.trans ((Tch.of_below hb89).mono HT8.out.size fun _ _ h => h))
  have hput := cut_put (b := pointB bk j 0) HA9.out HK.out.1 HP.out.1 HK.out.2.2 (by rw [pointB_length]; exact HBK.out.2)
  rw [HP.out.2.1] at hput
  have HPUT := hide hput
  clear hK hpo hb9 hb89 cj ql HA8 HQ8 HZ8 HT8 hput
  try simp only [Act.put, List.setIfInBounds_toArray, List.set_cons_zero, List.set_cons_succ]
  refine wpOrd_b (by rfl) (fun K hK => ?_)
  go_simp
  refine HPUT.out.mono ?_
  rintro e w10 ⟨rfl, ha10, ht10⟩
  refine hK (fun _ => True) _ _ trivial ?_
  have HF := hide (And.intro ha10 (HT9.out.trans (ht10.mono HT9.out.size fun _ _ h => h)))
  clear hK ha10 ht10 HPUT HA9 HT9
  try simp only [Act.put, List.setIfInBounds_toArray, List.set_cons_zero, List.set_cons_succ]
  iterate 1 (refine wpOrd_q (v := ?_) (by rfl) (fun W hW => ?_) ?_; rotate_left; (focus (go_simp; try with_reducible rfl)); try simp only [Act.put, List.setIfInBounds_toArray, List.set_cons_zero, List.set_cons_succ])
  refine wpOrd_nil ?_
  go_wp2
  go_returns
  exact ⟨rfl, by rw [← HGG2.out]; exact HF.out.1, HF.out.2⟩
theorem CutR.setNode {nb r : Nat} {cs : Array Value} {u : Value} (h : CutR w0 w i s0 gg g lab G K) (hnb : w0.heap.size ≤ nb) (hN : Blk w nb 130 cs) : CutR w0 (w.setCell ⟨nb, r, none⟩ u) i s0 gg g lab G K := by
  obtain ⟨s, h1, h2, h3, h4⟩ := h
  have ht : Tch w.heap.size (· = nb) w (w.setCell ⟨nb, r, none⟩ u) := Tch.setCell fun _ => rfl
  have e1 : ¬ i.own nb := h1.tx.other hN (by decide) (by decide) (by decide)
  have e2 : nb ≠ i.ll := hN.ne h1.tx.log.log (by decide)
  have e3 : gg ≠ nb := h1.gp.ne hN (by decide)
  exact ⟨s, ⟨h1.tx.apart ht (fun k hk => by subst hk; exact ⟨e1, e2⟩), Blk.tch h1.gp ht h1.gp.lt e3, h1.ok, h1.is, h1.gok⟩, h2, h3, h4.trans (ht.mono h4.size fun k hk hs => by omega)⟩
theorem build_three0 (w : World) : (Instr.build 266 #[]).run Tryz.prog w = .ok (.agg #[.int .i64 0, .int .i64 0, .int .i64 0]) w := by kernel_rfl
theorem wf64 {a : Nat} (ha : a < 64) : (Lit.int .i64 (a : Int)).wf = true := by
  simp [Lit.wf, IntKind.min, IntKind.max, IntKind.signed, IntKind.bits]
  omega
theorem at_eq (w : World) {a b : Nat} (ha : a < 64) (hb : b < 64) : (Op.equalIn 10000 266 (.agg #[.int .i64 (a : Int), .int .i64 (b : Int), .int .i64 0]) (.agg #[.int .i64 0, .int .i64 0, .int .i64 0])).run Tryz.prog w = .ok (decide (a = 0 ∧ b = 0)) w := by
  have hl : ∀ x y : Nat, x < 64 → y < 64 → Tryz.prog.keyLits (0 + 2) 266 [.int .i64 (x : Int), .int .i64 (y : Int), .int .i64 0] = some [Lit.int .i64 (x : Int), Lit.int .i64 (y : Int), Lit.int .i64 0] := fun x y hx hy =>
    lits_ints (P := Tryz.prog) (d := 0) Tryz.underlying266 Tryz.underlying3 (by kernel_rfl) (by kernel_rfl) (xs := [(x : Int), (y : Int), 0]) rfl (fun z hz => by
      simp only [List.mem_cons, List.not_mem_nil, or_false] at hz
      rcases hz with rfl | rfl | rfl
      · exact wf64 hx
      · exact wf64 hy
      · exact wf64 (a := 0) (by omega))
  have hf : ∀ x y : Value, (Value.agg #[x, y, .int .i64 0]).formed Tryz.prog 266 = true := fun x y => by
    unfold Value.formed
    rw [Tryz.underlying266]
    simp only [beq_iff_eq]
    kernel_rfl
  obtain ⟨r, h1, h2⟩ := run_equal_lits (P := Tryz.prog) w (m := 2) (D := 2) (by decide) (k := 266) (by kernel_rfl) (hf _ _) (hf (.int .i64 0) (.int .i64 0)) (hl a b ha hb) (hl 0 0 (by omega) (by omega))
  have : r = decide (a = 0 ∧ b = 0) := by
    rw [Bool.eq_iff_iff, h2, decide_eq_true_iff]
    simp
  rw [h1, this]
theorem CutR.node_own {nb : Nat} {cs : Array Value} (h : CutR w0 w i s0 gg g lab G K) (hN : Blk w nb 130 cs) : ¬ i.own nb := by
  obtain ⟨s, h1, h2, h3, h4⟩ := h
  exact h1.tx.other hN (by decide) (by decide) (by decide)
theorem nkeys_next {b : Nat} (hb : b < 256) : (if b = 6 then 2 else if 38 ≤ b ∧ (b - 38) % 32 = 0 then (if b = 38 then 3 else 2) else 1) + nkeys b = nkeys (b + 1) := by
  unfold nkeys
  by_cases h6 : b < 6
  · rw [if_neg (by omega), if_neg (by omega), if_neg (by omega), if_neg (by omega), if_neg (by omega), if_neg (by omega)]
    omega
  · by_cases h38 : b < 38
    · by_cases e : b = 6
      · subst e; decide
      · rw [if_neg e, if_neg (by omega), if_pos (by omega), if_neg (by omega), if_pos (by omega), if_neg (by omega)]
        omega
    · rw [if_neg (by omega), if_pos (by omega : 6 < b), if_pos (by omega : 6 < b + 1), if_pos (by omega : 38 < b + 1)]
      by_cases e : b = 38
      · subst e; decide
      · rw [if_pos (by omega : 38 < b)]
        by_cases e2 : (b - 38) % 32 = 0
        · rw [if_pos ⟨by omega, e2⟩, if_neg e]; omega
        · rw [if_neg (by omega)]; omega
theorem lose_any {n : NodeV} {b : Nat} {κ : Nat → Nat} (hG : G.Ok) (hKl : K.length ≤ 28) (hb5 : g.blocks ≤ 512) (hK1 : g.base ∈ K) (hKp : ∀ k, 256 ≤ k → prOf (b + 1) k = true → g.data + κ k ∈ K) (hb6 : 6 ≤ b) (hb : b < 256) (hT : Tree G g.blocks n (prOf (b + 1)) κ) :
    ∃ G1 p0 d, (n.rootV (wayOf b)).toNat = p0 + 1 ∧ p0 < g.blocks ∧ d + nkeys b = nkeys (b + 1) ∧
      (∀ W, CutR w0 W i s0 gg g lab G K → Calls Tryz.prog 149 #[.pointer (some ⟨gg, 0, none⟩), .int .u16 ((p0 + 1 : Nat) : Int), .agg (wayOf b).cells, .int .i64 ((0 : Nat) : Int)] W fun e w' => e = .returned (.int .i64 0) ∧ CutR w0 w' i s0 gg g lab G1 K ∧ Tch W.heap.size i.own W w') ∧
      (if b = 6 ∨ b = 38 then G1.tk p0 = true ∧ Del G (G1.give p0) g.blocks n (n.setRoot (wayOf b) 0) (prOf (b + 1)) (prOf b) κ d else Del G G1 g.blocks n n (prOf (b + 1)) (prOf b) κ d) := by
  have hwo := wayOf_ok hb
  obtain ⟨hr1, hr2⟩ := par_root hb
  have htop := hT.top _ hr2 hr1
  have hsl := slot_root hb n
  have hnk := nkeys_next hb
  have hob := hT.own b (prOf_true.2 (by omega))
  by_cases h38 : b < 38
  · have hrk : rootK b = 256 := by unfold rootK; rw [if_neg (by omega), if_pos h38]
    have hp256 : prOf (b + 1) 256 = true := prOf_true.2 (by omega)
    rw [hrk, hp256, if_pos rfl] at htop
    rw [hrk] at hsl
    have hor := hT.own 256 hp256
    have hpar : par b = some (256, b - 6) := par_single hb6 h38
    have hsub := hT.sub b 256 (b - 6) (by omega) hpar hp256
    rw [prOf_true.2 (by omega), if_pos rfl] at hsub
    have hst : (wayOf b).steps = 0 + 1 := by unfold wayOf; rw [if_neg (by omega), if_pos h38]
    have hix : (wayOf b).idx[0]? = some (b - 6) := by unfold wayOf; rw [if_neg (by omega), if_pos h38]; rfl
    have hne : κ 256 ≠ κ b := fun e => by have := hT.inj 256 b hp256 (prOf_true.2 (by omega)) e; omega
    refine ⟨_, κ 256, _, by rw [hsl, htop], hor.1, hnk, fun W hW => lose_leaf hW hKl hb5 hK1 (hKp 256 (by omega) hp256) hwo hst hix hor.1 hsub hob.1 hob.2, ?_⟩
    by_cases e : b = 6
    · subst e
      rw [if_pos (.inl rfl), if_pos rfl]
      exact ⟨(upd_other _ _ hne).trans hor.2, del_six hT hG⟩
    · rw [if_neg (by omega), if_neg e, if_neg (by omega)]
      exact del_more hT hG (by omega) hb (fun h => by omega) hpar
  · have hrk : rootK b = 257 := by unfold rootK; rw [if_neg (by omega), if_neg h38]
    have hp257 : prOf (b + 1) 257 = true := prOf_true.2 (by omega)
    rw [hrk, hp257, if_pos rfl] at htop
    rw [hrk] at hsl
    have hor := hT.own 257 hp257
    obtain ⟨q, hq⟩ : ∃ q, q = (b - 38) / 32 := ⟨_, rfl⟩
    have hpq : prOf (b + 1) (258 + q) = true := prOf_true.2 (by omega)
    have hoq := hT.own (258 + q) hpq
    have hpar : par b = some (258 + q, (b - 38) % 32) := by rw [hq]; exact par_double (by omega) hb
    have hpm : par (258 + q) = some (257, q) := par_mid' (by omega)
    have hsub := hT.sub b (258 + q) _ (by omega) hpar hpq
    rw [prOf_true.2 (by omega), if_pos rfl] at hsub
    have hsub2 := hT.sub (258 + q) 257 q (by omega) hpm hp257
    rw [hpq, if_pos rfl] at hsub2
    have hst : (wayOf b).steps = 0 + 2 := by unfold wayOf; rw [if_neg (by omega), if_neg h38]
    have hix : (wayOf b).idx[0]? = some q := by unfold wayOf; rw [if_neg (by omega), if_neg h38, hq]; rfl
    have hix2 : (wayOf b).idx[0 + 1]? = some ((b - 38) % 32) := by unfold wayOf; rw [if_neg (by omega), if_neg h38]; rfl
    have hne : κ (258 + q) ≠ κ b := fun e => by have := hT.inj (258 + q) b hpq (prOf_true.2 (by omega)) e; omega
    have hne2 : κ 257 ≠ κ (258 + q) := fun e => by have := hT.inj 257 (258 + q) hp257 hpq e; omega
    have hne3 : κ 257 ≠ κ b := fun e => by have := hT.inj 257 b hp257 (prOf_true.2 (by omega)) e; omega
    refine ⟨_, κ 257, _, by rw [hsl, htop], hor.1, hnk, fun W hW => lose_two hW hKl hb5 hK1 (hKp 257 (by omega) hp257) (hKp (258 + q) (by omega) hpq) hwo hst hix hix2 hor.1 hsub2 hoq.1 hoq.2 hsub hob.1 hob.2 hne rfl, ?_⟩
    have e6 : ¬ b = 6 := by omega
    by_cases hm : (b - 38) % 32 = 0
    · rw [if_neg (show ¬ 0 < (b - 38) % 32 by omega), if_neg e6, if_pos (show 38 ≤ b ∧ (b - 38) % 32 = 0 from ⟨by omega, hm⟩), hm]
      by_cases e : b = 38
      · subst e
        have hq0 : q = 0 := by omega
        subst hq0
        rw [if_pos (show 38 = 6 ∨ 38 = 38 from .inr rfl), if_pos rfl]
        exact ⟨(upd_other _ _ hne2).trans ((upd_other _ _ hne3).trans hor.2), del_38 hT hG⟩
      · rw [if_neg (show ¬ (b = 6 ∨ b = 38) by omega), if_neg e]
        exact del_first hT hG hb (by omega) (by omega)
    · rw [if_pos (show 0 < (b - 38) % 32 by omega), if_neg (show ¬ (b = 6 ∨ b = 38) by omega), if_neg e6, if_neg (show ¬ (38 ≤ b ∧ (b - 38) % 32 = 0) by omega)]
      exact del_more hT hG (by omega) hb (fun _ => hm) hpar
set_option maxRecDepth 100000 in
set_option maxHeartbeats 4000000 in
theorem fdrop_ok {n : NodeV} {b nb : Nat} {κ : Nat → Nat} (h : CutR w0 w i s0 gg g lab G K) (hKl : K.length ≤ 28) (hb5 : g.blocks ≤ 512) (hK1 : g.base ∈ K) (hKp : ∀ k, 256 ≤ k → prOf (b + 1) k = true → g.data + κ k ∈ K) (hb : b < 256) (hnb : w0.heap.size ≤ nb) (hN : Blk w nb 130 n.cells.toArray) (hT : Tree G g.blocks n (prOf (b + 1)) κ) :
    Calls Tryz.prog 97 #[.pointer (some ⟨gg, 0, none⟩), .pointer (some ⟨nb, 0, none⟩), .int .i64 (b : Int)] w fun e w' => e = .returned (.int .i64 0) ∧ ∃ G' n' d, CutR w0 w' i s0 gg g lab G' K ∧ Blk w' nb 130 n'.cells.toArray ∧ Del G G' g.blocks n n' (prOf (b + 1)) (prOf b) κ d ∧ d + nkeys b = nkeys (b + 1) := by
  have hwo := wayOf_ok hb
  have hpl := fun W => place_ok' W hb
  have hG := h.gok
  have hnd := hT.dir
  have hset := NodeV.setRoot_cells hT.dir hwo 0
  rw [show ((0 : UInt16).toNat : Int) = 0 from rfl] at hset
  obtain ⟨hrc, hr12⟩ := NodeV.rootV_at hT.dir hwo
  have hown := h.node_own hN
  have hloss : 6 ≤ b → _ := fun h6 => lose_any (w0 := w0) (i := i) (s0 := s0) (gg := gg) (lab := lab) hG hKl hb5 hK1 hKp h6 hb hT
  have hdir : b < 6 → (n.rootV (wayOf b)).toNat = κ b + 1 ∧ κ b < g.blocks ∧ G.tk (κ b) = true ∧ Del G (G.give (κ b)) g.blocks n (n.setRoot (wayOf b) 0) (prOf (b + 1)) (prOf b) κ 1 ∧ 1 + nkeys b = nkeys (b + 1) := fun h6 => by
    have hrk : rootK b = b := by unfold rootK; rw [if_pos h6]
    have hsl := slot_root hb n
    have htop := hT.top b (by omega) (par_dir h6)
    have ho := hT.own b (prOf_true.2 (by omega))
    rw [prOf_true.2 (by omega), if_pos rfl] at htop
    have hnk := nkeys_next hb
    rw [if_neg (by omega), if_neg (by omega)] at hnk
    exact ⟨by rw [hsl, hrk, htop], ho.1, ho.2, del_dir hT hG h6, hnk⟩
  have ha01 : (wayOf b).a0 < 64 ∧ (wayOf b).a1 < 64 := by
    unfold wayOf
    split
    · simp; omega
    · split
      · simp; omega
      · simp; omega
  have hst : ((wayOf b).steps = 0 ↔ b < 6) ∧ (((wayOf b).a0 = 0 ∧ (wayOf b).a1 = 0) ↔ (b = 0 ∨ b = 6 ∨ b = 38)) := by
    unfold wayOf
    split
    · simp; omega
    · split
      · simp; omega
      · simp; omega
  obtain ⟨v, hv⟩ : ∃ v, wayOf b = v := ⟨_, rfl⟩
  rw [hv] at hwo hpl hset hrc hr12 hloss hdir hst ha01
  have HA01 := hide ha01
  have H := hide h
  have HPL := hide hpl
  have HWO := hide hwo
  have HL := hide hloss
  have HD := hide hdir
  have HN := hide (And.intro hN (And.intro hnb hown))
  have HS := hide (And.intro hset hrc)
  have HST := hide hst
  have HK := hide (And.intro hKl (And.intro hb5 hK1))
  have hstz : (v.steps : Int) ≤ 3 := by rcases hwo with h | h | h <;> omega
  have HB6 := hide hb
  clear h hpl hwo hloss hdir hN hnb hown hset hrc hr12 hst hKl hb5 hK1 hKp hG hnd hT hv hb
  go_enter Tryz.func97, Tryz.ntmps97
  go_wp2_with fail
  refine (HPL.out w).mono ?_
  rintro e w2 ⟨rfl, hb2⟩
  have HB2 := hide hb2
  clear hb2 HPL
  go_upto_region 2 with (first | ((with_reducible refine at_alloc 268 ?_); refine wpList_alloc_as rfl 268 rfl _ (zero_way _) ?_) | ((with_reducible refine at_store 268 (.tmp 7) (.tmp 16) ?_); refine wpList_store_blk rfl 268 (.tmp 7) (.tmp 16) rfl w2.heap.size _ _ _ (by rfl) (by rfl) (Blk.new _ _ _) (size_way v) rfl (way_one v) (fun _ => ?_)) | fail)
  refine at_world (fun W => ∃ q, q = w2.heap.size ∧ Below w2.heap.size w2 W ∧ Blk W q 268 v.cells) ⟨_, rfl, below_setRow ((Below.refl _ _).alloc (Nat.le_refl _) _) (Nat.le_refl _) _, (Blk.new _ _ _).setRow_same _⟩ (fun w3 hw3 => ?_)
  obtain ⟨q, hq, hb3, hQ3⟩ := hw3
  rw [← hq]
  have HB3 := hide (HB2.out.trans (hb3.mono HB2.out.size))
  have HQ3 := hide hQ3
  clear hq hb3 hQ3 HB2
  go_wp2_with (first | ((with_reducible refine at_load 268 (.tmp 7) ?_); refine wpList_load_blk rfl 268 (.tmp 7) rfl q _ _ _ (by rfl) HQ3.out Tryz.underlying268 rfl (size_way v) ?_) | fail)
  refine (root_ok w3 (nb := nb) HWO.out).mono ?_
  rintro e w4 ⟨rfl, hb4⟩
  have HQ4 := hide (HQ3.out.below hb4 HQ3.out.lt)
  have HB4 := hide (HB3.out.trans (hb4.mono HB3.out.size))
  have HA4 := hide (H.out.below HB4.out)
  have HN4 := hide (HN.out.1.below HB4.out HN.out.1.lt)
  have HQO := hide (show ¬ i.own q ∧ q ≠ nb from ⟨by
    obtain ⟨s1, k1, -⟩ := HA4.out
    exact k1.tx.other HQ4.out (by decide) (by decide) (by decide), HQ4.out.ne HN4.out (by decide)⟩)
  have c0 : w4.cell? ⟨q, 0, none⟩ = some (.int .i64 (v.steps : Int)) := HQ4.out.cell 0
  have ql := HQ4.out.lt
  have nl := HN4.out.lt
  clear hb4 HQ3 HB3 H
  by_cases hb6 : b < 6
  · obtain ⟨hr, hkm, hkt, hdel, hnk⟩ := HD.out hb6
    have t1 : ((v.steps : Int) == 0) = true := by simp [HST.out.1.2 hb6]
    have hrc := HS.out.2
    rw [hr] at hrc
    have cr : w4.cell? ⟨nb, v.root, none⟩ = some (.int .u16 ((κ b : Int) + 1)) := (HN4.out.cell v.root).trans (by rw [List.getElem?_toArray, hrc]; congr 2)
    have cf : w4.frozen? ⟨nb, v.root, none⟩ = false := HN4.out.frozen v.root
    have HDL := hide (And.intro hdel hnk)
    have hN5 := HN4.out.set_ v.root (.int .u16 0)
    rw [HS.out.1] at hN5
    have HN5 := hide hN5
    have HA5 := hide (HA4.out.setNode (r := v.root) (u := .int .u16 0) HN.out.2.1 HN4.out)
    have hgv := cut_give (k := κ b) HA5.out HK.out.1 HK.out.2.1 HK.out.2.2 hkm hkt
    rw [show ((κ b + 1 : Nat) : Int) = (κ b : Int) + 1 from by omega] at hgv
    have HGV := hide hgv
    have hkz : (κ b : Int) ≤ 511 := by have := HK.out.2.1; omega
    generalize κ b = kb at *
    clear hr hdel hnk hN5 hgv hb6 hrc hkm hkt HL HD
    go_wp2_with fail
    refine HGV.out.mono ?_
    rintro e w6 ⟨rfl, ha6, ht6⟩
    have HF := hide (And.intro ha6 (HN5.out.tch ht6 HN5.out.lt HN.out.2.2))
    clear ha6 ht6 HGV cr cf c0 ql nl
    go_wp2
    go_returns
    exact ⟨rfl, _, _, _, HF.out.1, HF.out.2, HDL.out.1, HDL.out.2⟩
  · obtain ⟨G1, p0, d, hr, hp0, hnk, hlose, hfin⟩ := HL.out (by omega)
    have t1 : ((v.steps : Int) == 0) = false := by
      have : v.steps ≠ 0 := fun e => hb6 (HST.out.1.1 e)
      simp [this]
    have hrc := HS.out.2
    rw [hr] at hrc
    have cr : w4.cell? ⟨nb, v.root, none⟩ = some (.int .u16 ((p0 : Int) + 1)) := (HN4.out.cell v.root).trans (by rw [List.getElem?_toArray, hrc]; congr 2)
    have hls := hlose w4.drew HA4.out.drew
    rw [show ((p0 + 1 : Nat) : Int) = (p0 : Int) + 1 from by omega, show ((0 : Nat) : Int) = 0 from rfl] at hls
    have HLS := hide hls
    have HFI := hide (And.intro hfin (And.intro hp0 hnk))
    have HBB := hide (show 6 ≤ b from by omega)
    have HRP := hide hr
    have HST2 := hide (show v.a0 < 64 ∧ v.a1 < 64 from HA01.out)
    have hpz : (p0 : Int) ≤ 511 := by have := HK.out.2.1; omega
    clear hr hlose hfin hrc hls hp0 hnk hb6 HL HD
    go_upto_region 7 with (fail)
    refine wp_region_text [0, 0, 0, 0, 0, 2, 0] (· = w4.drew) (by kernel_rfl) (by kernel_rfl) rfl ?_
    iterate 4 (refine wpOrd_q (v := ?_) (by rfl) (fun W hW => ?_) ?_; rotate_left; (focus ((cases hW; go_simp); try with_reducible rfl)); try simp only [Act.put, List.setIfInBounds_toArray, List.set_cons_zero, List.set_cons_succ])
    refine wpOrd_q (v := .agg v.cells) (by rfl) (fun W hW => by cases hW; exact exec_load_blk 268 (.tmp 7) rfl q _ v.cells _ rfl HQ4.out.drew Tryz.underlying268 rfl (size_way v)) ?_
    try simp only [Act.put, List.setIfInBounds_toArray, List.set_cons_zero, List.set_cons_succ]
    refine wpOrd_b (by rfl) (fun K hK => ?_)
    go_simp
    refine HLS.out.mono ?_
    rintro e w5 ⟨rfl, ha5, ht5⟩
    refine hK (fun _ => True) _ _ trivial ?_
    have HA5 := hide ha5
    have HQ5 := hide (HQ4.out.drew.tch ht5 HQ4.out.lt HQO.out.1)
    have HN5 := hide (HN4.out.drew.tch ht5 HN4.out.lt HN.out.2.2)
    clear hK ha5 ht5 HLS cr c0 ql nl HA4 HQ4 HN4 HB4
    try simp only [Act.put, List.setIfInBounds_toArray, List.set_cons_zero, List.set_cons_succ]
    iterate 1 (refine wpOrd_q (v := ?_) (by rfl) (fun W hW => ?_) ?_; rotate_left; (focus (go_simp; try with_reducible rfl)); try simp only [Act.put, List.setIfInBounds_toArray, List.set_cons_zero, List.set_cons_succ])
    refine wpOrd_nil ?_
    have cl5 := HQ5.out.lt
    have nl := HN5.out.lt
    have hrg : w5.rangeAt q 1 [.int .i64 (v.a0 : Int), .int .i64 (v.a1 : Int), .int .i64 0] := HQ5.out.range (fun j u hj => by
      obtain rfl | rfl | rfl : j = 0 ∨ j = 1 ∨ j = 2 := by have := (List.getElem?_eq_some_iff.1 hj).1; simp at this; omega
      all_goals exact hj)
    have HRG := hide hrg
    have hcmp := at_eq w5 HST2.out.1 HST2.out.2
    have HCM := hide hcmp
    have c0 : True := trivial
    by_cases hz : b = 6 ∨ b = 38
    · have hd : decide (v.a0 = 0 ∧ v.a1 = 0) = true := by rw [decide_eq_true_iff]; exact HST.out.2.2 (by omega)
      obtain ⟨hfin, hp0, hnk⟩ := HFI.out
      rw [if_pos hz] at hfin
      rw [hd] at hcmp
      have HCM := hide hcmp
      have HDL := hide (And.intro hfin (And.intro hp0 hnk))
      have hrc := HS.out.2
      have hp1 := HRP.out
      rw [hp1] at hrc
      have cr : w5.cell? ⟨nb, v.root, none⟩ = some (.int .u16 ((p0 : Int) + 1)) := (HN5.out.cell v.root).trans (by rw [List.getElem?_toArray, hrc]; congr 2)
      have cf : w5.frozen? ⟨nb, v.root, none⟩ = false := HN5.out.frozen v.root
      have hN6 := HN5.out.set_ v.root (.int .u16 0)
      rw [HS.out.1] at hN6
      have HN6 := hide hN6
      have HA6 := hide (HA5.out.setNode (r := v.root) (u := .int .u16 0) HN.out.2.1 HN5.out)
      have hgv := cut_give (k := p0) HA6.out HK.out.1 HK.out.2.1 HK.out.2.2 hp0 hfin.1
      rw [show ((p0 + 1 : Nat) : Int) = (p0 : Int) + 1 from by omega] at hgv
      have HGV := hide hgv
      clear hfin hp0 hnk hrc hp1 hN6 hgv hz hd hcmp c0 hrg
      go_wp2_with (first | ((with_reducible refine at_load 266 (.tmp 41) ?_); refine wpList_load_mid rfl 266 (.tmp 41) rfl q 1 (by rfl) [.int .i64 (v.a0 : Int), .int .i64 (v.a1 : Int), .int .i64 0] _ HRG.out Tryz.underlying266 rfl (by kernel_rfl) ?_) | ((with_reducible refine at_build 266 #[] ?_); refine wpList_zero_as rfl 266 rfl _ (build_three0 _) ?_) | ((with_reducible refine at_binop .eql 266 (.tmp 42) (.tmp 43) 266 ?_); refine wpList_run rfl _ (exec_eql_agg 266 (.tmp 42) (.tmp 43) 266 rfl _ _ rfl rfl (by kernel_rfl) _ HCM.out) ?_) | fail)
      refine HGV.out.mono ?_
      rintro e w6 ⟨rfl, ha6, ht6⟩
      have HF := hide (And.intro ha6 (HN6.out.tch ht6 HN6.out.lt HN.out.2.2))
      clear ha6 ht6 HGV cr cf cl5 nl
      go_wp2
      go_returns
      exact ⟨rfl, _, _, _, HF.out.1, HF.out.2, HDL.out.1.2, HDL.out.2.2⟩
    · have hd : decide (v.a0 = 0 ∧ v.a1 = 0) = false := by rw [decide_eq_false_iff_not]; intro h; have := HST.out.2.1 h; have := HBB.out; omega
      obtain ⟨hfin, hp0, hnk⟩ := HFI.out
      rw [if_neg hz] at hfin
      rw [hd] at hcmp
      have HCM := hide hcmp
      have HDL := hide (And.intro hfin hnk)
      clear hfin hp0 hnk hz hd hcmp c0 hrg
      go_wp2_with (first | ((with_reducible refine at_load 266 (.tmp 41) ?_); refine wpList_load_mid rfl 266 (.tmp 41) rfl q 1 (by rfl) [.int .i64 (v.a0 : Int), .int .i64 (v.a1 : Int), .int .i64 0] _ HRG.out Tryz.underlying266 rfl (by kernel_rfl) ?_) | ((with_reducible refine at_build 266 #[] ?_); refine wpList_zero_as rfl 266 rfl _ (build_three0 _) ?_) | ((with_reducible refine at_binop .eql 266 (.tmp 42) (.tmp 43) 266 ?_); refine wpList_run rfl _ (exec_eql_agg 266 (.tmp 42) (.tmp 43) 266 rfl _ _ rfl rfl (by kernel_rfl) _ HCM.out) ?_) | fail)
      go_returns
      exact ⟨rfl, _, _, _, HA5.out, HN5.out, HDL.out.1, HDL.out.2⟩
end
end Go.Proofs.YthmkgohfeahdhaaGreat
namespace Go.Proofs.YthmkgohfeahdhaaGreat
open Go.RowKit
set_option linter.unusedSimpArgs false
set_option linter.unusedVariables false

/-- a block's bytes behind a place are noughts -/
def wipeB (b : BlkV) (r : Nat) : BlkV := b.take r ++ List.replicate (64 - r) 0
theorem wipeB_length {b : BlkV} (hb : b.length = 64) {r : Nat} (hr : r ≤ 64) : (wipeB b r).length = 64 := by
  unfold wipeB
  rw [List.length_append, List.length_take, List.length_replicate]
  omega
theorem wipeB_getD {b : BlkV} (hb : b.length = 64) {r j : Nat} (hj : j < r) (hr : r ≤ 64) : (wipeB b r).getD j 0 = b.getD j 0 := by
  unfold wipeB
  rw [List.getD_eq_getElem?_getD, List.getD_eq_getElem?_getD, List.getElem?_append_left (by rw [List.length_take]; omega), List.getElem?_take, if_pos hj]
theorem Del.trans {G0 G1 G2 : GS} {m : Nat} {n0 n1 n2 : NodeV} {p0 p1 p2 : Nat → Bool} {κ : Nat → Nat} {d d' : Nat} (h : Del G0 G1 m n0 n1 p0 p1 κ d) (h' : Del G1 G2 m n1 n2 p1 p2 κ d') : Del G0 G2 m n0 n2 p0 p2 κ (d + d') where
  tree := h'.tree
  ok := h'.ok
  nd := h'.nd.trans h.nd
  same := h.same.trans h'.same
  sub k hk := h.sub k (h'.sub k hk)
  by_ x hx := (h'.by_ x fun k hk => hx k (h.sub k hk)).trans (h.by_ x hx)
  tk x hx := (h'.tk x fun k hk => hx k (h.sub k hk)).trans (h.tk x hx)
  cnt := by have := h.cnt; have := h'.cnt; omega
/-- which blocks may be written when a file is cut -/
def cutL (g : GeoN) (K0 : List Nat) (c b : Nat) (κ : Nat → Nat) : List Nat := K0 ++ g.base :: (([256, 257, 258, 259, 260, 261, 262, 263, 264].filter (prOf c)).map fun k => g.data + κ k) ++ [g.data + κ b]
theorem cutL_length (g : GeoN) (K0 : List Nat) (c b : Nat) (κ : Nat → Nat) : (cutL g K0 c b κ).length ≤ K0.length + (if c ≤ 6 then 2 else if c ≤ 38 then 3 else 11) := by
  unfold cutL
  rw [List.length_append, List.length_append, List.length_cons, List.length_map, List.length_singleton]
  have h9 := List.length_filter_le (prOf c) [256, 257, 258, 259, 260, 261, 262, 263, 264]
  by_cases h6 : c ≤ 6
  · rw [if_pos h6]
    have : [256, 257, 258, 259, 260, 261, 262, 263, 264].filter (prOf c) = [] := by
      rw [List.filter_eq_nil_iff]
      intro x hx
      have : ¬ prOf c x = true := by
        rw [prOf_true]
        simp only [List.mem_cons, List.not_mem_nil, or_false] at hx
        omega
      exact this
    rw [this]
    simp
  · rw [if_neg h6]
    by_cases h38 : c ≤ 38
    · rw [if_pos h38]
      have : [256, 257, 258, 259, 260, 261, 262, 263, 264].filter (prOf c) = [256] := by
        have h1 : prOf c 256 = true := prOf_true.2 (by omega)
        have h2 : ∀ x ∈ [257, 258, 259, 260, 261, 262, 263, 264], ¬ prOf c x = true := fun x hx => by
          rw [prOf_true]
          simp only [List.mem_cons, List.not_mem_nil, or_false] at hx
          omega
        rw [List.filter_cons, if_pos h1, List.filter_eq_nil_iff.2 h2]
      rw [this]
      simp
    · rw [if_neg h38]
      simp only [List.length_cons, List.length_nil] at h9 ⊢
      omega
theorem cutL_key (g : GeoN) (K0 : List Nat) (c b : Nat) (κ : Nat → Nat) {k : Nat} (h1 : 256 ≤ k) (h2 : prOf c k = true) (hc : c ≤ 256) : g.data + κ k ∈ cutL g K0 c b κ := by
  unfold cutL
  have hk : k ∈ [256, 257, 258, 259, 260, 261, 262, 263, 264] := by
    have := prOf_true.1 h2
    simp only [List.mem_cons, List.not_mem_nil, or_false]
    omega
  simp only [List.mem_append, List.mem_cons, List.mem_map, List.mem_filter]
  exact .inl (.inr (.inr ⟨k, ⟨by simpa using hk, h2⟩, rfl⟩))
theorem cutL_base (g : GeoN) (K0 : List Nat) (c b : Nat) (κ : Nat → Nat) : g.base ∈ cutL g K0 c b κ := by simp [cutL]
theorem cutL_last (g : GeoN) (K0 : List Nat) (c b : Nat) (κ : Nat → Nat) : g.data + κ b ∈ cutL g K0 c b κ := by simp [cutL]
/-- how many blocks a length takes, as the program has it -/
theorem nspread_ok (w : World) {n : Nat} (hn : n ≤ 16384) : Calls Tryz.prog 96 #[.int .i64 (n : Int)] w fun e w' => e = .returned (.tuple #[.int .i64 (blks n : Int), .int .i64 ((nkeys (blks n) - blks n : Nat) : Int)]) ∧ w = w' := by
  obtain ⟨c, hc⟩ : ∃ c, blks n = c := ⟨_, rfl⟩
  have hcv : c = (n + 63) / 64 := by rw [← hc]; rfl
  have hc256 : c ≤ 256 := by omega
  rw [hc]
  have m1 : max (n : Int) 0 = (n : Int) := by omega
  have e1 : IntKind.i64.wrap ((n : Int) + 64) = (n : Int) + 64 := IntWalk.i64_in _ (by omega)
  have e2 : IntKind.i64.wrap ((n : Int) + 64 - 1) = ((n + 63 : Nat) : Int) := by rw [IntWalk.i64_in _ (by omega)]; omega
  have e3 : ((n + 63 : Nat) : Int).tdiv 64 = (c : Int) := by rw [Int.tdiv_eq_ediv_of_nonneg (by omega)]; omega
  have e4 : IntKind.i64.wrap (c : Int) = (c : Int) := IntWalk.i64_in _ (by omega)
  have e5 : IntKind.i64.wrap ((c : Int) - 6) = (c : Int) - 6 := IntWalk.i64_in _ (by omega)
  have e6 : IntKind.i64.wrap ((c : Int) - 6 - 32) = (c : Int) - 6 - 32 := IntWalk.i64_in _ (by omega)
  obtain ⟨k, hk⟩ : ∃ k, nkeys c - c = k := ⟨_, rfl⟩
  rw [hk]
  unfold nkeys at hk
  generalize n + 63 = n63 at *
  by_cases h6 : c ≤ 6
  · have t1 : decide ((0 : Int) < (c : Int) - 6) = false := by simp; omega
    have hk0 : k = 0 := by rw [if_neg (show ¬ 6 < c by omega), if_neg (show ¬ 38 < c by omega)] at hk; omega
    clear hk hcv hc
    subst hk0
    go_enter Tryz.func96, Tryz.ntmps96
    go_wp2
    go_returns
    exact ⟨rfl, rfl⟩
  · have t1 : decide ((0 : Int) < (c : Int) - 6) = true := by simp; omega
    by_cases h38 : c ≤ 38
    · have t2 : decide ((0 : Int) < (c : Int) - 6 - 32) = false := by simp; omega
      have hk0 : k = 1 := by rw [if_pos (show 6 < c by omega), if_neg (show ¬ 38 < c by omega)] at hk; omega
      clear hk hcv hc
      subst hk0
      go_enter Tryz.func96, Tryz.ntmps96
      go_wp2
      go_returns
      exact ⟨rfl, rfl⟩
    · have t2 : decide ((0 : Int) < (c : Int) - 6 - 32) = true := by simp; omega
      obtain ⟨x, hx⟩ : ∃ x : Nat, (c - 38 + 31) / 32 = x := ⟨_, rfl⟩
      have hk0 : k = 2 + x := by rw [if_pos (show 6 < c by omega), if_pos (show 38 < c by omega)] at hk; omega
      have e7 : IntKind.i64.wrap ((c : Int) - 6 - 32 + 32) = (c : Int) - 6 - 32 + 32 := IntWalk.i64_in _ (by omega)
      have e8 : IntKind.i64.wrap ((c : Int) - 6 - 32 + 32 - 1) = ((c - 38 + 31 : Nat) : Int) := by rw [IntWalk.i64_in _ (by omega)]; omega
      have e9 : ((c - 38 + 31 : Nat) : Int).tdiv 32 = (x : Int) := by rw [Int.tdiv_eq_ediv_of_nonneg (by omega)]; omega
      have e10 : IntKind.i64.wrap (x : Int) = (x : Int) := IntWalk.i64_in _ (by omega)
      have e11 : IntKind.i64.wrap (1 + (x : Int)) = 1 + (x : Int) := IntWalk.i64_in _ (by omega)
      have e12 : IntKind.i64.wrap (1 + (1 + (x : Int))) = (k : Int) := by rw [IntWalk.i64_in _ (by omega)]; omega
      have hfin : (1 + (1 + ((c : Int) - 6 - 1) / 32) : Int) = (k : Int) := by omega
      generalize c - 38 + 31 = c31 at *
      clear hk hcv hc hx hk0
      go_enter Tryz.func96, Tryz.ntmps96
      go_wp2
      go_returns
      exact ⟨by first | rfl | (rw [← hfin]; rfl) | (simp only [hfin]; rfl), rfl⟩
section
variable {w0 w w' : World} {i : Ids} {s0 s : Sto} {gg : Nat} {g : GeoN} {lab : Int} {G G' : GS} {K : List Nat}
theorem cut_block {n : NodeV} {b : Nat} (h : CutR w0 w i s0 gg g lab G K) (hb : b < 256) (hn : n.dir.length = 6) (hp : blkOk G g.blocks (wayOf b).idx (n.rootV (wayOf b)).toNat) :
    Calls Tryz.prog 99 #[.pointer (some ⟨gg, 0, none⟩), n.val, .int .i64 (b : Int)] w fun e w' => e = .returned (.tuple #[.int .u16 (blkGo G (wayOf b).idx (n.rootV (wayOf b)).toNat : Int), .int .i64 0]) ∧ CutR w0 w' i s0 gg g lab G K ∧ Tch w.heap.size i.own w w' := by
  obtain ⟨s', h1, h2, h3, h4⟩ := h
  exact (block_ok h1 hb hn hp).mono fun e w' ⟨he, k1, k2⟩ => ⟨he, ⟨s', k1, h2, h3, h4.trans (k2.mono h4.size fun _ _ h => h)⟩, k2⟩
theorem zero_u8 (w : World) : (zeroValue 5).run Tryz.prog w = .ok (.int .u8 0) w := by kernel_rfl
set_option maxRecDepth 100000 in
set_option maxHeartbeats 2000000 in
theorem wipe_file {n : NodeV} {b r k size : Nat} (h : CutR w0 w i s0 gg g lab G K) (hKl : K.length ≤ 28) (hn : n.dir.length = 6) (hb : b < 256) (hsz : size = 64 * b + r) (hr0 : 0 < r) (hr : r < 64) (hrd : Rdy G g.blocks n b) (hd : dataP G n b = k + 1) (hk : k < g.blocks) (hb5 : g.blocks ≤ 512) (hK2 : g.data + k ∈ K) :
    Calls Tryz.prog 98 #[.pointer (some ⟨gg, 0, none⟩), n.val, .int .i64 (size : Int)] w fun e w' => e = .returned (.int .i64 0) ∧ CutR w0 w' i s0 gg g lab (G.put k (wipeB (G.by_ k) r)) K ∧ Tch w.heap.size i.own w w' := by
  have hbl := h.gok.len k
  have hblk := fun W (hW : CutR w0 W i s0 gg g lab G K) => cut_block hW hb hn hrd.ok
  have hget := fun W (hW : CutR w0 W i s0 gg g lab G K) => cut_get hW hk
  have hput := fun W (hW : CutR w0 W i s0 gg g lab G K) => cut_put (b := wipeB (G.by_ k) r) hW hKl hk hK2 (wipeB_length hbl (by omega))
  rw [show blkGo G (wayOf b).idx (n.rootV (wayOf b)).toNat = k + 1 from hd] at hblk
  obtain ⟨bk, hbk⟩ : ∃ bk, G.by_ k = bk := ⟨_, rfl⟩
  rw [hbk] at hbl hget hput ⊢
  have ep : ((k + 1 : Nat) : Int) = (k : Int) + 1 := by omega
  rw [ep] at hblk hget hput
  have e1 : (size : Int).tdiv 64 = (b : Int) := by rw [Int.tdiv_eq_ediv_of_nonneg (by omega)]; omega
  have e2 : (size : Int).tmod 64 = (r : Int) := by rw [Int.tmod_eq_emod_of_nonneg (by omega)]; omega
  have e3 : IntKind.i64.wrap (b : Int) = (b : Int) := IntWalk.i64_in _ (by omega)
  have e4 : IntKind.i64.wrap (r : Int) = (r : Int) := IntWalk.i64_in _ (by omega)
  have hkz : (k : Int) ≤ 511 := by omega
  have H := hide h
  have HBK := hide hblk
  have HGT := hide hget
  have HPT := hide hput
  have HBL := hide hbl
  have HN := hide hn
  have HRR := hide (And.intro hr0 hr)
  clear h hblk hget hput hbl hn hrd hd hK2 hbk hsz ep hr0 hr hKl
  go_enter Tryz.func98, Tryz.ntmps98
  go_upto_region 1 with (fail)
  refine at_world (fun W => ∃ nb, nb = w.heap.size ∧ Below w.heap.size w W ∧ Blk W nb 130 n.cells.toArray) ⟨_, rfl, (Below.refl _ _).alloc (Nat.le_refl _) _, Blk.new _ _ _⟩ (fun w1 hw1 => ?_)
  obtain ⟨nb, hnb, hb1, hN1⟩ := hw1
  rw [← hnb]
  have HN1 := hide hN1
  have HA1 := hide (H.out.below hb1)
  have HT1 := hide (Tch.of_below (S := i.own) hb1)
  clear hnb hN1 hb1
  go_wp2_with (first | ((with_reducible refine at_load 130 (.tmp 4) ?_); refine wpList_load_blk rfl 130 (.tmp 4) rfl nb _ _ _ (by rfl) HN1.out Tryz.underlying130 rfl (size_nodeOf HN.out) ?_) | fail)
  refine (HBK.out w1 HA1.out).mono ?_
  rintro e w2 ⟨rfl, ha2, ht2⟩
  have HA2 := hide ha2
  have HT2 := hide (HT1.out.trans (ht2.mono HT1.out.size fun _ _ h => h))
  clear ha2 ht2 HBK HA1 HT1
  go_wp2_with fail
  refine (HGT.out w2 HA2.out).mono ?_
  rintro e w3 ⟨rfl, ha3, ht3⟩
  have HA3 := hide ha3
  have HT3 := hide (HT2.out.trans (ht3.mono HT2.out.size fun _ _ h => h))
  clear ha3 ht3 HGT HA2 HT2
  go_upto_region 5 with (first | ((with_reducible refine at_alloc 106 ?_); refine wpList_alloc_as rfl 106 rfl _ (zero_block _) ?_) | ((with_reducible refine at_store 106 (.tmp 9) (.tmp 25) ?_); refine wpList_store_blk rfl 106 (.tmp 9) (.tmp 25) rfl w3.heap.size 106 _ _ (by rfl) (by rfl) (Blk.new _ _ _) (size_blockOf HBL.out) ((bvs_size zeroB_length).trans (bvs_size HBL.out).symm) (bvs_oneCell _) (fun _ => ?_)) | fail)
  refine at_world (fun W => ∃ z, z = w3.heap.size ∧ Below w3.heap.size w3 W ∧ Blk W z 106 (bvs bk).toArray) ⟨_, rfl, below_setRow ((Below.refl _ _).alloc (Nat.le_refl _) _) (Nat.le_refl _) _, (Blk.new _ _ _).setRow_same _⟩ (fun w4 hw4 => ?_)
  obtain ⟨z, hz, hb4, hZ4⟩ := hw4
  rw [← hz]
  have HZ4 := hide hZ4
  have HZN := hide (show w3.heap.size ≤ z from Nat.le_of_eq hz.symm)
  have HB4 := hide hb4
  clear hz hb4 hZ4
  go_upto_region 7 with (fail)
  obtain ⟨hr0, hr⟩ := HRR.out
  have hz64 := bvs_size HBL.out
  have hsl := run_slice_arr (P := Tryz.prog) (w := w4) 106 5 z 64 r .i64 Tryz.underlying106 (by kernel_rfl) hr
  have hcl : ∀ ty, (Builtin.clear_ #[24] ty #[.slice (some ⟨z, r, none⟩) (64 - r) (64 - r)]).run Tryz.prog w4 = .ok (.tuple #[]) (w4.setCells z r (List.replicate (64 - r) (.int .u8 0))) :=
    fun ty => Lib.run_clear_slice w4 24 5 ty (.int .u8 0) Tryz.underlying24 zero_u8 rfl rfl z r (64 - r) (64 - r) (by omega)
      (fun j hj => by rw [HZ4.out.cell]; rw [Array.getElem?_eq_getElem (by rw [hz64]; omega)]; rfl) (fun j hj => HZ4.out.frozen _)
  have hB5 := HZ4.out.setCells r (List.replicate (64 - r) (.int .u8 0)) (by rw [List.length_replicate, hz64]; omega)
  have hcs : ((bvs bk).toArray.toList.take r ++ List.replicate (64 - r) (Value.int .u8 0) ++ (bvs bk).toArray.toList.drop (r + (List.replicate (64 - r) (Value.int .u8 0)).length)) = bvs (wipeB bk r) := by
    have h1 : (bvs bk).length = 64 := by rw [bvs_length]; exact HBL.out
    rw [show (bvs bk).toArray.toList = bvs bk from rfl, List.length_replicate, List.drop_of_length_le (by omega), List.append_nil]
    unfold wipeB
    rw [bvs_append, bvs_take]
    congr 1
    simp [bvs, bv]
  rw [hcs] at hB5
  have hb5 : Below w3.heap.size w3 (w4.setCells z r (List.replicate (64 - r) (.int .u8 0))) := by
    have h1 : Tch w3.heap.size (fun _ => False) w4 (w4.setCells z r (List.replicate (64 - r) (.int .u8 0))) := Tch.setCells (fun h => by have := HZN.out; omega) _ _ _
    exact HB4.out.trans (h1.below fun _ _ h => h)
  have hlen := wipeB_length HBL.out (r := r) (by omega)
  obtain ⟨w5, hw5⟩ : ∃ w5, w4.setCells z r (List.replicate (64 - r) (.int .u8 0)) = w5 := ⟨_, rfl⟩
  rw [hw5] at hcl hB5 hb5
  have HB5 := hide hB5
  have HLN := hide hlen
  have HA5 := hide (HA3.out.below hb5)
  have HT5 := hide (HT3.out.trans ((Tch.of_below hb5).mono HT3.out.size fun _ _ h => h))
  clear hB5 hb5 hlen hcs hz64 hw5 HZ4 HZN HB4 HA3 HT3 hr0 hr
  go_wp2_with (first | ((with_reducible refine at_load 106 (.tmp 9) ?_); refine wpList_load_blk rfl 106 (.tmp 9) rfl z 106 _ _ (by rfl) HB5.out Tryz.underlying106 rfl (size_blockOf HLN.out) ?_) | fail)
  refine (HPT.out w5 HA5.out).mono ?_
  rintro e w6 ⟨rfl, ha6, ht6⟩
  have HF := hide (And.intro ha6 (HT5.out.trans (ht6.mono HT5.out.size fun _ _ h => h)))
  clear ha6 ht6 HPT HA5 HT5 hsl hcl
  go_wp2
  go_returns
  exact ⟨rfl, HF.out.1, HF.out.2⟩
/-- what a cut's last block is -/
def cutW (Gc : GS) (κ : Nat → Nat) (size : Nat) : GS := if size % 64 = 0 then Gc else Gc.put (κ (size / 64)) (wipeB (Gc.by_ (κ (size / 64))) (size % 64))
def NodeV.sized (n : NodeV) (x : Nat) : NodeV := { n with size := UInt32.ofNat x }
/-- what a cut leaves of a group's other blocks and nodes -/
structure Lost (G G' : GS) (num : Nat) (pr : Nat → Bool) (κ : Nat → Nat) : Prop where
  nd : ∀ k, k ≠ num → G'.nd k = G.nd k
  by_ : ∀ x, (∀ c, pr c = true → κ c ≠ x) → G'.by_ x = G.by_ x
  tk : ∀ x, (∀ c, pr c = true → κ c ≠ x) → G'.tk x = G.tk x
theorem cut_end {Gc : GS} {m num size sz d : Nat} {n0 nc : NodeV} {κ : Nat → Nat} {f : Nat → UInt8} (hf : FileAt G m n0 (blks sz) κ sz f) (hd : Del G Gc m n0 nc (prOf (blks sz)) (prOf (blks size)) κ d) (hle : size ≤ sz) (hs16 : sz ≤ 16384) :
    FileAt ((cutW Gc κ size).set num (nc.sized size)) m (nc.sized size) (blks size) κ size f ∧ Lost G ((cutW Gc κ size).set num (nc.sized size)) num (prOf (blks sz)) κ ∧ ((cutW Gc κ size).set num (nc.sized size)).cnt m = Gc.cnt m := by
  have hc : blks size ≤ 256 := by unfold blks; omega
  have hcle : blks size ≤ blks sz := by unfold blks; omega
  have hsame : ∀ j, j < blks size → Gc.by_ (κ j) = G.by_ (κ j) := fun j hj => hd.by_ _ fun k k1 k2 e => by
    have := hf.tree.inj k j k1 (prOf_true.2 (by omega)) e
    omega
  have hcnt : ((cutW Gc κ size).set num (nc.sized size)).cnt m = Gc.cnt m := by unfold cutW; split <;> rfl
  by_cases h0 : size % 64 = 0
  · have hw : cutW Gc κ size = Gc := by unfold cutW; rw [if_pos h0]
    refine ⟨?_, ?_, hcnt⟩
    · rw [hw]
      refine ⟨⟨hd.tree.dir, hd.tree.rng, hd.tree.cls, hd.tree.top, hd.tree.sub, hd.tree.own, hd.tree.inj⟩, hc, by unfold blks; omega, fun j hj => ?_⟩
      have : (Gc.by_ (κ (j / 64))).getD (j % 64) 0 = f j := by rw [hsame _ (by unfold blks; omega)]; exact hf.byte j (by omega)
      exact this
    · rw [hw]
      exact ⟨fun k hk => (upd_other _ _ hk).trans (by rw [hd.nd]), fun x hx => hd.by_ x fun k k1 _ => hx k k1, fun x hx => hd.tk x hx⟩
  · have hb : size / 64 < blks size := by unfold blks; omega
    have hpb : prOf (blks size) (size / 64) = true := prOf_true.2 (by omega)
    have hw : cutW Gc κ size = Gc.put (κ (size / 64)) (wipeB (Gc.by_ (κ (size / 64))) (size % 64)) := by unfold cutW; rw [if_neg h0]
    have ht := hd.tree.putData (by omega) hpb (wipeB (Gc.by_ (κ (size / 64))) (size % 64))
    refine ⟨?_, ?_, hcnt⟩
    · rw [hw]
      refine ⟨⟨ht.dir, ht.rng, ht.cls, ht.top, ht.sub, ht.own, ht.inj⟩, hc, by unfold blks; omega, fun j hj => ?_⟩
      have : ((Gc.put (κ (size / 64)) (wipeB (Gc.by_ (κ (size / 64))) (size % 64))).by_ (κ (j / 64))).getD (j % 64) 0 = f j := by
        by_cases e : j / 64 = size / 64
        · rw [e]
          have e2 : (Gc.put (κ (size / 64)) (wipeB (Gc.by_ (κ (size / 64))) (size % 64))).by_ (κ (size / 64)) = wipeB (Gc.by_ (κ (size / 64))) (size % 64) := upd_same _ _ _
          rw [e2, wipeB_getD (hd.ok.len _) (by omega) (by omega), ← e, hsame _ (by omega)]
          exact hf.byte j (by omega)
        · have hj2 : j / 64 < blks size := by unfold blks; omega
          have e1 : κ (j / 64) ≠ κ (size / 64) := fun h => e (hd.tree.inj _ _ (prOf_true.2 (by omega)) hpb h)
          have e2 : (Gc.put (κ (size / 64)) (wipeB (Gc.by_ (κ (size / 64))) (size % 64))).by_ (κ (j / 64)) = Gc.by_ (κ (j / 64)) := upd_other _ _ e1
          rw [e2, hsame _ hj2]
          exact hf.byte j (by omega)
      exact this
    · rw [hw]
      exact ⟨fun k hk => (upd_other _ _ hk).trans (congrFun hd.nd k), fun x hx => (upd_other _ _ (fun e => hx (size / 64) (hd.sub _ hpb) e.symm)).trans (hd.by_ x fun k k1 _ => hx k k1), fun x hx => hd.tk x hx⟩
set_option maxRecDepth 100000 in
set_option maxHeartbeats 4000000 in
theorem cut_file {num size sz : Nat} {K0 : List Nat} {κ : Nat → Nat} {f : Nat → UInt8} (h : GAt w i s gg g lab G) (hK0 : s.In K0) (hKl : K0.length + (if blks sz ≤ 6 then 2 else if blks sz ≤ 38 then 3 else 11) ≤ 28) (h1 : 1 ≤ num) (h2 : num ≤ g.nodes) (hb5 : g.blocks ≤ 512)
    (hk : (G.nd num).kind ≠ 0) (hsz : (G.nd num).size.toNat = sz) (hs16 : sz ≤ 16384) (hf : FileAt G g.blocks (G.nd num) (blks sz) κ sz f) (hle : size ≤ sz)
    (hck : ∀ n', (G.nd num).same n' → n'.dir.length = 6 → checkN (n'.sized size) = true) :
    Calls Tryz.prog 34 #[.pointer (some ⟨gg, 0, none⟩), .int .i64 (num : Int), .int .i64 (size : Int)] w fun e w' => e = .returned (.int .i64 0) ∧ ∃ s' G', GAt w' i s' gg g lab G' ∧ FileAt G' g.blocks (G'.nd num) (blks size) κ size f ∧ (G'.nd num).size.toNat = size ∧
      (G'.nd num).kind = (G.nd num).kind ∧ (G'.nd num).links = (G.nd num).links ∧ (G'.nd num).gen = (G.nd num).gen ∧ Lost G G' num (prOf (blks sz)) κ ∧ G'.cnt g.blocks + nkeys (blks sz) = G.cnt g.blocks + nkeys (blks size) ∧
      s'.In (cutL g K0 (blks sz) (size / 64) κ ++ [g.base + g.bitmap + (num - 1) / 2]) ∧ Stay s s' g ∧ Tch w.heap.size i.own w w' := by
  have hnd := gs_node' h h1 h2
  have hdir : (G.nd num).dir.length = 6 := h.gok.dir num
  have hD0 := Del.refl hf.tree h.gok
  obtain ⟨n0, hn0⟩ : ∃ n0, G.nd num = n0 := ⟨_, rfl⟩
  rw [hn0] at hnd hdir hk hsz hf hck hD0 ⊢
  have hkz : (n0.kind.toNat : Int) ≠ 0 := fun e => hk (UInt8.toNat_inj.1 (by simpa using e))
  have tk : ((n0.kind.toNat : Int) == 0) = false := by rw [beq_eq_false_iff_ne]; exact hkz
  have hc256 : blks sz ≤ 256 := by unfold blks; omega
  have hcle : blks size ≤ blks sz := by unfold blks; omega
  have hin : s.In (cutL g K0 (blks sz) (size / 64) κ) := hK0.mono fun x hx => by simp [cutL, hx]
  have hkl : (cutL g K0 (blks sz) (size / 64) κ).length ≤ 28 := Nat.le_trans (cutL_length _ _ _ _ _) hKl
  have hkb := cutL_base g K0 (blks sz) (size / 64) κ
  have hkk := fun k => cutL_key g K0 (blks sz) (size / 64) κ (k := k)
  have hkx := cutL_last g K0 (blks sz) (size / 64) κ
  obtain ⟨K, hK⟩ : ∃ K, cutL g K0 (blks sz) (size / 64) κ = K := ⟨_, rfl⟩
  rw [hK] at hin hkl hkb hkk hkx ⊢
  have hs1 := nspread_ok
  have H := hide h
  have HND := hide hnd
  have HD := hide hdir
  have HNM := hide (And.intro h1 h2)
  have HIN := hide hin
  have HKL := hide (And.intro hkl (And.intro hkb (And.intro hkk hkx)))
  have HB5 := hide hb5
  have HF := hide hf
  have HCK := hide hck
  have HD0 := hide hD0
  have HN0 := hide (And.intro hn0 hsz)
  have HSP := hide (fun W => nspread_ok W (n := size) (by omega))
  have HSP2 := hide (fun W => nspread_ok W (n := sz) hs16)
  obtain ⟨ce, hce⟩ : ∃ ce, blks size = ce := ⟨_, rfl⟩
  obtain ⟨c0, hc0⟩ : ∃ c0, blks sz = c0 := ⟨_, rfl⟩
  have HCE := hide (And.intro hce hc0)
  rw [hc0] at hc256 hcle
  rw [hce] at hcle
  have HCC := hide (And.intro hcle hc256)
  have hszz : (sz : Int) ≤ 16384 := by omega
  have hsizez : (size : Int) ≤ (sz : Int) := by omega
  have HLE := hide (And.intro hle hs16)
  clear h hnd hdir h1 h2 hin hkl hkb hkk hkx hb5 hf hck hD0 hn0 hk hkz hs1 hK hKl hK0 hce hc0 hcle hc256
  go_enter Tryz.func34, Tryz.ntmps34
  go_wp2_with fail
  refine HND.out.mono ?_
  rintro e w2 ⟨rfl, ha2, ht2⟩
  have HA2 : Hid (CutR w w2 i s gg g lab G K) := hide ⟨s, ha2, ⟨rfl, rfl, fun _ _ => rfl⟩, HIN.out, ht2⟩
  clear ha2 ht2 HND
  go_upto_region 2 with (first | ((with_reducible refine at_alloc 130 ?_); refine wpList_alloc_as rfl 130 rfl _ (zero_node _) ?_) | ((with_reducible refine at_store 130 (.tmp 7) (.tmp 20) ?_); refine wpList_store_blk rfl 130 (.tmp 7) (.tmp 20) rfl w2.heap.size _ _ _ (by rfl) (by rfl) (Blk.new _ _ _) (size_nodeOf HD.out) (by rw [List.size_toArray, List.size_toArray, NodeV.cells_length HD.out]; rfl) (NodeV.cells_one _) (fun _ => ?_)) | fail)
  refine at_world (fun W => ∃ q, q = w2.heap.size ∧ Below w2.heap.size w2 W ∧ Blk W q 130 n0.cells.toArray) ⟨_, rfl, below_setRow ((Below.refl _ _).alloc (Nat.le_refl _) _) (Nat.le_refl _) _, (Blk.new _ _ _).setRow_same _⟩ (fun w3 hw3 => ?_)
  obtain ⟨q, hq, hb3, hQ3⟩ := hw3
  rw [← hq]
  have HA3 := hide (HA2.out.below hb3)
  have HQ3 := hide hQ3
  have HQN := hide (show w.heap.size ≤ q from by have := HA2.out.tch.size; omega)
  have q0 := (hQ3.cell 0).trans (node_cells_at n0).1
  have q3 := (hQ3.cell 3).trans (node_cells_at n0).2.2.2
  have ql := hQ3.lt
  have t1 : decide ((size : Int) < 0) = false := by simp
  rw [HN0.out.2] at q3
  clear hq hb3 hQ3 HA2 hsz
  have c1 : IntKind.i64.wrap (sz : Int) = (sz : Int) := IntWalk.i64_in _ (by omega)
  have t2 : decide (sz < size) = false := by simp; omega
  go_wp2_with fail
  refine (HSP.out w3).mono ?_
  rintro e w_ ⟨rfl, hw_⟩
  subst hw_
  go_wp2_with fail
  refine (HSP2.out w3).mono ?_
  rintro e w_ ⟨rfl, hw_⟩
  subst hw_
  rw [HCE.out.1, HCE.out.2]
  have e1 : IntKind.i64.wrap ((c0 : Int) - 1) = (c0 : Int) - 1 := IntWalk.i64_in _ (by have := HCC.out.2; omega)
  go_wp2_with fail
  clear q0 q3 ql tk t1 t2 e1 HSP HSP2
  go_loopg [13] c0 (fun gh x13 wr => ∃ (c : Nat) (z : Int) (Gc : GS) (nc : NodeV) (d : Nat), gh = c ∧ x13 = .int .i64 z ∧ Hid (z = (c : Int) - 1 ∧ ce ≤ c ∧ c ≤ c0) ∧ Hid (CutR w wr i s gg g lab Gc K) ∧ Hid (Blk wr q 130 nc.cells.toArray) ∧ Hid (Del G Gc g.blocks n0 nc (prOf c0) (prOf c) κ d) ∧ Hid (d + nkeys c = nkeys c0))
  case atStart => exact ⟨c0, _, G, n0, 0, rfl, rfl, hide ⟨rfl, HCC.out.1, Nat.le_refl _⟩, HA3, HQ3, hide (by rw [← HCE.out.2]; exact HD0.out), hide (Nat.zero_add _)⟩
  case round =>
    obtain ⟨c, z, Gc, nc, d, hgh, rfl, HZ, HA, HQ, HDL, HNK⟩ := hrel
    have HGH := hide hgh
    clear hgh
    rcases Nat.lt_or_ge ce c with hlt | hge
    · obtain ⟨b, rfl⟩ : ∃ b, c = b + 1 := ⟨c - 1, by omega⟩
      obtain ⟨hz, hz2, hz3⟩ := HZ.out
      have hzb : z = (b : Int) := by omega
      subst hzb
      have t1 : decide (ce ≤ b) = true := by simp; omega
      have hbz : (b : Int) ≤ 256 := by have := HCC.out.2; omega
      have e1 : IntKind.i64.wrap ((b : Int) - 1) = (b : Int) - 1 := IntWalk.i64_in _ (by omega)
      have hdr := fdrop_ok (nb := q) (b := b) HA.out HKL.out.1 HB5.out HKL.out.2.1 (fun k k1 k2 => HKL.out.2.2.1 k k1 (by rw [HCE.out.2]; exact HDL.out.sub k k2) (by rw [HCE.out.2]; exact HCC.out.2)) (by have := HCC.out.2; omega) HQN.out HQ.out HDL.out.tree
      have HDR := hide hdr
      have HLT := hide (And.intro hlt hz3)
      clear hdr hz hz2 hz3 HZ hlt
      go_wp2_with fail
      refine HDR.out.mono ?_
      rintro e w5 ⟨rfl, G5, n5, d5, ha5, hq5, hdl5, hnk5⟩
      have HA5 := hide ha5
      have HQ5 := hide hq5
      have HDL5 := hide (HDL.out.trans hdl5)
      have HNK5 := hide (show (d + d5) + nkeys b = nkeys c0 from by have := HNK.out; omega)
      clear ha5 hq5 hdl5 hnk5 HDR
      go_wp2
      go_roundg b
      case rel => exact ⟨b, _, G5, n5, d + d5, rfl, rfl, hide ⟨rfl, by have := HLT.out.1; omega, by have := HLT.out.2; omega⟩, HA5, HQ5, HDL5, HNK5⟩
      case measure => have := HGH.out; omega
    · have hcc : c = ce := by have := HZ.out.2.1; omega
      subst hcc
      have hz := HZ.out.1
      have t1 : decide ((c : Int) ≤ z) = false := by simp; omega
      have e2 : (size : Int).tmod 64 = ((size % 64 : Nat) : Int) := by rw [Int.tmod_eq_emod_of_nonneg (by omega)]; omega
      have e3 : IntKind.i64.wrap ((size % 64 : Nat) : Int) = ((size % 64 : Nat) : Int) := IntWalk.i64_in _ (by omega)
      have e4 : IntKind.u32.wrap (size : Int) = (size : Int) := by rw [IntKind.wrap_u32]; omega
      obtain ⟨r, hr⟩ : ∃ r, size % 64 = r := ⟨_, rfl⟩
      have hrz : (r : Int) < 64 := by omega
      rw [hr] at e2 e3
      have HR := hide hr
      have HW : Hid (cutW Gc κ size = if r = 0 then Gc else Gc.put (κ (size / 64)) (wipeB (Gc.by_ (κ (size / 64))) r)) := hide (by unfold cutW; rw [hr])
      have HFC := hide (cut_end (num := num) HF.out (by rw [HCE.out.1, HCE.out.2]; exact HDL.out) HLE.out.1 HLE.out.2)
      clear hz hr
      generalize cutW Gc κ size = Gw at *
      obtain ⟨bz, hbz⟩ : ∃ bz, decide (0 < r) = bz := ⟨_, rfl⟩
      have HBZ := hide hbz
      go_upto_if 67 with (fail)
      clear hbz
      go_cut [15] from 67 to 74 (fun x15 wc => Hid (CutR w wc i s gg g lab Gw K) ∧ Hid (Blk wc q 130 nc.cells.toArray))
      case first =>
        by_cases hr0 : r = 0
        · have t2 : decide (0 < r) = false := by simp; omega
          have hbz : bz = false := by rw [← HBZ.out]; exact t2
          subst hbz
          have hw := HW.out
          rw [if_pos hr0] at hw
          have HW2 := hide hw
          clear hw hr0
          go_wp2
          go_meet
          case rel => exact ⟨hide (by rw [HW2.out]; exact HA.out), HQ⟩
        · have t2 : decide (0 < r) = true := by simp; omega
          have hbz : bz = true := by rw [← HBZ.out]; exact t2
          subst hbz
          have hw := HW.out
          rw [if_neg hr0] at hw
          have HW2 := hide hw
          obtain ⟨b, hb⟩ : ∃ b, size / 64 = b := ⟨_, rfl⟩
          rw [hb] at hw
          have hbe : b < c := by rw [← HCE.out.1]; unfold blks; have := HR.out; omega
          have hb256 : b < 256 := by have := HCC.out.2; have := HCC.out.1; omega
          have hp := pr_old hbe (by have := HCC.out; omega)
          have htd := tree_data hb256 HDL.out.tree hp
          have ho := HDL.out.tree.own b (prOf_true.2 (by omega))
          have hwp := wipe_file (r := r) (size := size) HA.out HKL.out.1 HDL.out.tree.dir hb256 (by have := HR.out; omega) (by omega) (by omega) htd.1 htd.2 ho.1 HB5.out (by rw [← hb]; exact HKL.out.2.2.2)
          rw [← hw] at hwp
          have HWP := hide hwp
          have HND := hide HDL.out.tree.dir
          clear hw hr0 hb hbe hb256 hp htd ho hwp
          go_wp2_with (first | ((with_reducible refine at_load 130 (.tmp 7) ?_); refine wpList_load_blk rfl 130 (.tmp 7) rfl q _ _ _ (by rfl) HQ.out Tryz.underlying130 rfl (size_nodeOf HND.out) ?_) | fail)
          refine HWP.out.mono ?_
          rintro e w6 ⟨rfl, ha6, ht6⟩
          have HA6 := hide ha6
          have HQ6 := hide (HQ.out.tch ht6 HQ.out.lt (HA.out.node_own HQ.out))
          clear ha6 ht6 HWP
          go_wp2
          go_meet
          case rel => exact ⟨HA6, HQ6⟩
      case rest =>
        obtain ⟨HA, HQ⟩ := hcut
        have HND := hide HDL.out.tree.dir
        have hq3 := HQ.out.set_ 3 (.int .u32 (size : Int))
        rw [node_grow nc (by omega)] at hq3
        have HQ4 : Hid (Blk (wc.setCell ⟨q, 3, none⟩ (.int .u32 (size : Int))) q 130 (nc.sized size).cells.toArray) := hide hq3
        have HA4 := hide (HA.out.setNode (r := 3) (u := .int .u32 (size : Int)) HQN.out HQ.out)
        have q3f := HQ.out.frozen 3
        have q3c := HQ.out.cell 3
        have ql := HQ.out.lt
        have hn3 : nc.cells.toArray[3]? = some (.int .u32 (nc.size.toNat : Int)) := (node_cells_at nc).2.2.2
        rw [hn3] at q3c
        have HAF := hide HA4.out
        obtain ⟨s4, ha4, hst4, hin4, ht4⟩ := HA4.out
        have hset := gs_set ha4 (by have := hin4.len ha4.tx.ok; have := HKL.out.1; omega) HNM.out.1 HNM.out.2 (n := nc.sized size) HND.out (HCK.out nc HDL.out.same HND.out)
        have HSET := hide hset
        have HS4 := hide (And.intro hst4 (And.intro hin4 ht4))
        clear hq3 hn3 ha4 hst4 hin4 ht4 hset t1 e2 e3 HA4 HAF
        go_wp2_with (first | ((with_reducible refine at_load 130 (.tmp 7) ?_); refine wpList_load_blk rfl 130 (.tmp 7) rfl q _ _ _ (by rfl) HQ4.out Tryz.underlying130 rfl (size_nodeOf (n := nc.sized size) HND.out) ?_) | fail)
        refine HSET.out.mono ?_
        rintro e w7 ⟨rfl, s7, ha7, hst7, ht7⟩
        obtain ⟨hfe, hlo, hct⟩ := HFC.out
        have hnd7 : (Gw.set num (nc.sized size)).nd num = nc.sized size := upd_same _ _ _
        have hsm := HDL.out.same
        have hnk := HNK.out
        have hdc := HDL.out.cnt
        have HFIN : Hid (∃ s' G', GAt w7 i s' gg g lab G' ∧ FileAt G' g.blocks (G'.nd num) (blks size) κ size f ∧ (G'.nd num).size.toNat = size ∧ (G'.nd num).kind = n0.kind ∧ (G'.nd num).links = n0.links ∧ (G'.nd num).gen = n0.gen ∧ Lost G G' num (prOf (blks sz)) κ ∧ G'.cnt g.blocks + nkeys (blks sz) = G.cnt g.blocks + nkeys (blks size) ∧
            s'.In (K ++ [g.base + g.bitmap + (num - 1) / 2]) ∧ Stay s s' g ∧ Tch w.heap.size i.own w w7) := hide (by
          refine ⟨s7, _, ha7, by rw [hnd7]; exact hfe, ?_, by rw [hnd7]; exact hsm.1, by rw [hnd7]; exact hsm.2.1, by rw [hnd7]; exact hsm.2.2.1, hlo, by rw [hct, HCE.out.2, HCE.out.1]; omega, hst7.in_ HS4.out.2.1, HS4.out.1.trans ⟨hst7.D, hst7.bad, hst7.far⟩, HS4.out.2.2.trans (ht7.mono HS4.out.2.2.size fun _ _ h => h)⟩
          rw [hnd7]
          show (UInt32.ofNat size).toNat = size
          rw [UInt32.toNat_ofNat', Nat.mod_eq_of_lt (by have := HLE.out; omega)])
        clear ha7 hst7 ht7 hfe hlo hct hnd7 hsm hnk hdc HSET
        go_wp2
        go_returns
        exact ⟨rfl, HFIN.out⟩
end
end Go.Proofs.YthmkgohfeahdhaaGreat
namespace Go.Proofs.YthmkgohfeahdhaaGreat
open Go.RowKit
set_option linter.unusedSimpArgs false
set_option linter.unusedVariables false

/-- an entry of a directory -/
structure EntV where
  name : ByteArray
  num : UInt16
def EntV.cells (e : EntV) : List Value := [.string e.name, .int .u16 (e.num.toNat : Int)]
def flat2 (l : List EntV) : List Value := l.flatMap EntV.cells
/-- a node as it is meant, as it lies -/
structure RNd where
  kind : UInt8
  links : Nat
  gen : UInt16
  A : Option Addr
  l : List UInt8
  c : Nat
  P : Option Addr
  ps : List EntV
  pc : Nat
def RNd.cells (n : RNd) : List Value := [.int .u8 (n.kind.toNat : Int), .int .i64 (n.links : Int), .int .u16 (n.gen.toNat : Int), .slice n.A n.l.length n.c, .slice n.P n.ps.length n.pc]
def flat5 (L : List RNd) : List Value := L.flatMap RNd.cells
def RNd.zero : RNd := ⟨0, 0, 0, none, [], 0, none, [], 0⟩
theorem flat5_length (L : List RNd) : (flat5 L).length = L.length * 5 := by
  induction L with
  | nil => rfl
  | cons n r ih => unfold flat5 at ih ⊢; rw [List.flatMap_cons, List.length_append, ih, List.length_cons]; simp [RNd.cells]; omega
theorem flat5_get : ∀ {L : List RNd} {k j : Nat} {n : RNd}, L[k]? = some n → j < 5 → (flat5 L)[k * 5 + j]? = n.cells[j]?
  | [], k, j, n, h, _ => by simp at h
  | a :: r, 0, j, n, h, hj => by
    obtain rfl : a = n := by simpa using h
    unfold flat5
    rw [List.flatMap_cons, Nat.zero_mul, Nat.zero_add, List.getElem?_append_left (by simp [RNd.cells]; omega)]
  | a :: r, k + 1, j, n, h, hj => by
    have := flat5_get (L := r) (k := k) (j := j) (n := n) (by simpa using h) hj
    unfold flat5 at this ⊢
    rw [List.flatMap_cons, List.getElem?_append_right (by simp [RNd.cells]; omega), ← this]
    congr 1
    simp [RNd.cells]; omega
/-- a node's bytes and places lie in memory -/
structure RNd.At (w : World) (n : RNd) : Prop where
  b : w.ownsRow 0 5 1 (.slice n.A n.l.length n.c) n.l.length (bvs n.l)
  p : w.ownsRow 0 125 2 (.slice n.P n.ps.length n.pc) n.ps.length (flat2 n.ps)
theorem own_from {w w' : World} {n sz : Nat} {e : TypeId} {v : Value} {xs : List Value} {S : Nat → Prop} (h : w.ownsRow 0 e sz v n xs) (ht : Tch w.heap.size S w w') (hS : ∀ g cur, Blk w g e cur → ¬ S g) : w'.ownsRow 0 e sz v n xs :=
  own_keep h fun g hg => by
    rcases h.2 with ⟨rfl, _⟩ | ⟨g', cap, cur, rfl, _, hh, _⟩
    · cases hg
    · have e : g' = g := by simpa [Value.ownBlock] using hg
      subst e
      exact ht.block g' (Array.getElem?_eq_some_iff.1 hh).1 (hS g' cur hh)
theorem RNd.At.tch {w w' : World} {n : RNd} {S : Nat → Prop} (h : n.At w) (ht : Tch w.heap.size S w w') (h1 : ∀ g cur, Blk w g 5 cur → ¬ S g) (h2 : ∀ g cur, Blk w g 125 cur → ¬ S g) : n.At w' :=
  ⟨own_from h.b ht h1, own_from h.p ht h2⟩
theorem RNd.At.zero (w : World) : RNd.zero.At w := ⟨World.ownsRow_nil _ _ _ _, World.ownsRow_nil _ _ _ _⟩
/-- a group's nodes lie in a row -/
structure Row5 (w : World) (nb : Nat) (L : List RNd) (cN : Nat) : Prop where
  row : w.ownsRow 0 62 5 (.slice (some ⟨nb, 0, none⟩) L.length cN) L.length (flat5 L)
  all : ∀ n ∈ L, n.At w
/-- a group as it is meant -/
structure GrAt (w : World) (mb nb : Nat) (L : List RNd) (cN : Nat) (T : Option Addr) (tn tc blocks : Nat) : Prop where
  m : Blk w mb 47 #[.slice (some ⟨nb, 0, none⟩) L.length cN, .slice T tn tc, .int .i64 (blocks : Int)]
  r : Row5 w nb L cN
section
variable {w w' : World} {mb nb cN tn tc blocks : Nat} {L : List RNd} {T : Option Addr} {S : Nat → Prop}
theorem Row5.tch (h : Row5 w nb L cN) (ht : Tch w.heap.size S w w') (h0 : ∀ g cur, Blk w g 62 cur → ¬ S g) (h1 : ∀ g cur, Blk w g 5 cur → ¬ S g) (h2 : ∀ g cur, Blk w g 125 cur → ¬ S g) : Row5 w' nb L cN :=
  ⟨own_from h.row ht h0, fun n hn => (h.all n hn).tch ht h1 h2⟩
theorem Row5.below (h : Row5 w nb L cN) (hb : Below w.heap.size w w') : Row5 w' nb L cN := h.tch (Tch.of_below (S := fun _ => False) hb) (fun _ _ _ h => h) (fun _ _ _ h => h) (fun _ _ _ h => h)
theorem GrAt.below (h : GrAt w mb nb L cN T tn tc blocks) (hb : Below w.heap.size w w') : GrAt w' mb nb L cN T tn tc blocks := ⟨h.m.below hb h.m.lt, h.r.below hb⟩
/-- a transaction's calls leave it -/
theorem GrAt.own {i : Ids} {s : Sto} (h : GrAt w mb nb L cN T tn tc blocks) (hx : TxAt w i s) (ht : Tch w.heap.size i.own w w') : GrAt w' mb nb L cN T tn tc blocks :=
  ⟨h.m.tch ht h.m.lt (hx.other h.m (by decide) (by decide) (by decide)), h.r.tch ht (fun g cur hB => hx.other hB (by decide) (by decide) (by decide)) (fun g cur hB => hx.other hB (by decide) (by decide) (by decide)) (fun g cur hB => hx.other hB (by decide) (by decide) (by decide))⟩
theorem Row5.blk (h : Row5 w nb L cN) : ∃ cur : Array Value, Blk w nb 62 cur ∧ ∀ (j : Nat) (v : Value), (flat5 L)[j]? = some v → cur[j]? = some v := by
  rcases h.row.2 with ⟨h0, _⟩ | ⟨g, cap, cur, hv, _, hh, _, _, _, htake⟩
  · cases h0
  · simp only [Value.slice.injEq, Option.some.injEq, Addr.mk.injEq] at hv
    obtain ⟨⟨rfl, _⟩, _, rfl⟩ := hv
    refine ⟨cur, hh, fun j v hj => ?_⟩
    have hjl : j < L.length * 5 := by rw [← flat5_length]; exact (List.getElem?_eq_some_iff.1 hj).1
    have h2 : (cur.toList.take (L.length * 5))[j]? = some v := by rw [htake]; exact hj
    rw [List.getElem?_take, if_pos hjl, Array.getElem?_toList] at h2
    exact h2
theorem Row5.cell (h : Row5 w nb L cN) {k j : Nat} {n : RNd} (hk : L[k]? = some n) (hj : j < 5) : w.cell? ⟨nb, k * 5 + j, none⟩ = n.cells[j]? := by
  obtain ⟨cur, hB, hc⟩ := h.blk
  have h1 := flat5_get hk hj
  have h2 : j < n.cells.length := by simp [RNd.cells]; omega
  rw [List.getElem?_eq_getElem h2] at h1 ⊢
  rw [hB.cell]
  exact hc _ _ h1
theorem Row5.lt (h : Row5 w nb L cN) : nb < w.heap.size := by
  obtain ⟨cur, hB, _⟩ := h.blk
  exact hB.lt
theorem Row5.frozen (h : Row5 w nb L cN) (i : Nat) : w.frozen? ⟨nb, i, none⟩ = false := by
  obtain ⟨cur, hB, _⟩ := h.blk
  exact hB.frozen i
theorem Row5.range (h : Row5 w nb L cN) {k : Nat} {n : RNd} (hk : L[k]? = some n) : w.rangeAt nb (k * 5) n.cells := fun j v hj => by
  have h2 : j < 5 := by have := (List.getElem?_eq_some_iff.1 hj).1; simpa [RNd.cells] using this
  rw [h.cell hk h2]; exact hj
theorem Row5.cap (h : Row5 w nb L cN) : L.length ≤ cN := own_le_cap h.row
end
/-- how long a node is -/
def RNd.size (n : RNd) : Nat := if n.kind = 2 then 16 * n.ps.length else n.l.length
end Go.Proofs.YthmkgohfeahdhaaGreat
namespace Go.Proofs.YthmkgohfeahdhaaGreat
open Go.RowKit
set_option linter.unusedSimpArgs false
set_option linter.unusedVariables false

theorem list_seg_take {α : Type} (A vs : List α) (o m : Nat) (h : o + vs.length ≤ m) (hA : m ≤ A.length) : (A.take o ++ vs ++ A.drop (o + vs.length)).take m = (A.take m).take o ++ vs ++ (A.take m).drop (o + vs.length) := by
  apply List.ext_getElem?
  intro j
  have e1 : (A.take o).length = o := by rw [List.length_take]; omega
  have e2 : ((A.take m).take o).length = o := by rw [List.length_take, List.length_take]; omega
  rw [List.getElem?_take]
  rw [List.append_assoc, List.append_assoc]
  by_cases hj : j < m
  · rw [if_pos hj]
    by_cases h1 : j < o
    · rw [List.getElem?_append_left (by omega), List.getElem?_append_left (by omega), List.getElem?_take, List.getElem?_take, List.getElem?_take, if_pos h1, if_pos h1, if_pos hj]
    · rw [List.getElem?_append_right (l₁ := A.take o) (by omega), List.getElem?_append_right (l₁ := (A.take m).take o) (by omega), e1, e2]
      by_cases h2 : j - o < vs.length
      · rw [List.getElem?_append_left h2, List.getElem?_append_left h2]
      · rw [List.getElem?_append_right (by omega), List.getElem?_append_right (by omega), List.getElem?_drop, List.getElem?_drop, List.getElem?_take, if_pos (by omega)]
  · rw [if_neg hj, List.getElem?_eq_none]
    simp only [List.length_append, List.length_take, List.length_drop]
    omega
/-- cells written in an own row -/
theorem own_cells {w : World} {B g n c sz o : Nat} {e : TypeId} {xs vs : List Value} (h : w.ownsRow B e sz (.slice (some ⟨g, 0, none⟩) n c) n xs) (ho : o + vs.length ≤ n * sz) :
    (w.setCells g o vs).ownsRow B e sz (.slice (some ⟨g, 0, none⟩) n c) n (xs.take o ++ vs ++ xs.drop (o + vs.length)) := by
  obtain ⟨hl, h | ⟨g', cap, cur, hv, hg, hh, hn, hcm, hsz, ht⟩⟩ := h
  · cases h.1
  · simp only [Value.slice.injEq, Option.some.injEq, Addr.mk.injEq] at hv
    obtain ⟨⟨rfl, _⟩, _, rfl⟩ := hv
    have hnc : n * sz ≤ c * sz := Nat.mul_le_mul_right _ hn
    have hB : Blk w g e cur := hh
    have h2 := hB.setCells o vs (by omega)
    refine ⟨by simp only [List.length_append, List.length_take, List.length_drop]; omega, .inr ⟨g, c, _, rfl, hg, h2, hn, hcm, ?_, ?_⟩⟩
    · simp only [List.size_toArray, List.length_append, List.length_take, List.length_drop, Array.length_toList]
      omega
    · rw [← ht]
      exact list_seg_take cur.toList vs o (n * sz) ho (by rw [Array.length_toList]; omega)
section
variable {w w' : World} {mb nb cN tn tc blocks : Nat} {L : List RNd} {T : Option Addr}
theorem Row5.there (h : Row5 w nb L cN) {k : Nat} (hk : k < L.length) : w.there nb (k * 5) 5 := by
  obtain ⟨cur, hB, hc⟩ := h.blk
  refine hB.there ?_
  have h1 := flat5_get (List.getElem?_eq_getElem hk) (show 4 < 5 by omega)
  have h2 := hc _ _ h1
  have := (Array.getElem?_eq_some_iff.1 h2).1
  omega
end
end Go.Proofs.YthmkgohfeahdhaaGreat
namespace Go.Proofs.YthmkgohfeahdhaaGreat
open Go.RowKit
set_option linter.unusedSimpArgs false
set_option linter.unusedVariables false

/-- a group's own node -/
def RNd.own (k : UInt8) : RNd := ⟨k, 1, 1, none, [], 0, none, [], 0⟩
/-- a node with other bytes -/
def RNd.with (n : RNd) (A : Option Addr) (l : List UInt8) (c : Nat) : RNd := { n with A := A, l := l, c := c }
section
variable {w w' : World} {mb nb cN tn tc blocks : Nat} {L : List RNd} {T : Option Addr}
end
end Go.Proofs.YthmkgohfeahdhaaGreat
namespace Go.Proofs.YthmkgohfeahdhaaGreat
open Go.RowKit
set_option linter.unusedSimpArgs false
set_option linter.unusedVariables false

theorem build_size (w : World) : (Instr.build 26 #[]).run Tryz.prog w = .ok (.agg (szCells 0 (List.replicate 25 0) none 0 0)) w := by kernel_rfl
/-- a configuration of small numbers: what the laws need of it -/
structure SzFacts (R : List RegV) (n : Nat) : Prop where
  tot : totalOf 32 R = (n : Int)
  ge : 32 ≤ n
  le : n ≤ 65536
  two : 2 ≤ R.length
  five : R.length ≤ 5
  geo : ∀ (k : Nat), k < R.length → ∃ (v : GeoV) (r : RegV), (geosOf 32 R)[k]? = some v ∧ R[k]? = some r ∧ (geoN v).Ok n ∧ (geoN v).val = .agg v.cells.toArray ∧ ((geoN v).blocks : Int) = r.blocks ∧ ((geoN v).nodes : Int) = r.nodes ∧ 4 ≤ (geoN v).blocks ∧ (geoN v).blocks ≤ 512 ∧ 4 ≤ (geoN v).nodes ∧ (geoN v).nodes ≤ 128

end Go.Proofs.YthmkgohfeahdhaaGreat
namespace Go.Proofs.YthmkgohfeahdhaaGreat
open Go.RowKit
set_option linter.unusedSimpArgs false
set_option linter.unusedVariables false

/-- a node that is there from the beginning -/
def freshN (k : UInt8) : NodeV := { NodeV.zero with kind := k, links := 1, gen := 1 }
def GS.freshTo : Nat → GS
  | 0 => GS.none
  | 1 => GS.none.set 1 (freshN 2)
  | 2 => (GS.none.set 1 (freshN 2)).set 2 (freshN 1)
  | _ => ((GS.none.set 1 (freshN 2)).set 2 (freshN 1)).set 3 (freshN 1)
/-- a group with its own nodes -/
def GS.fresh : GS := GS.freshTo 3
theorem GS.freshTo_ok : ∀ q, (GS.freshTo q).Ok
  | 0 => none_ok
  | 1 => none_ok.set 1 rfl rfl
  | 2 => (none_ok.set 1 rfl rfl).set 2 rfl rfl
  | _ + 3 => ((none_ok.set 1 rfl rfl).set 2 rfl rfl).set 3 rfl rfl
theorem GS.fresh_ok : GS.fresh.Ok := GS.freshTo_ok 3
theorem build_fresh (w : World) (k : UInt8) : (Instr.build 130 #[(0, .int .u8 (k.toNat : Int)), (1, .int .u8 1), (2, .int .u16 1)]).run Tryz.prog w = .ok (freshN k).val w := by kernel_rfl

/-- a configuration: what the laws need of it -/
structure CfFacts (R : List RegV) (n : Nat) : Prop where
  tot : totalOf 32 R = (n : Int)
  ge : 32 ≤ n
  le : n ≤ 65536
  geo : ∀ (k : Nat), k < R.length → ∃ (v : GeoV) (r : RegV), (geosOf 32 R)[k]? = some v ∧ R[k]? = some r ∧ (geoN v).Ok n ∧ (geoN v).val = .agg v.cells.toArray ∧ ((geoN v).blocks : Int) = r.blocks ∧ ((geoN v).nodes : Int) = r.nodes ∧ 4 ≤ (geoN v).blocks ∧ (geoN v).blocks ≤ 512 ∧ 4 ≤ (geoN v).nodes ∧ (geoN v).nodes ≤ 128
  apart : ∀ (j k : Nat) (v v' : GeoV), (geosOf 32 R)[j]? = some v → (geosOf 32 R)[k]? = some v' → j < k → (geoN v).data + (geoN v).blocks ≤ (geoN v').base
theorem geos_from {R : List RegV} (hok : ∀ r ∈ R, okReg r) : ∀ (a : Int) (k : Nat) (v : GeoV), (geosOf a R)[k]? = some v → a ≤ v.base := by
  induction R with
  | nil => intro a k v h; simp [geosOf] at h
  | cons r R ih =>
    intro a k v h
    cases k with
    | zero => simp only [geosOf, List.getElem?_cons_zero, Option.some.injEq] at h; subst h; exact Int.le_refl _
    | succ k =>
      simp only [geosOf, List.getElem?_cons_succ] at h
      have h1 := ih (fun x hx => hok x (by simp [hx])) _ k v h
      obtain ⟨_, k1, k2, k3, k4⟩ := hok r (by simp)
      have h2 : a ≤ (geoOf a r).end_ := by simp only [geoOf, GeoV.end_]; omega
      omega
theorem geos_apart {R : List RegV} (hok : ∀ r ∈ R, okReg r) : ∀ (a : Int) (j k : Nat) (v v' : GeoV), 0 ≤ a → (geosOf a R)[j]? = some v → (geosOf a R)[k]? = some v' → j < k → (geoN v).data + (geoN v).blocks ≤ (geoN v').base := by
  induction R with
  | nil => intro a j k v v' _ h; simp [geosOf] at h
  | cons r R ih =>
    intro a j k v v' ha h h' hjk
    obtain ⟨_, k1, k2, k3, k4⟩ := hok r (by simp)
    have h2 : a ≤ (geoOf a r).end_ := by simp only [geoOf, GeoV.end_]; omega
    obtain ⟨k, rfl⟩ : ∃ m, k = m + 1 := ⟨k - 1, by omega⟩
    simp only [geosOf, List.getElem?_cons_succ] at h'
    cases j with
    | zero =>
      simp only [geosOf, List.getElem?_cons_zero, Option.some.injEq] at h
      subst h
      have h3 := geos_from (fun x hx => hok x (by simp [hx])) _ k v' h'
      simp only [geoN, geoOf, GeoV.end_] at h3 ⊢
      omega
    | succ j =>
      simp only [geosOf, List.getElem?_cons_succ] at h
      exact ih (fun x hx => hok x (by simp [hx])) _ j k v v' (by omega) h h' (by omega)
theorem cf_facts {R : List RegV} (hok : ∀ r ∈ R, okReg r) (hl : R.length ≤ 5) : ∃ n, CfFacts R n := by
  have htb := total_bounds hok 32 (by omega)
  have hge := tot_ge hok 32
  refine ⟨(totalOf 32 R).toNat, by omega, by omega, by omega, fun k hk => ?_, fun j k v v' h h' hjk => geos_apart hok 32 j k v v' (by omega) h h' hjk⟩
  have hv : (geosOf 32 R)[k]? = some ((geosOf 32 R)[k]'(by rw [geosOf_length]; exact hk)) := List.getElem?_eq_getElem _
  obtain ⟨h1, h2, r, hr, h3, h4⟩ := geos_ok hok 32 k _ (by omega) (by omega) hv
  obtain ⟨_, b1, b2, b3, b4⟩ := hok r (List.mem_of_getElem? hr)
  exact ⟨_, r, hv, hr, h1, h2, h3, h4, by omega, by omega, by omega, by omega⟩
theorem SzFacts.cf {R : List RegV} {n : Nat} (h : SzFacts R n) (hok : ∀ r ∈ R, okReg r) : CfFacts R n :=
  ⟨h.tot, h.ge, h.le, h.geo, fun j k v v' h h' hjk => geos_apart hok 32 j k v v' (by omega) h h' hjk⟩
/-- the groups of a disk are what is said of each -/
def AllIs (R : List RegV) (D : List BlkV) (F : Nat → GS) : Prop := ∀ (k : Nat) (v : GeoV), (geosOf 32 R)[k]? = some v → Sto.Is ⟨D, [], 0⟩ (geoN v) (F k)
theorem CfFacts.sep {R : List RegV} {n : Nat} (h : CfFacts R n) {j k : Nat} {v v' : GeoV} (hv : (geosOf 32 R)[j]? = some v) (hv' : (geosOf 32 R)[k]? = some v') (hjk : j ≠ k) :
    (geoN v').data + (geoN v').blocks ≤ (geoN v).base ∨ (geoN v).data + (geoN v).blocks ≤ (geoN v').base := by
  rcases Nat.lt_or_gt_of_ne hjk with h1 | h1
  · exact .inr (h.apart j k v v' hv hv' h1)
  · exact .inl (h.apart k j v' v hv' hv h1)
theorem CfFacts.geo_ok {R : List RegV} {n : Nat} (h : CfFacts R n) {k : Nat} {v : GeoV} (hv : (geosOf 32 R)[k]? = some v) : (geoN v).Ok n := by
  have hk : k < R.length := by have := (List.getElem?_eq_some_iff.1 hv).1; rwa [geosOf_length] at this
  obtain ⟨v', r, hv', _, h1, _⟩ := h.geo k hk
  rw [hv] at hv'
  cases hv'
  exact h1
/-- a transaction in one group is written: the others are what they were -/
theorem AllIs.commit {R : List RegV} {n : Nat} {D : List BlkV} {F : Nat → GS} {s : Sto} {j : Nat} {v : GeoV} {G : GS} {L : List Nat} {l : List Nat} (h : AllIs R D F) (hc : CfFacts R n) (hs : s.Ok) (hv : (geosOf 32 R)[j]? = some v)
    (hst : Sto.Step ⟨D, [], 0⟩ s (geoN v) L) (hi : s.Is (geoN v) G) (hp : l.Perm (s.M.map (·.1))) : AllIs R (commitD s l) (upd F j G) := by
  intro k v' hv'
  have hu := hc.geo_ok hv'
  by_cases hjk : k = j
  · subst hjk
    rw [hv] at hv'
    cases hv'
    rw [upd_same]
    exact hi.commit hu hs hp
  · rw [upd_other _ _ hjk]
    exact ((h k v' hv').far hu hst (hc.sep hv hv' (fun e => hjk e.symm))).commit hu hs hp
theorem Tch.txn {B : Nat} {w0 w w' : World} {i : Ids} (h : Tch B (fun x => x = i.dd ∨ x = i.rr) w0 w) (ht : Tch w.heap.size i.own w w') (h1 : w.heap.size ≤ i.tt) (h2 : w.heap.size ≤ i.mm) (hB : B ≤ w.heap.size) : Tch B (fun x => x = i.dd ∨ x = i.rr) w0 w' :=
  h.trans (ht.mono hB fun k hk hs => by
    rcases hs with e | e | e | e
    · omega
    · omega
    · exact .inl e
    · exact .inr e)

def GeoN.zero : GeoN := ⟨0, 0, 0, 0, 0, 0⟩
theorem zero_geo (w : World) : (zeroValue 169).run Tryz.prog w = .ok (.agg GeoN.zero.cells.toArray) w := by kernel_rfl
/-- the kinds of a group's own nodes -/
def freshK (q : Nat) : UInt8 := if q = 0 then 2 else 1
theorem freshTo_succ : ∀ q, q < 3 → GS.freshTo (q + 1) = (GS.freshTo q).set (q + 1) (freshN (freshK q)) ∧ checkN (freshN (freshK q)) = true
  | 0, _ => ⟨rfl, rfl⟩
  | 1, _ => ⟨rfl, rfl⟩
  | 2, _ => ⟨rfl, rfl⟩
section
variable {B : Nat} {w w' : World} {c : Nat} {R : List RegV} {K : List MarkV} {tb nb lb : Nat} {A1 A2 A3 : Option Addr} {c1 c2 c3 : Nat}
set_option maxRecDepth 100000 in
set_option maxHeartbeats 3200000 in
theorem fresh_all {n : Nat} (hin : ConfIn B w c R K tb nb lb A1 A2 A3 c1 c2 c3) (hF : CfFacts R n) (hR5 : R.length ≤ 5) :
    Calls Tryz.prog 16 #[.pointer (some ⟨c, 0, none⟩)] w fun e w' => ∃ (i : Ids) (D : List BlkV), e = .returned (.tuple #[.pointer (some ⟨i.dd, 0, none⟩), .pointer (some ⟨i.ll, 0, none⟩), .pointer (some ⟨i.tt, 0, none⟩)]) ∧ TxAt w' i ⟨D, [], 0⟩ ∧ D.length = n ∧ AllIs R D (fun _ => GS.fresh) ∧ (∀ k, i.own k → w.heap.size ≤ k) ∧ w.heap.size ≤ i.ll ∧ Below w.heap.size w w' := by
  have hbeg := begun_ok (w := w) hin hF.tot hF.ge hF.le
  have HIN := hide hin
  have HF := hide hF
  clear hin hF
  go_enter Tryz.func16, Tryz.ntmps16
  go_wp2_with fail
  refine hbeg.mono ?_
  rintro e w1 ⟨i, rfl, hx, hown, hll, hb1⟩
  have HIN1 := hide (HIN.out.below hb1)
  have HL1 := hide hx.log
  have HB1 := hide hb1
  have HOWN := hide (And.intro hown hll)
  clear hx hown hll hb1 hbeg
  go_wp2_with fail
  refine (len_ok HIN1.out).mono ?_
  rintro e w_ ⟨rfl, hw_⟩
  have hw_ := hw_.symm
  subst hw_
  go_wp2_with fail
  go_loopg [22] R.length (fun gh x22 wr => ∃ (j : Nat) (Dk : List BlkV), j ≤ R.length ∧ gh = R.length - j ∧ x22 = .int .i64 (j : Int) ∧ Hid (Tch w1.heap.size (fun x => x = i.dd ∨ x = i.rr) w1 wr) ∧ Hid (LogAt wr i.ll i.dd i.rr Dk) ∧ Hid (Dk.length = n ∧ AllIs R Dk (fun k => if k < j then GS.fresh else GS.none)))
  case atStart =>
    exact ⟨0, begD n, Nat.zero_le _, rfl, rfl, hide (Tch.refl _ _ _), HL1, hide ⟨begD_length _, fun k v hv => begun_is (HF.out.geo_ok hv)⟩⟩
  case round =>
    obtain ⟨j, Dk, hj, hgh, rfl, HT, HL, HI⟩ := hrel
    have HGH := hide hgh
    clear hgh
    have HD32 := hide (show 32 ≤ Dk.length from by rw [HI.out.1]; exact HF.out.ge)
    have HBr : Hid (Below w.heap.size w wr) := hide (HB1.out.trans ((HT.out.mono HB1.out.size (S' := fun _ => False) (fun k hk h => by
      rcases h with h | h
      · have := HOWN.out.1 k (.inr (.inr (.inl h))); omega
      · have := HOWN.out.1 k (.inr (.inr (.inr h))); omega)).below fun _ _ h => h))
    rcases Nat.lt_or_ge j R.length with hjl | hjl
    · have hjz : (j : Int) < (R.length : Int) := by omega
      obtain ⟨v, r, hv, hr, hgo, hval, -, -, g4, g512, n4, n128⟩ := HF.out.geo j hjl
      go_wp2_with fail
      refine (begin_ok HL.out HD32.out).mono ?_
      rintro e w7 ⟨tt, mm, rfl, htt, hmm, hx7, hb7⟩
      obtain ⟨ii, hii⟩ : ∃ ii : Ids, Ids.mk tt mm i.ll i.dd i.rr = ii := ⟨_, rfl⟩
      have htt' : tt = ii.tt := by rw [← hii]
      rw [hii] at hx7
      subst htt'
      have hgeo := geo_ok (HIN.out.below (HBr.out.trans (hb7.mono HBr.out.size))) hv
      obtain ⟨u, hu⟩ : ∃ u, geoN v = u := ⟨_, rfl⟩
      have hval2 : (Value.agg #[.int .i64 v.base, .int .i64 v.bitmap, .int .i64 v.table, .int .i64 v.data, .int .i64 v.blocks, .int .i64 v.nodes]) = .agg u.cells.toArray := by rw [← hu]; exact hval.symm
      rw [hval2] at hgeo
      rw [hu] at hgo n4
      have HX7 := hide hx7
      have HB7 := hide hb7
      have HII := hide (And.intro hii (And.intro htt hmm))
      have HGE := hide hgeo
      have HV := hide (And.intro hv hu)
      have HGO := hide (And.intro hgo n4)
      clear hii htt hmm hx7 hb7 hgeo hu hval2 hval hv hr hgo g4 g512 n4 n128
      go_wp2_with fail
      refine HGE.out.mono ?_
      rintro e w8 ⟨rfl, hb8⟩
      have HX8 := hide (HX7.out.below hb8)
      have HB8 := hide (HB7.out.trans (hb8.mono HB7.out.size))
      clear hb8 HX7 HB7 HGE
      go_upto_region 7 with (first | ((with_reducible refine at_alloc 169 ?_); refine wpList_alloc_as rfl 169 rfl _ (zero_geo _) ?_) | ((with_reducible refine at_store 169 (.tmp 10) (.tmp 31) ?_); refine wpList_store_blk rfl 169 (.tmp 10) (.tmp 31) rfl w8.heap.size _ _ _ (by rfl) (by rfl) (Blk.new _ _ _) (size_geo u) rfl (geo_one u) (fun _ => ?_)) | fail)
      refine at_world (fun W => ∃ p, p = w8.heap.size ∧ Below w8.heap.size w8 W ∧ Blk W p 169 u.cells.toArray) ⟨_, rfl, below_setRow ((Below.refl _ _).alloc (Nat.le_refl _) _) (Nat.le_refl _) _, (Blk.new _ _ _).setRow_same _⟩ (fun w9 h9 => ?_)
      obtain ⟨p, hp, hb9, hP⟩ := h9
      rw [← hp]
      have HX9 := hide (HX8.out.below hb9)
      have HB9 := hide (HB8.out.trans (hb9.mono HB8.out.size))
      have HP9 := hide hP
      clear hp hb9 hP HX8 HB8
      go_wp2_with fail
      refine at_world (fun W => ∃ kb, kb = w9.heap.size ∧ kb < W.heap.size ∧ Below w9.heap.size w9 W ∧ ∀ q, q < 3 → W.cell? ⟨kb, q, none⟩ = some (.int .u8 ((freshK q).toNat : Int))) ⟨_, rfl, by simp, (Below.refl _ _).alloc (Nat.le_refl _) _, fun q hq => by
        obtain rfl | rfl | rfl : q = 0 ∨ q = 1 ∨ q = 2 := by omega
        · exact (Blk.new w9 _ _).cell 0
        · exact (Blk.new w9 _ _).cell 1
        · exact (Blk.new w9 _ _).cell 2⟩ (fun w10 h10 => ?_)
      obtain ⟨kb, hkb, kbl, hb10, hK10⟩ := h10
      rw [← hkb]
      have HX10 := hide (HX9.out.below hb10)
      have HB10 := hide (HB9.out.trans (hb10.mono HB9.out.size))
      have HP10 := hide (HP9.out.below hb10 HP9.out.lt)
      have HK10 := hide hK10
      have HKO := hide (show ¬ ii.own kb from fun hk => HX9.out.other_new (Nat.le_of_eq hkb.symm) hk)
      have HPO := hide (show ¬ ii.own p from HX10.out.other HP10.out (by decide) (by decide) (by decide))
      clear hkb hb10 hK10 HX9 HB9 HP9
      go_loopg [35] 3 (fun gh x35 wq => ∃ (q : Nat) (s : Sto) (L : List Nat), q ≤ 3 ∧ gh = 3 - q ∧ x35 = .int .i64 (q : Int) ∧ Hid (TxAt wq ii s) ∧ Hid (Tch w10.heap.size ii.own w10 wq) ∧ Hid (Sto.Step ⟨Dk, [], 0⟩ s u L ∧ s.Is u (GS.freshTo q) ∧ s.M.length ≤ q))
      case atStart =>
        refine ⟨0, _, [], by omega, rfl, rfl, HX10, hide (Tch.refl _ _ _), hide ⟨Sto.Step.refl _ _ _, ?_, Nat.le_refl _⟩⟩
        have := HI.out.2 j v HV.out.1
        rw [HV.out.2] at this
        have e : (if j < j then GS.fresh else GS.none) = GS.freshTo 0 := if_neg (by omega)
        simp only [e] at this
        exact this
      case round =>
        obtain ⟨q, s, L, hq, hgq, rfl, HXq, HTq, HSq⟩ := hrel
        have HGQ := hide hgq
        clear hgq
        have kbl' : kb < _ := Nat.lt_of_lt_of_le kbl HTq.out.size
        rcases Nat.lt_or_ge q 3 with hq3 | hq3
        · have hqz : (q : Int) < 3 := by omega
          have y := (World.cell?_of_block (w := w10) (a := ⟨kb, q, none⟩) (HTq.out.block kb kbl HKO.out)).trans (HK10.out q hq3)
          have HPq := hide (HP10.out.tch HTq.out HP10.out.lt HPO.out)
          have hD : s.D.length = n := by rw [HSq.out.1.D]; exact HI.out.1
          have hug : u.Ok s.D.length := by rw [hD]; exact HGO.out.1
          have hn4 := HGO.out.2
          obtain ⟨hfs, hck⟩ := freshTo_succ q hq3
          have hwr := write_node (num := q + 1) (n := freshN (freshK q)) HXq.out hug (by omega) (by omega) rfl hck (node_can hug (by have := HSq.out.2.2; omega) (by omega) (by omega))
          have hst := is_set (v := freshN (freshK q)) HXq.out.ok hug (by omega) (by omega) rfl HSq.out.2.1 (num := q + 1)
          have hbf := fun W => build_fresh W (freshK q)
          rw [← hfs] at hst
          rw [show ((q + 1 : Nat) : Int) = (q : Int) + 1 from by omega] at hwr
          have hml : (s.setNode u (q + 1) (freshN (freshK q))).M.length ≤ q + 1 := by
            unfold Sto.setNode
            have := Sto.put_len s (u.base + u.bitmap + (q + 1 - 1) / 2) (wrB (s.at_ (u.base + u.bitmap + (q + 1 - 1) / 2)) ((q + 1 - 1) % 2 * 32) (encN (freshN (freshK q))))
            have := HSq.out.2.2
            omega
          have HST := hide (And.intro (HSq.out.1.trans hst.2) (And.intro hst.1 hml))
          have e1 : IntKind.i64.wrap ((q : Int) + 1) = (q : Int) + 1 := IntWalk.i64_in _ (by omega)
          generalize s.setNode u (q + 1) (freshN (freshK q)) = s2 at hwr HST
          generalize freshK q = kk at y hwr hbf
          have HWR := hide hwr
          have HBF := hide hbf
          clear hfs hck hwr hst hbf hml hD hug hn4 HSq
          go_wp2_with (first | ((with_reducible refine at_load 169 (.tmp 10) ?_); refine wpList_load_blk rfl 169 (.tmp 10) rfl p _ _ _ (by rfl) HPq.out Tryz.underlying169 rfl (size_geo u) ?_) | ((with_reducible refine at_build 130 #[(0, .tmp 44), (1, .const (.int .u8 1)), (2, .const (.int .u16 1))] ?_); refine wpList_run rfl _ (exec_build 130 #[(0, .tmp 44), (1, .const (.int .u8 1)), (2, .const (.int .u16 1))] rfl #[(0, .int .u8 (kk.toNat : Int)), (1, .int .u8 1), (2, .int .u16 1)] (by simp only [List.map_toArray, List.map_cons, List.map_nil]; rfl) _ (HBF.out _)) ?_) | fail)
          refine HWR.out.mono ?_
          rintro e w11 ⟨rfl, hx11, ht11⟩
          have HX11 := hide hx11
          have HT11 := hide (HTq.out.trans (ht11.mono HTq.out.size fun _ _ h => h))
          clear hx11 ht11 HWR y kbl' HPq
          go_wp2
          go_roundg (3 - (q + 1))
          case rel => exact ⟨q + 1, s2, _, by omega, rfl, by first | rfl | go_num, HX11, HT11, HST⟩
          case measure => have := HGQ.out; omega
        · have hqe : q = 3 := by omega
          subst hqe
          clear kbl'
          have hcom := commit_ok HXq.out HSq.out.1.bad
          have HCOM := hide hcom
          clear hcom
          go_wp2_with fail
          refine HCOM.out.mono ?_
          rintro e w12 ⟨l, rfl, hp, hx12, ht12⟩
          have hDl : (commitD s l).length = n := by rw [commit_len, HSq.out.1.D]; exact HI.out.1
          have hall := AllIs.commit HI.out.2 HF.out HXq.out.ok HV.out.1 (by rw [HV.out.2]; exact HSq.out.1) (by rw [HV.out.2]; exact HSq.out.2.1) hp
          have hall2 : AllIs R (commitD s l) (fun k => if k < j + 1 then GS.fresh else GS.none) := fun k v hv => by
            have := hall k v hv
            have e : upd (fun k => if k < j then GS.fresh else GS.none) j (GS.freshTo 3) k = if k < j + 1 then GS.fresh else GS.none := by
              unfold upd
              by_cases h1 : k = j
              · rw [if_pos h1, if_pos (by omega)]; rfl
              · rw [if_neg h1]
                by_cases h2 : k < j
                · simp only [if_pos h2, if_pos (show k < j + 1 by omega)]
                · simp only [if_neg h2, if_neg (show ¬ k < j + 1 by omega)]
            rwa [e] at this
          have e := HII.out.1
          have HL12 : Hid (LogAt w12 i.ll i.dd i.rr (commitD s l)) := hide (by
            have h := hx12.log
            rw [← congrArg Ids.ll e, ← congrArg Ids.dd e, ← congrArg Ids.rr e] at h
            exact h)
          have hT := (Tch.of_below (S := ii.own) HB10.out).trans ((HTq.out.trans (ht12.mono HTq.out.size fun _ _ h => h)).mono HB10.out.size fun _ _ h => h)
          have HT12 : Hid (Tch w1.heap.size (fun x => x = i.dd ∨ x = i.rr) w1 w12) := hide (HT.out.trans (hT.mono HT.out.size (fun k hk h => by
            have h1 := HII.out.2.1
            have h2 := HII.out.2.2
            have h3 := HT.out.size
            rcases h with h | h | h | h
            · omega
            · rw [← e] at h; simp only at h; omega
            · rw [← e] at h; exact .inl h
            · rw [← e] at h; exact .inr h)))
          have HI12 := hide (And.intro hDl hall2)
          clear hp hx12 ht12 hDl hall hall2 e hT HCOM HSq
          go_wp2
          go_roundg (R.length - (j + 1))
          case rel => exact ⟨j + 1, _, by omega, rfl, by first | rfl | go_num, HT12, HL12, HI12⟩
          case measure => have := HGH.out; omega
    · have hje : decide ((j : Int) < R.length) = false := by simp; omega
      have hjR : R.length = j := by omega
      go_wp2_with fail
      refine (begin_ok HL.out HD32.out).mono ?_
      rintro e w7 ⟨tt, mm, rfl, htt, hmm, hx7, hb7⟩
      have HF7 := hide (And.intro hx7 (And.intro (HBr.out.trans (hb7.mono HBr.out.size)) (show (∀ k, Ids.own ⟨tt, mm, i.ll, i.dd, i.rr⟩ k → w.heap.size ≤ k) from by
        have := HBr.out.size
        have h1 := HOWN.out.1 i.dd (.inr (.inr (.inl rfl)))
        have h2 := HOWN.out.1 i.rr (.inr (.inr (.inr rfl)))
        rintro k (e | e | e | e) <;> simp only at e <;> omega)))
      have HJ := hide hjR
      clear htt hmm hx7 hb7 hjR
      go_wp2
      go_returns
      refine ⟨⟨tt, mm, i.ll, i.dd, i.rr⟩, Dk, rfl, HF7.out.1, HI.out.1, fun k v hv => ?_, HF7.out.2.2, HOWN.out.2, HF7.out.2.1⟩
      have hk : k < R.length := by have := (List.getElem?_eq_some_iff.1 hv).1; rwa [geosOf_length] at this
      have := HI.out.2 k v hv
      have e : (if k < j then GS.fresh else GS.none) = GS.fresh := if_pos (by have := HJ.out; omega)
      simp only [e] at this
      exact this
end
end Go.Proofs.YthmkgohfeahdhaaGreat
namespace Go.Proofs.YthmkgohfeahdhaaGreat
open Go.RowKit
set_option linter.unusedSimpArgs false
set_option linter.unusedVariables false

theorem build_five (w : World) (a : Int) : (Instr.build 22 #[(0, .int .u8 a)]).run Tryz.prog w = .ok (.agg #[.int .u8 a, .int .u8 0, .int .u8 0, .int .u8 0, .int .u8 0]) w := by kernel_rfl
theorem build_fives (w : World) (a b : Int) : (Instr.build 23 #[(0, .agg #[.int .u8 a, .int .u8 0, .int .u8 0, .int .u8 0, .int .u8 0]), (1, .agg #[.int .u8 b, .int .u8 0, .int .u8 0, .int .u8 0, .int .u8 0])]).run Tryz.prog w = .ok (.agg #[.int .u8 a, .int .u8 0, .int .u8 0, .int .u8 0, .int .u8 0, .int .u8 b, .int .u8 0, .int .u8 0, .int .u8 0, .int .u8 0, .int .u8 0, .int .u8 0, .int .u8 0, .int .u8 0, .int .u8 0, .int .u8 0, .int .u8 0, .int .u8 0, .int .u8 0, .int .u8 0, .int .u8 0, .int .u8 0, .int .u8 0, .int .u8 0, .int .u8 0]) w := by kernel_rfl
/-- an empty file -/
theorem file_empty {G : GS} {m : Nat} {n : NodeV} (κ : Nat → Nat) (f : Nat → UInt8) (hd : n.dir.length = 6) (h0 : ∀ c, n.slot c = 0) : FileAt G m n 0 κ 0 f := by
  have hp : ∀ c, prOf 0 c = false := fun c => by unfold prOf; rw [decide_eq_false_iff_not]; omega
  refine ⟨⟨hd, fun c h => ?_, fun c p j h _ => ?_, fun c _ _ => ?_, fun c p j _ _ h => ?_, fun c h => ?_, fun c c' h _ _ => ?_⟩, by omega, by omega, fun j hj => by omega⟩
  · rw [hp] at h; cases h
  · rw [hp] at h; cases h
  · rw [hp, h0]; rfl
  · rw [hp] at h; cases h
  · rw [hp] at h; cases h
  · rw [hp] at h; cases h
theorem fresh_slot (k : UInt8) (c : Nat) : (freshN k).slot c = 0 := by
  unfold NodeV.slot freshN NodeV.zero
  split
  · rename_i h
    obtain rfl | rfl | rfl | rfl | rfl | rfl : c = 0 ∨ c = 1 ∨ c = 2 ∨ c = 3 ∨ c = 4 ∨ c = 5 := by omega
    all_goals rfl
  · split <;> rfl
theorem fresh_cnt (m : Nat) : GS.fresh.cnt m = 0 := by
  unfold GS.cnt
  have : (List.range m).filter GS.fresh.tk = [] := by
    rw [List.filter_eq_nil_iff]
    intro x _
    simp [GS.fresh, GS.freshTo, GS.set, GS.none]
  rw [this]
  rfl
theorem Rd.of_bytes {w : World} {p n : Nat} {t : TypeId} {l : List UInt8} (h : Blk w p t (bvs l).toArray) (hn : l.length = n) : Rd w w.heap.size 1 (some ⟨p, 0, none⟩) n (bvs l) :=
  ⟨by rw [bvs_length, hn, Nat.mul_one], fun _ => ⟨p, 0, rfl, h.lt, fun j u hu => by
    have := h.cell j
    rw [List.getElem?_toArray, hu] at this
    rw [Nat.zero_add]; exact this⟩⟩
end Go.Proofs.YthmkgohfeahdhaaGreat
namespace Go.Proofs.YthmkgohfeahdhaaGreat
open Go.RowKit
set_option linter.unusedSimpArgs false
set_option linter.unusedVariables false

/-- a record, as it lies -/
structure RecV where
  s : Nat
  f : Nat
  t : Nat
  A : Option Addr
  l : List UInt8
  c : Nat
structure RecV.Ok (r : RecV) : Prop where
  s : r.s < 4294967296
  f : r.f < 256
  t : r.t < 256
def RecV.cells (r : RecV) : List Value := [.int .u32 (r.s : Int), .int .u8 (r.f : Int), .int .u8 (r.t : Int), .slice r.A r.l.length r.c]
def RecV.enc (r : RecV) : List UInt8 := encB r.s r.f r.t r.l
theorem FileAt.congr {G : GS} {m c len : Nat} {n : NodeV} {κ : Nat → Nat} {f f' : Nat → UInt8} (h : FileAt G m n c κ len f) (hf : ∀ j, j < len → f j = f' j) : FileAt G m n c κ len f' :=
  ⟨h.tree, h.cle, h.fit, fun j hj => (h.byte j hj).trans (hf j hj)⟩
theorem over_end {l d : List UInt8} {j : Nat} (hj : j < l.length + d.length) : over (fun j => l.getD j 0) l.length d d.length j = (l ++ d).getD j 0 := by
  unfold over
  by_cases h : l.length ≤ j
  · rw [if_pos ⟨h, hj⟩, List.getD_eq_getElem?_getD, List.getD_eq_getElem?_getD, List.getElem?_append_right h]
  · rw [if_neg (by omega)]
    show l.getD j 0 = _
    rw [List.getD_eq_getElem?_getD, List.getD_eq_getElem?_getD, List.getElem?_append_left (by omega)]
section
variable {w w' : World} {i : Ids} {s : Sto} {gg : Nat} {g : GeoN} {lab : Int} {G : GS}
end
end Go.Proofs.YthmkgohfeahdhaaGreat
namespace Go.Proofs.YthmkgohfeahdhaaGreat
open Go.RowKit
set_option linter.unusedSimpArgs false
set_option linter.unusedVariables false

/-- an address lies in a row of bytes -/
def BT (w : World) (A : Option Addr) : Prop := ∀ b, A = some b → ∃ cur, Blk w b.block 5 cur
theorem BT.of_own {w : World} {B n c sz : Nat} {A : Option Addr} {xs : List Value} (h : w.ownsRow B 5 sz (.slice A n c) n xs) : BT w A := fun b hb => by
  subst hb
  rcases h.2 with ⟨h0, _⟩ | ⟨g, cap, cur, hv, _, hh, _⟩
  · cases h0
  · simp only [Value.slice.injEq, Option.some.injEq] at hv
    obtain ⟨rfl, _⟩ := hv
    exact ⟨cur, hh⟩
theorem BT.tch {w w' : World} {A : Option Addr} {S : Nat → Prop} (h : BT w A) (ht : Tch w.heap.size S w w') (hS : ∀ g cur, Blk w g 5 cur → ¬ S g) : BT w' A := fun b hb => by
  obtain ⟨cur, hB⟩ := h b hb
  exact ⟨cur, hB.tch ht hB.lt (hS _ _ hB)⟩
theorem BT.below {w w' : World} {A : Option Addr} (h : BT w A) (hb : Below w.heap.size w w') : BT w' A := h.tch (Tch.of_below (S := fun _ => False) hb) (fun _ _ _ h => h)
theorem BT.slA {w : World} {A : Option Addr} {c l : Nat} (h : BT w A) : BT w (slA A c l) := fun b hb => by
  unfold Go.Proofs.YthmkgohfeahdhaaGreat.slA at hb
  split at hb
  · exact h b hb
  · cases A with
    | none => cases hb
    | some a =>
      simp only [Option.map_some, Option.some.injEq] at hb
      obtain ⟨cur, hB⟩ := h a rfl
      have : b.block = a.block := by rw [← hb]; unfold Addr.add; split <;> rfl
      rw [this]
      exact ⟨cur, hB⟩
theorem Rd.keepT {w w' : World} {B n : Nat} {A : Option Addr} {xs : List Value} {S : Nat → Prop} (h : Rd w B 1 A n xs) (hA : BT w A) (ht : Tch w.heap.size S w w') (hS : ∀ g cur, Blk w g 5 cur → ¬ S g) : Rd w' w'.heap.size 1 A n xs :=
  ⟨h.1, fun hn => by
    obtain ⟨b, o, e, hb, hc⟩ := h.2 hn
    obtain ⟨cur, hB⟩ := hA _ e
    refine ⟨b, o, e, Nat.lt_of_lt_of_le hB.lt ht.size, fun j u hu => ?_⟩
    exact (World.cell?_of_block (w := w) (a := ⟨b, o + j, none⟩) (ht.block b hB.lt (hS _ _ hB))).trans (hc j u hu)⟩
section
variable {w w' : World} {i : Ids} {s : Sto} {gg : Nat} {g : GeoN} {lab : Int} {G : GS}
end
end Go.Proofs.YthmkgohfeahdhaaGreat
namespace Go.Proofs.YthmkgohfeahdhaaGreat
open Go.RowKit Go.ChangeShapes Go.WideShapes Go.ChangeAt Go.Joins Go.Deep
set_option linter.unusedSimpArgs false
set_option linter.unusedVariables false

section
variable {H : Type} {enc : TypeId × Value → H} {P : Program} {w : World} {base : Nat} {held : Bool} {fuel : Nat} {t e : TypeId} {v : Value} {y : DataW H × List MemPlace}

theorem awf_u8 {n : Int} (h : (Lit.int .u8 n).wf = true) : ∃ k : Nat, n = k ∧ k < 256 := by
  have h : IntKind.u8.min ≤ n ∧ n ≤ IntKind.u8.max := by simpa [Lit.wf] using h
  have h1 : IntKind.u8.min = 0 := by decide
  have h2 : IntKind.u8.max = 255 := by decide
  exact ⟨n.toNat, by omega, by omega⟩
theorem awf_u16 {n : Int} (h : (Lit.int .u16 n).wf = true) : ∃ k : Nat, n = k ∧ k < 65536 := by
  have h : IntKind.u16.min ≤ n ∧ n ≤ IntKind.u16.max := by simpa [Lit.wf] using h
  have h1 : IntKind.u16.min = 0 := by decide
  have h2 : IntKind.u16.max = 65535 := by decide
  exact ⟨n.toNat, by omega, by omega⟩
theorem awf_i64 {n : Int} (h : (Lit.int .i64 n).wf = true) : -9223372036854775808 ≤ n ∧ n < 9223372036854775808 := by
  have h : IntKind.i64.min ≤ n ∧ n ≤ IntKind.i64.max := by simpa [Lit.wf] using h
  have h1 : IntKind.i64.min = -9223372036854775808 := by decide
  have h2 : IntKind.i64.max = 9223372036854775807 := by decide
  omega

theorem open_u8_cell (ht : P.underlying t = some (.int .u8)) (h : DataW.trod enc P w base (fun _ => true) held fuel t [v] = some y) : ∃ k : Nat, v = .int .u8 k ∧ k < 256 := by
  obtain ⟨n, h1, _, hw⟩ := DataW.trod_int ht h
  obtain ⟨k, rfl, hk⟩ := awf_u8 hw
  exact ⟨k, by simpa using h1, hk⟩
theorem open_u16_cell (ht : P.underlying t = some (.int .u16)) (h : DataW.trod enc P w base (fun _ => true) held fuel t [v] = some y) : ∃ k : Nat, v = .int .u16 k ∧ k < 65536 := by
  obtain ⟨n, h1, _, hw⟩ := DataW.trod_int ht h
  obtain ⟨k, rfl, hk⟩ := awf_u16 hw
  exact ⟨k, by simpa using h1, hk⟩


variable {r : Reach} {b0 : Nat} {d : DataW H} {ps : List MemPlace}
theorem open_i64 (ht : P.underlying t = some (.int .i64)) (hval : Value.okWide P w r b0 t v) (h : DataW.Trod enc P w base (fun _ => true) held t v d ps) : ∃ k : Int, v = .int .i64 k ∧ -9223372036854775808 ≤ k ∧ k < 9223372036854775808 := by
  obtain ⟨n, rfl, _, _, hw⟩ := open_int ht hval h
  exact ⟨n, rfl, awf_i64 hw⟩
end

end Go.Proofs.YthmkgohfeahdhaaGreat
namespace Go.Proofs.YthmkgohfeahdhaaGreat
open Go.RowKit Go.ChangeShapes Go.WideShapes Go.ChangeAt Go.Joins Go.Deep
set_option linter.unusedSimpArgs false
set_option linter.unusedVariables false

section
variable {H : Type} {enc : TypeId × Value → H} {P : Program} {w : World} {base : Nat} {held : Bool} {fuel : Nat} {t e eb : TypeId} {v : Value} {r : Reach} {b0 : Nat} {d : DataW H} {ps : List MemPlace}
theorem some_of_get {α : Type} {xs : List α} {n i : Nat} (h : xs.length = n) (hi : i < n) : ∃ y, xs[i]? = some y := ⟨xs[i]'(by omega), List.getElem?_eq_getElem _⟩
end
end Go.Proofs.YthmkgohfeahdhaaGreat
namespace Go.Proofs.YthmkgohfeahdhaaGreat
open Go.RowKit Go.ChangeShapes Go.WideShapes Go.ChangeAt Go.Joins Go.Deep
set_option linter.unusedSimpArgs false
set_option linter.unusedVariables false

/-- an act on a directory -/
structure DAct where
  kind : Nat
  name : Nat
  num : Nat
  text : ByteArray
  raw : Bool
structure DAct.Ok (a : DAct) : Prop where
  k : a.kind < 256
  n : a.name < 256
  m : a.num < 65536
def DAct.cells (a : DAct) : List Value := [.int .u8 (a.kind : Int), .int .u8 (a.name : Int), .int .u16 (a.num : Int), .string a.text, .bool a.raw]
section
variable {H : Type} {enc : TypeId × Value → H} {P : Program} {w : World} {base : Nat} {held : Bool} {fuel : Nat} {t e eb : TypeId} {v : Value} {r : Reach} {b0 : Nat} {d : DataW H} {ps : List MemPlace}
abbrev DActIn := {a : DAct // a.Ok}
instance : Inhabited DActIn := ⟨⟨⟨0, 0, 0, ⟨#[]⟩, false⟩, ⟨by decide, by decide, by decide⟩⟩⟩
theorem open_dact_cells {g0 g1 g2 g3 g4 : Field} (he : P.underlying e = some (.struct #[g0, g1, g2, g3, g4])) (hone : oneCellFields P #[g0, g1, g2, g3, g4] = true)
    (u0 : P.underlying g0.type = some (.int .u8)) (u1 : P.underlying g1.type = some (.int .u8)) (u2 : P.underlying g2.type = some (.int .u16)) (u3 : P.underlying g3.type = some .string) (u4 : P.underlying g4.type = some .bool)
    (m : Nat) (cs : List Value) (x : DataW H × List MemPlace) (hl : cs.length = 5) (h2 : DataW.trod enc P w base (fun _ => true) held m e cs = some x) : ∃ a : DActIn, a.1.cells = cs := by
  obtain ⟨xs', n', _, _, _, hxl', hfd'⟩ := DataW.trod_struct he h2
  match cs, hl with
  | [v0, v1, v2, v3, v4], _ =>
    obtain ⟨p0, w0⟩ := some_of_get (i := 0) hxl' (by simp)
    obtain ⟨p1, w1⟩ := some_of_get (i := 1) hxl' (by simp)
    obtain ⟨p2, w2⟩ := some_of_get (i := 2) hxl' (by simp)
    obtain ⟨p3, w3⟩ := some_of_get (i := 3) hxl' (by simp)
    obtain ⟨p4, w4⟩ := some_of_get (i := 4) hxl' (by simp)
    have r0 := (hfd' 0 g0 rfl).trans w0
    have r1 := (hfd' 1 g1 rfl).trans w1
    have r2 := (hfd' 2 g2 rfl).trans w2
    have r3 := (hfd' 3 g3 rfl).trans w3
    have r4 := (hfd' 4 g4 rfl).trans w4
    obtain ⟨a0, b0⟩ := hone_of hone 0 g0 rfl
    obtain ⟨a1, b1⟩ := hone_of hone 1 g1 rfl
    obtain ⟨a2, b2⟩ := hone_of hone 2 g2 rfl
    obtain ⟨a3, b3⟩ := hone_of hone 3 g3 rfl
    obtain ⟨a4, b4⟩ := hone_of hone 4 g4 rfl
    rw [a0, b0] at r0
    rw [a1, b1] at r1
    rw [a2, b2] at r2
    rw [a3, b3] at r3
    rw [a4, b4] at r4
    obtain ⟨k, rfl, hk⟩ := open_u8_cell (enc := enc) (held := held) u0 r0
    obtain ⟨n, rfl, hn⟩ := open_u8_cell (enc := enc) (held := held) u1 r1
    obtain ⟨mm, rfl, hm⟩ := open_u16_cell (enc := enc) (held := held) u2 r2
    obtain ⟨s, hs, _⟩ := DataW.trod_string u3 r3
    obtain rfl : v3 = .string s := by simpa using hs
    obtain ⟨B, hB, _⟩ := DataW.trod_bool u4 r4
    obtain rfl : v4 = .bool B := by simpa using hB
    exact ⟨⟨⟨k, n, mm, s, B⟩, ⟨hk, hn, hm⟩⟩, rfl⟩
theorem open_dact {g0 g1 g2 g3 g4 : Field} (hC : P.cellsOf e = 5) (he : P.underlying e = some (.struct #[g0, g1, g2, g3, g4])) (hone : oneCellFields P #[g0, g1, g2, g3, g4] = true)
    (u0 : P.underlying g0.type = some (.int .u8)) (u1 : P.underlying g1.type = some (.int .u8)) (u2 : P.underlying g2.type = some (.int .u16)) (u3 : P.underlying g3.type = some .string) (u4 : P.underlying g4.type = some .bool)
    (hval : Value.okWide P w r b0 e v) (h : DataW.Trod enc P w base (fun _ => true) held e v d ps) : ∃ a : DAct, v = .agg a.cells.toArray ∧ a.Ok := by
  obtain ⟨cs, rfl, hsz⟩ := okWide_struct he hval
  obtain ⟨fuel, hf⟩ := h
  obtain ⟨a, ha⟩ := open_dact_cells he hone u0 u1 u2 u3 u4 fuel cs.toList _ (by rw [Array.length_toList, hsz, hC]) (by simpa [Value.cells] using hf)
  refine ⟨a.1, ?_, a.2⟩
  rw [ha]
end
end Go.Proofs.YthmkgohfeahdhaaGreat
namespace Go.Proofs.YthmkgohfeahdhaaGreat

abbrev BL := List UInt8

/-- a byte of a name -/
def nc (c : UInt8) : Bool := decide (33 ≤ c.toNat) && decide (c.toNat ≤ 126) && !(c.toNat == 47) && !(c.toNat == 64)
/-- a name's error -/
def nameErr (l : BL) : Int := if l = [] ∨ l = [46] ∨ l = [46, 46] then 7 else if 14 < l.length then 8 else if l.all nc then 0 else 7


/-- a text cut at each slash, behind what is read already -/
def pieces : BL → BL → List BL
  | acc, [] => [acc]
  | acc, c :: r => if c = 47 then acc :: pieces [] r else pieces (acc ++ [c]) r





end Go.Proofs.YthmkgohfeahdhaaGreat
namespace Go.Proofs.YthmkgohfeahdhaaGreat
open Go.RowKit

theorem dn_sz (s : ByteArray) : s.size = s.data.toList.length := by cases s; rfl
theorem dn_get_byte (s : ByteArray) (k : Nat) (h : k < s.size) : s.data.toList[k]? = some s[k] := Lib.data_getElem? s k h
theorem dn_all_upto {p : UInt8 → Bool} {l : BL} (h : ∀ k, k < l.length → ∀ c, l[k]? = some c → p c = true) : l.all p = true := by
  rw [List.all_eq_true]
  intro x hx
  obtain ⟨k, hk, rfl⟩ := List.mem_iff_getElem.1 hx
  exact h k hk _ (List.getElem?_eq_getElem hk)
theorem dn_not_all {p : UInt8 → Bool} {l : BL} {k : Nat} {c : UInt8} (h : l[k]? = some c) (hp : p c = false) : l.all p = false := by
  rw [List.all_eq_false]
  exact ⟨c, List.mem_of_getElem? h, by simp [hp]⟩

set_option maxRecDepth 100000 in
set_option maxHeartbeats 1000000 in
theorem dirname_ok (s : ByteArray) (w : World) :
    Calls Tryz.prog 120 #[.string s] w fun e w' => e = .returned (.int .i64 (nameErr s.data.toList)) ∧ w' = w := by
  go_enter Tryz.func120, Tryz.ntmps120
  by_cases e0 : s.data.toList = [] ∨ s.data.toList = [46] ∨ s.data.toList = [46, 46]
  · have hm := Lib.mk_data s
    rcases e0 with e0 | e0 | e0 <;> rw [e0] at hm <;> rw [← hm] <;> clear e0 hm <;> go_wp2 <;> go_returns <;> exact ⟨rfl, rfl⟩
  · have n1 : ¬ s.toList = [] := by rw [Lib.toList_data]; exact fun h => e0 (Or.inl h)
    have n2 : ¬ s.toList = [46] := by rw [Lib.toList_data]; exact fun h => e0 (Or.inr (Or.inl h))
    have n3 : ¬ s.toList = [46, 46] := by rw [Lib.toList_data]; exact fun h => e0 (Or.inr (Or.inr h))
    have b1 : s.toList.isEmpty = false := by simpa using n1
    have b2 : (s.toList == [46]) = false := by simpa using n2
    have b3 : (s.toList == [46, 46]) = false := by simpa using n3
    have e : nameErr s.data.toList = if 14 < s.size then 8 else if s.data.toList.all nc then 0 else 7 := by
      rw [dn_sz]; unfold nameErr; rw [if_neg e0]
    clear e0
    by_cases h14 : 14 < s.size
    · have t14 : decide ((14 : Int) < s.size) = true := by simp; omega
      rw [if_pos h14] at e
      go_wp2
      go_returns
      exact ⟨by rw [e]; rfl, rfl⟩
    have t14 : decide ((14 : Int) < s.size) = false := by simp; omega
    rw [if_neg h14] at e
    have E := hide e
    clear e
    go_wp2
    go_loopg [22] s.size (fun g i wr => ∃ k : Nat, k ≤ s.size ∧ g = s.size - k ∧ i = .int .i64 k ∧ wr = w ∧ ∀ j, j < k → ∀ c, s.data.toList[j]? = some c → nc c = true)
    case atStart => exact ⟨0, Nat.zero_le _, rfl, rfl, rfl, fun j hj => absurd hj (Nat.not_lt_zero _)⟩
    case round =>
      obtain ⟨k, hk, hg, rfl, rfl, hA⟩ := hrel
      by_cases hkm : k < s.size
      · have hkz : (k : Int) < s.size := by omega
        have hb := dn_get_byte s k hkm
        by_cases hp : nc s[k] = true
        · have hp' := hp
          simp only [nc, Bool.and_eq_true, decide_eq_true_eq, Bool.not_eq_true', beq_eq_false_iff_ne] at hp'
          have a1 : decide (((s[k].toNat : Nat) : Int) < 33) = false := by simp; omega
          have a2 : decide ((126 : Int) < ((s[k].toNat : Nat) : Int)) = false := by simp; omega
          have a3 : (((s[k].toNat : Nat) : Int) == 47) = false := by simp; omega
          have a4 : (((s[k].toNat : Nat) : Int) == 64) = false := by simp; omega
          have hA' : ∀ j, j < k + 1 → ∀ c, s.data.toList[j]? = some c → nc c = true := fun j hj c hc => by
            rcases Nat.lt_succ_iff_lt_or_eq.1 hj with h | rfl
            · exact hA j h c hc
            · obtain rfl : s[j] = c := by rw [hb] at hc; simpa using hc
              exact hp
          clear hA hp hp' hb
          go_wp2
          go_roundg (s.size - (k + 1))
          case measure => omega
          case rel => exact ⟨k + 1, by omega, rfl, by go_num, rfl, hA'⟩
        · have hp' : nc s[k] = false := by simpa using hp
          have e : nameErr s.data.toList = 7 := by rw [E.out, dn_not_all hb hp']; rfl
          have hq : ((s[k].toNat : Nat) : Int) < 33 ∨ (126 : Int) < ((s[k].toNat : Nat) : Int) ∨ ((s[k].toNat : Nat) : Int) = 47 ∨ ((s[k].toNat : Nat) : Int) = 64 := by
            by_cases q1 : s[k].toNat < 33
            · left; omega
            · by_cases q2 : 126 < s[k].toNat
              · right; left; omega
              · by_cases q3 : s[k].toNat = 47
                · right; right; left; omega
                · by_cases q4 : s[k].toNat = 64
                  · right; right; right; omega
                  · exact absurd (show nc s[k] = true by simp [nc, q3, q4]; omega) hp
          clear hA hp hp' hb
          go_wp2
          all_goals first
            | (go_returns; exact ⟨rfl, rfl⟩)
            | (go_returns; exact ⟨by rw [e]; rfl, rfl⟩)
            | (exfalso; simp_all; omega)
      · have hkz : decide ((k : Int) < s.size) = false := by simp; omega
        have e : nameErr s.data.toList = 0 := by
          have := dn_sz s
          rw [E.out, dn_all_upto (p := nc) (l := s.data.toList) (fun j hj c hc => hA j (by omega) c hc)]; rfl
        clear hA
        go_wp2
        go_returns
        exact ⟨by rw [e]; rfl, rfl⟩


end Go.Proofs.YthmkgohfeahdhaaGreat
namespace Go.Proofs.YthmkgohfeahdhaaGreat
open Go.RowKit
set_option linter.unusedSimpArgs false
set_option linter.unusedVariables false

/-- an entry's bytes -/
def packB (e : EntV) : List UInt8 := UInt8.ofNat e.num.toNat :: UInt8.ofNat (e.num.toNat / 256) :: (e.name.data.toList ++ List.replicate 14 0).take 14
theorem packB_length (e : EntV) : (packB e).length = 16 := by simp [packB]
theorem packB_eq (name : ByteArray) (num : UInt16) (hn : name.size ≤ 14) : packB ⟨name, num⟩ = UInt8.ofNat num.toNat :: UInt8.ofNat (num.toNat / 256) :: (name.data.toList ++ List.replicate (14 - name.size) 0) := by
  have hl : name.data.toList.length = name.size := (dn_sz name).symm
  unfold packB
  congr 2
  show (name.data.toList ++ List.replicate 14 0).take 14 = _
  rw [List.take_append, List.take_of_length_le (by omega), hl, List.take_replicate]
  congr 2
  omega
theorem pack_row (name : ByteArray) (lo hi : UInt8) (hn : name.size ≤ 14) :
    (bvs (lo :: hi :: List.replicate 14 0)).toArray.toList.take 2 ++ Lib.byteCells name.data.toList ++ (bvs (lo :: hi :: List.replicate 14 0)).toArray.toList.drop (2 + name.size) = bvs (lo :: hi :: (name.data.toList ++ List.replicate (14 - name.size) 0)) := by
  have e : (bvs (lo :: hi :: List.replicate 14 0)).toArray.toList = .int .u8 (lo.toNat : Int) :: .int .u8 (hi.toNat : Int) :: bvs (List.replicate 14 0) := by simp [bvs]
  rw [e, Nat.add_comm 2 name.size, show name.size + 2 = (name.size + 1) + 1 from rfl, List.drop_succ_cons, List.drop_succ_cons]
  simp only [bvs, List.map_cons, List.map_append, List.map_replicate, List.drop_replicate, List.take_succ_cons, List.take_zero, Lib.byteCells]
  rfl
set_option maxRecDepth 100000 in
set_option maxHeartbeats 1000000 in
theorem pack_ok (name : ByteArray) (num : UInt16) (hn : name.size ≤ 14) (w : World) :
    Calls Tryz.prog 121 #[.agg #[.string name, .int .u16 (num.toNat : Int)]] w fun e w' => e = .returned (.agg (bvs (packB ⟨name, num⟩)).toArray) ∧ Below w.heap.size w w' := by
  have HNS := hide hn
  clear hn
  go_enter Tryz.func121, Tryz.ntmps121
  go_upto_region 2 with (fail)
  refine at_world (fun W => ∃ p r q, q = w.heap.size + 1 + 1 ∧ r = w.heap.size + 1 ∧ p = w.heap.size ∧ Below w.heap.size w W ∧ Blk W p 125 #[.string name, .int .u16 (num.toNat : Int)] ∧ Blk W r 235 (bvs (List.replicate 16 0)).toArray ∧ Blk W q 235 (bvs (List.replicate 16 0)).toArray) ⟨w.heap.size, w.heap.size + 1, w.heap.size + 1 + 1, rfl, rfl, rfl, ?_, ?_, ?_, ?_⟩ (fun w1 h1 => ?_)
  · exact (((Below.refl _ _).alloc (Nat.le_refl _) _).alloc (by simp) _).alloc (by simp; omega) _
  · exact ((Blk.new w _ _).alloc _).alloc _
  · have h := (Blk.new (w.alloc (.cells #[.string name, .int .u16 (num.toNat : Int)] 125)) 235 (bvs (List.replicate 16 0)).toArray).alloc (.cells (bvs (List.replicate 16 0)).toArray 235)
    rw [World.size_alloc] at h
    exact h
  · have h := Blk.new ((w.alloc (.cells #[.string name, .int .u16 (num.toNat : Int)] 125)).alloc (.cells (bvs (List.replicate 16 0)).toArray 235)) 235 (bvs (List.replicate 16 0)).toArray
    rw [World.size_alloc, World.size_alloc] at h
    exact h
  obtain ⟨p, r, q, eq, er, ep, hb1, hP, hR, hQ⟩ := h1
  rw [← eq, ← er, ← ep]
  have HB := hide hb1
  have HP := hide hP
  have HR := hide hR
  have HQ := hide hQ
  have HN := hide (And.intro eq (And.intro er ep))
  clear eq er ep hb1 hP hR hQ
  have hpq : p ≠ q := by have := HN.out; omega
  have hrq : r ≠ q := by have := HN.out; omega
  refine wp_region_text [0, 0, 0, 0, 0, 0, 0, 0, 1, 0, 1] (fun W => Blk W p 125 #[.string name, .int .u16 (num.toNat : Int)]) (by kernel_rfl) (by kernel_rfl) HP.out.drew ?_
  iterate 8 (refine wpOrd_q (v := ?_) (by rfl) (fun W hW => ?_) ?_; rotate_left; (focus ((have c1 := hW.cell 1; have cl := hW.lt; go_simp); try with_reducible rfl)); try simp only [Act.put, List.setIfInBounds_toArray, List.set_cons_zero, List.set_cons_succ])
  have z0 : w1.drew.cell? ⟨q, 0, none⟩ = some (.int .u8 0) := HQ.out.drew.cell 0
  have f0 := HQ.out.drew.frozen 0
  have zl := HQ.out.drew.lt
  refine wpOrd_x (by rfl) (fun KK hKK => ?_)
  go_simp
  have hs : Tch w1.heap.size (· = q) w1 (w1.setCell ⟨q, 0, none⟩ (.int .u8 (IntKind.u8.wrap (num.toNat : Int)))) := Tch.setCell (fun _ => rfl)
  refine hKK _ _ _ (fun _ h => h) (HP.out.tch hs HP.out.lt hpq).drew ?_
  have hqw : w.heap.size ≤ q := by have := HN.out; omega
  obtain ⟨lo, hlo⟩ : ∃ lo : UInt8, IntKind.u8.wrap (num.toNat : Int) = (lo.toNat : Int) := ⟨UInt8.ofNat num.toNat, by rw [IntKind.wrap_u8, UInt8.toNat_ofNat']; omega⟩
  obtain ⟨hi, hhi⟩ : ∃ hi : UInt8, IntKind.u8.wrap ((num.toNat : Int) / 256) = (hi.toNat : Int) := ⟨UInt8.ofNat (num.toNat / 256), by rw [IntKind.wrap_u8, UInt8.toNat_ofNat']; omega⟩
  rw [hlo] at hs ⊢
  rw [hhi]
  refine at_world (fun W => Below w.heap.size w W ∧ Blk W p 125 #[.string name, .int .u16 (num.toNat : Int)] ∧ Blk W q 235 ((bvs (List.replicate 16 0)).toArray.setIfInBounds 0 (.int .u8 (lo.toNat : Int))) ∧ Blk W r 235 (bvs (List.replicate 16 0)).toArray) ⟨(HB.out.setCell (p := ⟨q, 0, none⟩) hqw _).drew, (HP.out.tch hs HP.out.lt hpq).drew, (HQ.out.set_ 0 _).drew, (HR.out.tch hs HR.out.lt hrq).drew⟩ (fun w2 h2 => ?_)
  have HB2 := hide h2.1
  have HP2 := hide h2.2.1
  have HQ2 := hide h2.2.2.1
  have HR2 := hide h2.2.2.2
  have HLH := hide (And.intro hlo hhi)
  have HQW := hide hqw
  clear h2 hs hlo hhi hqw z0 f0 zl hKK KK
  try simp only [Act.put, List.setIfInBounds_toArray, List.set_cons_zero, List.set_cons_succ]
  iterate 1 (refine wpOrd_q (v := ?_) (by rfl) (fun W hW => ?_) ?_; rotate_left; (focus (go_simp; try with_reducible rfl)); try simp only [Act.put, List.setIfInBounds_toArray, List.set_cons_zero, List.set_cons_succ])
  have z1 : w2.cell? ⟨q, 1, none⟩ = some (.int .u8 0) := HQ2.out.cell 1
  have f1 := HQ2.out.frozen 1
  have zl := HQ2.out.lt
  refine wpOrd_x (by rfl) (fun KK hKK => ?_)
  go_simp
  have hs : Tch w2.heap.size (· = q) w2 (w2.setCell ⟨q, 1, none⟩ (.int .u8 (hi.toNat : Int))) := Tch.setCell (fun _ => rfl)
  refine hKK _ _ _ (fun _ h => h) (HP2.out.tch hs HP2.out.lt hpq) ?_
  refine at_world (fun W => Below w.heap.size w W ∧ Blk W p 125 #[.string name, .int .u16 (num.toNat : Int)] ∧ Blk W q 235 (bvs (lo :: hi :: List.replicate 14 0)).toArray ∧ Blk W r 235 (bvs (List.replicate 16 0)).toArray) ⟨HB2.out.setCell (p := ⟨q, 1, none⟩) HQW.out _, HP2.out.tch hs HP2.out.lt hpq, HQ2.out.set_ 1 _, HR2.out.tch hs HR2.out.lt hrq⟩ (fun w3 h3 => ?_)
  have HB3 := hide h3.1
  have HP3 := hide h3.2.1
  have HQ3 := hide h3.2.2.1
  have HR3 := hide h3.2.2.2
  clear h3 hs z1 f1 zl hKK KK
  refine wpOrd_nil ?_
  go_upto_region 3 with (fail)
  have hrow := Lib.run_copy_row_string (P := Tryz.prog) w3.drew 24 9 3 5 q 2 14 14 name _ 235 Tryz.underlying24 (by kernel_rfl) HQ3.out.drew HNS.out (by have := HNS.out; simp [bvs]; omega)
  rw [pack_row name lo hi HNS.out] at hrow
  have HROW := hide hrow
  clear hrow
  refine wp_region_text [0, 0, 0, 1] (fun W => Blk W p 125 #[.string name, .int .u16 (num.toNat : Int)]) (by kernel_rfl) (by kernel_rfl) HP3.out.drew ?_
  refine wpOrd_q (v := .slice (some ⟨q, 2, none⟩) 14 14) (by rfl) (fun W hW => exec_slice_arr 235 5 (.tmp 3) (.const (.int .i64 2)) rfl q 16 2 .i64 (by rfl) (by rfl) Tryz.underlying235 (by kernel_rfl) (by omega)) ?_
  try simp only [Act.put, List.setIfInBounds_toArray, List.set_cons_zero, List.set_cons_succ]
  iterate 2 (refine wpOrd_q (v := ?_) (by rfl) (fun W hW => ?_) ?_; rotate_left; (focus ((have c0 := hW.cell 0; have cl := hW.lt; go_simp); try with_reducible rfl)); try simp only [Act.put, List.setIfInBounds_toArray, List.set_cons_zero, List.set_cons_succ])
  refine wpOrd_x (by rfl) (fun KK hKK => ?_)
  refine wp_copy_as (.tmp 13) (.tmp 15) 24 9 rfl _ _ (by rfl) (by rfl) HROW.out ?_
  refine hKK _ _ _ (fun _ h => h) (HP3.out.drew.setRow_far hpq _) ?_
  clear hKK KK
  try simp only [Act.put, List.setIfInBounds_toArray, List.set_cons_zero, List.set_cons_succ]
  refine wpOrd_nil ?_
  refine at_world (fun W => Below w.heap.size w W ∧ Blk W q 235 (bvs (lo :: hi :: (name.data.toList ++ List.replicate (14 - name.size) 0))).toArray ∧ Blk W r 235 (bvs (List.replicate 16 0)).toArray) ⟨below_setRow HB3.out.drew HQW.out _, HQ3.out.drew.setRow_same _, HR3.out.drew.setRow_far hrq _⟩ (fun w4 h4 => ?_)
  have HB4 := hide h4.1
  have HQ4 := hide h4.2.1
  have HR4 := hide h4.2.2
  clear h4 HROW HB3 HQ3 HP3 HB2 HP2 HQ2 HB HP HR HQ
  have hp := packB_eq name num HNS.out
  rw [show UInt8.ofNat num.toNat = lo from by have := HLH.out.1; rw [IntKind.wrap_u8] at this; apply UInt8.toNat_inj.1; rw [UInt8.toNat_ofNat']; omega, show UInt8.ofNat (num.toNat / 256) = hi from by have := HLH.out.2; rw [IntKind.wrap_u8] at this; apply UInt8.toNat_inj.1; rw [UInt8.toNat_ofNat']; omega] at hp
  rw [← hp] at HQ4
  have hsz : (Tryz.prog.info? 235).map (·.size) = some (bvs (packB ⟨name, num⟩)).toArray.size := by
    have : (Tryz.prog.info? 235).map (·.size) = some 16 := by kernel_rfl
    rw [this, List.size_toArray, bvs_length, packB_length]
  have hrw : w.heap.size ≤ r := by have := HN.out; omega
  have HRW := hide hrw
  have HSZ := hide hsz
  clear hp hsz hrw HR3 HR2
  go_wp2_with (first | ((with_reducible refine at_load 235 (.tmp 3) ?_); refine wpList_load_blk rfl 235 (.tmp 3) rfl q _ _ _ (by rfl) HQ4.out Tryz.underlying235 rfl HSZ.out ?_) | ((with_reducible refine at_store 235 (.tmp 2) (.tmp 17) ?_); refine wpList_store_blk rfl 235 (.tmp 2) (.tmp 17) rfl r _ _ _ (by rfl) (by rfl) HR4.out HSZ.out (by rw [List.size_toArray, List.size_toArray, bvs_length, bvs_length, packB_length]; rfl) (bvs_oneCell _) (fun hB5 => ?_)) | ((with_reducible refine at_end ?_); refine bodyPost_ret (v := .agg (bvs (packB ⟨name, num⟩)).toArray) (results_run1 rfl (ResV.row rfl hB5 Tryz.underlying235 rfl HSZ.out)) rfl ⟨rfl, below_setRow HB4.out HRW.out _⟩) | fail)
end Go.Proofs.YthmkgohfeahdhaaGreat
namespace Go.Proofs.YthmkgohfeahdhaaGreat
open Go.RowKit
set_option linter.unusedSimpArgs false
set_option linter.unusedVariables false

/-- an entry that may stand in a directory's place -/
def EntV.Good (e : EntV) : Prop := (e.num = 0 ∧ e.name.data.toList = []) ∨ (e.num ≠ 0 ∧ nameErr e.name.data.toList = 0)
theorem nameErr_zero {l : List UInt8} (h : nameErr l = 0) : l ≠ [] ∧ l.length ≤ 14 ∧ ∀ c ∈ l, c ≠ 0 := by
  unfold nameErr at h
  split at h
  · cases h
  · rename_i h0
    split at h
    · cases h
    · split at h
      · rename_i h2
        refine ⟨fun e => h0 (.inl e), by omega, fun c hc e => ?_⟩
        rw [List.all_eq_true] at h2
        have := h2 c hc
        subst e
        revert this
        decide
      · cases h
theorem EntV.Good.name {e : EntV} (h : e.Good) : e.name.size ≤ 14 ∧ ∀ c ∈ e.name.data.toList, c ≠ 0 := by
  rw [dn_sz]
  rcases h with ⟨_, h⟩ | ⟨_, h⟩
  · rw [h]; simp
  · exact (nameErr_zero h).2
theorem pk_name {e : EntV} (h : e.name.size ≤ 14) {k : Nat} (hk : k < e.name.size) : (packB e).getD (2 + k) 0 = e.name.data.toList.getD k 0 := by
  have hl := dn_sz e.name
  rw [show packB e = _ from packB_eq e.name e.num h, show 2 + k = (k + 1) + 1 from by omega]
  simp only [List.getD_eq_getElem?_getD, List.getElem?_cons_succ]
  rw [List.getElem?_append_left (by omega)]
theorem pk_zero {e : EntV} (h : e.name.size ≤ 14) {j : Nat} (hj : 2 + e.name.size ≤ j) : (packB e).getD j 0 = 0 := by
  have hl := dn_sz e.name
  obtain ⟨k, rfl⟩ : ∃ k, j = (k + 1) + 1 := ⟨j - 2, by omega⟩
  rw [show packB e = _ from packB_eq e.name e.num h]
  simp only [List.getD_eq_getElem?_getD, List.getElem?_cons_succ]
  rw [List.getElem?_append_right (by omega), List.getElem?_replicate]
  split <;> rfl
theorem size_ent : (Tryz.prog.info? 125).map (·.size) = some 2 := by kernel_rfl
theorem str_name (e : EntV) : str e.name.data.toList = e.name := by
  obtain ⟨⟨d⟩, n⟩ := e
  simp [str]
abbrev str0 (e : EntV) : List UInt8 := e.name.data.toList
theorem pk_mid {e : EntV} (h : e.name.size ≤ 14) : ((packB e).drop 2).take (2 + e.name.size - 2) = e.name.data.toList := by
  have hl := dn_sz e.name
  rw [show packB e = _ from packB_eq e.name e.num h, List.drop_succ_cons, List.drop_succ_cons, List.drop_zero, List.take_append_of_le_length (by omega), List.take_of_length_le (by omega)]
section
variable {w : World}
set_option maxRecDepth 100000 in
set_option maxHeartbeats 1000000 in
theorem unpack_good (e : EntV) (hg : e.Good) {A : Option Addr} {c : Nat} (hc16 : 16 ≤ c) (h : Rd w w.heap.size 1 A 16 (bvs (packB e))) :
    Calls Tryz.prog 160 #[.slice A 16 c] w fun r w' => r = .returned (.tuple #[.agg e.cells.toArray, .bool true]) ∧ Below w.heap.size w w' := by
  obtain ⟨m, hm⟩ : ∃ m, e.name.size = m := ⟨_, rfl⟩
  have hn1 := hg.name
  rw [hm] at hn1
  have hm14 : m ≤ 14 := hn1.1
  have HG := hide (And.intro hg hm)
  have HR := hide h
  have HNZ := hide (show ∀ k, k < m → (packB e).getD (2 + k) 0 ≠ 0 from fun k hk => by
    rw [pk_name (by omega) (by omega), List.getD_eq_getElem?_getD, List.getElem?_eq_getElem (by rw [← dn_sz]; omega)]
    exact hn1.2 _ (List.getElem_mem _))
  have HZ := hide (show ∀ j, 2 + m ≤ j → (packB e).getD j 0 = 0 from fun j hj => pk_zero (by omega) (by omega))
  obtain ⟨ba, oa, rfl, hba, hca⟩ := h.byte (i := 0) (by omega)
  have HC := hide hca
  clear hg h hn1 hm hca
  go_enter Tryz.func160, Tryz.ntmps160
  go_wp2_with fail
  refine at_world (fun W => ∃ p, p = w.heap.size ∧ Below w.heap.size w W ∧ Blk W p 125 #[.string ⟨#[]⟩, .int .u16 0]) ⟨_, rfl, (Below.refl _ _).alloc (Nat.le_refl _) _, Blk.new _ _ _⟩ (fun w1 h1 => ?_)
  obtain ⟨p, hp, hb1, hP1⟩ := h1
  rw [← hp]
  have HB := hide hb1
  have HP := hide hP1
  have HPW := hide (show w.heap.size ≤ p from Nat.le_of_eq hp.symm)
  have bal : ba < w1.heap.size := Nat.lt_of_lt_of_le hba hb1.size
  have HC1 := hide (show ∀ j, j < 16 → w1.cell? ⟨ba, oa + j, none⟩ = some (.int .u8 (((packB e).getD j 0).toNat : Int)) from fun j hj => (World.cell?_of_block (w := w) (a := ⟨ba, oa + j, none⟩) (hb1.block ba hba)).trans (HC.out j hj))
  clear hp hb1 hP1 hba
  go_loopg [4] m (fun gh x4 wr => ∃ k : Nat, k ≤ m ∧ gh = m - k ∧ x4 = .int .i64 ((2 + k : Nat) : Int) ∧ wr = w1)
  case atStart => exact ⟨0, Nat.zero_le _, rfl, rfl, rfl⟩
  case round =>
    obtain ⟨k, hk, hgh, rfl, rfl⟩ := hrel
    have HGH := hide hgh
    clear hgh
    obtain ⟨y, hy⟩ : ∃ y : Nat, 2 + k = y := ⟨_, rfl⟩
    rw [hy]
    rcases Nat.lt_or_ge k m with hkl | hkl
    · have ck := HC1.out y (by omega)
      have hz := HNZ.out k hkl
      rw [hy] at hz
      obtain ⟨pc, hpc⟩ : ∃ pc, ((packB e).getD y 0).toNat = pc := ⟨_, rfl⟩
      have hpc0 : pc ≠ 0 := fun e0 => hz (UInt8.toNat_inj.1 (by rw [hpc, e0]; rfl))
      rw [hpc] at ck
      have t1 : decide ((y : Int) < 16) = true := by simp; omega
      have t2 : (y : Int) < 16 := by omega
      have t3 : ((pc : Int) == 0) = false := by rw [beq_eq_false_iff_ne]; omega
      have t3' : ¬ (pc : Int) = 0 := by omega
      have e64 : IntKind.i64.wrap ((y : Int) + 1) = (y : Int) + 1 := IntWalk.i64_in _ (by omega)
      clear hz hpc hpc0
      go_wp2_with fail
      go_roundg (m - (k + 1))
      case rel => exact ⟨k + 1, by omega, rfl, by rw [← Nat.add_assoc, hy]; go_num, rfl⟩
      case measure => have := HGH.out; omega
    · obtain rfl : k = m := by omega
      clear hkl hk
      rcases Nat.lt_or_ge y 16 with hyl | hyl
      · have ck := HC1.out y (by omega)
        rw [HZ.out y (by omega)] at ck
        have t1 : decide ((y : Int) < 16) = true := by simp; omega
        have t2 : (y : Int) < 16 := by omega
        have t3 : y < c := by omega
        have t4 : ¬ y = c := by omega
        have t5 : decide (y < c) = true := by simp; omega
        go_wp2_with fail
        clear ck t1 t2
        go_loopg [6, 29] (16 - y) (fun gh x6 x29 wq => ∃ j : Nat, j ≤ 16 - y ∧ gh = 16 - y - j ∧ x29 = .int .i64 (j : Int) ∧ wq = wr)
        case atStart => exact ⟨0, Nat.zero_le _, rfl, rfl, rfl⟩
        case round =>
          obtain ⟨j, hj, hgj, rfl, rfl⟩ := hrel
          have HGJ := hide hgj
          clear hgj
          rcases Nat.lt_or_ge j (16 - y) with hjl | hjl
          · have cj := HC1.out (y + j) (by omega)
            rw [HZ.out (y + j) (by omega), ← Nat.add_assoc] at cj
            have u1 : decide (j < 16 - y) = true := by simp; omega
            have u2 : decide ((j : Int) < ((16 - y : Nat) : Int)) = true := by simp; omega
            have u3 : (j : Int) < ((16 - y : Nat) : Int) := by omega
            have e64 : IntKind.i64.wrap ((j : Int) + 1) = (j : Int) + 1 := IntWalk.i64_in _ (by omega)
            go_wp2_with fail
            go_roundg (16 - y - (j + 1))
            case rel => exact ⟨j + 1, by omega, rfl, by first | rfl | go_num, rfl⟩
            case measure => have := HGJ.out; omega
          · have u1 : decide (j < 16 - y) = false := by simp; omega
            have u2 : decide ((j : Int) < ((16 - y : Nat) : Int)) = false := by simp; omega
            have u3 : ¬ (j : Int) < ((16 - y : Nat) : Int) := by omega
            clear hjl hj
            go_wp2_with fail
            have hrd : Rd wr w.heap.size 1 (slA (some ⟨ba, oa, none⟩) c 2) (y - 2) (bvs (str0 e)) := by
              have := (HR.out.below HB.out).part (c := c) (by omega) (lo := 2) (hi := y) (by omega) (by omega)
              rw [← hy, ← HG.out.2, pk_mid (by have := HG.out.2; omega)] at this
              rw [← hy, ← HG.out.2]
              exact this
            have HRD := hide hrd
            have b0 := HC1.out 0 (by omega)
            have b1 := HC1.out 1 (by omega)
            obtain ⟨lo, hlo⟩ : ∃ lo, ((packB e).getD 0 0).toNat = lo := ⟨_, rfl⟩
            obtain ⟨hi, hhi⟩ : ∃ hi, ((packB e).getD 1 0).toNat = hi := ⟨_, rfl⟩
            have hlo' : lo < 256 := by rw [← hlo]; exact UInt8.toNat_lt _
            have hhi' : hi < 256 := by rw [← hhi]; exact UInt8.toNat_lt _
            rw [hlo, Nat.add_zero] at b0
            rw [hhi] at b1
            have hnum : lo + 256 * hi = e.num.toNat := by
              have h1 : lo = e.num.toNat % 256 := by rw [← hlo]; exact UInt8.toNat_ofNat' ..
              have h2 : hi = e.num.toNat / 256 % 256 := by rw [← hhi]; exact UInt8.toNat_ofNat' ..
              have := e.num.toNat_lt
              omega
            have hor : bits BinOp.or IntKind.u16 (lo : Int) ((hi : Int) * 256) = (e.num.toNat : Int) := by
              have h := or_two hlo' hhi'
              rw [show ((256 * hi : Nat) : Int) = (hi : Int) * 256 from by omega, hnum] at h
              exact h
            have e1 : IntKind.u16.wrap (lo : Int) = (lo : Int) := by rw [IntKind.wrap_u16]; omega
            have e2 : IntKind.u16.wrap (hi : Int) = (hi : Int) := by rw [IntKind.wrap_u16]; omega
            have e3 : IntKind.u16.wrap ((hi : Int) * 256) = (hi : Int) * 256 := by rw [IntKind.wrap_u16]; omega
            have hlen : (16 : Int) = 16 := rfl
            clear hrd hlo hhi
            refine wp_region_text [0, 0, 0, 0, 0, 0, 0, 0, 0, 0, 0, 0, 0, 0, 0, 1, 1] (fun W => Below wr.heap.size wr W) (by kernel_rfl) (by kernel_rfl) (Below.refl _ _).drew ?_
            iterate 2 (refine wpOrd_q (v := ?_) (by rfl) (fun W hW => ?_) ?_; rotate_left; (focus ((obtain ⟨hWc, hWf⟩ := bcell hW; go_simp); try with_reducible rfl)); try simp only [Act.put, List.setIfInBounds_toArray, List.set_cons_zero, List.set_cons_succ])
            refine wpOrd_q (v := .slice (slA (some ⟨ba, oa, none⟩) c 2) (y - 2) (c - 2)) (by rfl) (fun W hW => exec_slice_lh 24 5 (.tmp 37) (.const (.int .i64 2)) (.tmp 38) rfl (some ⟨ba, oa, none⟩) 16 c 2 y .i64 .i64 (by rfl) (by rfl) (by rfl) Tryz.underlying24 (by kernel_rfl) (by omega) (by omega)) ?_
            try simp only [Act.put, List.setIfInBounds_toArray, List.set_cons_zero, List.set_cons_succ]
            refine wpOrd_q (v := .string e.name) (by rfl) (fun W hW => by rw [show Value.string e.name = .string (str (str0 e)) from by rw [str_name]]; exact exec_str 24 9 5 (.tmp 39) rfl _ _ _ (str0 e) _ (by rfl) Tryz.underlying24 Tryz.underlying5 Tryz.underlying9 (HRD.out.below (hW.mono HB.out.size))) ?_
            try simp only [Act.put, List.setIfInBounds_toArray, List.set_cons_zero, List.set_cons_succ]
            iterate 9 (refine wpOrd_q (v := ?_) (by rfl) (fun W hW => ?_) ?_; rotate_left; (focus ((obtain ⟨hWc, hWf⟩ := bcell hW; go_simp); try with_reducible rfl)); try simp only [Act.put, List.setIfInBounds_toArray, List.set_cons_zero, List.set_cons_succ])
            refine wpOrd_q (v := .int .u16 (e.num.toNat : Int)) (by rfl) (fun W hW => by go_simp; try exact hor) ?_
            try simp only [Act.put, List.setIfInBounds_toArray, List.set_cons_zero, List.set_cons_succ]
            iterate 1 (refine wpOrd_q (v := ?_) (by rfl) (fun W hW => ?_) ?_; rotate_left; (focus ((obtain ⟨hWc, hWf⟩ := bcell hW; go_simp); try with_reducible rfl)); try simp only [Act.put, List.setIfInBounds_toArray, List.set_cons_zero, List.set_cons_succ])
            refine wpOrd_x (by rfl) (fun KK hKK => ?_)
            go_simp
            refine hKK _ _ _ (fun _ h => h) ((Below.refl _ _).drew.alloc (Nat.le_refl _) _) ?_
            clear hKK KK
            try simp only [Act.put, List.setIfInBounds_toArray, List.set_cons_zero, List.set_cons_succ]
            refine wpOrd_x (by rfl) (fun KK hKK => ?_)
            go_simp
            refine hKK _ _ _ (fun _ h => h) ((Below.refl _ _).alloc (Nat.le_refl _) _).drew ?_
            clear hKK KK
            refine wpOrd_nil ?_
            refine at_world (fun W => ∃ q, q = wr.heap.size ∧ Below w.heap.size w W ∧ Blk W p 125 #[.string ⟨#[]⟩, .int .u16 0] ∧ Blk W q 125 #[.string e.name, .int .u16 (e.num.toNat : Int)]) ⟨_, rfl, (HB.out.alloc HB.out.size _).drew, (HP.out.alloc _).drew, (Blk.new _ _ _).drew⟩ (fun w3 h3 => ?_)
            obtain ⟨q, hq, hb3, hP3, hQ3⟩ := h3
            rw [← hq]
            have HB3 := hide hb3
            have HP3 := hide hP3
            have HQ3 := hide hQ3
            have q0 := hQ3.cell 0
            have q1 := hQ3.cell 1
            have ql := hQ3.lt
            clear hq hb3 hP3 hQ3 HRD HC1 HC b0 b1 hor e1 e2 e3 hlen
            rcases HG.out.1 with ⟨hz, hnm⟩ | ⟨hz, hnm⟩
            · have hz0 : e.num.toNat = 0 := by rw [hz]; rfl
              have hnm0 : e.name = ⟨#[]⟩ := by rw [← str_name e, hnm]; rfl
              have hk0 : y = 2 := by have := HG.out.2; rw [hnm0] at this; rw [← hy, ← this]; rfl
              rw [hz0] at q1
              have hce : e.cells.toArray = #[.string ⟨#[]⟩, .int .u16 0] := by unfold EntV.cells; rw [hz0, hnm0]; rfl
              have HCE := hide hce
              have HPQ := hide (below_setRow HB3.out HPW.out #[.string ⟨#[]⟩, .int .u16 0])
              subst hk0
              clear hce
              go_wp2_with (first | ((with_reducible refine at_store 125 (.tmp 2) (.tmp 55) ?_); refine wpList_store_blk rfl 125 (.tmp 2) (.tmp 55) rfl p _ _ _ (by rfl) (by rfl) HP3.out (by exact size_ent) (by rfl) (by simp [Value.oneCell']) (fun hB4 => ?_)) | ((with_reducible refine at_end ?_); refine bodyPost_ret (v := .tuple #[.agg #[.string ⟨#[]⟩, .int .u16 0], .bool true]) (results_run2 rfl (ResV.row rfl hB4 Tryz.underlying125 rfl size_ent) rfl) rfl ⟨by rw [HCE.out], HPQ.out⟩) | fail)
            · have hz0 : e.num.toNat ≠ 0 := fun h0 => hz (UInt16.toNat_inj.1 h0)
              have t6 : ((e.num.toNat : Int) == 0) = false := by rw [beq_eq_false_iff_ne]; omega
              have t6' : ¬ (e.num.toNat : Int) = 0 := by omega
              go_wp2_with fail
              refine (dirname_ok e.name w3).mono ?_
              rintro _ _ ⟨rfl, rfl⟩
              rw [hnm]
              have HPQ := hide (below_setRow HB3.out HPW.out #[.string e.name, .int .u16 (e.num.toNat : Int)])
              go_wp2_with (first | ((with_reducible refine at_store 125 (.tmp 2) (.tmp 63) ?_); refine wpList_store_blk rfl 125 (.tmp 2) (.tmp 63) rfl p _ _ _ (by rfl) (by rfl) HP3.out (by exact size_ent) (by rfl) (by simp [Value.oneCell']) (fun hB4 => ?_)) | ((with_reducible refine at_end ?_); refine bodyPost_ret (v := .tuple #[.agg #[.string e.name, .int .u16 (e.num.toNat : Int)], .bool true]) (results_run2 rfl (ResV.row rfl hB4 Tryz.underlying125 rfl size_ent) rfl) rfl ⟨rfl, HPQ.out⟩) | fail)
      · have t1 : decide ((y : Int) < 16) = false := by simp; omega
        have t2 : ¬ (y : Int) < 16 := by omega
        have t2' : (y : Int) ≤ 16 := by omega
        have hyle : y ≤ 16 := by omega
        rcases Nat.lt_or_ge y c with hyc | hyc
        · have t3 : y < c := hyc
          have t4 : ¬ y = c := by omega
          have t5 : decide (y < c) = true := by simp; omega
          go_wp2_with fail
          clear t1 t2
          go_loopg [6, 29] (16 - y) (fun gh x6 x29 wq => ∃ j : Nat, j ≤ 16 - y ∧ gh = 16 - y - j ∧ x29 = .int .i64 (j : Int) ∧ wq = wr)
          case atStart => exact ⟨0, Nat.zero_le _, rfl, rfl, rfl⟩
          case round =>
            obtain ⟨j, hj, hgj, rfl, rfl⟩ := hrel
            have HGJ := hide hgj
            clear hgj
            rcases Nat.lt_or_ge j (16 - y) with hjl | hjl
            · exfalso; omega
            · have u1 : decide (j < 16 - y) = false := by simp; omega
              have u2 : decide ((j : Int) < ((16 - y : Nat) : Int)) = false := by simp; omega
              have u3 : ¬ (j : Int) < ((16 - y : Nat) : Int) := by omega
              clear hjl hj
              go_wp2_with fail
              have hrd : Rd wr w.heap.size 1 (slA (some ⟨ba, oa, none⟩) c 2) (y - 2) (bvs (str0 e)) := by
                have := (HR.out.below HB.out).part (c := c) (by omega) (lo := 2) (hi := y) (by omega) (by omega)
                rw [← hy, ← HG.out.2, pk_mid (by have := HG.out.2; omega)] at this
                rw [← hy, ← HG.out.2]
                exact this
              have HRD := hide hrd
              have b0 := HC1.out 0 (by omega)
              have b1 := HC1.out 1 (by omega)
              obtain ⟨lo, hlo⟩ : ∃ lo, ((packB e).getD 0 0).toNat = lo := ⟨_, rfl⟩
              obtain ⟨hi, hhi⟩ : ∃ hi, ((packB e).getD 1 0).toNat = hi := ⟨_, rfl⟩
              have hlo' : lo < 256 := by rw [← hlo]; exact UInt8.toNat_lt _
              have hhi' : hi < 256 := by rw [← hhi]; exact UInt8.toNat_lt _
              rw [hlo, Nat.add_zero] at b0
              rw [hhi] at b1
              have hnum : lo + 256 * hi = e.num.toNat := by
                have h1 : lo = e.num.toNat % 256 := by rw [← hlo]; exact UInt8.toNat_ofNat' ..
                have h2 : hi = e.num.toNat / 256 % 256 := by rw [← hhi]; exact UInt8.toNat_ofNat' ..
                have := e.num.toNat_lt
                omega
              have hor : bits BinOp.or IntKind.u16 (lo : Int) ((hi : Int) * 256) = (e.num.toNat : Int) := by
                have h := or_two hlo' hhi'
                rw [show ((256 * hi : Nat) : Int) = (hi : Int) * 256 from by omega, hnum] at h
                exact h
              have e1 : IntKind.u16.wrap (lo : Int) = (lo : Int) := by rw [IntKind.wrap_u16]; omega
              have e2 : IntKind.u16.wrap (hi : Int) = (hi : Int) := by rw [IntKind.wrap_u16]; omega
              have e3 : IntKind.u16.wrap ((hi : Int) * 256) = (hi : Int) * 256 := by rw [IntKind.wrap_u16]; omega
              have hlen : (16 : Int) = 16 := rfl
              clear hrd hlo hhi
              refine wp_region_text [0, 0, 0, 0, 0, 0, 0, 0, 0, 0, 0, 0, 0, 0, 0, 1, 1] (fun W => Below wr.heap.size wr W) (by kernel_rfl) (by kernel_rfl) (Below.refl _ _).drew ?_
              iterate 2 (refine wpOrd_q (v := ?_) (by rfl) (fun W hW => ?_) ?_; rotate_left; (focus ((obtain ⟨hWc, hWf⟩ := bcell hW; go_simp); try with_reducible rfl)); try simp only [Act.put, List.setIfInBounds_toArray, List.set_cons_zero, List.set_cons_succ])
              refine wpOrd_q (v := .slice (slA (some ⟨ba, oa, none⟩) c 2) (y - 2) (c - 2)) (by rfl) (fun W hW => exec_slice_lh 24 5 (.tmp 37) (.const (.int .i64 2)) (.tmp 38) rfl (some ⟨ba, oa, none⟩) 16 c 2 y .i64 .i64 (by rfl) (by rfl) (by rfl) Tryz.underlying24 (by kernel_rfl) (by omega) (by omega)) ?_
              try simp only [Act.put, List.setIfInBounds_toArray, List.set_cons_zero, List.set_cons_succ]
              refine wpOrd_q (v := .string e.name) (by rfl) (fun W hW => by rw [show Value.string e.name = .string (str (str0 e)) from by rw [str_name]]; exact exec_str 24 9 5 (.tmp 39) rfl _ _ _ (str0 e) _ (by rfl) Tryz.underlying24 Tryz.underlying5 Tryz.underlying9 (HRD.out.below (hW.mono HB.out.size))) ?_
              try simp only [Act.put, List.setIfInBounds_toArray, List.set_cons_zero, List.set_cons_succ]
              iterate 9 (refine wpOrd_q (v := ?_) (by rfl) (fun W hW => ?_) ?_; rotate_left; (focus ((obtain ⟨hWc, hWf⟩ := bcell hW; go_simp); try with_reducible rfl)); try simp only [Act.put, List.setIfInBounds_toArray, List.set_cons_zero, List.set_cons_succ])
              refine wpOrd_q (v := .int .u16 (e.num.toNat : Int)) (by rfl) (fun W hW => by go_simp; try exact hor) ?_
              try simp only [Act.put, List.setIfInBounds_toArray, List.set_cons_zero, List.set_cons_succ]
              iterate 1 (refine wpOrd_q (v := ?_) (by rfl) (fun W hW => ?_) ?_; rotate_left; (focus ((obtain ⟨hWc, hWf⟩ := bcell hW; go_simp); try with_reducible rfl)); try simp only [Act.put, List.setIfInBounds_toArray, List.set_cons_zero, List.set_cons_succ])
              refine wpOrd_x (by rfl) (fun KK hKK => ?_)
              go_simp
              refine hKK _ _ _ (fun _ h => h) ((Below.refl _ _).drew.alloc (Nat.le_refl _) _) ?_
              clear hKK KK
              try simp only [Act.put, List.setIfInBounds_toArray, List.set_cons_zero, List.set_cons_succ]
              refine wpOrd_x (by rfl) (fun KK hKK => ?_)
              go_simp
              refine hKK _ _ _ (fun _ h => h) ((Below.refl _ _).alloc (Nat.le_refl _) _).drew ?_
              clear hKK KK
              refine wpOrd_nil ?_
              refine at_world (fun W => ∃ q, q = wr.heap.size ∧ Below w.heap.size w W ∧ Blk W p 125 #[.string ⟨#[]⟩, .int .u16 0] ∧ Blk W q 125 #[.string e.name, .int .u16 (e.num.toNat : Int)]) ⟨_, rfl, (HB.out.alloc HB.out.size _).drew, (HP.out.alloc _).drew, (Blk.new _ _ _).drew⟩ (fun w3 h3 => ?_)
              obtain ⟨q, hq, hb3, hP3, hQ3⟩ := h3
              rw [← hq]
              have HB3 := hide hb3
              have HP3 := hide hP3
              have HQ3 := hide hQ3
              have q0 := hQ3.cell 0
              have q1 := hQ3.cell 1
              have ql := hQ3.lt
              clear hq hb3 hP3 hQ3 HRD HC1 HC b0 b1 hor e1 e2 e3 hlen
              rcases HG.out.1 with ⟨hz, hnm⟩ | ⟨hz, hnm⟩
              · have hz0 : e.num.toNat = 0 := by rw [hz]; rfl
                have hnm0 : e.name = ⟨#[]⟩ := by rw [← str_name e, hnm]; rfl
                have hk0 : y = 2 := by have := HG.out.2; rw [hnm0] at this; rw [← hy, ← this]; rfl
                exfalso; omega
              · have hz0 : e.num.toNat ≠ 0 := fun h0 => hz (UInt16.toNat_inj.1 h0)
                have t6 : ((e.num.toNat : Int) == 0) = false := by rw [beq_eq_false_iff_ne]; omega
                have t6' : ¬ (e.num.toNat : Int) = 0 := by omega
                go_wp2_with fail
                refine (dirname_ok e.name w3).mono ?_
                rintro _ _ ⟨rfl, rfl⟩
                rw [hnm]
                have HPQ := hide (below_setRow HB3.out HPW.out #[.string e.name, .int .u16 (e.num.toNat : Int)])
                go_wp2_with (first | ((with_reducible refine at_store 125 (.tmp 2) (.tmp 63) ?_); refine wpList_store_blk rfl 125 (.tmp 2) (.tmp 63) rfl p _ _ _ (by rfl) (by rfl) HP3.out (by exact size_ent) (by rfl) (by simp [Value.oneCell']) (fun hB4 => ?_)) | ((with_reducible refine at_end ?_); refine bodyPost_ret (v := .tuple #[.agg #[.string e.name, .int .u16 (e.num.toNat : Int)], .bool true]) (results_run2 rfl (ResV.row rfl hB4 Tryz.underlying125 rfl size_ent) rfl) rfl ⟨rfl, HPQ.out⟩) | fail)
        · obtain rfl : y = c := by omega
          go_wp2_with fail
          clear t1 t2
          go_loopg [6, 29] (16 - y) (fun gh x6 x29 wq => ∃ j : Nat, j ≤ 16 - y ∧ gh = 16 - y - j ∧ x29 = .int .i64 (j : Int) ∧ wq = wr)
          case atStart => exact ⟨0, Nat.zero_le _, rfl, rfl, rfl⟩
          case round =>
            obtain ⟨j, hj, hgj, rfl, rfl⟩ := hrel
            have HGJ := hide hgj
            clear hgj
            rcases Nat.lt_or_ge j (16 - y) with hjl | hjl
            · exfalso; omega
            · have u1 : decide (j < 16 - y) = false := by simp; omega
              have u2 : decide ((j : Int) < ((16 - y : Nat) : Int)) = false := by simp; omega
              have u3 : ¬ (j : Int) < ((16 - y : Nat) : Int) := by omega
              clear hjl hj
              go_wp2_with fail
              have hrd : Rd wr w.heap.size 1 (slA (some ⟨ba, oa, none⟩) y 2) (y - 2) (bvs (str0 e)) := by
                have := (HR.out.below HB.out).part (c := y) (by omega) (lo := 2) (hi := y) (by omega) (by omega)
                rw [← hy, ← HG.out.2, pk_mid (by have := HG.out.2; omega)] at this
                rw [← hy, ← HG.out.2]
                exact this
              have HRD := hide hrd
              have b0 := HC1.out 0 (by omega)
              have b1 := HC1.out 1 (by omega)
              obtain ⟨lo, hlo⟩ : ∃ lo, ((packB e).getD 0 0).toNat = lo := ⟨_, rfl⟩
              obtain ⟨hi, hhi⟩ : ∃ hi, ((packB e).getD 1 0).toNat = hi := ⟨_, rfl⟩
              have hlo' : lo < 256 := by rw [← hlo]; exact UInt8.toNat_lt _
              have hhi' : hi < 256 := by rw [← hhi]; exact UInt8.toNat_lt _
              rw [hlo, Nat.add_zero] at b0
              rw [hhi] at b1
              have hnum : lo + 256 * hi = e.num.toNat := by
                have h1 : lo = e.num.toNat % 256 := by rw [← hlo]; exact UInt8.toNat_ofNat' ..
                have h2 : hi = e.num.toNat / 256 % 256 := by rw [← hhi]; exact UInt8.toNat_ofNat' ..
                have := e.num.toNat_lt
                omega
              have hor : bits BinOp.or IntKind.u16 (lo : Int) ((hi : Int) * 256) = (e.num.toNat : Int) := by
                have h := or_two hlo' hhi'
                rw [show ((256 * hi : Nat) : Int) = (hi : Int) * 256 from by omega, hnum] at h
                exact h
              have e1 : IntKind.u16.wrap (lo : Int) = (lo : Int) := by rw [IntKind.wrap_u16]; omega
              have e2 : IntKind.u16.wrap (hi : Int) = (hi : Int) := by rw [IntKind.wrap_u16]; omega
              have e3 : IntKind.u16.wrap ((hi : Int) * 256) = (hi : Int) * 256 := by rw [IntKind.wrap_u16]; omega
              have hlen : (16 : Int) = 16 := rfl
              clear hrd hlo hhi
              refine wp_region_text [0, 0, 0, 0, 0, 0, 0, 0, 0, 0, 0, 0, 0, 0, 0, 1, 1] (fun W => Below wr.heap.size wr W) (by kernel_rfl) (by kernel_rfl) (Below.refl _ _).drew ?_
              iterate 2 (refine wpOrd_q (v := ?_) (by rfl) (fun W hW => ?_) ?_; rotate_left; (focus ((obtain ⟨hWc, hWf⟩ := bcell hW; go_simp); try with_reducible rfl)); try simp only [Act.put, List.setIfInBounds_toArray, List.set_cons_zero, List.set_cons_succ])
              refine wpOrd_q (v := .slice (slA (some ⟨ba, oa, none⟩) y 2) (y - 2) (y - 2)) (by rfl) (fun W hW => exec_slice_lh 24 5 (.tmp 37) (.const (.int .i64 2)) (.tmp 38) rfl (some ⟨ba, oa, none⟩) 16 y 2 y .i64 .i64 (by rfl) (by rfl) (by rfl) Tryz.underlying24 (by kernel_rfl) (by omega) (by omega)) ?_
              try simp only [Act.put, List.setIfInBounds_toArray, List.set_cons_zero, List.set_cons_succ]
              refine wpOrd_q (v := .string e.name) (by rfl) (fun W hW => by rw [show Value.string e.name = .string (str (str0 e)) from by rw [str_name]]; exact exec_str 24 9 5 (.tmp 39) rfl _ _ _ (str0 e) _ (by rfl) Tryz.underlying24 Tryz.underlying5 Tryz.underlying9 (HRD.out.below (hW.mono HB.out.size))) ?_
              try simp only [Act.put, List.setIfInBounds_toArray, List.set_cons_zero, List.set_cons_succ]
              iterate 9 (refine wpOrd_q (v := ?_) (by rfl) (fun W hW => ?_) ?_; rotate_left; (focus ((obtain ⟨hWc, hWf⟩ := bcell hW; go_simp); try with_reducible rfl)); try simp only [Act.put, List.setIfInBounds_toArray, List.set_cons_zero, List.set_cons_succ])
              refine wpOrd_q (v := .int .u16 (e.num.toNat : Int)) (by rfl) (fun W hW => by go_simp; try exact hor) ?_
              try simp only [Act.put, List.setIfInBounds_toArray, List.set_cons_zero, List.set_cons_succ]
              iterate 1 (refine wpOrd_q (v := ?_) (by rfl) (fun W hW => ?_) ?_; rotate_left; (focus ((obtain ⟨hWc, hWf⟩ := bcell hW; go_simp); try with_reducible rfl)); try simp only [Act.put, List.setIfInBounds_toArray, List.set_cons_zero, List.set_cons_succ])
              refine wpOrd_x (by rfl) (fun KK hKK => ?_)
              go_simp
              refine hKK _ _ _ (fun _ h => h) ((Below.refl _ _).drew.alloc (Nat.le_refl _) _) ?_
              clear hKK KK
              try simp only [Act.put, List.setIfInBounds_toArray, List.set_cons_zero, List.set_cons_succ]
              refine wpOrd_x (by rfl) (fun KK hKK => ?_)
              go_simp
              refine hKK _ _ _ (fun _ h => h) ((Below.refl _ _).alloc (Nat.le_refl _) _).drew ?_
              clear hKK KK
              refine wpOrd_nil ?_
              refine at_world (fun W => ∃ q, q = wr.heap.size ∧ Below w.heap.size w W ∧ Blk W p 125 #[.string ⟨#[]⟩, .int .u16 0] ∧ Blk W q 125 #[.string e.name, .int .u16 (e.num.toNat : Int)]) ⟨_, rfl, (HB.out.alloc HB.out.size _).drew, (HP.out.alloc _).drew, (Blk.new _ _ _).drew⟩ (fun w3 h3 => ?_)
              obtain ⟨q, hq, hb3, hP3, hQ3⟩ := h3
              rw [← hq]
              have HB3 := hide hb3
              have HP3 := hide hP3
              have HQ3 := hide hQ3
              have q0 := hQ3.cell 0
              have q1 := hQ3.cell 1
              have ql := hQ3.lt
              clear hq hb3 hP3 hQ3 HRD HC1 HC b0 b1 hor e1 e2 e3 hlen
              rcases HG.out.1 with ⟨hz, hnm⟩ | ⟨hz, hnm⟩
              · have hz0 : e.num.toNat = 0 := by rw [hz]; rfl
                have hnm0 : e.name = ⟨#[]⟩ := by rw [← str_name e, hnm]; rfl
                have hk0 : y = 2 := by have := HG.out.2; rw [hnm0] at this; rw [← hy, ← this]; rfl
                exfalso; omega
              · have hz0 : e.num.toNat ≠ 0 := fun h0 => hz (UInt16.toNat_inj.1 h0)
                have t6 : ((e.num.toNat : Int) == 0) = false := by rw [beq_eq_false_iff_ne]; omega
                have t6' : ¬ (e.num.toNat : Int) = 0 := by omega
                go_wp2_with fail
                refine (dirname_ok e.name w3).mono ?_
                rintro _ _ ⟨rfl, rfl⟩
                rw [hnm]
                have HPQ := hide (below_setRow HB3.out HPW.out #[.string e.name, .int .u16 (e.num.toNat : Int)])
                go_wp2_with (first | ((with_reducible refine at_store 125 (.tmp 2) (.tmp 63) ?_); refine wpList_store_blk rfl 125 (.tmp 2) (.tmp 63) rfl p _ _ _ (by rfl) (by rfl) HP3.out (by exact size_ent) (by rfl) (by simp [Value.oneCell']) (fun hB4 => ?_)) | ((with_reducible refine at_end ?_); refine bodyPost_ret (v := .tuple #[.agg #[.string e.name, .int .u16 (e.num.toNat : Int)], .bool true]) (results_run2 rfl (ResV.row rfl hB4 Tryz.underlying125 rfl size_ent) rfl) rfl ⟨rfl, HPQ.out⟩) | fail)
end
end Go.Proofs.YthmkgohfeahdhaaGreat
namespace Go.Proofs.YthmkgohfeahdhaaGreat
open Go.RowKit
set_option linter.unusedSimpArgs false
set_option linter.unusedVariables false

/-- a directory's bytes -/
def pks (l : List EntV) : List UInt8 := l.flatMap packB
theorem pks_length : ∀ l : List EntV, (pks l).length = 16 * l.length
  | [] => rfl
  | e :: l => by
    have := pks_length l
    unfold pks at this ⊢
    rw [List.flatMap_cons, List.length_append, this, packB_length, List.length_cons]
    omega
theorem pks_piece : ∀ {l : List EntV} {k : Nat} {e : EntV}, l[k]? = some e → ((pks l).drop (16 * k)).take 16 = packB e
  | [], k, e, h => by simp at h
  | a :: l, 0, e, h => by
    obtain rfl : a = e := by simpa using h
    unfold pks
    rw [List.flatMap_cons, Nat.mul_zero, List.drop_zero, ← packB_length a, List.take_left']
    rw [packB_length]
  | a :: l, k + 1, e, h => by
    have h1 := pks_piece (l := l) (k := k) (e := e) (by simpa using h)
    unfold pks at h1 ⊢
    rw [List.flatMap_cons, show 16 * (k + 1) = (packB a).length + 16 * k from by rw [packB_length]; omega, List.drop_append, List.drop_eq_nil_of_le (by omega), List.nil_append, Nat.add_sub_cancel_left, h1]
theorem info_ent : ∃ i, Tryz.prog.info? 125 = some i ∧ i.zero = some (.agg #[.string ⟨#[]⟩, .int .u16 0]) ∧ i.size = 2 ∧ i.bytes = 24 := by
  have h : (Tryz.prog.info? 125).map (fun i => (i.zero, i.size, i.bytes)) = some (some (.agg #[.string ⟨#[]⟩, .int .u16 0]), 2, 24) := by kernel_rfl
  cases hi : Tryz.prog.info? 125 with
  | none => rw [hi] at h; cases h
  | some i =>
    rw [hi] at h
    simp only [Option.map_some, Option.some.injEq, Prod.mk.injEq] at h
    exact ⟨i, rfl, h.1, h.2.1, h.2.2⟩
section
variable {w w' : World} {i : Ids} {s : Sto} {gg : Nat} {g : GeoN} {lab : Int} {G : GS}
set_option maxRecDepth 100000 in
set_option maxHeartbeats 4000000 in
theorem dopen_ok {num sz : Nat} {l : List EntV} {κ : Nat → Nat} (h : GAt w i s gg g lab G) (h1 : 1 ≤ num) (h2 : num ≤ g.nodes) (hk : (G.nd num).kind = 2) (hl : (pks l).length = sz) (hsz : (G.nd num).size.toNat = sz)
    (hf : FileAt G g.blocks (G.nd num) (blks sz) κ sz (fun j => (pks l).getD j 0)) (hlen : sz ≤ 16384) (hg : ∀ e ∈ l, e.Good) :
    Calls Tryz.prog 119 #[.pointer (some ⟨gg, 0, none⟩), .int .i64 (num : Int)] w fun e w' => ∃ A c, e = .returned (.tuple #[.slice A l.length c, .int .i64 0]) ∧ w'.ownsRow w.heap.size 125 2 (.slice A l.length c) l.length (flat2 l) ∧ GAt w' i s gg g lab G ∧ Tch w.heap.size i.own w w' := by
  have hdir := h.gok.dir num
  have hnd := gs_node' h h1 h2
  obtain ⟨n0, hn0⟩ : ∃ n0, G.nd num = n0 := ⟨_, rfl⟩
  rw [hn0] at hnd hdir
  have H := hide h
  have HND := hide hnd
  have HN0 := hide hn0
  have HD := hide hdir
  have HK := hide (And.intro h1 (And.intro h2 (And.intro hk (And.intro hl hsz))))
  have HF := hide hf
  have HR := hide hg
  have HL := hide hlen
  clear h hnd hn0 hdir h1 h2 hk hl hf hg
  go_enter Tryz.func119, Tryz.ntmps119
  go_wp2_with fail
  refine HND.out.mono ?_
  rintro e w1 ⟨rfl, ha1, ht1⟩
  have HA1 := hide ha1
  have HT1 := hide ht1
  clear ha1 ht1 HND
  go_upto_region 2 with (first | ((with_reducible refine at_alloc 130 ?_); refine wpList_alloc_as rfl 130 rfl _ (zero_node _) ?_) | ((with_reducible refine at_store 130 (.tmp 6) (.tmp 17) ?_); refine wpList_store_blk rfl 130 (.tmp 6) (.tmp 17) rfl w1.heap.size _ _ _ (by rfl) (by rfl) (Blk.new _ _ _) (size_nodeOf HD.out) (by rw [List.size_toArray, List.size_toArray, NodeV.cells_length HD.out]; rfl) (NodeV.cells_one _) (fun _ => ?_)) | fail)
  refine at_world (fun W => ∃ q, q = w1.heap.size ∧ Below w1.heap.size w1 W ∧ Blk W q 130 n0.cells.toArray) ⟨_, rfl, below_setRow ((Below.refl _ _).alloc (Nat.le_refl _) _) (Nat.le_refl _) _, (Blk.new _ _ _).setRow_same _⟩ (fun w2 hw2 => ?_)
  obtain ⟨q, hq, hb2, hQ2⟩ := hw2
  rw [← hq]
  have HA2 := hide (HA1.out.below hb2)
  have HT2 := hide (HT1.out.trans ((Tch.of_below hb2).mono HT1.out.size fun _ _ h => h))
  have q0 := (hQ2.cell 0).trans (node_cells_at n0).1
  have q3 := (hQ2.cell 3).trans (node_cells_at n0).2.2.2
  have ql := hQ2.lt
  have hsz2 : n0.size.toNat = sz := by rw [← HN0.out]; exact HK.out.2.2.2.2
  rw [hsz2] at q3
  have hkd : (n0.kind.toNat : Int) = 2 := by rw [← HN0.out, HK.out.2.2.1]; rfl
  rw [hkd] at q0
  have e1 : IntKind.i64.wrap (sz : Int) = (sz : Int) := IntWalk.i64_in _ (by omega)
  have hrd := read_file (num := num) (off := 0) (many := sz) (en := sz) (c := blks sz) (sz := sz) (κ := κ) (f := fun j => (pks l).getD j 0) HA2.out HK.out.1 HK.out.2.1 (by rw [HK.out.2.2.1]; decide) HK.out.2.2.2.2 HF.out (by omega) (by omega) HL.out (by have := HL.out; omega)
  have hmap : (List.range sz).map (fun k => (pks l).getD (0 + k) 0) = pks l := by
    have hlen := HK.out.2.2.2.1
    apply List.ext_getElem?
    intro j
    rw [List.getElem?_map]
    by_cases hj : j < sz
    · rw [List.getElem?_range hj, List.getElem?_eq_getElem (by rw [hlen]; exact hj), Option.map_some, List.getD_eq_getElem?_getD, Nat.zero_add, List.getElem?_eq_getElem (by rw [hlen]; exact hj)]
      rfl
    · rw [List.getElem?_eq_none (by simpa using hj), List.getElem?_eq_none (by rw [hlen]; omega)]
      rfl
  rw [Nat.sub_zero, hmap, show ((0 : Nat) : Int) = 0 from rfl] at hrd
  have HRD := hide hrd
  clear hq hb2 hQ2 hsz2 hmap hrd hsz hlen hkd HA1 HT1
  go_wp2_with fail
  refine HRD.out.mono ?_
  rintro e w3 ⟨A3, c3, rfl, hr3, ha3, ht3, -, hc3, hown3⟩
  have HBT3 := hide (BT.of_own hown3)
  have HA3 := hide ha3
  have HT3 := hide (HT2.out.trans (ht3.mono HT2.out.size fun _ _ h => h))
  have HR3 := hide (And.intro hr3 hc3)
  clear hr3 ha3 ht3 hc3 hown3 HRD HA2 HT2 q0 q3 ql e1
  go_wp2_with fail
  obtain ⟨N, hN⟩ : ∃ N, l.length = N := ⟨_, rfl⟩
  have hszN : sz = 16 * N := by rw [← hN, ← pks_length, HK.out.2.2.2.1]
  have HN := hide hN
  have HSZ := hide hszN
  clear hN hszN
  go_loopg [9, 10, 11, 12] N (fun gh x9 x10 x11 x12 wr => ∃ (k : Nat) (Ao : Option Addr) (co : Nat), k ≤ N ∧ gh = N - k ∧ x9 = .slice Ao k co ∧ x10 = .int .i64 ((16 * k : Nat) : Int) ∧ Hid (GAt wr i s gg g lab G) ∧ Hid (Tch w.heap.size i.own w wr) ∧ Hid (Rd wr wr.heap.size 1 A3 sz (bvs (pks l)) ∧ sz ≤ c3) ∧ Hid (BT wr A3) ∧ Hid (wr.ownsRow w.heap.size 125 2 (.slice Ao k co) k (flat2 (l.take k))))
  case atStart => exact ⟨0, none, 0, Nat.zero_le _, rfl, rfl, rfl, HA3, HT3, HR3, HBT3, hide (World.ownsRow_nil _ _ _ _)⟩
  case round =>
    clear HA3 HT3 HR3 HBT3
    obtain ⟨k, Ao, co, hk, hgh, rfl, rfl, HA, HT, HB, HBT, HO⟩ := hrel
    have HGH := hide hgh
    have hLL := HL.out
    clear hgh
    obtain ⟨y, hy⟩ : ∃ y : Nat, 16 * k = y := ⟨_, rfl⟩
    rw [hy]
    rcases Nat.lt_or_ge k N with hkl | hkl
    · obtain ⟨e, he⟩ : ∃ e, l[k]? = some e := ⟨_, List.getElem?_eq_getElem (by rw [HN.out]; exact hkl)⟩
      have hysz : y + 16 ≤ sz := by have := HSZ.out; omega
      obtain ⟨ba, oa, rfl, hba, -⟩ := HB.out.1.byte (i := 0) (by omega)
      have hc3 := HB.out.2
      have hrd : Rd wr wr.heap.size 1 (some ⟨ba, oa + y, none⟩) 16 (bvs (packB e)) := by
        have h0 := HB.out.1.part HB.out.2 (lo := y) (hi := y + 16) (by omega) hysz
        rw [Nat.add_sub_cancel_left, ← hy, pks_piece he, hy] at h0
        unfold slA at h0
        rw [if_neg (by omega)] at h0
        simpa [Addr.add_mid] using h0
      have hup := unpack_good e (HR.out e (List.mem_of_getElem? he)) (c := c3 - y) (by omega) hrd
      have HUP := hide hup
      have HE := hide (And.intro he (HR.out e (List.mem_of_getElem? he)))
      have t1 : decide ((y : Int) < (sz : Int)) = true := by simp; omega
      have t1' : (y : Int) < (sz : Int) := by omega
      have e64 : IntKind.i64.wrap ((y : Int) + 16) = (y : Int) + 16 := IntWalk.i64_in _ (by omega)
      have hmin : min ((y : Int) + 16) (sz : Int) = (y : Int) + 16 := by omega
      have m1 : (y : Int) + 16 ≤ (sz : Int) := by omega
      have m2 : ¬ (sz : Int) < (y : Int) + 16 := by omega
      have m3 : (y : Int) + 16 ≤ (c3 : Int) := by omega
      have m4 : y < c3 := by omega
      have m5 : ¬ y = c3 := by omega
      have m6 : ¬ c3 = y := by omega
      clear hup hrd he hba
      have m7 : ((y : Int) + 16).toNat - y = 16 := by omega
      go_wp2_with fail
      refine HUP.out.mono ?_
      rintro _ w4 ⟨rfl, hb4⟩
      have HA4 := hide (HA.out.below hb4)
      have HT4 := hide (HT.out.trans ((Tch.of_below hb4).mono HT.out.size fun _ _ h => h))
      have HO4 := hide (own_below HO.out hb4)
      have HB4 := hide (And.intro ((HB.out.1.below hb4).more hb4.size) HB.out.2)
      have HBT4 := hide (HBT.out.below hb4)
      have hce : e.cells.toArray = #[.string e.name, .int .u16 (e.num.toNat : Int)] := rfl
      rw [hce]
      clear hb4 hce HUP HA HT HO HB HBT t1 t1' hmin m1 m2 m3 m4 m5 m6 m7
      go_upto_region 18 with (fail)
      refine at_world (fun W => ∃ z, z = w4.heap.size ∧ Below w4.heap.size w4 W ∧ Blk W z 125 #[.string e.name, .int .u16 (e.num.toNat : Int)]) ⟨_, rfl, (Below.refl _ _).alloc (Nat.le_refl _) _, Blk.new _ _ _⟩ (fun w5 h5 => ?_)
      obtain ⟨z, hz, hb5, hZ5⟩ := h5
      rw [← hz]
      have HZB := hide hZ5
      have HA5 := hide (HA4.out.below hb5)
      have HT5 := hide (HT4.out.trans ((Tch.of_below hb5).mono HT4.out.size fun _ _ h => h))
      have HO5 := hide (own_below HO4.out hb5)
      have HB5 := hide (And.intro ((HB4.out.1.below hb5).more hb5.size) HB4.out.2)
      have HBT5 := hide (HBT4.out.below hb5)
      clear hz hb5 hZ5 HA4 HT4 HO4 HB4 HBT4
      obtain ⟨j0, hj0, j1, j2, j3⟩ := info_ent
      have HJ := hide (And.intro hj0 (And.intro j1 (And.intro j2 j3)))
      have hone : ∀ u ∈ ([.string e.name, .int .u16 (e.num.toNat : Int)] : List Value), u.oneCell' = true := by simp [Value.oneCell']
      have HONE := hide hone
      have hk6 : k ≤ 1000000 := by have := HSZ.out; omega
      have hs5 := HT5.out.size
      clear hj0 j1 j2 j3 hone
      go_wp2_with (first | ((with_reducible refine at_load 125 (.tmp 11) ?_); refine wpList_load_blk rfl 125 (.tmp 11) rfl z _ _ _ (by rfl) HZB.out Tryz.underlying125 rfl (by exact size_ent) ?_) | (at_builtin; refine wpList_append_one rfl (.tmp 63) (.tmp 65) 60 rfl w.heap.size 125 j0 (.agg #[.string ⟨#[]⟩, .int .u16 0]) 2 24 Tryz.underlying60 HJ.out.1 HJ.out.2.1 HJ.out.2.2.1 HJ.out.2.2.2 rfl (by decide) Ao co k (flat2 (l.take k)) [.string e.name, .int .u16 (e.num.toNat : Int)] w5 rfl HO5.out rfl rfl rfl HONE.out hk6 (by decide) hs5 ?_; intro A9 c9 w6 hown9 hg9 hb9 hat9) | fail)
      have htg : Tch w5.heap.size (fun g => (Value.slice Ao k co).ownBlock = some g) w5 w6 := Tch.grown hg9 (Nat.le_refl _) (fun g hg _ => hg)
      have hown_ge : ∀ g, (Value.slice Ao k co).ownBlock = some g → w.heap.size ≤ g := fun g hg => (own_block_ge HO5.out hg).1
      have hav : ∀ (t : TypeId) g cur, t ≠ 125 → Blk w5 g t cur → ¬ (Value.slice Ao k co).ownBlock = some g := fun t g cur ht hB => row_not_blk HO5.out hB ht
      have hll := H.out.tx.log.log.lt
      have hgg := H.out.gp.lt
      have HA6 := hide (HA5.out.apart htg (fun g hg => ⟨fun ho => H.out.tx.other_new (hown_ge g hg) ho, by have := hown_ge g hg; omega, by have := hown_ge g hg; omega⟩))
      have HT6 := hide (HT5.out.trans (htg.mono HT5.out.size (fun g hk hg => by have := hown_ge g hg; omega)))
      have HB6 := hide (And.intro (HB5.out.1.keepT HBT5.out htg (fun g cur hB => hav _ g cur (by decide) hB)) HB5.out.2)
      have HBT6 := hide (HBT5.out.tch htg (fun g cur hB => hav _ g cur (by decide) hB))
      have hfl : flat2 (l.take k) ++ [.string e.name, .int .u16 (e.num.toNat : Int)] = flat2 (l.take (k + 1)) := by
        rw [List.take_add_one, HE.out.1]
        simp [flat2, EntV.cells]
      rw [hfl] at hown9
      have HO6 := hide hown9
      clear hown9 hg9 hb9 hat9 htg hown_ge hav hll hgg hfl HA5 HT5 HO5 HB5 HBT5
      go_roundg (N - (k + 1))
      case rel => exact ⟨k + 1, A9, c9, by omega, rfl, rfl, by rw [Nat.mul_add, hy]; first | rfl | go_num, HA6, HT6, HB6, HBT6, HO6⟩
      case measure => have := HGH.out; omega
    · have hkN : k = N := by omega
      have t1 : decide ((y : Int) < (sz : Int)) = false := by have := HSZ.out; simp; omega
      have t1' : ¬ (y : Int) < (sz : Int) := by have := HSZ.out; omega
      have HKN := hide hkN
      clear hkl hk hkN hLL
      go_wp2
      go_returns
      refine ⟨Ao, co, ?_, ?_, HA.out, HT.out⟩
      · have e1 := HN.out
        have e2 := HKN.out
        simp [e1, e2]
      · have h0 := HO.out
        rw [HKN.out, List.take_of_length_le (by rw [HN.out]; exact Nat.le_refl _)] at h0
        rw [HN.out]
        exact h0
end
end Go.Proofs.YthmkgohfeahdhaaGreat
namespace Go.Proofs.YthmkgohfeahdhaaGreat
open Go.RowKit
set_option linter.unusedSimpArgs false
set_option linter.unusedVariables false

/-- those that are there -/
def live (l : List EntV) : List EntV := l.filter fun e => decide (e.num ≠ 0)
theorem flat2_get : ∀ {L : List EntV} {k j : Nat} {n : EntV}, L[k]? = some n → j < 2 → (flat2 L)[k * 2 + j]? = n.cells[j]?
  | [], k, j, n, h, _ => by simp at h
  | a :: r, 0, j, n, h, hj => by
    obtain rfl : a = n := by simpa using h
    unfold flat2
    rw [List.flatMap_cons, Nat.zero_mul, Nat.zero_add, List.getElem?_append_left (by simp [EntV.cells]; omega)]
  | a :: r, k + 1, j, n, h, hj => by
    have := flat2_get (L := r) (k := k) (j := j) (n := n) (by simpa using h) hj
    unfold flat2 at this ⊢
    rw [List.flatMap_cons, List.getElem?_append_right (by simp [EntV.cells]; omega), ← this]
    congr 1
    simp [EntV.cells]; omega
theorem ent_range {w : World} {B n co : Nat} {Ao : Option Addr} {L : List EntV} (h : w.ownsRow B 125 2 (.slice Ao n co) n (flat2 L)) (hn : 0 < n) : ∃ g, Ao = some ⟨g, 0, none⟩ ∧ g < w.heap.size ∧ ∀ (k : Nat) (r : EntV), L[k]? = some r → w.rangeAt g (k * 2) r.cells := by
  obtain ⟨g, hA, _, hlt, hc⟩ := own_base h hn
  refine ⟨g, hA, hlt, fun k r hk j v hj => ?_⟩
  have hj2 : j < 2 := by have := (List.getElem?_eq_some_iff.1 hj).1; simpa [EntV.cells] using this
  have := flat2_get hk hj2
  exact hc _ _ (this.trans hj)
theorem live_snoc (l : List EntV) (k : Nat) {e : EntV} (he : l[k]? = some e) : live (l.take (k + 1)) = if e.num = 0 then live (l.take k) else live (l.take k) ++ [e] := by
  unfold live
  rw [List.take_add_one, he, List.filter_append]
  by_cases h : e.num = 0
  · simp [h]
  · simp [h]
section
variable {w w' : World} {i : Ids} {s : Sto} {gg : Nat} {g : GeoN} {lab : Int} {G : GS}
set_option maxRecDepth 100000 in
set_option maxHeartbeats 4000000 in
theorem dlist_ok {num : Nat} {l : List EntV} (h : GAt w i s gg g lab G) (hln : l.length ≤ 1024)
    (hop : ∀ W, GAt W i s gg g lab G → Calls Tryz.prog 119 #[.pointer (some ⟨gg, 0, none⟩), .int .i64 (num : Int)] W fun e w' => ∃ A c, e = .returned (.tuple #[.slice A l.length c, .int .i64 0]) ∧ w'.ownsRow W.heap.size 125 2 (.slice A l.length c) l.length (flat2 l) ∧ GAt w' i s gg g lab G ∧ Tch W.heap.size i.own W w') :
    Calls Tryz.prog 63 #[.pointer (some ⟨gg, 0, none⟩), .int .i64 (num : Int)] w fun e w' => ∃ A c, e = .returned (.tuple #[.slice A (live l).length c, .int .i64 0]) ∧ w'.ownsRow w.heap.size 125 2 (.slice A (live l).length c) (live l).length (flat2 (live l)) ∧ GAt w' i s gg g lab G ∧ Tch w.heap.size i.own w w' := by
  have H := hide h
  have HOP := hide hop
  have HLN := hide hln
  clear h hop hln
  go_enter Tryz.func63, Tryz.ntmps63
  go_wp2_with fail
  refine (HOP.out w H.out).mono ?_
  rintro e w1 ⟨A, c, rfl, hown, ha1, ht1⟩
  obtain ⟨N, hN⟩ : ∃ N, l.length = N := ⟨_, rfl⟩
  have HN := hide hN
  rw [hN] at hown ⊢
  have HO1 := hide hown
  have HA1 := hide ha1
  have HT1 := hide ht1
  clear hown ha1 ht1 hN
  go_wp2_with fail
  have hw1 := HT1.out.size
  have HW1 := hide hw1
  clear hw1
  go_loopg [8, 10, 22] N (fun gh x8 x10 x22 wr => ∃ (k m : Nat) (Ao : Option Addr) (co : Nat), k ≤ N ∧ gh = N - k ∧ x8 = .slice Ao m co ∧ x22 = .int .i64 (k : Int) ∧ Hid ((live (l.take k)).length = m) ∧ Hid (GAt wr i s gg g lab G) ∧ Hid (Tch w.heap.size i.own w wr) ∧ Hid (wr.ownsRow w.heap.size 125 2 (.slice A N c) N (flat2 l)) ∧ Hid (∀ b, (Value.slice A N c).ownBlock = some b → b < w1.heap.size) ∧ Hid (w1.heap.size ≤ wr.heap.size ∧ wr.ownsRow w1.heap.size 125 2 (.slice Ao m co) m (flat2 (live (l.take k)))))
  case atStart => exact ⟨0, 0, none, 0, Nat.zero_le _, rfl, rfl, rfl, hide (by simp [live]), HA1, HT1, HO1, hide (fun b hb => (own_block_ge HO1.out hb).2), hide ⟨Nat.le_refl _, World.ownsRow_nil _ _ _ _⟩⟩
  case round =>
    obtain ⟨k, m, Ao, co, hk, hgh, rfl, rfl, HM, HA, HT, HO, HBB, HS⟩ := hrel
    have HGH := hide hgh
    have hln := HLN.out
    have hnn := HN.out
    clear hgh
    rcases Nat.lt_or_ge k N with hkl | hkl
    · obtain ⟨e, he⟩ : ∃ e, l[k]? = some e := ⟨_, List.getElem?_eq_getElem (by omega)⟩
      obtain ⟨ga, rfl, hga, hrg⟩ := ent_range HO.out (by omega)
      have hrg' : wr.rangeAt ga (k * 2) [.string e.name, .int .u16 (e.num.toNat : Int)] := hrg k e he
      have HRG := hide hrg'
      have HE := hide he
      have t1 : decide ((k : Int) < (N : Int)) = true := by simp; omega
      have t1' : (k : Int) < (N : Int) := by omega
      have e64 : IntKind.i64.wrap ((k : Int) + 1) = (k : Int) + 1 := IntWalk.i64_in _ (by omega)
      have hsz : (Tryz.prog.info? 125).map (·.size) = some ([Value.string e.name, .int .u16 (e.num.toNat : Int)] : List Value).length := size_ent
      have HSZ := hide hsz
      clear hrg hrg' he hsz hln hnn
      go_upto_region 8 with (first | ((with_reducible refine at_load 125 (.tmp 24) ?_); refine wpList_load_mid rfl 125 (.tmp 24) rfl ga (k * 2) (by rfl) [.string e.name, .int .u16 (e.num.toNat : Int)] _ HRG.out Tryz.underlying125 rfl HSZ.out ?_) | fail)
      refine at_world (fun W => ∃ z, z = wr.heap.size ∧ Below wr.heap.size wr W ∧ Blk W z 125 #[.string e.name, .int .u16 (e.num.toNat : Int)]) ⟨_, rfl, (Below.refl _ _).alloc (Nat.le_refl _) _, Blk.new _ _ _⟩ (fun w5 h5 => ?_)
      obtain ⟨z, hz, hb5, hZ5⟩ := h5
      rw [← hz]
      have HZB := hide hZ5
      have HA5 := hide (HA.out.below hb5)
      have HT5 := hide (HT.out.trans ((Tch.of_below hb5).mono HT.out.size fun _ _ h => h))
      have HO5 := hide (own_below HO.out hb5)
      have HS5 := hide (And.intro (Nat.le_trans HS.out.1 hb5.size) (own_below HS.out.2 hb5))
      have z1 := hZ5.cell 1
      have zl := hZ5.lt
      clear hz hb5 hZ5 HA HT HO HS HRG
      have hls := live_snoc l k HE.out
      by_cases hz : e.num = 0
      · rw [if_pos hz] at hls
        have hn0 : e.num.toNat = 0 := by rw [hz]; rfl
        have t2 : decide ((0 : Int) < (e.num.toNat : Int)) = false := by simp; omega
        have HLS := hide hls
        clear hls
        go_wp2_with fail
        go_roundg (N - (k + 1))
        case rel => exact ⟨k + 1, m, Ao, co, by omega, rfl, rfl, by first | rfl | go_num, hide (by rw [HLS.out]; exact HM.out), HA5, HT5, HO5, HBB, hide (by rw [HLS.out]; exact HS5.out)⟩
        case measure => have := HGH.out; omega
      · rw [if_neg hz] at hls
        have hn0 : e.num.toNat ≠ 0 := fun h0 => hz (UInt16.toNat_inj.1 h0)
        have t2 : decide ((0 : Int) < (e.num.toNat : Int)) = true := by simp; omega
        have t2' : (0 : Int) < (e.num.toNat : Int) := by omega
        have HLS := hide hls
        obtain ⟨j0, hj0, j1, j2, j3⟩ := info_ent
        have HJ := hide (And.intro hj0 (And.intro j1 (And.intro j2 j3)))
        have hone : ∀ u ∈ ([.string e.name, .int .u16 (e.num.toNat : Int)] : List Value), u.oneCell' = true := by simp [Value.oneCell']
        have HONE := hide hone
        have hmk : m ≤ 1000000 := by
          have h1 := HM.out
          have h2 : (live (l.take k)).length ≤ (l.take k).length := List.length_filter_le _ _
          rw [List.length_take] at h2
          have := HLN.out
          omega
        clear hls hj0 j1 j2 j3 hone
        go_wp2_with (first | ((with_reducible refine at_load 125 (.tmp 10) ?_); refine wpList_load_blk rfl 125 (.tmp 10) rfl z _ _ _ (by rfl) HZB.out Tryz.underlying125 rfl (by exact size_ent) ?_) | (at_builtin; refine wpList_append_one rfl (.tmp 29) (.tmp 31) 60 rfl w1.heap.size 125 j0 (.agg #[.string ⟨#[]⟩, .int .u16 0]) 2 24 Tryz.underlying60 HJ.out.1 HJ.out.2.1 HJ.out.2.2.1 HJ.out.2.2.2 rfl (by decide) Ao co m (flat2 (live (l.take k))) [.string e.name, .int .u16 (e.num.toNat : Int)] w5 rfl HS5.out.2 rfl rfl rfl HONE.out hmk (by decide) HS5.out.1 ?_; intro A9 c9 w6 hown9 hg9 hb9 hat9) | fail)
        have htg : Tch w5.heap.size (fun g => (Value.slice Ao m co).ownBlock = some g) w5 w6 := Tch.grown hg9 (Nat.le_refl _) (fun g hg _ => hg)
        have hown_ge : ∀ g, (Value.slice Ao m co).ownBlock = some g → w1.heap.size ≤ g := fun g hg => (own_block_ge HS5.out.2 hg).1
        have hll := H.out.tx.log.log.lt
        have hgg := H.out.gp.lt
        have hw1 := HW1.out
        have HA6 := hide (HA5.out.apart htg (fun g hg => ⟨fun ho => H.out.tx.other_new (Nat.le_trans hw1 (hown_ge g hg)) ho, by have := hown_ge g hg; omega, by have := hown_ge g hg; omega⟩))
        have HT6 := hide (HT5.out.trans (htg.mono HT5.out.size (fun g hk hg => by have := hown_ge g hg; omega)))
        have HO6 := hide (own_keep HO5.out fun b hb => htg.block b (own_block_ge HO5.out hb).2 (fun hg => by have := hown_ge b hg; have := HBB.out b hb; omega))
        have hfl : flat2 (live (l.take k)) ++ [.string e.name, .int .u16 (e.num.toNat : Int)] = flat2 (live (l.take (k + 1))) := by
          rw [HLS.out]
          simp [flat2, EntV.cells]
        rw [hfl] at hown9
        have HS6 := hide (And.intro (Nat.le_trans HS5.out.1 htg.size) hown9)
        clear hown9 hg9 hb9 hat9 htg hown_ge hll hgg hw1 hfl HA5 HT5 HO5 HS5
        go_roundg (N - (k + 1))
        case rel => exact ⟨k + 1, m + 1, A9, c9, by omega, rfl, rfl, by first | rfl | go_num, hide (by rw [HLS.out, List.length_append, HM.out]; rfl), HA6, HT6, HO6, HBB, HS6⟩
        case measure => have := HGH.out; omega
    · have hkN : k = N := by omega
      have t1 : decide ((k : Int) < (N : Int)) = false := by simp; omega
      have t1' : ¬ (k : Int) < (N : Int) := by omega
      have htk : l.take k = l := List.take_of_length_le (by omega)
      have HF := hide (And.intro HM.out (own_mono HS.out.2 HW1.out))
      rw [htk] at HF
      clear hkl hk hkN htk hln hnn
      go_wp2
      go_returns
      refine ⟨Ao, co, ?_, ?_, HA.out, HT.out⟩
      · have e1 := HF.out.1
        simp [e1]
      · rw [HF.out.1]
        exact HF.out.2
end
end Go.Proofs.YthmkgohfeahdhaaGreat
namespace Go.Proofs.YthmkgohfeahdhaaGreat
open Go.RowKit
set_option linter.unusedSimpArgs false
set_option linter.unusedVariables false

section
variable {w w' : World} {i : Ids} {s : Sto} {gg : Nat} {g : GeoN} {lab : Int} {G : GS}
/-- what dir.List says -/
def ListsTo (i : Ids) (s : Sto) (gg : Nat) (g : GeoN) (lab : Int) (G : GS) (num : Nat) (l : List EntV) : Prop :=
  ∀ W, GAt W i s gg g lab G → Calls Tryz.prog 63 #[.pointer (some ⟨gg, 0, none⟩), .int .i64 (num : Int)] W fun e w' => ∃ A c, e = .returned (.tuple #[.slice A l.length c, .int .i64 0]) ∧ w'.ownsRow W.heap.size 125 2 (.slice A l.length c) l.length (flat2 l) ∧ GAt w' i s gg g lab G ∧ Tch W.heap.size i.own W w'
end
end Go.Proofs.YthmkgohfeahdhaaGreat
namespace Go.Proofs.YthmkgohfeahdhaaGreat
open Go.RowKit
set_option linter.unusedSimpArgs false
set_option linter.unusedVariables false

section
variable {w w' : World} {i : Ids} {s : Sto} {gg : Nat} {g : GeoN} {lab : Int} {G : GS}
set_option maxRecDepth 100000 in
set_option maxHeartbeats 2000000 in
theorem dopen_not {num : Nat} (h : GAt w i s gg g lab G) (h1 : 1 ≤ num) (h2 : num ≤ g.nodes) (hk : (G.nd num).kind ≠ 2) :
    Calls Tryz.prog 119 #[.pointer (some ⟨gg, 0, none⟩), .int .i64 (num : Int)] w fun e w' => e = .returned (.tuple #[.slice none 0 0, .int .i64 (if (G.nd num).kind = 0 then 14 else 5)]) ∧ GAt w' i s gg g lab G ∧ Tch w.heap.size i.own w w' := by
  have hdir := h.gok.dir num
  have hnd := gs_node' h h1 h2
  obtain ⟨n0, hn0⟩ : ∃ n0, G.nd num = n0 := ⟨_, rfl⟩
  rw [hn0] at hnd hdir hk ⊢
  have H := hide h
  have HND := hide hnd
  have HD := hide hdir
  have hk2 : ((n0.kind.toNat : Int) == 2) = false := by
    rw [beq_eq_false_iff_ne]
    intro h0
    exact hk (UInt8.toNat_inj.1 (by show _ = 2; omega))
  have hk2' : ¬ (n0.kind.toNat : Int) = 2 := by simpa using hk2
  clear h hnd hn0 hdir h1 h2
  go_enter Tryz.func119, Tryz.ntmps119
  go_wp2_with fail
  refine HND.out.mono ?_
  rintro e w1 ⟨rfl, ha1, ht1⟩
  have HA1 := hide ha1
  have HT1 := hide ht1
  clear ha1 ht1 HND
  go_upto_region 2 with (first | ((with_reducible refine at_alloc 130 ?_); refine wpList_alloc_as rfl 130 rfl _ (zero_node _) ?_) | ((with_reducible refine at_store 130 (.tmp 6) (.tmp 17) ?_); refine wpList_store_blk rfl 130 (.tmp 6) (.tmp 17) rfl w1.heap.size _ _ _ (by rfl) (by rfl) (Blk.new _ _ _) (size_nodeOf HD.out) (by rw [List.size_toArray, List.size_toArray, NodeV.cells_length HD.out]; rfl) (NodeV.cells_one _) (fun _ => ?_)) | fail)
  refine at_world (fun W => ∃ q, q = w1.heap.size ∧ Below w1.heap.size w1 W ∧ Blk W q 130 n0.cells.toArray) ⟨_, rfl, below_setRow ((Below.refl _ _).alloc (Nat.le_refl _) _) (Nat.le_refl _) _, (Blk.new _ _ _).setRow_same _⟩ (fun w2 hw2 => ?_)
  obtain ⟨q, hq, hb2, hQ2⟩ := hw2
  rw [← hq]
  have HA2 := hide (HA1.out.below hb2)
  have HT2 := hide (HT1.out.trans ((Tch.of_below hb2).mono HT1.out.size fun _ _ h => h))
  have q0 := (hQ2.cell 0).trans (node_cells_at n0).1
  have ql := hQ2.lt
  clear hq hb2 hQ2 HA1 HT1
  by_cases h0 : n0.kind = 0
  · rw [h0] at q0
    go_wp2_with fail
    go_returns
    exact ⟨by simp [h0], HA2.out, HT2.out⟩
  · have hk0 : ((n0.kind.toNat : Int) == 0) = false := by
      rw [beq_eq_false_iff_ne]
      intro h1
      exact h0 (UInt8.toNat_inj.1 (by show _ = 0; omega))
    have hk0' : ¬ (n0.kind.toNat : Int) = 0 := by simpa using hk0
    go_wp2_with fail
    go_returns
    exact ⟨by simp [h0], HA2.out, HT2.out⟩
set_option maxRecDepth 100000 in
set_option maxHeartbeats 2000000 in
theorem dopen_bad {p : Option Addr} {num x : Int} {R : World → Prop} (hx : x ≠ 0) (hn : Calls Tryz.prog 56 #[.pointer p, .int .i64 num] w fun e w' => e = .returned (.tuple #[NodeV.zero.val, .int .i64 x]) ∧ R w') :
    Calls Tryz.prog 119 #[.pointer p, .int .i64 num] w fun e w' => e = .returned (.tuple #[.slice none 0 0, .int .i64 x]) ∧ ∃ w1, R w1 ∧ Below w1.heap.size w1 w' := by
  have HN := hide hn
  have hx1 : (x == 0) = false := by rw [beq_eq_false_iff_ne]; exact hx
  clear hn
  go_enter Tryz.func119, Tryz.ntmps119
  go_wp2_with fail
  refine HN.out.mono ?_
  rintro e w1 ⟨rfl, hr⟩
  have HR := hide hr
  clear hr HN
  go_upto_region 2 with (first | ((with_reducible refine at_alloc 130 ?_); refine wpList_alloc_as rfl 130 rfl _ (zero_node _) ?_) | ((with_reducible refine at_store 130 (.tmp 6) (.tmp 17) ?_); refine wpList_store_blk rfl 130 (.tmp 6) (.tmp 17) rfl w1.heap.size _ _ _ (by rfl) (by rfl) (Blk.new _ _ _) (size_nodeOf (n := NodeV.zero) rfl) rfl (NodeV.cells_one _) (fun _ => ?_)) | fail)
  refine at_world (fun W => Below w1.heap.size w1 W) (below_setRow ((Below.refl _ _).alloc (Nat.le_refl _) _) (Nat.le_refl _) _) (fun w2 hb2 => ?_)
  have HB2 := hide hb2
  clear hb2
  go_wp2_with fail
  go_returns
  exact ⟨rfl, w1, HR.out, HB2.out⟩
set_option maxRecDepth 100000 in
set_option maxHeartbeats 1000000 in
theorem dlist_bad {p : Option Addr} {num x : Int} {R : World → Prop} (hx : x ≠ 0) (hR : ∀ w1 w2, R w1 → Below w1.heap.size w1 w2 → R w2) (hn : ∀ W, Below w.heap.size w W → Calls Tryz.prog 119 #[.pointer p, .int .i64 num] W fun e w' => e = .returned (.tuple #[.slice none 0 0, .int .i64 x]) ∧ R w') :
    Calls Tryz.prog 63 #[.pointer p, .int .i64 num] w fun e w' => e = .returned (.tuple #[.slice none 0 0, .int .i64 x]) ∧ R w' := by
  have HN := hide hn
  have HRR := hide hR
  have hx1 : (x == 0) = false := by rw [beq_eq_false_iff_ne]; exact hx
  have hx2 : ¬ x = 0 := hx
  clear hn hR
  go_enter Tryz.func63, Tryz.ntmps63
  go_wp2_with fail
  refine (HN.out _ (Below.refl _ _)).mono ?_
  rintro e w1 ⟨rfl, hr⟩
  have HR := hide hr
  clear hr HN
  go_wp2_with fail
  go_returns
  exact ⟨rfl, HR.out⟩
set_option maxRecDepth 100000 in
set_option maxHeartbeats 1000000 in
theorem dempty_bad {p : Option Addr} {num x : Int} {R : World → Prop} (hx : x ≠ 0) (hR : ∀ w1 w2, R w1 → Below w1.heap.size w1 w2 → R w2) (hn : ∀ W, Below w.heap.size w W → Calls Tryz.prog 63 #[.pointer p, .int .i64 num] W fun e w' => e = .returned (.tuple #[.slice none 0 0, .int .i64 x]) ∧ R w') :
    Calls Tryz.prog 65 #[.pointer p, .int .i64 num] w fun e w' => e = .returned (.tuple #[.bool false, .int .i64 x]) ∧ R w' := by
  have HN := hide hn
  have HRR := hide hR
  have hx1 : (x == 0) = false := by rw [beq_eq_false_iff_ne]; exact hx
  have hx2 : ¬ x = 0 := hx
  clear hn hR
  go_enter Tryz.func65, Tryz.ntmps65
  go_wp2_with fail
  refine (HN.out _ (Below.refl _ _)).mono ?_
  rintro e w1 ⟨rfl, hr⟩
  have HR := hide hr
  clear hr HN
  go_wp2_with fail
  go_returns
  exact ⟨rfl, HR.out⟩
set_option maxRecDepth 100000 in
set_option maxHeartbeats 1000000 in
theorem dfind_bad {p : Option Addr} {num x : Int} {R : World → Prop} {nm : ByteArray} (hx : x ≠ 0) (hR : ∀ w1 w2, R w1 → Below w1.heap.size w1 w2 → R w2) (hn : ∀ W, Below w.heap.size w W → Calls Tryz.prog 63 #[.pointer p, .int .i64 num] W fun e w' => e = .returned (.tuple #[.slice none 0 0, .int .i64 x]) ∧ R w') :
    Calls Tryz.prog 54 #[.pointer p, .int .i64 num, .string nm] w fun e w' => e = .returned (.tuple #[.int .i64 0, .int .i64 x]) ∧ R w' := by
  have HN := hide hn
  have HRR := hide hR
  have hx1 : (x == 0) = false := by rw [beq_eq_false_iff_ne]; exact hx
  have hx2 : ¬ x = 0 := hx
  clear hn hR
  go_enter Tryz.func54, Tryz.ntmps54
  go_wp2_with fail
  refine (HN.out _ (Below.refl _ _)).mono ?_
  rintro e w1 ⟨rfl, hr⟩
  have HR := hide hr
  clear hr HN
  go_wp2_with fail
  go_returns
  exact ⟨rfl, HR.out⟩
set_option maxRecDepth 100000 in
set_option maxHeartbeats 1000000 in
theorem ddrop_bad {p : Option Addr} {num x : Int} {R : World → Prop} {nm : ByteArray} (hx : x ≠ 0) (hR : ∀ w1 w2, R w1 → Below w1.heap.size w1 w2 → R w2) (hn : ∀ W, Below w.heap.size w W → Calls Tryz.prog 119 #[.pointer p, .int .i64 num] W fun e w' => e = .returned (.tuple #[.slice none 0 0, .int .i64 x]) ∧ R w') :
    Calls Tryz.prog 55 #[.pointer p, .int .i64 num, .string nm] w fun e w' => e = .returned (.int .i64 x) ∧ R w' := by
  have HN := hide hn
  have HRR := hide hR
  have hx1 : (x == 0) = false := by rw [beq_eq_false_iff_ne]; exact hx
  have hx2 : ¬ x = 0 := hx
  clear hn hR
  go_enter Tryz.func55, Tryz.ntmps55
  go_wp2_with fail
  refine (HN.out _ (Below.refl _ _)).mono ?_
  rintro e w1 ⟨rfl, hr⟩
  have HR := hide hr
  clear hr HN
  go_wp2_with fail
  go_returns
  exact ⟨rfl, HR.out⟩
set_option maxRecDepth 100000 in
set_option maxHeartbeats 1000000 in
theorem dadd_bad {p : Option Addr} {num x : Int} {R : World → Prop} {nm : ByteArray} {v : Int} (hx : x ≠ 0) (hR : ∀ w1 w2, R w1 → Below w1.heap.size w1 w2 → R w2) (hn : ∀ W, Below w.heap.size w W → Calls Tryz.prog 119 #[.pointer p, .int .i64 num] W fun e w' => e = .returned (.tuple #[.slice none 0 0, .int .i64 x]) ∧ R w') :
    Calls Tryz.prog 53 #[.pointer p, .int .i64 num, .agg #[.string nm, .int .u16 v]] w fun e w' => e = .returned (.int .i64 x) ∧ R w' := by
  have HN := hide hn
  have HRR := hide hR
  have hx1 : (x == 0) = false := by rw [beq_eq_false_iff_ne]; exact hx
  have hx2 : ¬ x = 0 := hx
  clear hn hR
  go_enter Tryz.func53, Tryz.ntmps53
  go_wp2_with fail
  refine (HN.out _ ((Below.refl _ _).alloc (Nat.le_refl _) _)).mono ?_
  rintro e w1 ⟨rfl, hr⟩
  have HR := hide hr
  clear hr HN
  go_wp2_with fail
  go_returns
  exact ⟨rfl, HR.out⟩
set_option maxRecDepth 100000 in
set_option maxHeartbeats 1000000 in
theorem dturn_bad {p : Option Addr} {num x : Int} {R : World → Prop} {nm : ByteArray} {v : Int} (hx : x ≠ 0) (hR : ∀ w1 w2, R w1 → Below w1.heap.size w1 w2 → R w2) (hn : ∀ W, Below w.heap.size w W → Calls Tryz.prog 119 #[.pointer p, .int .i64 num] W fun e w' => e = .returned (.tuple #[.slice none 0 0, .int .i64 x]) ∧ R w') :
    Calls Tryz.prog 59 #[.pointer p, .int .i64 num, .agg #[.string nm, .int .u16 v]] w fun e w' => e = .returned (.int .i64 x) ∧ R w' := by
  have HN := hide hn
  have HRR := hide hR
  have hx1 : (x == 0) = false := by rw [beq_eq_false_iff_ne]; exact hx
  have hx2 : ¬ x = 0 := hx
  clear hn hR
  go_enter Tryz.func59, Tryz.ntmps59
  go_wp2_with fail
  refine (HN.out _ ((Below.refl _ _).alloc (Nat.le_refl _) _)).mono ?_
  rintro e w1 ⟨rfl, hr⟩
  have HR := hide hr
  clear hr HN
  go_wp2_with fail
  go_returns
  exact ⟨rfl, HR.out⟩
end
end Go.Proofs.YthmkgohfeahdhaaGreat

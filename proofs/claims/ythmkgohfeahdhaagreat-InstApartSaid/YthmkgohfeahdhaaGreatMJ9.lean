/- Files: Cut: walked. The document's groups: how they lie in memory, how much they take. The document's groups: what they take; bytes written, cut: walked. The document's groups: made, written into, cut: walked. The fixed facts of layer 7's laws: walked. A fresh disk of a configuration: walked. The fixed facts of layer 8's laws, their bytes: walked. A group's records: one more, all of them, one of them: walked. A group's records: all of them, one of them: walked. What comes in, opened: bytes, numbers. No program in sight. What comes in, opened: sizes of configurations, small numbers. No program in sight. A directory's acts that came in, opened. Paths, the plain layer: what a text is as a part and as a path. No program in sight. A directory's names: walked (as for the paths). A directory's entries as bytes: walked. A directory's entries from bytes: walked. A directory's places: walked. -/
import Derived.Test.YthmkgohfeahdhaaGreatMJ1
import Derived.Test.YthmkgohfeahdhaaGreatMJ2
import Derived.Test.YthmkgohfeahdhaaGreatMJ3
import Derived.Test.YthmkgohfeahdhaaGreatMJ4
import Derived.Test.YthmkgohfeahdhaaGreatMJ5
import Derived.Test.YthmkgohfeahdhaaGreatMJ6
import Derived.Test.YthmkgohfeahdhaaGreatMJ7
import Derived.Test.YthmkgohfeahdhaaGreatMJ8
import Derived.WalkKit
import Derived.WalkSpells
import Derived.WalkLawsBesides
import Derived.Maps.AppendAt
import Derived.Deep.Draws
import Derived.Lib.SlBytesConst
import Derived.Test.YthmkgohfeahdhaaGreatProg
import Derived.Deep.RegionHeld3
import Derived.Deep.RegionLaw
import Derived.Deep.QuietTactic
import Derived.BigQuiet
import Derived.Handy
import Derived.Deep.LoopGhost
import Derived.Deep.Cut
import Derived.Deep.CutRange
import Derived.Lib.IndexBytes
import Derived.StringKeys
import Derived.Laws.Tables
import Derived.Laws.Rows
import Derived.Deep.CutBlock
import Derived.Sort.OwnSortedInts
import Derived.DeepKeys
import Derived.Great.FillDense
import Derived.Laws.CopyRow
import Derived.Deep.MidRow
import Derived.OwnWalk
import Derived.Shelf.Small.Bits
import Derived.Shelf.Small.Wraps
import Derived.Shelf.Strconv.Itoa0
import Derived.Shelf.Sort.Plain
import Derived.Ground.Names2Prog
import Derived.Shelf.Slices.SearchI
import Derived.Shelf.Slices.In.SortNone
import Derived.Maps.Keyed
import Derived.DeepKeys4
import Derived.Carry
import Derived.Maps.RangeWalk
import Derived.ProofKit
import Derived.OpenShut
import Derived.Lib.SmallJoins
import Derived.Deep.Slices
import Derived.Deep.Strs
import Derived.Handed
import Derived.Deep.Fields
import Derived.Lib.SplitLaws
import Derived.Lib.BufferWrite
namespace Go.Proofs.YthmkgohfeahdhaaGreat
open Go.RowKit
set_option linter.unusedSimpArgs false
set_option linter.unusedVariables false

/-- a block's bytes behind a place are noughts -/
def wipeB (b : BlkV) (r : Nat) : BlkV := b.take r ++ List.replicate (64 - r) 0
theorem wipeB_length {b : BlkV} (hb : b.length = 64) {r : Nat} (hr : r ≤ 64) : (wipeB b r).length = 64 := by
  unfold wipeB
  rw [List.length_append, List.length_take, List.length_replicate]
  omega
theorem wipeB_getD {b : BlkV} (hb : b.length = 64) {r j : Nat} (hj : j < r) (hr : r ≤ 64) : (wipeB b r).getD j 0 = b.getD j 0 := by
  unfold wipeB
  rw [List.getD_eq_getElem?_getD, List.getD_eq_getElem?_getD, List.getElem?_append_left (by rw [List.length_take]; omega), List.getElem?_take, if_pos hj]
theorem Del.trans {G0 G1 G2 : GS} {m : Nat} {n0 n1 n2 : NodeV} {p0 p1 p2 : Nat → Bool} {κ : Nat → Nat} {d d' : Nat} (h : Del G0 G1 m n0 n1 p0 p1 κ d) (h' : Del G1 G2 m n1 n2 p1 p2 κ d') : Del G0 G2 m n0 n2 p0 p2 κ (d + d') where
  tree := h'.tree
  ok := h'.ok
  nd := h'.nd.trans h.nd
  same := h.same.trans h'.same
  sub k hk := h.sub k (h'.sub k hk)
  by_ x hx := (h'.by_ x fun k hk => hx k (h.sub k hk)).trans (h.by_ x hx)
  tk x hx := (h'.tk x fun k hk => hx k (h.sub k hk)).trans (h.tk x hx)
  cnt := by have := h.cnt; have := h'.cnt; omega
/-- which blocks may be written when a file is cut -/
def cutL (g : GeoN) (K0 : List Nat) (c b : Nat) (κ : Nat → Nat) : List Nat := K0 ++ g.base :: (([256, 257, 258, 259, 260, 261, 262, 263, 264].filter (prOf c)).map fun k => g.data + κ k) ++ [g.data + κ b]
theorem cutL_length (g : GeoN) (K0 : List Nat) (c b : Nat) (κ : Nat → Nat) : (cutL g K0 c b κ).length ≤ K0.length + (if c ≤ 6 then 2 else if c ≤ 38 then 3 else 11) := by
  unfold cutL
  rw [List.length_append, List.length_append, List.length_cons, List.length_map, List.length_singleton]
  have h9 := List.length_filter_le (prOf c) [256, 257, 258, 259, 260, 261, 262, 263, 264]
  by_cases h6 : c ≤ 6
  · rw [if_pos h6]
    have : [256, 257, 258, 259, 260, 261, 262, 263, 264].filter (prOf c) = [] := by
      rw [List.filter_eq_nil_iff]
      intro x hx
      have : ¬ prOf c x = true := by
        rw [prOf_true]
        simp only [List.mem_cons, List.not_mem_nil, or_false] at hx
        omega
      exact this
    rw [this]
    simp
  · rw [if_neg h6]
    by_cases h38 : c ≤ 38
    · rw [if_pos h38]
      have : [256, 257, 258, 259, 260, 261, 262, 263, 264].filter (prOf c) = [256] := by
        have h1 : prOf c 256 = true := prOf_true.2 (by omega)
        have h2 : ∀ x ∈ [257, 258, 259, 260, 261, 262, 263, 264], ¬ prOf c x = true := fun x hx => by
          rw [prOf_true]
          simp only [List.mem_cons, List.not_mem_nil, or_false] at hx
          omega
        rw [List.filter_cons, if_pos h1, List.filter_eq_nil_iff.2 h2]
      rw [this]
      simp
    · rw [if_neg h38]
      simp only [List.length_cons, List.length_nil] at h9 ⊢
      omega
theorem cutL_key (g : GeoN) (K0 : List Nat) (c b : Nat) (κ : Nat → Nat) {k : Nat} (h1 : 256 ≤ k) (h2 : prOf c k = true) (hc : c ≤ 256) : g.data + κ k ∈ cutL g K0 c b κ := by
  unfold cutL
  have hk : k ∈ [256, 257, 258, 259, 260, 261, 262, 263, 264] := by
    have := prOf_true.1 h2
    simp only [List.mem_cons, List.not_mem_nil, or_false]
    omega
  simp only [List.mem_append, List.mem_cons, List.mem_map, List.mem_filter]
  exact .inl (.inr (.inr ⟨k, ⟨by simpa using hk, h2⟩, rfl⟩))
theorem cutL_base (g : GeoN) (K0 : List Nat) (c b : Nat) (κ : Nat → Nat) : g.base ∈ cutL g K0 c b κ := by simp [cutL]
theorem cutL_last (g : GeoN) (K0 : List Nat) (c b : Nat) (κ : Nat → Nat) : g.data + κ b ∈ cutL g K0 c b κ := by simp [cutL]
/-- how many blocks a length takes, as the program has it -/
theorem nspread_ok (w : World) {n : Nat} (hn : n ≤ 16384) : Calls Tryz.prog 96 #[.int .i64 (n : Int)] w fun e w' => e = .returned (.tuple #[.int .i64 (blks n : Int), .int .i64 ((nkeys (blks n) - blks n : Nat) : Int)]) ∧ w = w' := by
  obtain ⟨c, hc⟩ : ∃ c, blks n = c := ⟨_, rfl⟩
  have hcv : c = (n + 63) / 64 := by rw [← hc]; rfl
  have hc256 : c ≤ 256 := by omega
  rw [hc]
  have m1 : max (n : Int) 0 = (n : Int) := by omega
  have e1 : IntKind.i64.wrap ((n : Int) + 64) = (n : Int) + 64 := IntWalk.i64_in _ (by omega)
  have e2 : IntKind.i64.wrap ((n : Int) + 64 - 1) = ((n + 63 : Nat) : Int) := by rw [IntWalk.i64_in _ (by omega)]; omega
  have e3 : ((n + 63 : Nat) : Int).tdiv 64 = (c : Int) := by rw [Int.tdiv_eq_ediv_of_nonneg (by omega)]; omega
  have e4 : IntKind.i64.wrap (c : Int) = (c : Int) := IntWalk.i64_in _ (by omega)
  have e5 : IntKind.i64.wrap ((c : Int) - 6) = (c : Int) - 6 := IntWalk.i64_in _ (by omega)
  have e6 : IntKind.i64.wrap ((c : Int) - 6 - 32) = (c : Int) - 6 - 32 := IntWalk.i64_in _ (by omega)
  obtain ⟨k, hk⟩ : ∃ k, nkeys c - c = k := ⟨_, rfl⟩
  rw [hk]
  unfold nkeys at hk
  generalize n + 63 = n63 at *
  by_cases h6 : c ≤ 6
  · have t1 : decide ((0 : Int) < (c : Int) - 6) = false := by simp; omega
    have hk0 : k = 0 := by rw [if_neg (show ¬ 6 < c by omega), if_neg (show ¬ 38 < c by omega)] at hk; omega
    clear hk hcv hc
    subst hk0
    go_enter Tryz.func96, Tryz.ntmps96
    go_wp2
    go_returns
    exact ⟨rfl, rfl⟩
  · have t1 : decide ((0 : Int) < (c : Int) - 6) = true := by simp; omega
    by_cases h38 : c ≤ 38
    · have t2 : decide ((0 : Int) < (c : Int) - 6 - 32) = false := by simp; omega
      have hk0 : k = 1 := by rw [if_pos (show 6 < c by omega), if_neg (show ¬ 38 < c by omega)] at hk; omega
      clear hk hcv hc
      subst hk0
      go_enter Tryz.func96, Tryz.ntmps96
      go_wp2
      go_returns
      exact ⟨rfl, rfl⟩
    · have t2 : decide ((0 : Int) < (c : Int) - 6 - 32) = true := by simp; omega
      obtain ⟨x, hx⟩ : ∃ x : Nat, (c - 38 + 31) / 32 = x := ⟨_, rfl⟩
      have hk0 : k = 2 + x := by rw [if_pos (show 6 < c by omega), if_pos (show 38 < c by omega)] at hk; omega
      have e7 : IntKind.i64.wrap ((c : Int) - 6 - 32 + 32) = (c : Int) - 6 - 32 + 32 := IntWalk.i64_in _ (by omega)
      have e8 : IntKind.i64.wrap ((c : Int) - 6 - 32 + 32 - 1) = ((c - 38 + 31 : Nat) : Int) := by rw [IntWalk.i64_in _ (by omega)]; omega
      have e9 : ((c - 38 + 31 : Nat) : Int).tdiv 32 = (x : Int) := by rw [Int.tdiv_eq_ediv_of_nonneg (by omega)]; omega
      have e10 : IntKind.i64.wrap (x : Int) = (x : Int) := IntWalk.i64_in _ (by omega)
      have e11 : IntKind.i64.wrap (1 + (x : Int)) = 1 + (x : Int) := IntWalk.i64_in _ (by omega)
      have e12 : IntKind.i64.wrap (1 + (1 + (x : Int))) = (k : Int) := by rw [IntWalk.i64_in _ (by omega)]; omega
      have hfin : (1 + (1 + ((c : Int) - 6 - 1) / 32) : Int) = (k : Int) := by omega
      generalize c - 38 + 31 = c31 at *
      clear hk hcv hc hx hk0
      go_enter Tryz.func96, Tryz.ntmps96
      go_wp2
      go_returns
      exact ⟨by first | rfl | (rw [← hfin]; rfl) | (simp only [hfin]; rfl), rfl⟩
section
variable {w0 w w' : World} {i : Ids} {s0 s : Sto} {gg : Nat} {g : GeoN} {lab : Int} {G G' : GS} {K : List Nat}
theorem cut_block {n : NodeV} {b : Nat} (h : CutR w0 w i s0 gg g lab G K) (hb : b < 256) (hn : n.dir.length = 6) (hp : blkOk G g.blocks (wayOf b).idx (n.rootV (wayOf b)).toNat) :
    Calls Tryz.prog 99 #[.pointer (some ⟨gg, 0, none⟩), n.val, .int .i64 (b : Int)] w fun e w' => e = .returned (.tuple #[.int .u16 (blkGo G (wayOf b).idx (n.rootV (wayOf b)).toNat : Int), .int .i64 0]) ∧ CutR w0 w' i s0 gg g lab G K ∧ Tch w.heap.size i.own w w' := by
  obtain ⟨s', h1, h2, h3, h4⟩ := h
  exact (block_ok h1 hb hn hp).mono fun e w' ⟨he, k1, k2⟩ => ⟨he, ⟨s', k1, h2, h3, h4.trans (k2.mono h4.size fun _ _ h => h)⟩, k2⟩
theorem zero_u8 (w : World) : (zeroValue 5).run Tryz.prog w = .ok (.int .u8 0) w := by kernel_rfl
set_option maxRecDepth 100000 in
set_option maxHeartbeats 2000000 in
theorem wipe_file {n : NodeV} {b r k size : Nat} (h : CutR w0 w i s0 gg g lab G K) (hKl : K.length ≤ 28) (hn : n.dir.length = 6) (hb : b < 256) (hsz : size = 64 * b + r) (hr0 : 0 < r) (hr : r < 64) (hrd : Rdy G g.blocks n b) (hd : dataP G n b = k + 1) (hk : k < g.blocks) (hb5 : g.blocks ≤ 512) (hK2 : g.data + k ∈ K) :
    Calls Tryz.prog 98 #[.pointer (some ⟨gg, 0, none⟩), n.val, .int .i64 (size : Int)] w fun e w' => e = .returned (.int .i64 0) ∧ CutR w0 w' i s0 gg g lab (G.put k (wipeB (G.by_ k) r)) K ∧ Tch w.heap.size i.own w w' := by
  have hbl := h.gok.len k
  have hblk := fun W (hW : CutR w0 W i s0 gg g lab G K) => cut_block hW hb hn hrd.ok
  have hget := fun W (hW : CutR w0 W i s0 gg g lab G K) => cut_get hW hk
  have hput := fun W (hW : CutR w0 W i s0 gg g lab G K) => cut_put (b := wipeB (G.by_ k) r) hW hKl hk hK2 (wipeB_length hbl (by omega))
  rw [show blkGo G (wayOf b).idx (n.rootV (wayOf b)).toNat = k + 1 from hd] at hblk
  obtain ⟨bk, hbk⟩ : ∃ bk, G.by_ k = bk := ⟨_, rfl⟩
  rw [hbk] at hbl hget hput ⊢
  have ep : ((k + 1 : Nat) : Int) = (k : Int) + 1 := by omega
  rw [ep] at hblk hget hput
  have e1 : (size : Int).tdiv 64 = (b : Int) := by rw [Int.tdiv_eq_ediv_of_nonneg (by omega)]; omega
  have e2 : (size : Int).tmod 64 = (r : Int) := by rw [Int.tmod_eq_emod_of_nonneg (by omega)]; omega
  have e3 : IntKind.i64.wrap (b : Int) = (b : Int) := IntWalk.i64_in _ (by omega)
  have e4 : IntKind.i64.wrap (r : Int) = (r : Int) := IntWalk.i64_in _ (by omega)
  have hkz : (k : Int) ≤ 511 := by omega
  have H := hide h
  have HBK := hide hblk
  have HGT := hide hget
  have HPT := hide hput
  have HBL := hide hbl
  have HN := hide hn
  have HRR := hide (And.intro hr0 hr)
  clear h hblk hget hput hbl hn hrd hd hK2 hbk hsz ep hr0 hr hKl
  go_enter Tryz.func98, Tryz.ntmps98
  go_upto_region 1 with (fail)
  refine at_world (fun W => ∃ nb, nb = w.heap.size ∧ Below w.heap.size w W ∧ Blk W nb 130 n.cells.toArray) ⟨_, rfl, (Below.refl _ _).alloc (Nat.le_refl _) _, Blk.new _ _ _⟩ (fun w1 hw1 => ?_)
  obtain ⟨nb, hnb, hb1, hN1⟩ := hw1
  rw [← hnb]
  have HN1 := hide hN1
  have HA1 := hide (H.out.below hb1)
  have HT1 := hide (Tch.of_below (S := i.own) hb1)
  clear hnb hN1 hb1
  go_wp2_with (first | ((with_reducible refine at_load 130 (.tmp 4) ?_); refine wpList_load_blk rfl 130 (.tmp 4) rfl nb _ _ _ (by rfl) HN1.out Tryz.underlying130 rfl (size_nodeOf HN.out) ?_) | fail)
  refine (HBK.out w1 HA1.out).mono ?_
  rintro e w2 ⟨rfl, ha2, ht2⟩
  have HA2 := hide ha2
  have HT2 := hide (HT1.out.trans (ht2.mono HT1.out.size fun _ _ h => h))
  clear ha2 ht2 HBK HA1 HT1
  go_wp2_with fail
  refine (HGT.out w2 HA2.out).mono ?_
  rintro e w3 ⟨rfl, ha3, ht3⟩
  have HA3 := hide ha3
  have HT3 := hide (HT2.out.trans (ht3.mono HT2.out.size fun _ _ h => h))
  clear ha3 ht3 HGT HA2 HT2
  go_upto_region 5 with (first | ((with_reducible refine at_alloc 106 ?_); refine wpList_alloc_as rfl 106 rfl _ (zero_block _) ?_) | ((with_reducible refine at_store 106 (.tmp 9) (.tmp 25) ?_); refine wpList_store_blk rfl 106 (.tmp 9) (.tmp 25) rfl w3.heap.size 106 _ _ (by rfl) (by rfl) (Blk.new _ _ _) (size_blockOf HBL.out) ((bvs_size zeroB_length).trans (bvs_size HBL.out).symm) (bvs_oneCell _) (fun _ => ?_)) | fail)
  refine at_world (fun W => ∃ z, z = w3.heap.size ∧ Below w3.heap.size w3 W ∧ Blk W z 106 (bvs bk).toArray) ⟨_, rfl, below_setRow ((Below.refl _ _).alloc (Nat.le_refl _) _) (Nat.le_refl _) _, (Blk.new _ _ _).setRow_same _⟩ (fun w4 hw4 => ?_)
  obtain ⟨z, hz, hb4, hZ4⟩ := hw4
  rw [← hz]
  have HZ4 := hide hZ4
  have HZN := hide (show w3.heap.size ≤ z from Nat.le_of_eq hz.symm)
  have HB4 := hide hb4
  clear hz hb4 hZ4
  go_upto_region 7 with (fail)
  obtain ⟨hr0, hr⟩ := HRR.out
  have hz64 := bvs_size HBL.out
  have hsl := run_slice_arr (P := Tryz.prog) (w := w4) 106 5 z 64 r .i64 Tryz.underlying106 (by kernel_rfl) hr
  have hcl : ∀ ty, (Builtin.clear_ #[24] ty #[.slice (some ⟨z, r, none⟩) (64 - r) (64 - r)]).run Tryz.prog w4 = .ok (.tuple #[]) (w4.setCells z r (List.replicate (64 - r) (.int .u8 0))) :=
    fun ty => Lib.run_clear_slice w4 24 5 ty (.int .u8 0) Tryz.underlying24 zero_u8 rfl rfl z r (64 - r) (64 - r) (by omega)
      (fun j hj => by rw [HZ4.out.cell]; rw [Array.getElem?_eq_getElem (by rw [hz64]; omega)]; rfl) (fun j hj => HZ4.out.frozen _)
  have hB5 := HZ4.out.setCells r (List.replicate (64 - r) (.int .u8 0)) (by rw [List.length_replicate, hz64]; omega)
  have hcs : ((bvs bk).toArray.toList.take r ++ List.replicate (64 - r) (Value.int .u8 0) ++ (bvs bk).toArray.toList.drop (r + (List.replicate (64 - r) (Value.int .u8 0)).length)) = bvs (wipeB bk r) := by
    have h1 : (bvs bk).length = 64 := by rw [bvs_length]; exact HBL.out
    rw [show (bvs bk).toArray.toList = bvs bk from rfl, List.length_replicate, List.drop_of_length_le (by omega), List.append_nil]
    unfold wipeB
    rw [bvs_append, bvs_take]
    congr 1
    simp [bvs, bv]
  rw [hcs] at hB5
  have hb5 : Below w3.heap.size w3 (w4.setCells z r (List.replicate (64 - r) (.int .u8 0))) := by
    have h1 : Tch w3.heap.size (fun _ => False) w4 (w4.setCells z r (List.replicate (64 - r) (.int .u8 0))) := Tch.setCells (fun h => by have := HZN.out; omega) _ _ _
    exact HB4.out.trans (h1.below fun _ _ h => h)
  have hlen := wipeB_length HBL.out (r := r) (by omega)
  obtain ⟨w5, hw5⟩ : ∃ w5, w4.setCells z r (List.replicate (64 - r) (.int .u8 0)) = w5 := ⟨_, rfl⟩
  rw [hw5] at hcl hB5 hb5
  have HB5 := hide hB5
  have HLN := hide hlen
  have HA5 := hide (HA3.out.below hb5)
  have HT5 := hide (HT3.out.trans ((Tch.of_below hb5).mono HT3.out.size fun _ _ h => h))
  clear hB5 hb5 hlen hcs hz64 hw5 HZ4 HZN HB4 HA3 HT3 hr0 hr
  go_wp2_with (first | ((with_reducible refine at_load 106 (.tmp 9) ?_); refine wpList_load_blk rfl 106 (.tmp 9) rfl z 106 _ _ (by rfl) HB5.out Tryz.underlying106 rfl (size_blockOf HLN.out) ?_) | fail)
  refine (HPT.out w5 HA5.out).mono ?_
  rintro e w6 ⟨rfl, ha6, ht6⟩
  have HF := hide (And.intro ha6 (HT5.out.trans (ht6.mono HT5.out.size fun _ _ h => h)))
  clear ha6 ht6 HPT HA5 HT5 hsl hcl
  go_wp2
  go_returns
  exact ⟨rfl, HF.out.1, HF.out.2⟩
/-- what a cut's last block is -/
def cutW (Gc : GS) (κ : Nat → Nat) (size : Nat) : GS := if size % 64 = 0 then Gc else Gc.put (κ (size / 64)) (wipeB (Gc.by_ (κ (size / 64))) (size % 64))
def NodeV.sized (n : NodeV) (x : Nat) : NodeV := { n with size := UInt32.ofNat x }
/-- what a cut leaves of a group's other blocks and nodes -/
structure Lost (G G' : GS) (num : Nat) (pr : Nat → Bool) (κ : Nat → Nat) : Prop where
  nd : ∀ k, k ≠ num → G'.nd k = G.nd k
  by_ : ∀ x, (∀ c, pr c = true → κ c ≠ x) → G'.by_ x = G.by_ x
  tk : ∀ x, (∀ c, pr c = true → κ c ≠ x) → G'.tk x = G.tk x
theorem cut_end {Gc : GS} {m num size sz d : Nat} {n0 nc : NodeV} {κ : Nat → Nat} {f : Nat → UInt8} (hf : FileAt G m n0 (blks sz) κ sz f) (hd : Del G Gc m n0 nc (prOf (blks sz)) (prOf (blks size)) κ d) (hle : size ≤ sz) (hs16 : sz ≤ 16384) :
    FileAt ((cutW Gc κ size).set num (nc.sized size)) m (nc.sized size) (blks size) κ size f ∧ Lost G ((cutW Gc κ size).set num (nc.sized size)) num (prOf (blks sz)) κ ∧ ((cutW Gc κ size).set num (nc.sized size)).cnt m = Gc.cnt m := by
  have hc : blks size ≤ 256 := by unfold blks; omega
  have hcle : blks size ≤ blks sz := by unfold blks; omega
  have hsame : ∀ j, j < blks size → Gc.by_ (κ j) = G.by_ (κ j) := fun j hj => hd.by_ _ fun k k1 k2 e => by
    have := hf.tree.inj k j k1 (prOf_true.2 (by omega)) e
    omega
  have hcnt : ((cutW Gc κ size).set num (nc.sized size)).cnt m = Gc.cnt m := by unfold cutW; split <;> rfl
  by_cases h0 : size % 64 = 0
  · have hw : cutW Gc κ size = Gc := by unfold cutW; rw [if_pos h0]
    refine ⟨?_, ?_, hcnt⟩
    · rw [hw]
      refine ⟨⟨hd.tree.dir, hd.tree.rng, hd.tree.cls, hd.tree.top, hd.tree.sub, hd.tree.own, hd.tree.inj⟩, hc, by unfold blks; omega, fun j hj => ?_⟩
      have : (Gc.by_ (κ (j / 64))).getD (j % 64) 0 = f j := by rw [hsame _ (by unfold blks; omega)]; exact hf.byte j (by omega)
      exact this
    · rw [hw]
      exact ⟨fun k hk => (upd_other _ _ hk).trans (by rw [hd.nd]), fun x hx => hd.by_ x fun k k1 _ => hx k k1, fun x hx => hd.tk x hx⟩
  · have hb : size / 64 < blks size := by unfold blks; omega
    have hpb : prOf (blks size) (size / 64) = true := prOf_true.2 (by omega)
    have hw : cutW Gc κ size = Gc.put (κ (size / 64)) (wipeB (Gc.by_ (κ (size / 64))) (size % 64)) := by unfold cutW; rw [if_neg h0]
    have ht := hd.tree.putData (by omega) hpb (wipeB (Gc.by_ (κ (size / 64))) (size % 64))
    refine ⟨?_, ?_, hcnt⟩
    · rw [hw]
      refine ⟨⟨ht.dir, ht.rng, ht.cls, ht.top, ht.sub, ht.own, ht.inj⟩, hc, by unfold blks; omega, fun j hj => ?_⟩
      have : ((Gc.put (κ (size / 64)) (wipeB (Gc.by_ (κ (size / 64))) (size % 64))).by_ (κ (j / 64))).getD (j % 64) 0 = f j := by
        by_cases e : j / 64 = size / 64
        · rw [e]
          have e2 : (Gc.put (κ (size / 64)) (wipeB (Gc.by_ (κ (size / 64))) (size % 64))).by_ (κ (size / 64)) = wipeB (Gc.by_ (κ (size / 64))) (size % 64) := upd_same _ _ _
          rw [e2, wipeB_getD (hd.ok.len _) (by omega) (by omega), ← e, hsame _ (by omega)]
          exact hf.byte j (by omega)
        · have hj2 : j / 64 < blks size := by unfold blks; omega
          have e1 : κ (j / 64) ≠ κ (size / 64) := fun h => e (hd.tree.inj _ _ (prOf_true.2 (by omega)) hpb h)
          have e2 : (Gc.put (κ (size / 64)) (wipeB (Gc.by_ (κ (size / 64))) (size % 64))).by_ (κ (j / 64)) = Gc.by_ (κ (j / 64)) := upd_other _ _ e1
          rw [e2, hsame _ hj2]
          exact hf.byte j (by omega)
      exact this
    · rw [hw]
      exact ⟨fun k hk => (upd_other _ _ hk).trans (congrFun hd.nd k), fun x hx => (upd_other _ _ (fun e => hx (size / 64) (hd.sub _ hpb) e.symm)).trans (hd.by_ x fun k k1 _ => hx k k1), fun x hx => hd.tk x hx⟩
set_option maxRecDepth 100000 in
set_option maxHeartbeats 4000000 in
theorem cut_file {num size sz : Nat} {K0 : List Nat} {κ : Nat → Nat} {f : Nat → UInt8} (h : GAt w i s gg g lab G) (hK0 : s.In K0) (hKl : K0.length + (if blks sz ≤ 6 then 2 else if blks sz ≤ 38 then 3 else 11) ≤ 28) (h1 : 1 ≤ num) (h2 : num ≤ g.nodes) (hb5 : g.blocks ≤ 512)
    (hk : (G.nd num).kind ≠ 0) (hsz : (G.nd num).size.toNat = sz) (hs16 : sz ≤ 16384) (hf : FileAt G g.blocks (G.nd num) (blks sz) κ sz f) (hle : size ≤ sz)
    (hck : ∀ n', (G.nd num).same n' → n'.dir.length = 6 → checkN (n'.sized size) = true) :
    Calls Tryz.prog 34 #[.pointer (some ⟨gg, 0, none⟩), .int .i64 (num : Int), .int .i64 (size : Int)] w fun e w' => e = .returned (.int .i64 0) ∧ ∃ s' G', GAt w' i s' gg g lab G' ∧ FileAt G' g.blocks (G'.nd num) (blks size) κ size f ∧ (G'.nd num).size.toNat = size ∧
      (G'.nd num).kind = (G.nd num).kind ∧ (G'.nd num).links = (G.nd num).links ∧ (G'.nd num).gen = (G.nd num).gen ∧ Lost G G' num (prOf (blks sz)) κ ∧ G'.cnt g.blocks + nkeys (blks sz) = G.cnt g.blocks + nkeys (blks size) ∧
      s'.In (cutL g K0 (blks sz) (size / 64) κ ++ [g.base + g.bitmap + (num - 1) / 2]) ∧ Stay s s' g ∧ Tch w.heap.size i.own w w' := by
  have hnd := gs_node' h h1 h2
  have hdir : (G.nd num).dir.length = 6 := h.gok.dir num
  have hD0 := Del.refl hf.tree h.gok
  obtain ⟨n0, hn0⟩ : ∃ n0, G.nd num = n0 := ⟨_, rfl⟩
  rw [hn0] at hnd hdir hk hsz hf hck hD0 ⊢
  have hkz : (n0.kind.toNat : Int) ≠ 0 := fun e => hk (UInt8.toNat_inj.1 (by simpa using e))
  have tk : ((n0.kind.toNat : Int) == 0) = false := by rw [beq_eq_false_iff_ne]; exact hkz
  have hc256 : blks sz ≤ 256 := by unfold blks; omega
  have hcle : blks size ≤ blks sz := by unfold blks; omega
  have hin : s.In (cutL g K0 (blks sz) (size / 64) κ) := hK0.mono fun x hx => by simp [cutL, hx]
  have hkl : (cutL g K0 (blks sz) (size / 64) κ).length ≤ 28 := Nat.le_trans (cutL_length _ _ _ _ _) hKl
  have hkb := cutL_base g K0 (blks sz) (size / 64) κ
  have hkk := fun k => cutL_key g K0 (blks sz) (size / 64) κ (k := k)
  have hkx := cutL_last g K0 (blks sz) (size / 64) κ
  obtain ⟨K, hK⟩ : ∃ K, cutL g K0 (blks sz) (size / 64) κ = K := ⟨_, rfl⟩
  rw [hK] at hin hkl hkb hkk hkx ⊢
  have hs1 := nspread_ok
  have H := hide h
  have HND := hide hnd
  have HD := hide hdir
  have HNM := hide (And.intro h1 h2)
  have HIN := hide hin
  have HKL := hide (And.intro hkl (And.intro hkb (And.intro hkk hkx)))
  have HB5 := hide hb5
  have HF := hide hf
  have HCK := hide hck
  have HD0 := hide hD0
  have HN0 := hide (And.intro hn0 hsz)
  have HSP := hide (fun W => nspread_ok W (n := size) (by omega))
  have HSP2 := hide (fun W => nspread_ok W (n := sz) hs16)
  obtain ⟨ce, hce⟩ : ∃ ce, blks size = ce := ⟨_, rfl⟩
  obtain ⟨c0, hc0⟩ : ∃ c0, blks sz = c0 := ⟨_, rfl⟩
  have HCE := hide (And.intro hce hc0)
  rw [hc0] at hc256 hcle
  rw [hce] at hcle
  have HCC := hide (And.intro hcle hc256)
  have hszz : (sz : Int) ≤ 16384 := by omega
  have hsizez : (size : Int) ≤ (sz : Int) := by omega
  have HLE := hide (And.intro hle hs16)
  clear h hnd hdir h1 h2 hin hkl hkb hkk hkx hb5 hf hck hD0 hn0 hk hkz hs1 hK hKl hK0 hce hc0 hcle hc256
  go_enter Tryz.func34, Tryz.ntmps34
  go_wp2_with fail
  refine HND.out.mono ?_
  rintro e w2 ⟨rfl, ha2, ht2⟩
  have HA2 : Hid (CutR w w2 i s gg g lab G K) := hide ⟨s, ha2, ⟨rfl, rfl, fun _ _ => rfl⟩, HIN.out, ht2⟩
  clear ha2 ht2 HND
  go_upto_region 2 with (first | ((with_reducible refine at_alloc 130 ?_); refine wpList_alloc_as rfl 130 rfl _ (zero_node _) ?_) | ((with_reducible refine at_store 130 (.tmp 7) (.tmp 20) ?_); refine wpList_store_blk rfl 130 (.tmp 7) (.tmp 20) rfl w2.heap.size _ _ _ (by rfl) (by rfl) (Blk.new _ _ _) (size_nodeOf HD.out) (by rw [List.size_toArray, List.size_toArray, NodeV.cells_length HD.out]; rfl) (NodeV.cells_one _) (fun _ => ?_)) | fail)
  refine at_world (fun W => ∃ q, q = w2.heap.size ∧ Below w2.heap.size w2 W ∧ Blk W q 130 n0.cells.toArray) ⟨_, rfl, below_setRow ((Below.refl _ _).alloc (Nat.le_refl _) _) (Nat.le_refl _) _, (Blk.new _ _ _).setRow_same _⟩ (fun w3 hw3 => ?_)
  obtain ⟨q, hq, hb3, hQ3⟩ := hw3
  rw [← hq]
  have HA3 := hide (HA2.out.below hb3)
  have HQ3 := hide hQ3
  have HQN := hide (show w.heap.size ≤ q from by have := HA2.out.tch.size; omega)
  have q0 := (hQ3.cell 0).trans (node_cells_at n0).1
  have q3 := (hQ3.cell 3).trans (node_cells_at n0).2.2.2
  have ql := hQ3.lt
  have t1 : decide ((size : Int) < 0) = false := by simp
  rw [HN0.out.2] at q3
  clear hq hb3 hQ3 HA2 hsz
  have c1 : IntKind.i64.wrap (sz : Int) = (sz : Int) := IntWalk.i64_in _ (by omega)
  have t2 : decide (sz < size) = false := by simp; omega
  go_wp2_with fail
  refine (HSP.out w3).mono ?_
  rintro e w_ ⟨rfl, hw_⟩
  subst hw_
  go_wp2_with fail
  refine (HSP2.out w3).mono ?_
  rintro e w_ ⟨rfl, hw_⟩
  subst hw_
  rw [HCE.out.1, HCE.out.2]
  have e1 : IntKind.i64.wrap ((c0 : Int) - 1) = (c0 : Int) - 1 := IntWalk.i64_in _ (by have := HCC.out.2; omega)
  go_wp2_with fail
  clear q0 q3 ql tk t1 t2 e1 HSP HSP2
  go_loopg [13] c0 (fun gh x13 wr => ∃ (c : Nat) (z : Int) (Gc : GS) (nc : NodeV) (d : Nat), gh = c ∧ x13 = .int .i64 z ∧ Hid (z = (c : Int) - 1 ∧ ce ≤ c ∧ c ≤ c0) ∧ Hid (CutR w wr i s gg g lab Gc K) ∧ Hid (Blk wr q 130 nc.cells.toArray) ∧ Hid (Del G Gc g.blocks n0 nc (prOf c0) (prOf c) κ d) ∧ Hid (d + nkeys c = nkeys c0))
  case atStart => exact ⟨c0, _, G, n0, 0, rfl, rfl, hide ⟨rfl, HCC.out.1, Nat.le_refl _⟩, HA3, HQ3, hide (by rw [← HCE.out.2]; exact HD0.out), hide (Nat.zero_add _)⟩
  case round =>
    obtain ⟨c, z, Gc, nc, d, hgh, rfl, HZ, HA, HQ, HDL, HNK⟩ := hrel
    have HGH := hide hgh
    clear hgh
    rcases Nat.lt_or_ge ce c with hlt | hge
    · obtain ⟨b, rfl⟩ : ∃ b, c = b + 1 := ⟨c - 1, by omega⟩
      obtain ⟨hz, hz2, hz3⟩ := HZ.out
      have hzb : z = (b : Int) := by omega
      subst hzb
      have t1 : decide (ce ≤ b) = true := by simp; omega
      have hbz : (b : Int) ≤ 256 := by have := HCC.out.2; omega
      have e1 : IntKind.i64.wrap ((b : Int) - 1) = (b : Int) - 1 := IntWalk.i64_in _ (by omega)
      have hdr := fdrop_ok (nb := q) (b := b) HA.out HKL.out.1 HB5.out HKL.out.2.1 (fun k k1 k2 => HKL.out.2.2.1 k k1 (by rw [HCE.out.2]; exact HDL.out.sub k k2) (by rw [HCE.out.2]; exact HCC.out.2)) (by have := HCC.out.2; omega) HQN.out HQ.out HDL.out.tree
      have HDR := hide hdr
      have HLT := hide (And.intro hlt hz3)
      clear hdr hz hz2 hz3 HZ hlt
      go_wp2_with fail
      refine HDR.out.mono ?_
      rintro e w5 ⟨rfl, G5, n5, d5, ha5, hq5, hdl5, hnk5⟩
      have HA5 := hide ha5
      have HQ5 := hide hq5
      have HDL5 := hide (HDL.out.trans hdl5)
      have HNK5 := hide (show (d + d5) + nkeys b = nkeys c0 from by have := HNK.out; omega)
      clear ha5 hq5 hdl5 hnk5 HDR
      go_wp2
      go_roundg b
      case rel => exact ⟨b, _, G5, n5, d + d5, rfl, rfl, hide ⟨rfl, by have := HLT.out.1; omega, by have := HLT.out.2; omega⟩, HA5, HQ5, HDL5, HNK5⟩
      case measure => have := HGH.out; omega
    · have hcc : c = ce := by have := HZ.out.2.1; omega
      subst hcc
      have hz := HZ.out.1
      have t1 : decide ((c : Int) ≤ z) = false := by simp; omega
      have e2 : (size : Int).tmod 64 = ((size % 64 : Nat) : Int) := by rw [Int.tmod_eq_emod_of_nonneg (by omega)]; omega
      have e3 : IntKind.i64.wrap ((size % 64 : Nat) : Int) = ((size % 64 : Nat) : Int) := IntWalk.i64_in _ (by omega)
      have e4 : IntKind.u32.wrap (size : Int) = (size : Int) := by rw [IntKind.wrap_u32]; omega
      obtain ⟨r, hr⟩ : ∃ r, size % 64 = r := ⟨_, rfl⟩
      have hrz : (r : Int) < 64 := by omega
      rw [hr] at e2 e3
      have HR := hide hr
      have HW : Hid (cutW Gc κ size = if r = 0 then Gc else Gc.put (κ (size / 64)) (wipeB (Gc.by_ (κ (size / 64))) r)) := hide (by unfold cutW; rw [hr])
      have HFC := hide (cut_end (num := num) HF.out (by rw [HCE.out.1, HCE.out.2]; exact HDL.out) HLE.out.1 HLE.out.2)
      clear hz hr
      generalize cutW Gc κ size = Gw at *
      obtain ⟨bz, hbz⟩ : ∃ bz, decide (0 < r) = bz := ⟨_, rfl⟩
      have HBZ := hide hbz
      go_upto_if 67 with (fail)
      clear hbz
      go_cut [15] from 67 to 74 (fun x15 wc => Hid (CutR w wc i s gg g lab Gw K) ∧ Hid (Blk wc q 130 nc.cells.toArray))
      case first =>
        by_cases hr0 : r = 0
        · have t2 : decide (0 < r) = false := by simp; omega
          have hbz : bz = false := by rw [← HBZ.out]; exact t2
          subst hbz
          have hw := HW.out
          rw [if_pos hr0] at hw
          have HW2 := hide hw
          clear hw hr0
          go_wp2
          go_meet
          case rel => exact ⟨hide (by rw [HW2.out]; exact HA.out), HQ⟩
        · have t2 : decide (0 < r) = true := by simp; omega
          have hbz : bz = true := by rw [← HBZ.out]; exact t2
          subst hbz
          have hw := HW.out
          rw [if_neg hr0] at hw
          have HW2 := hide hw
          obtain ⟨b, hb⟩ : ∃ b, size / 64 = b := ⟨_, rfl⟩
          rw [hb] at hw
          have hbe : b < c := by rw [← HCE.out.1]; unfold blks; have := HR.out; omega
          have hb256 : b < 256 := by have := HCC.out.2; have := HCC.out.1; omega
          have hp := pr_old hbe (by have := HCC.out; omega)
          have htd := tree_data hb256 HDL.out.tree hp
          have ho := HDL.out.tree.own b (prOf_true.2 (by omega))
          have hwp := wipe_file (r := r) (size := size) HA.out HKL.out.1 HDL.out.tree.dir hb256 (by have := HR.out; omega) (by omega) (by omega) htd.1 htd.2 ho.1 HB5.out (by rw [← hb]; exact HKL.out.2.2.2)
          rw [← hw] at hwp
          have HWP := hide hwp
          have HND := hide HDL.out.tree.dir
          clear hw hr0 hb hbe hb256 hp htd ho hwp
          go_wp2_with (first | ((with_reducible refine at_load 130 (.tmp 7) ?_); refine wpList_load_blk rfl 130 (.tmp 7) rfl q _ _ _ (by rfl) HQ.out Tryz.underlying130 rfl (size_nodeOf HND.out) ?_) | fail)
          refine HWP.out.mono ?_
          rintro e w6 ⟨rfl, ha6, ht6⟩
          have HA6 := hide ha6
          have HQ6 := hide (HQ.out.tch ht6 HQ.out.lt (HA.out.node_own HQ.out))
          clear ha6 ht6 HWP
          go_wp2
          go_meet
          case rel => exact ⟨HA6, HQ6⟩
      case rest =>
        obtain ⟨HA, HQ⟩ := hcut
        have HND := hide HDL.out.tree.dir
        have hq3 := HQ.out.set_ 3 (.int .u32 (size : Int))
        rw [node_grow nc (by omega)] at hq3
        have HQ4 : Hid (Blk (wc.setCell ⟨q, 3, none⟩ (.int .u32 (size : Int))) q 130 (nc.sized size).cells.toArray) := hide hq3
        have HA4 := hide (HA.out.setNode (r := 3) (u := .int .u32 (size : Int)) HQN.out HQ.out)
        have q3f := HQ.out.frozen 3
        have q3c := HQ.out.cell 3
        have ql := HQ.out.lt
        have hn3 : nc.cells.toArray[3]? = some (.int .u32 (nc.size.toNat : Int)) := (node_cells_at nc).2.2.2
        rw [hn3] at q3c
        have HAF := hide HA4.out
        obtain ⟨s4, ha4, hst4, hin4, ht4⟩ := HA4.out
        have hset := gs_set ha4 (by have := hin4.len ha4.tx.ok; have := HKL.out.1; omega) HNM.out.1 HNM.out.2 (n := nc.sized size) HND.out (HCK.out nc HDL.out.same HND.out)
        have HSET := hide hset
        have HS4 := hide (And.intro hst4 (And.intro hin4 ht4))
        clear hq3 hn3 ha4 hst4 hin4 ht4 hset t1 e2 e3 HA4 HAF
        go_wp2_with (first | ((with_reducible refine at_load 130 (.tmp 7) ?_); refine wpList_load_blk rfl 130 (.tmp 7) rfl q _ _ _ (by rfl) HQ4.out Tryz.underlying130 rfl (size_nodeOf (n := nc.sized size) HND.out) ?_) | fail)
        refine HSET.out.mono ?_
        rintro e w7 ⟨rfl, s7, ha7, hst7, ht7⟩
        obtain ⟨hfe, hlo, hct⟩ := HFC.out
        have hnd7 : (Gw.set num (nc.sized size)).nd num = nc.sized size := upd_same _ _ _
        have hsm := HDL.out.same
        have hnk := HNK.out
        have hdc := HDL.out.cnt
        have HFIN : Hid (∃ s' G', GAt w7 i s' gg g lab G' ∧ FileAt G' g.blocks (G'.nd num) (blks size) κ size f ∧ (G'.nd num).size.toNat = size ∧ (G'.nd num).kind = n0.kind ∧ (G'.nd num).links = n0.links ∧ (G'.nd num).gen = n0.gen ∧ Lost G G' num (prOf (blks sz)) κ ∧ G'.cnt g.blocks + nkeys (blks sz) = G.cnt g.blocks + nkeys (blks size) ∧
            s'.In (K ++ [g.base + g.bitmap + (num - 1) / 2]) ∧ Stay s s' g ∧ Tch w.heap.size i.own w w7) := hide (by
          refine ⟨s7, _, ha7, by rw [hnd7]; exact hfe, ?_, by rw [hnd7]; exact hsm.1, by rw [hnd7]; exact hsm.2.1, by rw [hnd7]; exact hsm.2.2.1, hlo, by rw [hct, HCE.out.2, HCE.out.1]; omega, hst7.in_ HS4.out.2.1, HS4.out.1.trans ⟨hst7.D, hst7.bad, hst7.far⟩, HS4.out.2.2.trans (ht7.mono HS4.out.2.2.size fun _ _ h => h)⟩
          rw [hnd7]
          show (UInt32.ofNat size).toNat = size
          rw [UInt32.toNat_ofNat', Nat.mod_eq_of_lt (by have := HLE.out; omega)])
        clear ha7 hst7 ht7 hfe hlo hct hnd7 hsm hnk hdc HSET
        go_wp2
        go_returns
        exact ⟨rfl, HFIN.out⟩
end
end Go.Proofs.YthmkgohfeahdhaaGreat
namespace Go.Proofs.YthmkgohfeahdhaaGreat
open Go.RowKit
set_option linter.unusedSimpArgs false
set_option linter.unusedVariables false

/-- an entry of a directory -/
structure EntV where
  name : ByteArray
  num : UInt16
def EntV.cells (e : EntV) : List Value := [.string e.name, .int .u16 (e.num.toNat : Int)]
def flat2 (l : List EntV) : List Value := l.flatMap EntV.cells
/-- a node as it is meant, as it lies -/
structure RNd where
  kind : UInt8
  links : Nat
  gen : UInt16
  A : Option Addr
  l : List UInt8
  c : Nat
  P : Option Addr
  ps : List EntV
  pc : Nat
def RNd.cells (n : RNd) : List Value := [.int .u8 (n.kind.toNat : Int), .int .i64 (n.links : Int), .int .u16 (n.gen.toNat : Int), .slice n.A n.l.length n.c, .slice n.P n.ps.length n.pc]
def flat5 (L : List RNd) : List Value := L.flatMap RNd.cells
def RNd.zero : RNd := ⟨0, 0, 0, none, [], 0, none, [], 0⟩
theorem flat5_length (L : List RNd) : (flat5 L).length = L.length * 5 := by
  induction L with
  | nil => rfl
  | cons n r ih => unfold flat5 at ih ⊢; rw [List.flatMap_cons, List.length_append, ih, List.length_cons]; simp [RNd.cells]; omega
theorem flat5_get : ∀ {L : List RNd} {k j : Nat} {n : RNd}, L[k]? = some n → j < 5 → (flat5 L)[k * 5 + j]? = n.cells[j]?
  | [], k, j, n, h, _ => by simp at h
  | a :: r, 0, j, n, h, hj => by
    obtain rfl : a = n := by simpa using h
    unfold flat5
    rw [List.flatMap_cons, Nat.zero_mul, Nat.zero_add, List.getElem?_append_left (by simp [RNd.cells]; omega)]
  | a :: r, k + 1, j, n, h, hj => by
    have := flat5_get (L := r) (k := k) (j := j) (n := n) (by simpa using h) hj
    unfold flat5 at this ⊢
    rw [List.flatMap_cons, List.getElem?_append_right (by simp [RNd.cells]; omega), ← this]
    congr 1
    simp [RNd.cells]; omega
/-- a node's bytes and places lie in memory -/
structure RNd.At (w : World) (n : RNd) : Prop where
  b : w.ownsRow 0 5 1 (.slice n.A n.l.length n.c) n.l.length (bvs n.l)
  p : w.ownsRow 0 125 2 (.slice n.P n.ps.length n.pc) n.ps.length (flat2 n.ps)
theorem own_from {w w' : World} {n sz : Nat} {e : TypeId} {v : Value} {xs : List Value} {S : Nat → Prop} (h : w.ownsRow 0 e sz v n xs) (ht : Tch w.heap.size S w w') (hS : ∀ g cur, Blk w g e cur → ¬ S g) : w'.ownsRow 0 e sz v n xs :=
  own_keep h fun g hg => by
    rcases h.2 with ⟨rfl, _⟩ | ⟨g', cap, cur, rfl, _, hh, _⟩
    · cases hg
    · have e : g' = g := by simpa [Value.ownBlock] using hg
      subst e
      exact ht.block g' (Array.getElem?_eq_some_iff.1 hh).1 (hS g' cur hh)
theorem RNd.At.tch {w w' : World} {n : RNd} {S : Nat → Prop} (h : n.At w) (ht : Tch w.heap.size S w w') (h1 : ∀ g cur, Blk w g 5 cur → ¬ S g) (h2 : ∀ g cur, Blk w g 125 cur → ¬ S g) : n.At w' :=
  ⟨own_from h.b ht h1, own_from h.p ht h2⟩
theorem RNd.At.zero (w : World) : RNd.zero.At w := ⟨World.ownsRow_nil _ _ _ _, World.ownsRow_nil _ _ _ _⟩
/-- a group's nodes lie in a row -/
structure Row5 (w : World) (nb : Nat) (L : List RNd) (cN : Nat) : Prop where
  row : w.ownsRow 0 62 5 (.slice (some ⟨nb, 0, none⟩) L.length cN) L.length (flat5 L)
  all : ∀ n ∈ L, n.At w
/-- a group as it is meant -/
structure GrAt (w : World) (mb nb : Nat) (L : List RNd) (cN : Nat) (T : Option Addr) (tn tc blocks : Nat) : Prop where
  m : Blk w mb 47 #[.slice (some ⟨nb, 0, none⟩) L.length cN, .slice T tn tc, .int .i64 (blocks : Int)]
  r : Row5 w nb L cN
section
variable {w w' : World} {mb nb cN tn tc blocks : Nat} {L : List RNd} {T : Option Addr} {S : Nat → Prop}
theorem Row5.tch (h : Row5 w nb L cN) (ht : Tch w.heap.size S w w') (h0 : ∀ g cur, Blk w g 62 cur → ¬ S g) (h1 : ∀ g cur, Blk w g 5 cur → ¬ S g) (h2 : ∀ g cur, Blk w g 125 cur → ¬ S g) : Row5 w' nb L cN :=
  ⟨own_from h.row ht h0, fun n hn => (h.all n hn).tch ht h1 h2⟩
theorem Row5.below (h : Row5 w nb L cN) (hb : Below w.heap.size w w') : Row5 w' nb L cN := h.tch (Tch.of_below (S := fun _ => False) hb) (fun _ _ _ h => h) (fun _ _ _ h => h) (fun _ _ _ h => h)
theorem GrAt.below (h : GrAt w mb nb L cN T tn tc blocks) (hb : Below w.heap.size w w') : GrAt w' mb nb L cN T tn tc blocks := ⟨h.m.below hb h.m.lt, h.r.below hb⟩
/-- a transaction's calls leave it -/
theorem GrAt.own {i : Ids} {s : Sto} (h : GrAt w mb nb L cN T tn tc blocks) (hx : TxAt w i s) (ht : Tch w.heap.size i.own w w') : GrAt w' mb nb L cN T tn tc blocks :=
  ⟨h.m.tch ht h.m.lt (hx.other h.m (by decide) (by decide) (by decide)), h.r.tch ht (fun g cur hB => hx.other hB (by decide) (by decide) (by decide)) (fun g cur hB => hx.other hB (by decide) (by decide) (by decide)) (fun g cur hB => hx.other hB (by decide) (by decide) (by decide))⟩
theorem Row5.blk (h : Row5 w nb L cN) : ∃ cur : Array Value, Blk w nb 62 cur ∧ ∀ (j : Nat) (v : Value), (flat5 L)[j]? = some v → cur[j]? = some v := by
  rcases h.row.2 with ⟨h0, _⟩ | ⟨g, cap, cur, hv, _, hh, _, _, _, htake⟩
  · cases h0
  · simp only [Value.slice.injEq, Option.some.injEq, Addr.mk.injEq] at hv
    obtain ⟨⟨rfl, _⟩, _, rfl⟩ := hv
    refine ⟨cur, hh, fun j v hj => ?_⟩
    have hjl : j < L.length * 5 := by rw [← flat5_length]; exact (List.getElem?_eq_some_iff.1 hj).1
    have h2 : (cur.toList.take (L.length * 5))[j]? = some v := by rw [htake]; exact hj
    rw [List.getElem?_take, if_pos hjl, Array.getElem?_toList] at h2
    exact h2
theorem Row5.cell (h : Row5 w nb L cN) {k j : Nat} {n : RNd} (hk : L[k]? = some n) (hj : j < 5) : w.cell? ⟨nb, k * 5 + j, none⟩ = n.cells[j]? := by
  obtain ⟨cur, hB, hc⟩ := h.blk
  have h1 := flat5_get hk hj
  have h2 : j < n.cells.length := by simp [RNd.cells]; omega
  rw [List.getElem?_eq_getElem h2] at h1 ⊢
  rw [hB.cell]
  exact hc _ _ h1
theorem Row5.lt (h : Row5 w nb L cN) : nb < w.heap.size := by
  obtain ⟨cur, hB, _⟩ := h.blk
  exact hB.lt
theorem Row5.frozen (h : Row5 w nb L cN) (i : Nat) : w.frozen? ⟨nb, i, none⟩ = false := by
  obtain ⟨cur, hB, _⟩ := h.blk
  exact hB.frozen i
theorem Row5.range (h : Row5 w nb L cN) {k : Nat} {n : RNd} (hk : L[k]? = some n) : w.rangeAt nb (k * 5) n.cells := fun j v hj => by
  have h2 : j < 5 := by have := (List.getElem?_eq_some_iff.1 hj).1; simpa [RNd.cells] using this
  rw [h.cell hk h2]; exact hj
theorem Row5.cap (h : Row5 w nb L cN) : L.length ≤ cN := own_le_cap h.row
end
/-- how long a node is -/
def RNd.size (n : RNd) : Nat := if n.kind = 2 then 16 * n.ps.length else n.l.length
end Go.Proofs.YthmkgohfeahdhaaGreat
namespace Go.Proofs.YthmkgohfeahdhaaGreat
open Go.RowKit
set_option linter.unusedSimpArgs false
set_option linter.unusedVariables false

section
variable {w w' : World} {mb nb cN tn tc blocks : Nat} {L : List RNd} {T : Option Addr}
theorem Row5.there (h : Row5 w nb L cN) {k : Nat} (hk : k < L.length) : w.there nb (k * 5) 5 := by
  obtain ⟨cur, hB, hc⟩ := h.blk
  refine hB.there ?_
  have h1 := flat5_get (List.getElem?_eq_getElem hk) (show 4 < 5 by omega)
  have h2 := hc _ _ h1
  have := (Array.getElem?_eq_some_iff.1 h2).1
  omega
end
end Go.Proofs.YthmkgohfeahdhaaGreat
namespace Go.Proofs.YthmkgohfeahdhaaGreat
open Go.RowKit
set_option linter.unusedSimpArgs false
set_option linter.unusedVariables false

/-- a group's own node -/
def RNd.own (k : UInt8) : RNd := ⟨k, 1, 1, none, [], 0, none, [], 0⟩
/-- a node with other bytes -/
def RNd.with (n : RNd) (A : Option Addr) (l : List UInt8) (c : Nat) : RNd := { n with A := A, l := l, c := c }
section
variable {w w' : World} {mb nb cN tn tc blocks : Nat} {L : List RNd} {T : Option Addr}
end
end Go.Proofs.YthmkgohfeahdhaaGreat
namespace Go.Proofs.YthmkgohfeahdhaaGreat
open Go.RowKit
set_option linter.unusedSimpArgs false
set_option linter.unusedVariables false

/-- a configuration of small numbers: what the laws need of it -/
structure SzFacts (R : List RegV) (n : Nat) : Prop where
  tot : totalOf 32 R = (n : Int)
  ge : 32 ≤ n
  le : n ≤ 65536
  two : 2 ≤ R.length
  five : R.length ≤ 5
  geo : ∀ (k : Nat), k < R.length → ∃ (v : GeoV) (r : RegV), (geosOf 32 R)[k]? = some v ∧ R[k]? = some r ∧ (geoN v).Ok n ∧ (geoN v).val = .agg v.cells.toArray ∧ ((geoN v).blocks : Int) = r.blocks ∧ ((geoN v).nodes : Int) = r.nodes ∧ 4 ≤ (geoN v).blocks ∧ (geoN v).blocks ≤ 512 ∧ 4 ≤ (geoN v).nodes ∧ (geoN v).nodes ≤ 128

end Go.Proofs.YthmkgohfeahdhaaGreat
namespace Go.Proofs.YthmkgohfeahdhaaGreat
open Go.RowKit
set_option linter.unusedSimpArgs false
set_option linter.unusedVariables false

/-- a node that is there from the beginning -/
def freshN (k : UInt8) : NodeV := { NodeV.zero with kind := k, links := 1, gen := 1 }
def GS.freshTo : Nat → GS
  | 0 => GS.none
  | 1 => GS.none.set 1 (freshN 2)
  | 2 => (GS.none.set 1 (freshN 2)).set 2 (freshN 1)
  | _ => ((GS.none.set 1 (freshN 2)).set 2 (freshN 1)).set 3 (freshN 1)
/-- a group with its own nodes -/
def GS.fresh : GS := GS.freshTo 3
theorem GS.freshTo_ok : ∀ q, (GS.freshTo q).Ok
  | 0 => none_ok
  | 1 => none_ok.set 1 rfl rfl
  | 2 => (none_ok.set 1 rfl rfl).set 2 rfl rfl
  | _ + 3 => ((none_ok.set 1 rfl rfl).set 2 rfl rfl).set 3 rfl rfl
theorem GS.fresh_ok : GS.fresh.Ok := GS.freshTo_ok 3
theorem build_fresh (w : World) (k : UInt8) : (Instr.build 130 #[(0, .int .u8 (k.toNat : Int)), (1, .int .u8 1), (2, .int .u16 1)]).run Tryz.prog w = .ok (freshN k).val w := by kernel_rfl

/-- a configuration: what the laws need of it -/
structure CfFacts (R : List RegV) (n : Nat) : Prop where
  tot : totalOf 32 R = (n : Int)
  ge : 32 ≤ n
  le : n ≤ 65536
  geo : ∀ (k : Nat), k < R.length → ∃ (v : GeoV) (r : RegV), (geosOf 32 R)[k]? = some v ∧ R[k]? = some r ∧ (geoN v).Ok n ∧ (geoN v).val = .agg v.cells.toArray ∧ ((geoN v).blocks : Int) = r.blocks ∧ ((geoN v).nodes : Int) = r.nodes ∧ 4 ≤ (geoN v).blocks ∧ (geoN v).blocks ≤ 512 ∧ 4 ≤ (geoN v).nodes ∧ (geoN v).nodes ≤ 128
  apart : ∀ (j k : Nat) (v v' : GeoV), (geosOf 32 R)[j]? = some v → (geosOf 32 R)[k]? = some v' → j < k → (geoN v).data + (geoN v).blocks ≤ (geoN v').base
theorem geos_from {R : List RegV} (hok : ∀ r ∈ R, okReg r) : ∀ (a : Int) (k : Nat) (v : GeoV), (geosOf a R)[k]? = some v → a ≤ v.base := by
  induction R with
  | nil => intro a k v h; simp [geosOf] at h
  | cons r R ih =>
    intro a k v h
    cases k with
    | zero => simp only [geosOf, List.getElem?_cons_zero, Option.some.injEq] at h; subst h; exact Int.le_refl _
    | succ k =>
      simp only [geosOf, List.getElem?_cons_succ] at h
      have h1 := ih (fun x hx => hok x (by simp [hx])) _ k v h
      obtain ⟨_, k1, k2, k3, k4⟩ := hok r (by simp)
      have h2 : a ≤ (geoOf a r).end_ := by simp only [geoOf, GeoV.end_]; omega
      omega
theorem geos_apart {R : List RegV} (hok : ∀ r ∈ R, okReg r) : ∀ (a : Int) (j k : Nat) (v v' : GeoV), 0 ≤ a → (geosOf a R)[j]? = some v → (geosOf a R)[k]? = some v' → j < k → (geoN v).data + (geoN v).blocks ≤ (geoN v').base := by
  induction R with
  | nil => intro a j k v v' _ h; simp [geosOf] at h
  | cons r R ih =>
    intro a j k v v' ha h h' hjk
    obtain ⟨_, k1, k2, k3, k4⟩ := hok r (by simp)
    have h2 : a ≤ (geoOf a r).end_ := by simp only [geoOf, GeoV.end_]; omega
    obtain ⟨k, rfl⟩ : ∃ m, k = m + 1 := ⟨k - 1, by omega⟩
    simp only [geosOf, List.getElem?_cons_succ] at h'
    cases j with
    | zero =>
      simp only [geosOf, List.getElem?_cons_zero, Option.some.injEq] at h
      subst h
      have h3 := geos_from (fun x hx => hok x (by simp [hx])) _ k v' h'
      simp only [geoN, geoOf, GeoV.end_] at h3 ⊢
      omega
    | succ j =>
      simp only [geosOf, List.getElem?_cons_succ] at h
      exact ih (fun x hx => hok x (by simp [hx])) _ j k v v' (by omega) h h' (by omega)
theorem cf_facts {R : List RegV} (hok : ∀ r ∈ R, okReg r) (hl : R.length ≤ 5) : ∃ n, CfFacts R n := by
  have htb := total_bounds hok 32 (by omega)
  have hge := tot_ge hok 32
  refine ⟨(totalOf 32 R).toNat, by omega, by omega, by omega, fun k hk => ?_, fun j k v v' h h' hjk => geos_apart hok 32 j k v v' (by omega) h h' hjk⟩
  have hv : (geosOf 32 R)[k]? = some ((geosOf 32 R)[k]'(by rw [geosOf_length]; exact hk)) := List.getElem?_eq_getElem _
  obtain ⟨h1, h2, r, hr, h3, h4⟩ := geos_ok hok 32 k _ (by omega) (by omega) hv
  obtain ⟨_, b1, b2, b3, b4⟩ := hok r (List.mem_of_getElem? hr)
  exact ⟨_, r, hv, hr, h1, h2, h3, h4, by omega, by omega, by omega, by omega⟩
theorem SzFacts.cf {R : List RegV} {n : Nat} (h : SzFacts R n) (hok : ∀ r ∈ R, okReg r) : CfFacts R n :=
  ⟨h.tot, h.ge, h.le, h.geo, fun j k v v' h h' hjk => geos_apart hok 32 j k v v' (by omega) h h' hjk⟩
/-- the groups of a disk are what is said of each -/
def AllIs (R : List RegV) (D : List BlkV) (F : Nat → GS) : Prop := ∀ (k : Nat) (v : GeoV), (geosOf 32 R)[k]? = some v → Sto.Is ⟨D, [], 0⟩ (geoN v) (F k)
theorem CfFacts.sep {R : List RegV} {n : Nat} (h : CfFacts R n) {j k : Nat} {v v' : GeoV} (hv : (geosOf 32 R)[j]? = some v) (hv' : (geosOf 32 R)[k]? = some v') (hjk : j ≠ k) :
    (geoN v').data + (geoN v').blocks ≤ (geoN v).base ∨ (geoN v).data + (geoN v).blocks ≤ (geoN v').base := by
  rcases Nat.lt_or_gt_of_ne hjk with h1 | h1
  · exact .inr (h.apart j k v v' hv hv' h1)
  · exact .inl (h.apart k j v' v hv' hv h1)
theorem CfFacts.geo_ok {R : List RegV} {n : Nat} (h : CfFacts R n) {k : Nat} {v : GeoV} (hv : (geosOf 32 R)[k]? = some v) : (geoN v).Ok n := by
  have hk : k < R.length := by have := (List.getElem?_eq_some_iff.1 hv).1; rwa [geosOf_length] at this
  obtain ⟨v', r, hv', _, h1, _⟩ := h.geo k hk
  rw [hv] at hv'
  cases hv'
  exact h1
/-- a transaction in one group is written: the others are what they were -/
theorem AllIs.commit {R : List RegV} {n : Nat} {D : List BlkV} {F : Nat → GS} {s : Sto} {j : Nat} {v : GeoV} {G : GS} {L : List Nat} {l : List Nat} (h : AllIs R D F) (hc : CfFacts R n) (hs : s.Ok) (hv : (geosOf 32 R)[j]? = some v)
    (hst : Sto.Step ⟨D, [], 0⟩ s (geoN v) L) (hi : s.Is (geoN v) G) (hp : l.Perm (s.M.map (·.1))) : AllIs R (commitD s l) (upd F j G) := by
  intro k v' hv'
  have hu := hc.geo_ok hv'
  by_cases hjk : k = j
  · subst hjk
    rw [hv] at hv'
    cases hv'
    rw [upd_same]
    exact hi.commit hu hs hp
  · rw [upd_other _ _ hjk]
    exact ((h k v' hv').far hu hst (hc.sep hv hv' (fun e => hjk e.symm))).commit hu hs hp
theorem Tch.txn {B : Nat} {w0 w w' : World} {i : Ids} (h : Tch B (fun x => x = i.dd ∨ x = i.rr) w0 w) (ht : Tch w.heap.size i.own w w') (h1 : w.heap.size ≤ i.tt) (h2 : w.heap.size ≤ i.mm) (hB : B ≤ w.heap.size) : Tch B (fun x => x = i.dd ∨ x = i.rr) w0 w' :=
  h.trans (ht.mono hB fun k hk hs => by
    rcases hs with e | e | e | e
    · omega
    · omega
    · exact .inl e
    · exact .inr e)

theorem Tch.txn2 {B mq : Nat} {w0 w w' : World} {i ii : Ids} (hii : Ids.mk ii.tt mq i.ll i.dd i.rr = ii ∧ w.heap.size ≤ ii.tt ∧ w.heap.size ≤ mq) (h : Tch B (fun x => x = i.dd ∨ x = i.rr) w0 w) (ht : Tch w.heap.size ii.own w w') (hB : B ≤ w.heap.size) : Tch B (fun x => x = i.dd ∨ x = i.rr) w0 w' :=
  h.trans (ht.mono hB fun k hk hs => by
    obtain ⟨h1, h2, h3⟩ := hii
    rcases hs with e | e | e | e
    · omega
    · rw [← h1] at e; simp only at e; omega
    · rw [← h1] at e; exact .inl e
    · rw [← h1] at e; exact .inr e)
theorem LogAt.ids {w : World} {mq : Nat} {i ii : Ids} {D : List BlkV} (hii : Ids.mk ii.tt mq i.ll i.dd i.rr = ii) (h : LogAt w ii.ll ii.dd ii.rr D) : LogAt w i.ll i.dd i.rr D := by
  rw [← congrArg Ids.ll hii, ← congrArg Ids.dd hii, ← congrArg Ids.rr hii] at h
  exact h
def GeoN.zero : GeoN := ⟨0, 0, 0, 0, 0, 0⟩
theorem zero_geo (w : World) : (zeroValue 169).run Tryz.prog w = .ok (.agg GeoN.zero.cells.toArray) w := by kernel_rfl
/-- the kinds of a group's own nodes -/
def freshK (q : Nat) : UInt8 := if q = 0 then 2 else 1
theorem freshTo_succ : ∀ q, q < 3 → GS.freshTo (q + 1) = (GS.freshTo q).set (q + 1) (freshN (freshK q)) ∧ checkN (freshN (freshK q)) = true
  | 0, _ => ⟨rfl, rfl⟩
  | 1, _ => ⟨rfl, rfl⟩
  | 2, _ => ⟨rfl, rfl⟩
section
variable {B : Nat} {w w' : World} {c : Nat} {R : List RegV} {K : List MarkV} {tb nb lb : Nat} {A1 A2 A3 : Option Addr} {c1 c2 c3 : Nat}
set_option maxRecDepth 100000 in
set_option maxHeartbeats 3200000 in
theorem fresh_all {n : Nat} (hin : ConfIn B w c R K tb nb lb A1 A2 A3 c1 c2 c3) (hF : CfFacts R n) (hR5 : R.length ≤ 5) :
    Calls Tryz.prog 16 #[.pointer (some ⟨c, 0, none⟩)] w fun e w' => ∃ (i : Ids) (D : List BlkV), e = .returned (.tuple #[.pointer (some ⟨i.dd, 0, none⟩), .pointer (some ⟨i.ll, 0, none⟩), .pointer (some ⟨i.tt, 0, none⟩)]) ∧ TxAt w' i ⟨D, [], 0⟩ ∧ D.length = n ∧ AllIs R D (fun _ => GS.fresh) ∧ (∀ k, i.own k → w.heap.size ≤ k) ∧ w.heap.size ≤ i.ll ∧ Below w.heap.size w w' := by
  have hbeg := begun_ok (w := w) hin hF.tot hF.ge hF.le
  have HIN := hide hin
  have HF := hide hF
  clear hin hF
  go_enter Tryz.func16, Tryz.ntmps16
  go_wp2_with fail
  refine hbeg.mono ?_
  rintro e w1 ⟨i, rfl, hx, hown, hll, hb1⟩
  have HIN1 := hide (HIN.out.below hb1)
  have HL1 := hide hx.log
  have HB1 := hide hb1
  have HOWN := hide (And.intro hown hll)
  clear hx hown hll hb1 hbeg
  go_wp2_with fail
  refine (len_ok HIN1.out).mono ?_
  rintro e w_ ⟨rfl, hw_⟩
  have hw_ := hw_.symm
  subst hw_
  go_wp2_with fail
  go_loopg [22] R.length (fun gh x22 wr => ∃ (j : Nat) (Dk : List BlkV), j ≤ R.length ∧ gh = R.length - j ∧ x22 = .int .i64 (j : Int) ∧ Hid (Tch w1.heap.size (fun x => x = i.dd ∨ x = i.rr) w1 wr) ∧ Hid (LogAt wr i.ll i.dd i.rr Dk) ∧ Hid (Dk.length = n ∧ AllIs R Dk (fun k => if k < j then GS.fresh else GS.none)))
  case atStart =>
    exact ⟨0, begD n, Nat.zero_le _, rfl, rfl, hide (Tch.refl _ _ _), HL1, hide ⟨begD_length _, fun k v hv => begun_is (HF.out.geo_ok hv)⟩⟩
  case round =>
    obtain ⟨j, Dk, hj, hgh, rfl, HT, HL, HI⟩ := hrel
    have HGH := hide hgh
    clear hgh
    have HD32 := hide (show 32 ≤ Dk.length from by rw [HI.out.1]; exact HF.out.ge)
    have HBr : Hid (Below w.heap.size w wr) := hide (HB1.out.trans ((HT.out.mono HB1.out.size (S' := fun _ => False) (fun k hk h => by
      rcases h with h | h
      · have := HOWN.out.1 k (.inr (.inr (.inl h))); omega
      · have := HOWN.out.1 k (.inr (.inr (.inr h))); omega)).below fun _ _ h => h))
    rcases Nat.lt_or_ge j R.length with hjl | hjl
    · have hjz : (j : Int) < (R.length : Int) := by omega
      obtain ⟨v, r, hv, hr, hgo, hval, -, -, g4, g512, n4, n128⟩ := HF.out.geo j hjl
      go_wp2_with fail
      refine (begin_ok HL.out HD32.out).mono ?_
      rintro e w7 ⟨tt, mm, rfl, htt, hmm, hx7, hb7⟩
      obtain ⟨ii, hii⟩ : ∃ ii : Ids, Ids.mk tt mm i.ll i.dd i.rr = ii := ⟨_, rfl⟩
      have htt' : tt = ii.tt := by rw [← hii]
      rw [hii] at hx7
      subst htt'
      have hgeo := geo_ok (HIN.out.below (HBr.out.trans (hb7.mono HBr.out.size))) hv
      obtain ⟨u, hu⟩ : ∃ u, geoN v = u := ⟨_, rfl⟩
      have hval2 : (Value.agg #[.int .i64 v.base, .int .i64 v.bitmap, .int .i64 v.table, .int .i64 v.data, .int .i64 v.blocks, .int .i64 v.nodes]) = .agg u.cells.toArray := by rw [← hu]; exact hval.symm
      rw [hval2] at hgeo
      rw [hu] at hgo n4
      have HX7 := hide hx7
      have HB7 := hide hb7
      have HII := hide (And.intro hii (And.intro htt hmm))
      have HGE := hide hgeo
      have HV := hide (And.intro hv hu)
      have HGO := hide (And.intro hgo n4)
      clear hii htt hmm hx7 hb7 hgeo hu hval2 hval hv hr hgo g4 g512 n4 n128
      go_wp2_with fail
      refine HGE.out.mono ?_
      rintro e w8 ⟨rfl, hb8⟩
      have HX8 := hide (HX7.out.below hb8)
      have HB8 := hide (HB7.out.trans (hb8.mono HB7.out.size))
      clear hb8 HX7 HB7 HGE
      go_upto_region 7 with (first | ((with_reducible refine at_alloc 169 ?_); refine wpList_alloc_as rfl 169 rfl _ (zero_geo _) ?_) | ((with_reducible refine at_store 169 (.tmp 10) (.tmp 31) ?_); refine wpList_store_blk rfl 169 (.tmp 10) (.tmp 31) rfl w8.heap.size _ _ _ (by rfl) (by rfl) (Blk.new _ _ _) (size_geo u) rfl (geo_one u) (fun _ => ?_)) | fail)
      refine at_world (fun W => ∃ p, p = w8.heap.size ∧ Below w8.heap.size w8 W ∧ Blk W p 169 u.cells.toArray) ⟨_, rfl, below_setRow ((Below.refl _ _).alloc (Nat.le_refl _) _) (Nat.le_refl _) _, (Blk.new _ _ _).setRow_same _⟩ (fun w9 h9 => ?_)
      obtain ⟨p, hp, hb9, hP⟩ := h9
      rw [← hp]
      have HX9 := hide (HX8.out.below hb9)
      have HB9 := hide (HB8.out.trans (hb9.mono HB8.out.size))
      have HP9 := hide hP
      clear hp hb9 hP HX8 HB8
      go_wp2_with fail
      refine at_world (fun W => ∃ kb, kb = w9.heap.size ∧ kb < W.heap.size ∧ Below w9.heap.size w9 W ∧ ∀ q, q < 3 → W.cell? ⟨kb, q, none⟩ = some (.int .u8 ((freshK q).toNat : Int))) ⟨_, rfl, by simp, (Below.refl _ _).alloc (Nat.le_refl _) _, fun q hq => by
        obtain rfl | rfl | rfl : q = 0 ∨ q = 1 ∨ q = 2 := by omega
        · exact (Blk.new w9 _ _).cell 0
        · exact (Blk.new w9 _ _).cell 1
        · exact (Blk.new w9 _ _).cell 2⟩ (fun w10 h10 => ?_)
      obtain ⟨kb, hkb, kbl, hb10, hK10⟩ := h10
      rw [← hkb]
      have HX10 := hide (HX9.out.below hb10)
      have HB10 := hide (HB9.out.trans (hb10.mono HB9.out.size))
      have HP10 := hide (HP9.out.below hb10 HP9.out.lt)
      have HK10 := hide hK10
      have HKO := hide (show ¬ ii.own kb from fun hk => HX9.out.other_new (Nat.le_of_eq hkb.symm) hk)
      have HPO := hide (show ¬ ii.own p from HX10.out.other HP10.out (by decide) (by decide) (by decide))
      clear hkb hb10 hK10 HX9 HB9 HP9
      go_loopg [35] 3 (fun gh x35 wq => ∃ (q : Nat) (s : Sto) (L : List Nat), q ≤ 3 ∧ gh = 3 - q ∧ x35 = .int .i64 (q : Int) ∧ Hid (TxAt wq ii s) ∧ Hid (Tch w10.heap.size ii.own w10 wq) ∧ Hid (Sto.Step ⟨Dk, [], 0⟩ s u L ∧ s.Is u (GS.freshTo q) ∧ s.M.length ≤ q))
      case atStart =>
        refine ⟨0, _, [], by omega, rfl, rfl, HX10, hide (Tch.refl _ _ _), hide ⟨Sto.Step.refl _ _ _, ?_, Nat.le_refl _⟩⟩
        have := HI.out.2 j v HV.out.1
        rw [HV.out.2] at this
        have e : (if j < j then GS.fresh else GS.none) = GS.freshTo 0 := if_neg (by omega)
        simp only [e] at this
        exact this
      case round =>
        obtain ⟨q, s, L, hq, hgq, rfl, HXq, HTq, HSq⟩ := hrel
        have HGQ := hide hgq
        clear hgq
        have kbl' : kb < _ := Nat.lt_of_lt_of_le kbl HTq.out.size
        rcases Nat.lt_or_ge q 3 with hq3 | hq3
        · have hqz : (q : Int) < 3 := by omega
          have y := (World.cell?_of_block (w := w10) (a := ⟨kb, q, none⟩) (HTq.out.block kb kbl HKO.out)).trans (HK10.out q hq3)
          have HPq := hide (HP10.out.tch HTq.out HP10.out.lt HPO.out)
          have hD : s.D.length = n := by rw [HSq.out.1.D]; exact HI.out.1
          have hug : u.Ok s.D.length := by rw [hD]; exact HGO.out.1
          have hn4 := HGO.out.2
          obtain ⟨hfs, hck⟩ := freshTo_succ q hq3
          have hwr := write_node (num := q + 1) (n := freshN (freshK q)) HXq.out hug (by omega) (by omega) rfl hck (node_can hug (by have := HSq.out.2.2; omega) (by omega) (by omega))
          have hst := is_set (v := freshN (freshK q)) HXq.out.ok hug (by omega) (by omega) rfl HSq.out.2.1 (num := q + 1)
          have hbf := fun W => build_fresh W (freshK q)
          rw [← hfs] at hst
          rw [show ((q + 1 : Nat) : Int) = (q : Int) + 1 from by omega] at hwr
          have hml : (s.setNode u (q + 1) (freshN (freshK q))).M.length ≤ q + 1 := by
            unfold Sto.setNode
            have := Sto.put_len s (u.base + u.bitmap + (q + 1 - 1) / 2) (wrB (s.at_ (u.base + u.bitmap + (q + 1 - 1) / 2)) ((q + 1 - 1) % 2 * 32) (encN (freshN (freshK q))))
            have := HSq.out.2.2
            omega
          have HST := hide (And.intro (HSq.out.1.trans hst.2) (And.intro hst.1 hml))
          have e1 : IntKind.i64.wrap ((q : Int) + 1) = (q : Int) + 1 := IntWalk.i64_in _ (by omega)
          generalize s.setNode u (q + 1) (freshN (freshK q)) = s2 at hwr HST
          generalize freshK q = kk at y hwr hbf
          have HWR := hide hwr
          have HBF := hide hbf
          clear hfs hck hwr hst hbf hml hD hug hn4 HSq
          go_wp2_with (first | ((with_reducible refine at_load 169 (.tmp 10) ?_); refine wpList_load_blk rfl 169 (.tmp 10) rfl p _ _ _ (by rfl) HPq.out Tryz.underlying169 rfl (size_geo u) ?_) | ((with_reducible refine at_build 130 #[(0, .tmp 44), (1, .const (.int .u8 1)), (2, .const (.int .u16 1))] ?_); refine wpList_run rfl _ (exec_build 130 #[(0, .tmp 44), (1, .const (.int .u8 1)), (2, .const (.int .u16 1))] rfl #[(0, .int .u8 (kk.toNat : Int)), (1, .int .u8 1), (2, .int .u16 1)] (by simp only [List.map_toArray, List.map_cons, List.map_nil]; rfl) _ (HBF.out _)) ?_) | fail)
          refine HWR.out.mono ?_
          rintro e w11 ⟨rfl, hx11, ht11⟩
          have HX11 := hide hx11
          have HT11 := hide (HTq.out.trans (ht11.mono HTq.out.size fun _ _ h => h))
          clear hx11 ht11 HWR y kbl' HPq
          go_wp2
          go_roundg (3 - (q + 1))
          case rel => exact ⟨q + 1, s2, _, by omega, rfl, by first | rfl | go_num, HX11, HT11, HST⟩
          case measure => have := HGQ.out; omega
        · have hqe : q = 3 := by omega
          subst hqe
          clear kbl'
          have hcom := commit_ok HXq.out HSq.out.1.bad
          have HCOM := hide hcom
          clear hcom
          go_wp2_with fail
          refine HCOM.out.mono ?_
          rintro e w12 ⟨l, rfl, hp, hx12, ht12⟩
          have hDl : (commitD s l).length = n := by rw [commit_len, HSq.out.1.D]; exact HI.out.1
          have hall := AllIs.commit HI.out.2 HF.out HXq.out.ok HV.out.1 (by rw [HV.out.2]; exact HSq.out.1) (by rw [HV.out.2]; exact HSq.out.2.1) hp
          have hall2 : AllIs R (commitD s l) (fun k => if k < j + 1 then GS.fresh else GS.none) := fun k v hv => by
            have := hall k v hv
            have e : upd (fun k => if k < j then GS.fresh else GS.none) j (GS.freshTo 3) k = if k < j + 1 then GS.fresh else GS.none := by
              unfold upd
              by_cases h1 : k = j
              · rw [if_pos h1, if_pos (by omega)]; rfl
              · rw [if_neg h1]
                by_cases h2 : k < j
                · simp only [if_pos h2, if_pos (show k < j + 1 by omega)]
                · simp only [if_neg h2, if_neg (show ¬ k < j + 1 by omega)]
            rwa [e] at this
          have e := HII.out.1
          have HL12 : Hid (LogAt w12 i.ll i.dd i.rr (commitD s l)) := hide (by
            have h := hx12.log
            rw [← congrArg Ids.ll e, ← congrArg Ids.dd e, ← congrArg Ids.rr e] at h
            exact h)
          have hT := (Tch.of_below (S := ii.own) HB10.out).trans ((HTq.out.trans (ht12.mono HTq.out.size fun _ _ h => h)).mono HB10.out.size fun _ _ h => h)
          have HT12 : Hid (Tch w1.heap.size (fun x => x = i.dd ∨ x = i.rr) w1 w12) := hide (HT.out.trans (hT.mono HT.out.size (fun k hk h => by
            have h1 := HII.out.2.1
            have h2 := HII.out.2.2
            have h3 := HT.out.size
            rcases h with h | h | h | h
            · omega
            · rw [← e] at h; simp only at h; omega
            · rw [← e] at h; exact .inl h
            · rw [← e] at h; exact .inr h)))
          have HI12 := hide (And.intro hDl hall2)
          clear hp hx12 ht12 hDl hall hall2 e hT HCOM HSq
          go_wp2
          go_roundg (R.length - (j + 1))
          case rel => exact ⟨j + 1, _, by omega, rfl, by first | rfl | go_num, HT12, HL12, HI12⟩
          case measure => have := HGH.out; omega
    · have hje : decide ((j : Int) < R.length) = false := by simp; omega
      have hjR : R.length = j := by omega
      go_wp2_with fail
      refine (begin_ok HL.out HD32.out).mono ?_
      rintro e w7 ⟨tt, mm, rfl, htt, hmm, hx7, hb7⟩
      have HF7 := hide (And.intro hx7 (And.intro (HBr.out.trans (hb7.mono HBr.out.size)) (show (∀ k, Ids.own ⟨tt, mm, i.ll, i.dd, i.rr⟩ k → w.heap.size ≤ k) from by
        have := HBr.out.size
        have h1 := HOWN.out.1 i.dd (.inr (.inr (.inl rfl)))
        have h2 := HOWN.out.1 i.rr (.inr (.inr (.inr rfl)))
        rintro k (e | e | e | e) <;> simp only at e <;> omega)))
      have HJ := hide hjR
      clear htt hmm hx7 hb7 hjR
      go_wp2
      go_returns
      refine ⟨⟨tt, mm, i.ll, i.dd, i.rr⟩, Dk, rfl, HF7.out.1, HI.out.1, fun k v hv => ?_, HF7.out.2.2, HOWN.out.2, HF7.out.2.1⟩
      have hk : k < R.length := by have := (List.getElem?_eq_some_iff.1 hv).1; rwa [geosOf_length] at this
      have := HI.out.2 k v hv
      have e : (if k < j then GS.fresh else GS.none) = GS.fresh := if_pos (by have := HJ.out; omega)
      simp only [e] at this
      exact this
end
end Go.Proofs.YthmkgohfeahdhaaGreat
namespace Go.Proofs.YthmkgohfeahdhaaGreat
open Go.RowKit
set_option linter.unusedSimpArgs false
set_option linter.unusedVariables false

/-- an empty file -/
theorem file_empty {G : GS} {m : Nat} {n : NodeV} (κ : Nat → Nat) (f : Nat → UInt8) (hd : n.dir.length = 6) (h0 : ∀ c, n.slot c = 0) : FileAt G m n 0 κ 0 f := by
  have hp : ∀ c, prOf 0 c = false := fun c => by unfold prOf; rw [decide_eq_false_iff_not]; omega
  refine ⟨⟨hd, fun c h => ?_, fun c p j h _ => ?_, fun c _ _ => ?_, fun c p j _ _ h => ?_, fun c h => ?_, fun c c' h _ _ => ?_⟩, by omega, by omega, fun j hj => by omega⟩
  · rw [hp] at h; cases h
  · rw [hp] at h; cases h
  · rw [hp, h0]; rfl
  · rw [hp] at h; cases h
  · rw [hp] at h; cases h
  · rw [hp] at h; cases h
theorem fresh_slot (k : UInt8) (c : Nat) : (freshN k).slot c = 0 := by
  unfold NodeV.slot freshN NodeV.zero
  split
  · rename_i h
    obtain rfl | rfl | rfl | rfl | rfl | rfl : c = 0 ∨ c = 1 ∨ c = 2 ∨ c = 3 ∨ c = 4 ∨ c = 5 := by omega
    all_goals rfl
  · split <;> rfl
theorem fresh_cnt (m : Nat) : GS.fresh.cnt m = 0 := by
  unfold GS.cnt
  have : (List.range m).filter GS.fresh.tk = [] := by
    rw [List.filter_eq_nil_iff]
    intro x _
    simp [GS.fresh, GS.freshTo, GS.set, GS.none]
  rw [this]
  rfl
theorem Rd.of_bytes {w : World} {p n : Nat} {t : TypeId} {l : List UInt8} (h : Blk w p t (bvs l).toArray) (hn : l.length = n) : Rd w w.heap.size 1 (some ⟨p, 0, none⟩) n (bvs l) :=
  ⟨by rw [bvs_length, hn, Nat.mul_one], fun _ => ⟨p, 0, rfl, h.lt, fun j u hu => by
    have := h.cell j
    rw [List.getElem?_toArray, hu] at this
    rw [Nat.zero_add]; exact this⟩⟩
theorem made_bytes (n : Nat) : (madeCells (Value.int .u8 0).cells (n * 1)).toList = bvs (List.replicate n 0) := by
  apply List.ext_getElem
  · simp [madeCells, bvs]
  · intro i h1 h2
    simp [madeCells, bvs, Value.cells]
    rw [Nat.mod_one]
    rfl
theorem check_grow {n n' : NodeV} {x : Nat} (h : n.same n') (hk : n.kind = 1) (hl : n.links ≠ 0) (hs : max n.size.toNat x ≤ 16384) : checkN (n'.grow x) = true := by
  have h1 : (n'.grow x).kind = 1 := h.1.trans hk
  have h2 : (n'.grow x).links = n.links := h.2.1
  have h3 : (n'.grow x).size.toNat = max n.size.toNat x := by rw [grow_size (by rw [h.2.2.2]; omega), h.2.2.2]
  unfold checkN
  rw [h1, h2, h3]
  simp [hl]
  omega
end Go.Proofs.YthmkgohfeahdhaaGreat
namespace Go.Proofs.YthmkgohfeahdhaaGreat
open Go.RowKit
set_option linter.unusedSimpArgs false
set_option linter.unusedVariables false

/-- a record, as it lies -/
structure RecV where
  s : Nat
  f : Nat
  t : Nat
  A : Option Addr
  l : List UInt8
  c : Nat
structure RecV.Ok (r : RecV) : Prop where
  s : r.s < 4294967296
  f : r.f < 256
  t : r.t < 256
def RecV.cells (r : RecV) : List Value := [.int .u32 (r.s : Int), .int .u8 (r.f : Int), .int .u8 (r.t : Int), .slice r.A r.l.length r.c]
def RecV.enc (r : RecV) : List UInt8 := encB r.s r.f r.t r.l
theorem FileAt.congr {G : GS} {m c len : Nat} {n : NodeV} {κ : Nat → Nat} {f f' : Nat → UInt8} (h : FileAt G m n c κ len f) (hf : ∀ j, j < len → f j = f' j) : FileAt G m n c κ len f' :=
  ⟨h.tree, h.cle, h.fit, fun j hj => (h.byte j hj).trans (hf j hj)⟩
section
variable {w w' : World} {i : Ids} {s : Sto} {gg : Nat} {g : GeoN} {lab : Int} {G : GS}
end
end Go.Proofs.YthmkgohfeahdhaaGreat
namespace Go.Proofs.YthmkgohfeahdhaaGreat
open Go.RowKit
set_option linter.unusedSimpArgs false
set_option linter.unusedVariables false

/-- a record's bytes lie in a row of their own -/
def RecV.Own (w : World) (r : RecV) : Prop := w.ownsRow 0 5 1 (.slice r.A r.l.length r.c) r.l.length (bvs r.l)
/-- an address lies in a row of bytes -/
def BT (w : World) (A : Option Addr) : Prop := ∀ b, A = some b → ∃ cur, Blk w b.block 5 cur
theorem BT.of_own {w : World} {B n c sz : Nat} {A : Option Addr} {xs : List Value} (h : w.ownsRow B 5 sz (.slice A n c) n xs) : BT w A := fun b hb => by
  subst hb
  rcases h.2 with ⟨h0, _⟩ | ⟨g, cap, cur, hv, _, hh, _⟩
  · cases h0
  · simp only [Value.slice.injEq, Option.some.injEq] at hv
    obtain ⟨rfl, _⟩ := hv
    exact ⟨cur, hh⟩
theorem BT.tch {w w' : World} {A : Option Addr} {S : Nat → Prop} (h : BT w A) (ht : Tch w.heap.size S w w') (hS : ∀ g cur, Blk w g 5 cur → ¬ S g) : BT w' A := fun b hb => by
  obtain ⟨cur, hB⟩ := h b hb
  exact ⟨cur, hB.tch ht hB.lt (hS _ _ hB)⟩
theorem BT.below {w w' : World} {A : Option Addr} (h : BT w A) (hb : Below w.heap.size w w') : BT w' A := h.tch (Tch.of_below (S := fun _ => False) hb) (fun _ _ _ h => h)
theorem BT.slA {w : World} {A : Option Addr} {c l : Nat} (h : BT w A) : BT w (slA A c l) := fun b hb => by
  unfold Go.Proofs.YthmkgohfeahdhaaGreat.slA at hb
  split at hb
  · exact h b hb
  · cases A with
    | none => cases hb
    | some a =>
      simp only [Option.map_some, Option.some.injEq] at hb
      obtain ⟨cur, hB⟩ := h a rfl
      have : b.block = a.block := by rw [← hb]; unfold Addr.add; split <;> rfl
      rw [this]
      exact ⟨cur, hB⟩
theorem Rd.keepT {w w' : World} {B n : Nat} {A : Option Addr} {xs : List Value} {S : Nat → Prop} (h : Rd w B 1 A n xs) (hA : BT w A) (ht : Tch w.heap.size S w w') (hS : ∀ g cur, Blk w g 5 cur → ¬ S g) : Rd w' w'.heap.size 1 A n xs :=
  ⟨h.1, fun hn => by
    obtain ⟨b, o, e, hb, hc⟩ := h.2 hn
    obtain ⟨cur, hB⟩ := hA _ e
    refine ⟨b, o, e, Nat.lt_of_lt_of_le hB.lt ht.size, fun j u hu => ?_⟩
    exact (World.cell?_of_block (w := w) (a := ⟨b, o + j, none⟩) (ht.block b hB.lt (hS _ _ hB))).trans (hc j u hu)⟩
section
variable {w w' : World} {i : Ids} {s : Sto} {gg : Nat} {g : GeoN} {lab : Int} {G : GS}
end
end Go.Proofs.YthmkgohfeahdhaaGreat
namespace Go.Proofs.YthmkgohfeahdhaaGreat
open Go.RowKit Go.ChangeShapes Go.WideShapes Go.ChangeAt Go.Joins Go.Deep
set_option linter.unusedSimpArgs false
set_option linter.unusedVariables false

section
variable {H : Type} {enc : TypeId × Value → H} {P : Program} {w : World} {base : Nat} {held : Bool} {fuel : Nat} {t e : TypeId} {v : Value} {y : DataW H × List MemPlace}

theorem awf_u8 {n : Int} (h : (Lit.int .u8 n).wf = true) : ∃ k : Nat, n = k ∧ k < 256 := by
  have h : IntKind.u8.min ≤ n ∧ n ≤ IntKind.u8.max := by simpa [Lit.wf] using h
  have h1 : IntKind.u8.min = 0 := by decide
  have h2 : IntKind.u8.max = 255 := by decide
  exact ⟨n.toNat, by omega, by omega⟩
theorem awf_u16 {n : Int} (h : (Lit.int .u16 n).wf = true) : ∃ k : Nat, n = k ∧ k < 65536 := by
  have h : IntKind.u16.min ≤ n ∧ n ≤ IntKind.u16.max := by simpa [Lit.wf] using h
  have h1 : IntKind.u16.min = 0 := by decide
  have h2 : IntKind.u16.max = 65535 := by decide
  exact ⟨n.toNat, by omega, by omega⟩


theorem open_bytes_cell (ht : P.underlying t = some (.slice e)) (he : P.underlying e = some (.int .u8)) (hc : P.cellsOf e = 1) (h : DataW.trod enc P w base (fun _ => true) held fuel t [v] = some y) :
    ∃ (A : Option Addr) (n c : Nat) (l : List UInt8), v = .slice A n c ∧ Rd w w.heap.size 1 A n (bvs l) ∧ n ≤ c := by
  rcases open_ints ht he hc h with ⟨hcs, _⟩ | ⟨x, n, c, zs, hcs, _, hl, _, hz, _, hcell, hwz⟩
  · exact ⟨none, 0, 0, [], by simpa using hcs, Rd.nil _ _ _ _, Nat.le_refl _⟩
  · simp only [if_true] at hz
    refine ⟨some x, n, c, (zs.take n).map fun z => UInt8.ofNat z.toNat, by simpa using hcs, ⟨by simp [bvs]; omega, fun hn => ?_⟩, hl⟩
    have h0 := hcell 0 (by omega)
    have hspot : x.spot = none := by simpa [Addr.add] using World.cell?_spot h0
    obtain ⟨b, o, spot⟩ := x
    simp only at hspot
    subst hspot
    have hb : b < w.heap.size := by
      have := World.block_lt_of_cell? w _ h0
      simpa [Addr.add] using this
    refine ⟨b, o, rfl, hb, fun j u hu => ?_⟩
    have hj : j < n := by
      rcases Nat.lt_or_ge j n with h | h
      · exact h
      · rw [List.getElem?_eq_none (by simp [bvs]; omega)] at hu; cases hu
    have hc := hcell j (by omega)
    have hadd : (⟨b, o, none⟩ : Addr).add j = ⟨b, o + j, none⟩ := by unfold Addr.add; split <;> simp_all
    rw [hadd] at hc
    rw [hc, ← hu]
    have hjz : j < zs.length := by omega
    have hw := hwz (zs[j]) (List.getElem_mem hjz)
    obtain ⟨k, hk, hk2⟩ := awf_u8 hw
    have e1 : zs.getD j 0 = (k : Int) := by simp [List.getD_eq_getElem?_getD, List.getElem?_eq_getElem hjz, hk]
    rw [e1]
    rw [bvs_get, List.getElem?_map, List.getElem?_take, if_pos hj, List.getElem?_eq_getElem hjz, hk]
    simp only [Option.map_some, Int.toNat_natCast]
    rw [bv_ofNat hk2]

variable {r : Reach} {b0 : Nat} {d : DataW H} {ps : List MemPlace}
theorem open_u8 (ht : P.underlying t = some (.int .u8)) (hval : Value.okWide P w r b0 t v) (h : DataW.Trod enc P w base (fun _ => true) held t v d ps) : ∃ k : Nat, v = .int .u8 k ∧ k < 256 := by
  obtain ⟨n, rfl, _, _, hw⟩ := open_int ht hval h
  obtain ⟨k, rfl, hk⟩ := awf_u8 hw
  exact ⟨k, rfl, hk⟩
theorem open_bytes (ht : P.underlying t = some (.slice e)) (he : P.underlying e = some (.int .u8)) (hc : P.cellsOf e = 1) (hval : Value.okWide P w r b0 t v) (h : DataW.Trod enc P w base (fun _ => true) held t v d ps) :
    ∃ (A : Option Addr) (n c : Nat) (l : List UInt8), v = .slice A n c ∧ Rd w w.heap.size 1 A n (bvs l) ∧ n ≤ c := by
  obtain ⟨A, n, c, rfl⟩ := okWide_slice ht hval
  obtain ⟨fuel, hf⟩ := h
  exact open_bytes_cell ht he hc (by simpa [Value.cells] using hf)
end

end Go.Proofs.YthmkgohfeahdhaaGreat
namespace Go.Proofs.YthmkgohfeahdhaaGreat
open Go.RowKit Go.ChangeShapes Go.WideShapes Go.ChangeAt Go.Joins Go.Deep
set_option linter.unusedSimpArgs false
set_option linter.unusedVariables false

section
variable {H : Type} {enc : TypeId × Value → H} {P : Program} {w : World} {base : Nat} {held : Bool} {t e : TypeId} {v : Value} {r : Reach} {b0 : Nat} {d : DataW H} {ps : List MemPlace}
theorem slice_max {A : Option Addr} {n c fuel : Nat} {y : DataW H × List MemPlace} (ht : P.underlying t = some (.slice e)) (hf : DataW.trod enc P w base (fun _ => true) held fuel t [.slice A n c] = some y) : n ≤ 9223372036854775807 := by
  rcases open_slice ht hf with ⟨hcs, _⟩ | ⟨a, len, cap, m, n', D, Pl, hcs, _, hl, hm, _⟩
  · obtain ⟨_, rfl, _⟩ : A = none ∧ n = 0 ∧ c = 0 := by simpa using hcs
    exact Nat.zero_le _
  · obtain ⟨_, rfl, _⟩ : A = some a ∧ n = len ∧ c = cap := by simpa using hcs
    unfold maxLen at hm
    omega
theorem open_yes (ht : P.underlying t = some .bool) (hval : Value.okWide P w r b0 t v) (h : DataW.Trod enc P w base (fun _ => true) held t v d ps) : ∃ b : Bool, v = .bool b := by
  obtain ⟨b, hb, _⟩ := Go.RowKit.open_bool ht hval h
  exact ⟨b, hb⟩
theorem bvs_of {M : List Value} (h : ∀ x ∈ M, ∃ b : UInt8, x = bv b) : ∃ H, M = bvs H := by
  induction M with
  | nil => exact ⟨[], rfl⟩
  | cons x rest ih =>
    obtain ⟨b, hb⟩ := h x (by simp)
    obtain ⟨H, hH⟩ := ih fun y hy => h y (by simp [hy])
    exact ⟨b :: H, by rw [hb, hH]; rfl⟩
theorem drop_take_one {M : List Value} {i : Nat} {x : Value} (h : (M.drop i).take 1 = [x]) : M[i]? = some x := by
  have := congrArg (·[0]?) h
  simpa [List.getElem?_take, List.getElem?_drop] using this
/-- five times five bytes -/
theorem open_five {fuel : Nat} {M : List Value} {y : DataW H × List MemPlace} {b : TypeId} (ht : P.underlying t = some (.array 5 e)) (he : P.underlying e = some (.array 5 b)) (hb : P.underlying b = some (.int .u8)) (hce : P.cellsOf e = 5) (hcb : P.cellsOf b = 1) (hct : P.cellsOf t = 25)
    (h : DataW.trod enc P w base (fun _ => true) held fuel t M = some y) : ∃ H, M = bvs H ∧ H.length = 25 := by
  obtain ⟨xs, m, _, _, hl, hxs, hx⟩ := DataW.trod_array ht h
  rw [hct] at hl
  have hall : ∀ x ∈ M, ∃ b : UInt8, x = bv b := by
    intro x hm
    obtain ⟨p, hp, rfl⟩ := List.mem_iff_getElem.1 hm
    have hi : p / 5 < 5 := by omega
    have h1 := hx (p / 5) hi
    rw [hce, List.getElem?_eq_getElem (by omega)] at h1
    obtain ⟨ys, m2, _, _, hl2, hys, hy⟩ := DataW.trod_array he h1
    have h2 := hy (p % 5) (Nat.mod_lt _ (by omega))
    rw [hcb, List.getElem?_eq_getElem (by have := Nat.mod_lt p (show 0 < 5 by omega); omega)] at h2
    obtain ⟨n, hn, _, hw⟩ := DataW.trod_int hb h2
    obtain ⟨k, rfl, hk⟩ := awf_u8 hw
    have h3 := drop_take_one hn
    rw [Nat.mul_one, List.getElem?_take, if_pos (Nat.mod_lt _ (by omega)), List.getElem?_drop] at h3
    have e5 : p / 5 * 5 + p % 5 = p := by omega
    rw [e5, List.getElem?_eq_getElem hp] at h3
    injection h3 with h3
    exact ⟨UInt8.ofNat k, by rw [h3, bv_ofNat hk]⟩
  obtain ⟨H, rfl⟩ := bvs_of hall
  exact ⟨H, rfl, by rw [bvs_length] at hl; exact hl⟩

/-- a size -/
theorem open_size {f0 f1 f2 : Field} {a5 b b2 : TypeId} (hs : P.underlying t = some (.struct #[f0, f1, f2])) (ho0 : f0.offset = 0) (ho1 : f1.offset = 1) (ho2 : f2.offset = 26) (hc0 : P.cellsOf f0.type = 1) (hc1 : P.cellsOf f1.type = 25) (hc2 : P.cellsOf f2.type = 1) (hC : P.cellsOf t = 27)
    (t0 : P.underlying f0.type = some (.int .u8)) (t1 : P.underlying f1.type = some (.array 5 a5)) (t1a : P.underlying a5 = some (.array 5 b)) (t1b : P.underlying b = some (.int .u8)) (hca : P.cellsOf a5 = 5) (hcb : P.cellsOf b = 1)
    (t2 : P.underlying f2.type = some (.slice b2)) (t2b : P.underlying b2 = some (.int .u8)) (hcb2 : P.cellsOf b2 = 1)
    (hval : Value.okWide P w r b0 t v) (h : DataW.Trod enc P w base (fun _ => true) held t v d ps) :
    ∃ (m : UInt8) (H : List UInt8) (A : Option Addr) (n c : Nat) (T : List UInt8), v = .agg (szCells m H A n c) ∧ H.length = 25 ∧ Rd w w.heap.size 1 A n (bvs T) ∧ n ≤ 9223372036854775807 := by
  obtain ⟨cs, rfl, hsz⟩ := okWide_struct hs hval
  obtain ⟨fuel, hf⟩ := h
  obtain ⟨y0, y1, y2, k, _, hl, h0, h1, h2⟩ := trod_struct3 hs hf
  obtain ⟨l⟩ := cs
  simp only [Value.cells] at hl h0 h1 h2
  rw [hC] at hl
  rw [ho0, hc0] at h0
  rw [ho1, hc1] at h1
  rw [ho2, hc2] at h2
  obtain ⟨n0, e0, _, hw0⟩ := DataW.trod_int t0 h0
  obtain ⟨k0, rfl, hk0⟩ := awf_u8 hw0
  obtain ⟨H, e1, hH⟩ := open_five t1 t1a t1b hca hcb hc1 h1
  obtain ⟨z, hz⟩ : ∃ z, (l.drop 26).take 1 = [z] := by
    have hl2 : l.length = 27 := by simpa using hl
    exact ⟨l[26], by rw [List.drop_eq_getElem_cons (by omega)]; rfl⟩
  have h2' : DataW.trod enc P w base (fun _ => true) held k f2.type [z] = some y2 := by
    have : (List.take 1 (List.drop 26 l)) = [z] := hz
    simpa [this] using h2
  obtain ⟨A, n, c, T, rfl, hr, hnc⟩ := open_bytes_cell t2 t2b hcb2 h2'
  refine ⟨UInt8.ofNat k0, H, A, n, c, T, ?_, hH, hr, slice_max t2 h2'⟩
  congr 1
  unfold szCells
  have hl2 : l.length = 27 := by simpa using hl
  have e0' : l.take 1 = [.int .u8 (k0 : Int)] := by simpa using e0
  have e1' : (l.drop 1).take 25 = bvs H := by simpa using e1
  have e3 : l = l.take 1 ++ ((l.drop 1).take 25 ++ (l.drop 26).take 1) := by
    have a1 : l = l.take 1 ++ l.drop 1 := (List.take_append_drop 1 l).symm
    have a2 : l.drop 1 = (l.drop 1).take 25 ++ (l.drop 1).drop 25 := (List.take_append_drop 25 _).symm
    have a3 : (l.drop 1).drop 25 = (l.drop 26).take 1 := by rw [List.drop_drop, List.take_of_length_le (by simp; omega)]
    rw [← a3, ← a2, ← a1]
  rw [e3, e0', e1', hz]
  have hb := bv_ofNat hk0
  simp only [bv] at hb
  rw [hb]
  rfl
theorem open_u16 (ht : P.underlying t = some (.int .u16)) (hval : Value.okWide P w r b0 t v) (h : DataW.Trod enc P w base (fun _ => true) held t v d ps) : ∃ k : Nat, v = .int .u16 (k : Int) ∧ k < 65536 := by
  obtain ⟨n, rfl, _, _, hw⟩ := open_int ht hval h
  obtain ⟨k, rfl, hk⟩ := awf_u16 hw
  exact ⟨k, rfl, hk⟩
theorem open_u64 (ht : P.underlying t = some (.int .u64)) (hval : Value.okWide P w r b0 t v) (h : DataW.Trod enc P w base (fun _ => true) held t v d ps) : ∃ k : Nat, v = .int .u64 (k : Int) ∧ k < 18446744073709551616 := by
  obtain ⟨n, rfl, _, _, hw⟩ := open_int ht hval h
  have hb : 0 ≤ n ∧ n ≤ 18446744073709551615 := by
    simp [Lit.wf, IntKind.min, IntKind.max, IntKind.signed, IntKind.bits] at hw
    omega
  obtain ⟨k, rfl⟩ := Int.eq_ofNat_of_zero_le hb.1
  exact ⟨k, rfl, by omega⟩
end
end Go.Proofs.YthmkgohfeahdhaaGreat
namespace Go.Proofs.YthmkgohfeahdhaaGreat
open Go.RowKit Go.ChangeShapes Go.WideShapes Go.ChangeAt Go.Joins Go.Deep
set_option linter.unusedSimpArgs false
set_option linter.unusedVariables false

/-- an act on a directory -/
structure DAct where
  kind : Nat
  name : Nat
  num : Nat
  text : ByteArray
  raw : Bool
structure DAct.Ok (a : DAct) : Prop where
  k : a.kind < 256
  n : a.name < 256
  m : a.num < 65536
def DAct.cells (a : DAct) : List Value := [.int .u8 (a.kind : Int), .int .u8 (a.name : Int), .int .u16 (a.num : Int), .string a.text, .bool a.raw]
section
variable {H : Type} {enc : TypeId × Value → H} {P : Program} {w : World} {base : Nat} {held : Bool} {fuel : Nat} {t e eb : TypeId} {v : Value} {r : Reach} {b0 : Nat} {d : DataW H} {ps : List MemPlace}
abbrev DActIn := {a : DAct // a.Ok}
instance : Inhabited DActIn := ⟨⟨⟨0, 0, 0, ⟨#[]⟩, false⟩, ⟨by decide, by decide, by decide⟩⟩⟩
end
end Go.Proofs.YthmkgohfeahdhaaGreat
namespace Go.Proofs.YthmkgohfeahdhaaGreat

abbrev BL := List UInt8

/-- a byte of a name -/
def nc (c : UInt8) : Bool := decide (33 ≤ c.toNat) && decide (c.toNat ≤ 126) && !(c.toNat == 47) && !(c.toNat == 64)
/-- a name's error -/
def nameErr (l : BL) : Int := if l = [] ∨ l = [46] ∨ l = [46, 46] then 7 else if 14 < l.length then 8 else if l.all nc then 0 else 7


/-- a text cut at each slash, behind what is read already -/
def pieces : BL → BL → List BL
  | acc, [] => [acc]
  | acc, c :: r => if c = 47 then acc :: pieces [] r else pieces (acc ++ [c]) r





end Go.Proofs.YthmkgohfeahdhaaGreat
namespace Go.Proofs.YthmkgohfeahdhaaGreat
open Go.RowKit

theorem dn_sz (s : ByteArray) : s.size = s.data.toList.length := by cases s; rfl
theorem dn_get_byte (s : ByteArray) (k : Nat) (h : k < s.size) : s.data.toList[k]? = some s[k] := Lib.data_getElem? s k h
theorem dn_all_upto {p : UInt8 → Bool} {l : BL} (h : ∀ k, k < l.length → ∀ c, l[k]? = some c → p c = true) : l.all p = true := by
  rw [List.all_eq_true]
  intro x hx
  obtain ⟨k, hk, rfl⟩ := List.mem_iff_getElem.1 hx
  exact h k hk _ (List.getElem?_eq_getElem hk)
theorem dn_not_all {p : UInt8 → Bool} {l : BL} {k : Nat} {c : UInt8} (h : l[k]? = some c) (hp : p c = false) : l.all p = false := by
  rw [List.all_eq_false]
  exact ⟨c, List.mem_of_getElem? h, by simp [hp]⟩

set_option maxRecDepth 100000 in
set_option maxHeartbeats 1000000 in
theorem dirname_ok (s : ByteArray) (w : World) :
    Calls Tryz.prog 120 #[.string s] w fun e w' => e = .returned (.int .i64 (nameErr s.data.toList)) ∧ w' = w := by
  go_enter Tryz.func120, Tryz.ntmps120
  by_cases e0 : s.data.toList = [] ∨ s.data.toList = [46] ∨ s.data.toList = [46, 46]
  · have hm := Lib.mk_data s
    rcases e0 with e0 | e0 | e0 <;> rw [e0] at hm <;> rw [← hm] <;> clear e0 hm <;> go_wp2 <;> go_returns <;> exact ⟨rfl, rfl⟩
  · have n1 : ¬ s.toList = [] := by rw [Lib.toList_data]; exact fun h => e0 (Or.inl h)
    have n2 : ¬ s.toList = [46] := by rw [Lib.toList_data]; exact fun h => e0 (Or.inr (Or.inl h))
    have n3 : ¬ s.toList = [46, 46] := by rw [Lib.toList_data]; exact fun h => e0 (Or.inr (Or.inr h))
    have b1 : s.toList.isEmpty = false := by simpa using n1
    have b2 : (s.toList == [46]) = false := by simpa using n2
    have b3 : (s.toList == [46, 46]) = false := by simpa using n3
    have e : nameErr s.data.toList = if 14 < s.size then 8 else if s.data.toList.all nc then 0 else 7 := by
      rw [dn_sz]; unfold nameErr; rw [if_neg e0]
    clear e0
    by_cases h14 : 14 < s.size
    · have t14 : decide ((14 : Int) < s.size) = true := by simp; omega
      rw [if_pos h14] at e
      go_wp2
      go_returns
      exact ⟨by rw [e]; rfl, rfl⟩
    have t14 : decide ((14 : Int) < s.size) = false := by simp; omega
    rw [if_neg h14] at e
    have E := hide e
    clear e
    go_wp2
    go_loopg [22] s.size (fun g i wr => ∃ k : Nat, k ≤ s.size ∧ g = s.size - k ∧ i = .int .i64 k ∧ wr = w ∧ ∀ j, j < k → ∀ c, s.data.toList[j]? = some c → nc c = true)
    case atStart => exact ⟨0, Nat.zero_le _, rfl, rfl, rfl, fun j hj => absurd hj (Nat.not_lt_zero _)⟩
    case round =>
      obtain ⟨k, hk, hg, rfl, rfl, hA⟩ := hrel
      by_cases hkm : k < s.size
      · have hkz : (k : Int) < s.size := by omega
        have hb := dn_get_byte s k hkm
        by_cases hp : nc s[k] = true
        · have hp' := hp
          simp only [nc, Bool.and_eq_true, decide_eq_true_eq, Bool.not_eq_true', beq_eq_false_iff_ne] at hp'
          have a1 : decide (((s[k].toNat : Nat) : Int) < 33) = false := by simp; omega
          have a2 : decide ((126 : Int) < ((s[k].toNat : Nat) : Int)) = false := by simp; omega
          have a3 : (((s[k].toNat : Nat) : Int) == 47) = false := by simp; omega
          have a4 : (((s[k].toNat : Nat) : Int) == 64) = false := by simp; omega
          have hA' : ∀ j, j < k + 1 → ∀ c, s.data.toList[j]? = some c → nc c = true := fun j hj c hc => by
            rcases Nat.lt_succ_iff_lt_or_eq.1 hj with h | rfl
            · exact hA j h c hc
            · obtain rfl : s[j] = c := by rw [hb] at hc; simpa using hc
              exact hp
          clear hA hp hp' hb
          go_wp2
          go_roundg (s.size - (k + 1))
          case measure => omega
          case rel => exact ⟨k + 1, by omega, rfl, by go_num, rfl, hA'⟩
        · have hp' : nc s[k] = false := by simpa using hp
          have e : nameErr s.data.toList = 7 := by rw [E.out, dn_not_all hb hp']; rfl
          have hq : ((s[k].toNat : Nat) : Int) < 33 ∨ (126 : Int) < ((s[k].toNat : Nat) : Int) ∨ ((s[k].toNat : Nat) : Int) = 47 ∨ ((s[k].toNat : Nat) : Int) = 64 := by
            by_cases q1 : s[k].toNat < 33
            · left; omega
            · by_cases q2 : 126 < s[k].toNat
              · right; left; omega
              · by_cases q3 : s[k].toNat = 47
                · right; right; left; omega
                · by_cases q4 : s[k].toNat = 64
                  · right; right; right; omega
                  · exact absurd (show nc s[k] = true by simp [nc, q3, q4]; omega) hp
          clear hA hp hp' hb
          go_wp2
          all_goals first
            | (go_returns; exact ⟨rfl, rfl⟩)
            | (go_returns; exact ⟨by rw [e]; rfl, rfl⟩)
            | (exfalso; simp_all; omega)
      · have hkz : decide ((k : Int) < s.size) = false := by simp; omega
        have e : nameErr s.data.toList = 0 := by
          have := dn_sz s
          rw [E.out, dn_all_upto (p := nc) (l := s.data.toList) (fun j hj c hc => hA j (by omega) c hc)]; rfl
        clear hA
        go_wp2
        go_returns
        exact ⟨by rw [e]; rfl, rfl⟩


end Go.Proofs.YthmkgohfeahdhaaGreat
namespace Go.Proofs.YthmkgohfeahdhaaGreat
open Go.RowKit
set_option linter.unusedSimpArgs false
set_option linter.unusedVariables false

/-- an entry's bytes -/
def packB (e : EntV) : List UInt8 := UInt8.ofNat e.num.toNat :: UInt8.ofNat (e.num.toNat / 256) :: (e.name.data.toList ++ List.replicate 14 0).take 14
theorem packB_length (e : EntV) : (packB e).length = 16 := by simp [packB]
theorem packB_eq (name : ByteArray) (num : UInt16) (hn : name.size ≤ 14) : packB ⟨name, num⟩ = UInt8.ofNat num.toNat :: UInt8.ofNat (num.toNat / 256) :: (name.data.toList ++ List.replicate (14 - name.size) 0) := by
  have hl : name.data.toList.length = name.size := (dn_sz name).symm
  unfold packB
  congr 2
  show (name.data.toList ++ List.replicate 14 0).take 14 = _
  rw [List.take_append, List.take_of_length_le (by omega), hl, List.take_replicate]
  congr 2
  omega
end Go.Proofs.YthmkgohfeahdhaaGreat
namespace Go.Proofs.YthmkgohfeahdhaaGreat
open Go.RowKit
set_option linter.unusedSimpArgs false
set_option linter.unusedVariables false

/-- an entry that may stand in a directory's place -/
def EntV.Good (e : EntV) : Prop := (e.num = 0 ∧ e.name.data.toList = []) ∨ (e.num ≠ 0 ∧ nameErr e.name.data.toList = 0)
theorem nameErr_zero {l : List UInt8} (h : nameErr l = 0) : l ≠ [] ∧ l.length ≤ 14 ∧ ∀ c ∈ l, c ≠ 0 := by
  unfold nameErr at h
  split at h
  · cases h
  · rename_i h0
    split at h
    · cases h
    · split at h
      · rename_i h2
        refine ⟨fun e => h0 (.inl e), by omega, fun c hc e => ?_⟩
        rw [List.all_eq_true] at h2
        have := h2 c hc
        subst e
        revert this
        decide
      · cases h
theorem EntV.Good.name {e : EntV} (h : e.Good) : e.name.size ≤ 14 ∧ ∀ c ∈ e.name.data.toList, c ≠ 0 := by
  rw [dn_sz]
  rcases h with ⟨_, h⟩ | ⟨_, h⟩
  · rw [h]; simp
  · exact (nameErr_zero h).2
theorem pk_name {e : EntV} (h : e.name.size ≤ 14) {k : Nat} (hk : k < e.name.size) : (packB e).getD (2 + k) 0 = e.name.data.toList.getD k 0 := by
  have hl := dn_sz e.name
  rw [show packB e = _ from packB_eq e.name e.num h, show 2 + k = (k + 1) + 1 from by omega]
  simp only [List.getD_eq_getElem?_getD, List.getElem?_cons_succ]
  rw [List.getElem?_append_left (by omega)]
theorem pk_zero {e : EntV} (h : e.name.size ≤ 14) {j : Nat} (hj : 2 + e.name.size ≤ j) : (packB e).getD j 0 = 0 := by
  have hl := dn_sz e.name
  obtain ⟨k, rfl⟩ : ∃ k, j = (k + 1) + 1 := ⟨j - 2, by omega⟩
  rw [show packB e = _ from packB_eq e.name e.num h]
  simp only [List.getD_eq_getElem?_getD, List.getElem?_cons_succ]
  rw [List.getElem?_append_right (by omega), List.getElem?_replicate]
  split <;> rfl
theorem size_ent : (Tryz.prog.info? 125).map (·.size) = some 2 := by kernel_rfl
theorem str_name (e : EntV) : str e.name.data.toList = e.name := by
  obtain ⟨⟨d⟩, n⟩ := e
  simp [str]
abbrev str0 (e : EntV) : List UInt8 := e.name.data.toList
theorem pk_mid {e : EntV} (h : e.name.size ≤ 14) : ((packB e).drop 2).take (2 + e.name.size - 2) = e.name.data.toList := by
  have hl := dn_sz e.name
  rw [show packB e = _ from packB_eq e.name e.num h, List.drop_succ_cons, List.drop_succ_cons, List.drop_zero, List.take_append_of_le_length (by omega), List.take_of_length_le (by omega)]
section
variable {w : World}
set_option maxRecDepth 100000 in
set_option maxHeartbeats 1000000 in
theorem unpack_good (e : EntV) (hg : e.Good) {A : Option Addr} {c : Nat} (hc16 : 16 ≤ c) (h : Rd w w.heap.size 1 A 16 (bvs (packB e))) :
    Calls Tryz.prog 160 #[.slice A 16 c] w fun r w' => r = .returned (.tuple #[.agg e.cells.toArray, .bool true]) ∧ Below w.heap.size w w' := by
  obtain ⟨m, hm⟩ : ∃ m, e.name.size = m := ⟨_, rfl⟩
  have hn1 := hg.name
  rw [hm] at hn1
  have hm14 : m ≤ 14 := hn1.1
  have HG := hide (And.intro hg hm)
  have HR := hide h
  have HNZ := hide (show ∀ k, k < m → (packB e).getD (2 + k) 0 ≠ 0 from fun k hk => by
    rw [pk_name (by omega) (by omega), List.getD_eq_getElem?_getD, List.getElem?_eq_getElem (by rw [← dn_sz]; omega)]
    exact hn1.2 _ (List.getElem_mem _))
  have HZ := hide (show ∀ j, 2 + m ≤ j → (packB e).getD j 0 = 0 from fun j hj => pk_zero (by omega) (by omega))
  obtain ⟨ba, oa, rfl, hba, hca⟩ := h.byte (i := 0) (by omega)
  have HC := hide hca
  clear hg h hn1 hm hca
  go_enter Tryz.func160, Tryz.ntmps160
  go_wp2_with fail
  refine at_world (fun W => ∃ p, p = w.heap.size ∧ Below w.heap.size w W ∧ Blk W p 125 #[.string ⟨#[]⟩, .int .u16 0]) ⟨_, rfl, (Below.refl _ _).alloc (Nat.le_refl _) _, Blk.new _ _ _⟩ (fun w1 h1 => ?_)
  obtain ⟨p, hp, hb1, hP1⟩ := h1
  rw [← hp]
  have HB := hide hb1
  have HP := hide hP1
  have HPW := hide (show w.heap.size ≤ p from Nat.le_of_eq hp.symm)
  have bal : ba < w1.heap.size := Nat.lt_of_lt_of_le hba hb1.size
  have HC1 := hide (show ∀ j, j < 16 → w1.cell? ⟨ba, oa + j, none⟩ = some (.int .u8 (((packB e).getD j 0).toNat : Int)) from fun j hj => (World.cell?_of_block (w := w) (a := ⟨ba, oa + j, none⟩) (hb1.block ba hba)).trans (HC.out j hj))
  clear hp hb1 hP1 hba
  go_loopg [4] m (fun gh x4 wr => ∃ k : Nat, k ≤ m ∧ gh = m - k ∧ x4 = .int .i64 ((2 + k : Nat) : Int) ∧ wr = w1)
  case atStart => exact ⟨0, Nat.zero_le _, rfl, rfl, rfl⟩
  case round =>
    obtain ⟨k, hk, hgh, rfl, rfl⟩ := hrel
    have HGH := hide hgh
    clear hgh
    obtain ⟨y, hy⟩ : ∃ y : Nat, 2 + k = y := ⟨_, rfl⟩
    rw [hy]
    rcases Nat.lt_or_ge k m with hkl | hkl
    · have ck := HC1.out y (by omega)
      have hz := HNZ.out k hkl
      rw [hy] at hz
      obtain ⟨pc, hpc⟩ : ∃ pc, ((packB e).getD y 0).toNat = pc := ⟨_, rfl⟩
      have hpc0 : pc ≠ 0 := fun e0 => hz (UInt8.toNat_inj.1 (by rw [hpc, e0]; rfl))
      rw [hpc] at ck
      have t1 : decide ((y : Int) < 16) = true := by simp; omega
      have t2 : (y : Int) < 16 := by omega
      have t3 : ((pc : Int) == 0) = false := by rw [beq_eq_false_iff_ne]; omega
      have t3' : ¬ (pc : Int) = 0 := by omega
      have e64 : IntKind.i64.wrap ((y : Int) + 1) = (y : Int) + 1 := IntWalk.i64_in _ (by omega)
      clear hz hpc hpc0
      go_wp2_with fail
      go_roundg (m - (k + 1))
      case rel => exact ⟨k + 1, by omega, rfl, by rw [← Nat.add_assoc, hy]; go_num, rfl⟩
      case measure => have := HGH.out; omega
    · obtain rfl : k = m := by omega
      clear hkl hk
      rcases Nat.lt_or_ge y 16 with hyl | hyl
      · have ck := HC1.out y (by omega)
        rw [HZ.out y (by omega)] at ck
        have t1 : decide ((y : Int) < 16) = true := by simp; omega
        have t2 : (y : Int) < 16 := by omega
        have t3 : y < c := by omega
        have t4 : ¬ y = c := by omega
        have t5 : decide (y < c) = true := by simp; omega
        go_wp2_with fail
        clear ck t1 t2
        go_loopg [6, 29] (16 - y) (fun gh x6 x29 wq => ∃ j : Nat, j ≤ 16 - y ∧ gh = 16 - y - j ∧ x29 = .int .i64 (j : Int) ∧ wq = wr)
        case atStart => exact ⟨0, Nat.zero_le _, rfl, rfl, rfl⟩
        case round =>
          obtain ⟨j, hj, hgj, rfl, rfl⟩ := hrel
          have HGJ := hide hgj
          clear hgj
          rcases Nat.lt_or_ge j (16 - y) with hjl | hjl
          · have cj := HC1.out (y + j) (by omega)
            rw [HZ.out (y + j) (by omega), ← Nat.add_assoc] at cj
            have u1 : decide (j < 16 - y) = true := by simp; omega
            have u2 : decide ((j : Int) < ((16 - y : Nat) : Int)) = true := by simp; omega
            have u3 : (j : Int) < ((16 - y : Nat) : Int) := by omega
            have e64 : IntKind.i64.wrap ((j : Int) + 1) = (j : Int) + 1 := IntWalk.i64_in _ (by omega)
            go_wp2_with fail
            go_roundg (16 - y - (j + 1))
            case rel => exact ⟨j + 1, by omega, rfl, by first | rfl | go_num, rfl⟩
            case measure => have := HGJ.out; omega
          · have u1 : decide (j < 16 - y) = false := by simp; omega
            have u2 : decide ((j : Int) < ((16 - y : Nat) : Int)) = false := by simp; omega
            have u3 : ¬ (j : Int) < ((16 - y : Nat) : Int) := by omega
            clear hjl hj
            go_wp2_with fail
            have hrd : Rd wr w.heap.size 1 (slA (some ⟨ba, oa, none⟩) c 2) (y - 2) (bvs (str0 e)) := by
              have := (HR.out.below HB.out).part (c := c) (by omega) (lo := 2) (hi := y) (by omega) (by omega)
              rw [← hy, ← HG.out.2, pk_mid (by have := HG.out.2; omega)] at this
              rw [← hy, ← HG.out.2]
              exact this
            have HRD := hide hrd
            have b0 := HC1.out 0 (by omega)
            have b1 := HC1.out 1 (by omega)
            obtain ⟨lo, hlo⟩ : ∃ lo, ((packB e).getD 0 0).toNat = lo := ⟨_, rfl⟩
            obtain ⟨hi, hhi⟩ : ∃ hi, ((packB e).getD 1 0).toNat = hi := ⟨_, rfl⟩
            have hlo' : lo < 256 := by rw [← hlo]; exact UInt8.toNat_lt _
            have hhi' : hi < 256 := by rw [← hhi]; exact UInt8.toNat_lt _
            rw [hlo, Nat.add_zero] at b0
            rw [hhi] at b1
            have hnum : lo + 256 * hi = e.num.toNat := by
              have h1 : lo = e.num.toNat % 256 := by rw [← hlo]; exact UInt8.toNat_ofNat' ..
              have h2 : hi = e.num.toNat / 256 % 256 := by rw [← hhi]; exact UInt8.toNat_ofNat' ..
              have := e.num.toNat_lt
              omega
            have hor : bits BinOp.or IntKind.u16 (lo : Int) ((hi : Int) * 256) = (e.num.toNat : Int) := by
              have h := or_two hlo' hhi'
              rw [show ((256 * hi : Nat) : Int) = (hi : Int) * 256 from by omega, hnum] at h
              exact h
            have e1 : IntKind.u16.wrap (lo : Int) = (lo : Int) := by rw [IntKind.wrap_u16]; omega
            have e2 : IntKind.u16.wrap (hi : Int) = (hi : Int) := by rw [IntKind.wrap_u16]; omega
            have e3 : IntKind.u16.wrap ((hi : Int) * 256) = (hi : Int) * 256 := by rw [IntKind.wrap_u16]; omega
            have hlen : (16 : Int) = 16 := rfl
            clear hrd hlo hhi
            refine wp_region_text [0, 0, 0, 0, 0, 0, 0, 0, 0, 0, 0, 0, 0, 0, 0, 1, 1] (fun W => Below wr.heap.size wr W) (by kernel_rfl) (by kernel_rfl) (Below.refl _ _).drew ?_
            iterate 2 (refine wpOrd_q (v := ?_) (by rfl) (fun W hW => ?_) ?_; rotate_left; (focus ((obtain ⟨hWc, hWf⟩ := bcell hW; go_simp); try with_reducible rfl)); try simp only [Act.put, List.setIfInBounds_toArray, List.set_cons_zero, List.set_cons_succ])
            refine wpOrd_q (v := .slice (slA (some ⟨ba, oa, none⟩) c 2) (y - 2) (c - 2)) (by rfl) (fun W hW => exec_slice_lh 24 5 (.tmp 37) (.const (.int .i64 2)) (.tmp 38) rfl (some ⟨ba, oa, none⟩) 16 c 2 y .i64 .i64 (by rfl) (by rfl) (by rfl) Tryz.underlying24 (by kernel_rfl) (by omega) (by omega)) ?_
            try simp only [Act.put, List.setIfInBounds_toArray, List.set_cons_zero, List.set_cons_succ]
            refine wpOrd_q (v := .string e.name) (by rfl) (fun W hW => by rw [show Value.string e.name = .string (str (str0 e)) from by rw [str_name]]; exact exec_str 24 9 5 (.tmp 39) rfl _ _ _ (str0 e) _ (by rfl) Tryz.underlying24 Tryz.underlying5 Tryz.underlying9 (HRD.out.below (hW.mono HB.out.size))) ?_
            try simp only [Act.put, List.setIfInBounds_toArray, List.set_cons_zero, List.set_cons_succ]
            iterate 9 (refine wpOrd_q (v := ?_) (by rfl) (fun W hW => ?_) ?_; rotate_left; (focus ((obtain ⟨hWc, hWf⟩ := bcell hW; go_simp); try with_reducible rfl)); try simp only [Act.put, List.setIfInBounds_toArray, List.set_cons_zero, List.set_cons_succ])
            refine wpOrd_q (v := .int .u16 (e.num.toNat : Int)) (by rfl) (fun W hW => by go_simp; try exact hor) ?_
            try simp only [Act.put, List.setIfInBounds_toArray, List.set_cons_zero, List.set_cons_succ]
            iterate 1 (refine wpOrd_q (v := ?_) (by rfl) (fun W hW => ?_) ?_; rotate_left; (focus ((obtain ⟨hWc, hWf⟩ := bcell hW; go_simp); try with_reducible rfl)); try simp only [Act.put, List.setIfInBounds_toArray, List.set_cons_zero, List.set_cons_succ])
            refine wpOrd_x (by rfl) (fun KK hKK => ?_)
            go_simp
            refine hKK _ _ _ (fun _ h => h) ((Below.refl _ _).drew.alloc (Nat.le_refl _) _) ?_
            clear hKK KK
            try simp only [Act.put, List.setIfInBounds_toArray, List.set_cons_zero, List.set_cons_succ]
            refine wpOrd_x (by rfl) (fun KK hKK => ?_)
            go_simp
            refine hKK _ _ _ (fun _ h => h) ((Below.refl _ _).alloc (Nat.le_refl _) _).drew ?_
            clear hKK KK
            refine wpOrd_nil ?_
            refine at_world (fun W => ∃ q, q = wr.heap.size ∧ Below w.heap.size w W ∧ Blk W p 125 #[.string ⟨#[]⟩, .int .u16 0] ∧ Blk W q 125 #[.string e.name, .int .u16 (e.num.toNat : Int)]) ⟨_, rfl, (HB.out.alloc HB.out.size _).drew, (HP.out.alloc _).drew, (Blk.new _ _ _).drew⟩ (fun w3 h3 => ?_)
            obtain ⟨q, hq, hb3, hP3, hQ3⟩ := h3
            rw [← hq]
            have HB3 := hide hb3
            have HP3 := hide hP3
            have HQ3 := hide hQ3
            have q0 := hQ3.cell 0
            have q1 := hQ3.cell 1
            have ql := hQ3.lt
            clear hq hb3 hP3 hQ3 HRD HC1 HC b0 b1 hor e1 e2 e3 hlen
            rcases HG.out.1 with ⟨hz, hnm⟩ | ⟨hz, hnm⟩
            · have hz0 : e.num.toNat = 0 := by rw [hz]; rfl
              have hnm0 : e.name = ⟨#[]⟩ := by rw [← str_name e, hnm]; rfl
              have hk0 : y = 2 := by have := HG.out.2; rw [hnm0] at this; rw [← hy, ← this]; rfl
              rw [hz0] at q1
              have hce : e.cells.toArray = #[.string ⟨#[]⟩, .int .u16 0] := by unfold EntV.cells; rw [hz0, hnm0]; rfl
              have HCE := hide hce
              have HPQ := hide (below_setRow HB3.out HPW.out #[.string ⟨#[]⟩, .int .u16 0])
              subst hk0
              clear hce
              go_wp2_with (first | ((with_reducible refine at_store 125 (.tmp 2) (.tmp 55) ?_); refine wpList_store_blk rfl 125 (.tmp 2) (.tmp 55) rfl p _ _ _ (by rfl) (by rfl) HP3.out (by exact size_ent) (by rfl) (by simp [Value.oneCell']) (fun hB4 => ?_)) | ((with_reducible refine at_end ?_); refine bodyPost_ret (v := .tuple #[.agg #[.string ⟨#[]⟩, .int .u16 0], .bool true]) (results_run2 rfl (ResV.row rfl hB4 Tryz.underlying125 rfl size_ent) rfl) rfl ⟨by rw [HCE.out], HPQ.out⟩) | fail)
            · have hz0 : e.num.toNat ≠ 0 := fun h0 => hz (UInt16.toNat_inj.1 h0)
              have t6 : ((e.num.toNat : Int) == 0) = false := by rw [beq_eq_false_iff_ne]; omega
              have t6' : ¬ (e.num.toNat : Int) = 0 := by omega
              go_wp2_with fail
              refine (dirname_ok e.name w3).mono ?_
              rintro _ _ ⟨rfl, rfl⟩
              rw [hnm]
              have HPQ := hide (below_setRow HB3.out HPW.out #[.string e.name, .int .u16 (e.num.toNat : Int)])
              go_wp2_with (first | ((with_reducible refine at_store 125 (.tmp 2) (.tmp 63) ?_); refine wpList_store_blk rfl 125 (.tmp 2) (.tmp 63) rfl p _ _ _ (by rfl) (by rfl) HP3.out (by exact size_ent) (by rfl) (by simp [Value.oneCell']) (fun hB4 => ?_)) | ((with_reducible refine at_end ?_); refine bodyPost_ret (v := .tuple #[.agg #[.string e.name, .int .u16 (e.num.toNat : Int)], .bool true]) (results_run2 rfl (ResV.row rfl hB4 Tryz.underlying125 rfl size_ent) rfl) rfl ⟨rfl, HPQ.out⟩) | fail)
      · have t1 : decide ((y : Int) < 16) = false := by simp; omega
        have t2 : ¬ (y : Int) < 16 := by omega
        have t2' : (y : Int) ≤ 16 := by omega
        have hyle : y ≤ 16 := by omega
        rcases Nat.lt_or_ge y c with hyc | hyc
        · have t3 : y < c := hyc
          have t4 : ¬ y = c := by omega
          have t5 : decide (y < c) = true := by simp; omega
          go_wp2_with fail
          clear t1 t2
          go_loopg [6, 29] (16 - y) (fun gh x6 x29 wq => ∃ j : Nat, j ≤ 16 - y ∧ gh = 16 - y - j ∧ x29 = .int .i64 (j : Int) ∧ wq = wr)
          case atStart => exact ⟨0, Nat.zero_le _, rfl, rfl, rfl⟩
          case round =>
            obtain ⟨j, hj, hgj, rfl, rfl⟩ := hrel
            have HGJ := hide hgj
            clear hgj
            rcases Nat.lt_or_ge j (16 - y) with hjl | hjl
            · exfalso; omega
            · have u1 : decide (j < 16 - y) = false := by simp; omega
              have u2 : decide ((j : Int) < ((16 - y : Nat) : Int)) = false := by simp; omega
              have u3 : ¬ (j : Int) < ((16 - y : Nat) : Int) := by omega
              clear hjl hj
              go_wp2_with fail
              have hrd : Rd wr w.heap.size 1 (slA (some ⟨ba, oa, none⟩) c 2) (y - 2) (bvs (str0 e)) := by
                have := (HR.out.below HB.out).part (c := c) (by omega) (lo := 2) (hi := y) (by omega) (by omega)
                rw [← hy, ← HG.out.2, pk_mid (by have := HG.out.2; omega)] at this
                rw [← hy, ← HG.out.2]
                exact this
              have HRD := hide hrd
              have b0 := HC1.out 0 (by omega)
              have b1 := HC1.out 1 (by omega)
              obtain ⟨lo, hlo⟩ : ∃ lo, ((packB e).getD 0 0).toNat = lo := ⟨_, rfl⟩
              obtain ⟨hi, hhi⟩ : ∃ hi, ((packB e).getD 1 0).toNat = hi := ⟨_, rfl⟩
              have hlo' : lo < 256 := by rw [← hlo]; exact UInt8.toNat_lt _
              have hhi' : hi < 256 := by rw [← hhi]; exact UInt8.toNat_lt _
              rw [hlo, Nat.add_zero] at b0
              rw [hhi] at b1
              have hnum : lo + 256 * hi = e.num.toNat := by
                have h1 : lo = e.num.toNat % 256 := by rw [← hlo]; exact UInt8.toNat_ofNat' ..
                have h2 : hi = e.num.toNat / 256 % 256 := by rw [← hhi]; exact UInt8.toNat_ofNat' ..
                have := e.num.toNat_lt
                omega
              have hor : bits BinOp.or IntKind.u16 (lo : Int) ((hi : Int) * 256) = (e.num.toNat : Int) := by
                have h := or_two hlo' hhi'
                rw [show ((256 * hi : Nat) : Int) = (hi : Int) * 256 from by omega, hnum] at h
                exact h
              have e1 : IntKind.u16.wrap (lo : Int) = (lo : Int) := by rw [IntKind.wrap_u16]; omega
              have e2 : IntKind.u16.wrap (hi : Int) = (hi : Int) := by rw [IntKind.wrap_u16]; omega
              have e3 : IntKind.u16.wrap ((hi : Int) * 256) = (hi : Int) * 256 := by rw [IntKind.wrap_u16]; omega
              have hlen : (16 : Int) = 16 := rfl
              clear hrd hlo hhi
              refine wp_region_text [0, 0, 0, 0, 0, 0, 0, 0, 0, 0, 0, 0, 0, 0, 0, 1, 1] (fun W => Below wr.heap.size wr W) (by kernel_rfl) (by kernel_rfl) (Below.refl _ _).drew ?_
              iterate 2 (refine wpOrd_q (v := ?_) (by rfl) (fun W hW => ?_) ?_; rotate_left; (focus ((obtain ⟨hWc, hWf⟩ := bcell hW; go_simp); try with_reducible rfl)); try simp only [Act.put, List.setIfInBounds_toArray, List.set_cons_zero, List.set_cons_succ])
              refine wpOrd_q (v := .slice (slA (some ⟨ba, oa, none⟩) c 2) (y - 2) (c - 2)) (by rfl) (fun W hW => exec_slice_lh 24 5 (.tmp 37) (.const (.int .i64 2)) (.tmp 38) rfl (some ⟨ba, oa, none⟩) 16 c 2 y .i64 .i64 (by rfl) (by rfl) (by rfl) Tryz.underlying24 (by kernel_rfl) (by omega) (by omega)) ?_
              try simp only [Act.put, List.setIfInBounds_toArray, List.set_cons_zero, List.set_cons_succ]
              refine wpOrd_q (v := .string e.name) (by rfl) (fun W hW => by rw [show Value.string e.name = .string (str (str0 e)) from by rw [str_name]]; exact exec_str 24 9 5 (.tmp 39) rfl _ _ _ (str0 e) _ (by rfl) Tryz.underlying24 Tryz.underlying5 Tryz.underlying9 (HRD.out.below (hW.mono HB.out.size))) ?_
              try simp only [Act.put, List.setIfInBounds_toArray, List.set_cons_zero, List.set_cons_succ]
              iterate 9 (refine wpOrd_q (v := ?_) (by rfl) (fun W hW => ?_) ?_; rotate_left; (focus ((obtain ⟨hWc, hWf⟩ := bcell hW; go_simp); try with_reducible rfl)); try simp only [Act.put, List.setIfInBounds_toArray, List.set_cons_zero, List.set_cons_succ])
              refine wpOrd_q (v := .int .u16 (e.num.toNat : Int)) (by rfl) (fun W hW => by go_simp; try exact hor) ?_
              try simp only [Act.put, List.setIfInBounds_toArray, List.set_cons_zero, List.set_cons_succ]
              iterate 1 (refine wpOrd_q (v := ?_) (by rfl) (fun W hW => ?_) ?_; rotate_left; (focus ((obtain ⟨hWc, hWf⟩ := bcell hW; go_simp); try with_reducible rfl)); try simp only [Act.put, List.setIfInBounds_toArray, List.set_cons_zero, List.set_cons_succ])
              refine wpOrd_x (by rfl) (fun KK hKK => ?_)
              go_simp
              refine hKK _ _ _ (fun _ h => h) ((Below.refl _ _).drew.alloc (Nat.le_refl _) _) ?_
              clear hKK KK
              try simp only [Act.put, List.setIfInBounds_toArray, List.set_cons_zero, List.set_cons_succ]
              refine wpOrd_x (by rfl) (fun KK hKK => ?_)
              go_simp
              refine hKK _ _ _ (fun _ h => h) ((Below.refl _ _).alloc (Nat.le_refl _) _).drew ?_
              clear hKK KK
              refine wpOrd_nil ?_
              refine at_world (fun W => ∃ q, q = wr.heap.size ∧ Below w.heap.size w W ∧ Blk W p 125 #[.string ⟨#[]⟩, .int .u16 0] ∧ Blk W q 125 #[.string e.name, .int .u16 (e.num.toNat : Int)]) ⟨_, rfl, (HB.out.alloc HB.out.size _).drew, (HP.out.alloc _).drew, (Blk.new _ _ _).drew⟩ (fun w3 h3 => ?_)
              obtain ⟨q, hq, hb3, hP3, hQ3⟩ := h3
              rw [← hq]
              have HB3 := hide hb3
              have HP3 := hide hP3
              have HQ3 := hide hQ3
              have q0 := hQ3.cell 0
              have q1 := hQ3.cell 1
              have ql := hQ3.lt
              clear hq hb3 hP3 hQ3 HRD HC1 HC b0 b1 hor e1 e2 e3 hlen
              rcases HG.out.1 with ⟨hz, hnm⟩ | ⟨hz, hnm⟩
              · have hz0 : e.num.toNat = 0 := by rw [hz]; rfl
                have hnm0 : e.name = ⟨#[]⟩ := by rw [← str_name e, hnm]; rfl
                have hk0 : y = 2 := by have := HG.out.2; rw [hnm0] at this; rw [← hy, ← this]; rfl
                exfalso; omega
              · have hz0 : e.num.toNat ≠ 0 := fun h0 => hz (UInt16.toNat_inj.1 h0)
                have t6 : ((e.num.toNat : Int) == 0) = false := by rw [beq_eq_false_iff_ne]; omega
                have t6' : ¬ (e.num.toNat : Int) = 0 := by omega
                go_wp2_with fail
                refine (dirname_ok e.name w3).mono ?_
                rintro _ _ ⟨rfl, rfl⟩
                rw [hnm]
                have HPQ := hide (below_setRow HB3.out HPW.out #[.string e.name, .int .u16 (e.num.toNat : Int)])
                go_wp2_with (first | ((with_reducible refine at_store 125 (.tmp 2) (.tmp 63) ?_); refine wpList_store_blk rfl 125 (.tmp 2) (.tmp 63) rfl p _ _ _ (by rfl) (by rfl) HP3.out (by exact size_ent) (by rfl) (by simp [Value.oneCell']) (fun hB4 => ?_)) | ((with_reducible refine at_end ?_); refine bodyPost_ret (v := .tuple #[.agg #[.string e.name, .int .u16 (e.num.toNat : Int)], .bool true]) (results_run2 rfl (ResV.row rfl hB4 Tryz.underlying125 rfl size_ent) rfl) rfl ⟨rfl, HPQ.out⟩) | fail)
        · obtain rfl : y = c := by omega
          go_wp2_with fail
          clear t1 t2
          go_loopg [6, 29] (16 - y) (fun gh x6 x29 wq => ∃ j : Nat, j ≤ 16 - y ∧ gh = 16 - y - j ∧ x29 = .int .i64 (j : Int) ∧ wq = wr)
          case atStart => exact ⟨0, Nat.zero_le _, rfl, rfl, rfl⟩
          case round =>
            obtain ⟨j, hj, hgj, rfl, rfl⟩ := hrel
            have HGJ := hide hgj
            clear hgj
            rcases Nat.lt_or_ge j (16 - y) with hjl | hjl
            · exfalso; omega
            · have u1 : decide (j < 16 - y) = false := by simp; omega
              have u2 : decide ((j : Int) < ((16 - y : Nat) : Int)) = false := by simp; omega
              have u3 : ¬ (j : Int) < ((16 - y : Nat) : Int) := by omega
              clear hjl hj
              go_wp2_with fail
              have hrd : Rd wr w.heap.size 1 (slA (some ⟨ba, oa, none⟩) y 2) (y - 2) (bvs (str0 e)) := by
                have := (HR.out.below HB.out).part (c := y) (by omega) (lo := 2) (hi := y) (by omega) (by omega)
                rw [← hy, ← HG.out.2, pk_mid (by have := HG.out.2; omega)] at this
                rw [← hy, ← HG.out.2]
                exact this
              have HRD := hide hrd
              have b0 := HC1.out 0 (by omega)
              have b1 := HC1.out 1 (by omega)
              obtain ⟨lo, hlo⟩ : ∃ lo, ((packB e).getD 0 0).toNat = lo := ⟨_, rfl⟩
              obtain ⟨hi, hhi⟩ : ∃ hi, ((packB e).getD 1 0).toNat = hi := ⟨_, rfl⟩
              have hlo' : lo < 256 := by rw [← hlo]; exact UInt8.toNat_lt _
              have hhi' : hi < 256 := by rw [← hhi]; exact UInt8.toNat_lt _
              rw [hlo, Nat.add_zero] at b0
              rw [hhi] at b1
              have hnum : lo + 256 * hi = e.num.toNat := by
                have h1 : lo = e.num.toNat % 256 := by rw [← hlo]; exact UInt8.toNat_ofNat' ..
                have h2 : hi = e.num.toNat / 256 % 256 := by rw [← hhi]; exact UInt8.toNat_ofNat' ..
                have := e.num.toNat_lt
                omega
              have hor : bits BinOp.or IntKind.u16 (lo : Int) ((hi : Int) * 256) = (e.num.toNat : Int) := by
                have h := or_two hlo' hhi'
                rw [show ((256 * hi : Nat) : Int) = (hi : Int) * 256 from by omega, hnum] at h
                exact h
              have e1 : IntKind.u16.wrap (lo : Int) = (lo : Int) := by rw [IntKind.wrap_u16]; omega
              have e2 : IntKind.u16.wrap (hi : Int) = (hi : Int) := by rw [IntKind.wrap_u16]; omega
              have e3 : IntKind.u16.wrap ((hi : Int) * 256) = (hi : Int) * 256 := by rw [IntKind.wrap_u16]; omega
              have hlen : (16 : Int) = 16 := rfl
              clear hrd hlo hhi
              refine wp_region_text [0, 0, 0, 0, 0, 0, 0, 0, 0, 0, 0, 0, 0, 0, 0, 1, 1] (fun W => Below wr.heap.size wr W) (by kernel_rfl) (by kernel_rfl) (Below.refl _ _).drew ?_
              iterate 2 (refine wpOrd_q (v := ?_) (by rfl) (fun W hW => ?_) ?_; rotate_left; (focus ((obtain ⟨hWc, hWf⟩ := bcell hW; go_simp); try with_reducible rfl)); try simp only [Act.put, List.setIfInBounds_toArray, List.set_cons_zero, List.set_cons_succ])
              refine wpOrd_q (v := .slice (slA (some ⟨ba, oa, none⟩) y 2) (y - 2) (y - 2)) (by rfl) (fun W hW => exec_slice_lh 24 5 (.tmp 37) (.const (.int .i64 2)) (.tmp 38) rfl (some ⟨ba, oa, none⟩) 16 y 2 y .i64 .i64 (by rfl) (by rfl) (by rfl) Tryz.underlying24 (by kernel_rfl) (by omega) (by omega)) ?_
              try simp only [Act.put, List.setIfInBounds_toArray, List.set_cons_zero, List.set_cons_succ]
              refine wpOrd_q (v := .string e.name) (by rfl) (fun W hW => by rw [show Value.string e.name = .string (str (str0 e)) from by rw [str_name]]; exact exec_str 24 9 5 (.tmp 39) rfl _ _ _ (str0 e) _ (by rfl) Tryz.underlying24 Tryz.underlying5 Tryz.underlying9 (HRD.out.below (hW.mono HB.out.size))) ?_
              try simp only [Act.put, List.setIfInBounds_toArray, List.set_cons_zero, List.set_cons_succ]
              iterate 9 (refine wpOrd_q (v := ?_) (by rfl) (fun W hW => ?_) ?_; rotate_left; (focus ((obtain ⟨hWc, hWf⟩ := bcell hW; go_simp); try with_reducible rfl)); try simp only [Act.put, List.setIfInBounds_toArray, List.set_cons_zero, List.set_cons_succ])
              refine wpOrd_q (v := .int .u16 (e.num.toNat : Int)) (by rfl) (fun W hW => by go_simp; try exact hor) ?_
              try simp only [Act.put, List.setIfInBounds_toArray, List.set_cons_zero, List.set_cons_succ]
              iterate 1 (refine wpOrd_q (v := ?_) (by rfl) (fun W hW => ?_) ?_; rotate_left; (focus ((obtain ⟨hWc, hWf⟩ := bcell hW; go_simp); try with_reducible rfl)); try simp only [Act.put, List.setIfInBounds_toArray, List.set_cons_zero, List.set_cons_succ])
              refine wpOrd_x (by rfl) (fun KK hKK => ?_)
              go_simp
              refine hKK _ _ _ (fun _ h => h) ((Below.refl _ _).drew.alloc (Nat.le_refl _) _) ?_
              clear hKK KK
              try simp only [Act.put, List.setIfInBounds_toArray, List.set_cons_zero, List.set_cons_succ]
              refine wpOrd_x (by rfl) (fun KK hKK => ?_)
              go_simp
              refine hKK _ _ _ (fun _ h => h) ((Below.refl _ _).alloc (Nat.le_refl _) _).drew ?_
              clear hKK KK
              refine wpOrd_nil ?_
              refine at_world (fun W => ∃ q, q = wr.heap.size ∧ Below w.heap.size w W ∧ Blk W p 125 #[.string ⟨#[]⟩, .int .u16 0] ∧ Blk W q 125 #[.string e.name, .int .u16 (e.num.toNat : Int)]) ⟨_, rfl, (HB.out.alloc HB.out.size _).drew, (HP.out.alloc _).drew, (Blk.new _ _ _).drew⟩ (fun w3 h3 => ?_)
              obtain ⟨q, hq, hb3, hP3, hQ3⟩ := h3
              rw [← hq]
              have HB3 := hide hb3
              have HP3 := hide hP3
              have HQ3 := hide hQ3
              have q0 := hQ3.cell 0
              have q1 := hQ3.cell 1
              have ql := hQ3.lt
              clear hq hb3 hP3 hQ3 HRD HC1 HC b0 b1 hor e1 e2 e3 hlen
              rcases HG.out.1 with ⟨hz, hnm⟩ | ⟨hz, hnm⟩
              · have hz0 : e.num.toNat = 0 := by rw [hz]; rfl
                have hnm0 : e.name = ⟨#[]⟩ := by rw [← str_name e, hnm]; rfl
                have hk0 : y = 2 := by have := HG.out.2; rw [hnm0] at this; rw [← hy, ← this]; rfl
                exfalso; omega
              · have hz0 : e.num.toNat ≠ 0 := fun h0 => hz (UInt16.toNat_inj.1 h0)
                have t6 : ((e.num.toNat : Int) == 0) = false := by rw [beq_eq_false_iff_ne]; omega
                have t6' : ¬ (e.num.toNat : Int) = 0 := by omega
                go_wp2_with fail
                refine (dirname_ok e.name w3).mono ?_
                rintro _ _ ⟨rfl, rfl⟩
                rw [hnm]
                have HPQ := hide (below_setRow HB3.out HPW.out #[.string e.name, .int .u16 (e.num.toNat : Int)])
                go_wp2_with (first | ((with_reducible refine at_store 125 (.tmp 2) (.tmp 63) ?_); refine wpList_store_blk rfl 125 (.tmp 2) (.tmp 63) rfl p _ _ _ (by rfl) (by rfl) HP3.out (by exact size_ent) (by rfl) (by simp [Value.oneCell']) (fun hB4 => ?_)) | ((with_reducible refine at_end ?_); refine bodyPost_ret (v := .tuple #[.agg #[.string e.name, .int .u16 (e.num.toNat : Int)], .bool true]) (results_run2 rfl (ResV.row rfl hB4 Tryz.underlying125 rfl size_ent) rfl) rfl ⟨rfl, HPQ.out⟩) | fail)
end
end Go.Proofs.YthmkgohfeahdhaaGreat
namespace Go.Proofs.YthmkgohfeahdhaaGreat
open Go.RowKit
set_option linter.unusedSimpArgs false
set_option linter.unusedVariables false

/-- a directory's bytes -/
def pks (l : List EntV) : List UInt8 := l.flatMap packB
theorem pks_length : ∀ l : List EntV, (pks l).length = 16 * l.length
  | [] => rfl
  | e :: l => by
    have := pks_length l
    unfold pks at this ⊢
    rw [List.flatMap_cons, List.length_append, this, packB_length, List.length_cons]
    omega
theorem pks_piece : ∀ {l : List EntV} {k : Nat} {e : EntV}, l[k]? = some e → ((pks l).drop (16 * k)).take 16 = packB e
  | [], k, e, h => by simp at h
  | a :: l, 0, e, h => by
    obtain rfl : a = e := by simpa using h
    unfold pks
    rw [List.flatMap_cons, Nat.mul_zero, List.drop_zero, ← packB_length a, List.take_left']
    rw [packB_length]
  | a :: l, k + 1, e, h => by
    have h1 := pks_piece (l := l) (k := k) (e := e) (by simpa using h)
    unfold pks at h1 ⊢
    rw [List.flatMap_cons, show 16 * (k + 1) = (packB a).length + 16 * k from by rw [packB_length]; omega, List.drop_append, List.drop_eq_nil_of_le (by omega), List.nil_append, Nat.add_sub_cancel_left, h1]
theorem info_ent : ∃ i, Tryz.prog.info? 125 = some i ∧ i.zero = some (.agg #[.string ⟨#[]⟩, .int .u16 0]) ∧ i.size = 2 ∧ i.bytes = 24 := by
  have h : (Tryz.prog.info? 125).map (fun i => (i.zero, i.size, i.bytes)) = some (some (.agg #[.string ⟨#[]⟩, .int .u16 0]), 2, 24) := by kernel_rfl
  cases hi : Tryz.prog.info? 125 with
  | none => rw [hi] at h; cases h
  | some i =>
    rw [hi] at h
    simp only [Option.map_some, Option.some.injEq, Prod.mk.injEq] at h
    exact ⟨i, rfl, h.1, h.2.1, h.2.2⟩
section
variable {w w' : World} {i : Ids} {s : Sto} {gg : Nat} {g : GeoN} {lab : Int} {G : GS}
set_option maxRecDepth 100000 in
set_option maxHeartbeats 4000000 in
theorem dopen_ok {num sz : Nat} {l : List EntV} {κ : Nat → Nat} (h : GAt w i s gg g lab G) (h1 : 1 ≤ num) (h2 : num ≤ g.nodes) (hk : (G.nd num).kind = 2) (hl : (pks l).length = sz) (hsz : (G.nd num).size.toNat = sz)
    (hf : FileAt G g.blocks (G.nd num) (blks sz) κ sz (fun j => (pks l).getD j 0)) (hlen : sz ≤ 16384) (hg : ∀ e ∈ l, e.Good) :
    Calls Tryz.prog 119 #[.pointer (some ⟨gg, 0, none⟩), .int .i64 (num : Int)] w fun e w' => ∃ A c, e = .returned (.tuple #[.slice A l.length c, .int .i64 0]) ∧ w'.ownsRow w.heap.size 125 2 (.slice A l.length c) l.length (flat2 l) ∧ GAt w' i s gg g lab G ∧ Tch w.heap.size i.own w w' := by
  have hdir := h.gok.dir num
  have hnd := gs_node' h h1 h2
  obtain ⟨n0, hn0⟩ : ∃ n0, G.nd num = n0 := ⟨_, rfl⟩
  rw [hn0] at hnd hdir
  have H := hide h
  have HND := hide hnd
  have HN0 := hide hn0
  have HD := hide hdir
  have HK := hide (And.intro h1 (And.intro h2 (And.intro hk (And.intro hl hsz))))
  have HF := hide hf
  have HR := hide hg
  have HL := hide hlen
  clear h hnd hn0 hdir h1 h2 hk hl hf hg
  go_enter Tryz.func119, Tryz.ntmps119
  go_wp2_with fail
  refine HND.out.mono ?_
  rintro e w1 ⟨rfl, ha1, ht1⟩
  have HA1 := hide ha1
  have HT1 := hide ht1
  clear ha1 ht1 HND
  go_upto_region 2 with (first | ((with_reducible refine at_alloc 130 ?_); refine wpList_alloc_as rfl 130 rfl _ (zero_node _) ?_) | ((with_reducible refine at_store 130 (.tmp 6) (.tmp 17) ?_); refine wpList_store_blk rfl 130 (.tmp 6) (.tmp 17) rfl w1.heap.size _ _ _ (by rfl) (by rfl) (Blk.new _ _ _) (size_nodeOf HD.out) (by rw [List.size_toArray, List.size_toArray, NodeV.cells_length HD.out]; rfl) (NodeV.cells_one _) (fun _ => ?_)) | fail)
  refine at_world (fun W => ∃ q, q = w1.heap.size ∧ Below w1.heap.size w1 W ∧ Blk W q 130 n0.cells.toArray) ⟨_, rfl, below_setRow ((Below.refl _ _).alloc (Nat.le_refl _) _) (Nat.le_refl _) _, (Blk.new _ _ _).setRow_same _⟩ (fun w2 hw2 => ?_)
  obtain ⟨q, hq, hb2, hQ2⟩ := hw2
  rw [← hq]
  have HA2 := hide (HA1.out.below hb2)
  have HT2 := hide (HT1.out.trans ((Tch.of_below hb2).mono HT1.out.size fun _ _ h => h))
  have q0 := (hQ2.cell 0).trans (node_cells_at n0).1
  have q3 := (hQ2.cell 3).trans (node_cells_at n0).2.2.2
  have ql := hQ2.lt
  have hsz2 : n0.size.toNat = sz := by rw [← HN0.out]; exact HK.out.2.2.2.2
  rw [hsz2] at q3
  have hkd : (n0.kind.toNat : Int) = 2 := by rw [← HN0.out, HK.out.2.2.1]; rfl
  rw [hkd] at q0
  have e1 : IntKind.i64.wrap (sz : Int) = (sz : Int) := IntWalk.i64_in _ (by omega)
  have hrd := read_file (num := num) (off := 0) (many := sz) (en := sz) (c := blks sz) (sz := sz) (κ := κ) (f := fun j => (pks l).getD j 0) HA2.out HK.out.1 HK.out.2.1 (by rw [HK.out.2.2.1]; decide) HK.out.2.2.2.2 HF.out (by omega) (by omega) HL.out (by have := HL.out; omega)
  have hmap : (List.range sz).map (fun k => (pks l).getD (0 + k) 0) = pks l := by
    have hlen := HK.out.2.2.2.1
    apply List.ext_getElem?
    intro j
    rw [List.getElem?_map]
    by_cases hj : j < sz
    · rw [List.getElem?_range hj, List.getElem?_eq_getElem (by rw [hlen]; exact hj), Option.map_some, List.getD_eq_getElem?_getD, Nat.zero_add, List.getElem?_eq_getElem (by rw [hlen]; exact hj)]
      rfl
    · rw [List.getElem?_eq_none (by simpa using hj), List.getElem?_eq_none (by rw [hlen]; omega)]
      rfl
  rw [Nat.sub_zero, hmap, show ((0 : Nat) : Int) = 0 from rfl] at hrd
  have HRD := hide hrd
  clear hq hb2 hQ2 hsz2 hmap hrd hsz hlen hkd HA1 HT1
  go_wp2_with fail
  refine HRD.out.mono ?_
  rintro e w3 ⟨A3, c3, rfl, hr3, ha3, ht3, -, hc3, hown3⟩
  have HBT3 := hide (BT.of_own hown3)
  have HA3 := hide ha3
  have HT3 := hide (HT2.out.trans (ht3.mono HT2.out.size fun _ _ h => h))
  have HR3 := hide (And.intro hr3 hc3)
  clear hr3 ha3 ht3 hc3 hown3 HRD HA2 HT2 q0 q3 ql e1
  go_wp2_with fail
  obtain ⟨N, hN⟩ : ∃ N, l.length = N := ⟨_, rfl⟩
  have hszN : sz = 16 * N := by rw [← hN, ← pks_length, HK.out.2.2.2.1]
  have HN := hide hN
  have HSZ := hide hszN
  clear hN hszN
  go_loopg [9, 10, 11, 12] N (fun gh x9 x10 x11 x12 wr => ∃ (k : Nat) (Ao : Option Addr) (co : Nat), k ≤ N ∧ gh = N - k ∧ x9 = .slice Ao k co ∧ x10 = .int .i64 ((16 * k : Nat) : Int) ∧ Hid (GAt wr i s gg g lab G) ∧ Hid (Tch w.heap.size i.own w wr) ∧ Hid (Rd wr wr.heap.size 1 A3 sz (bvs (pks l)) ∧ sz ≤ c3) ∧ Hid (BT wr A3) ∧ Hid (wr.ownsRow w.heap.size 125 2 (.slice Ao k co) k (flat2 (l.take k))))
  case atStart => exact ⟨0, none, 0, Nat.zero_le _, rfl, rfl, rfl, HA3, HT3, HR3, HBT3, hide (World.ownsRow_nil _ _ _ _)⟩
  case round =>
    clear HA3 HT3 HR3 HBT3
    obtain ⟨k, Ao, co, hk, hgh, rfl, rfl, HA, HT, HB, HBT, HO⟩ := hrel
    have HGH := hide hgh
    have hLL := HL.out
    clear hgh
    obtain ⟨y, hy⟩ : ∃ y : Nat, 16 * k = y := ⟨_, rfl⟩
    rw [hy]
    rcases Nat.lt_or_ge k N with hkl | hkl
    · obtain ⟨e, he⟩ : ∃ e, l[k]? = some e := ⟨_, List.getElem?_eq_getElem (by rw [HN.out]; exact hkl)⟩
      have hysz : y + 16 ≤ sz := by have := HSZ.out; omega
      obtain ⟨ba, oa, rfl, hba, -⟩ := HB.out.1.byte (i := 0) (by omega)
      have hc3 := HB.out.2
      have hrd : Rd wr wr.heap.size 1 (some ⟨ba, oa + y, none⟩) 16 (bvs (packB e)) := by
        have h0 := HB.out.1.part HB.out.2 (lo := y) (hi := y + 16) (by omega) hysz
        rw [Nat.add_sub_cancel_left, ← hy, pks_piece he, hy] at h0
        unfold slA at h0
        rw [if_neg (by omega)] at h0
        simpa [Addr.add_mid] using h0
      have hup := unpack_good e (HR.out e (List.mem_of_getElem? he)) (c := c3 - y) (by omega) hrd
      have HUP := hide hup
      have HE := hide (And.intro he (HR.out e (List.mem_of_getElem? he)))
      have t1 : decide ((y : Int) < (sz : Int)) = true := by simp; omega
      have t1' : (y : Int) < (sz : Int) := by omega
      have e64 : IntKind.i64.wrap ((y : Int) + 16) = (y : Int) + 16 := IntWalk.i64_in _ (by omega)
      have hmin : min ((y : Int) + 16) (sz : Int) = (y : Int) + 16 := by omega
      have m1 : (y : Int) + 16 ≤ (sz : Int) := by omega
      have m2 : ¬ (sz : Int) < (y : Int) + 16 := by omega
      have m3 : (y : Int) + 16 ≤ (c3 : Int) := by omega
      have m4 : y < c3 := by omega
      have m5 : ¬ y = c3 := by omega
      have m6 : ¬ c3 = y := by omega
      clear hup hrd he hba
      have m7 : ((y : Int) + 16).toNat - y = 16 := by omega
      go_wp2_with fail
      refine HUP.out.mono ?_
      rintro _ w4 ⟨rfl, hb4⟩
      have HA4 := hide (HA.out.below hb4)
      have HT4 := hide (HT.out.trans ((Tch.of_below hb4).mono HT.out.size fun _ _ h => h))
      have HO4 := hide (own_below HO.out hb4)
      have HB4 := hide (And.intro ((HB.out.1.below hb4).more hb4.size) HB.out.2)
      have HBT4 := hide (HBT.out.below hb4)
      have hce : e.cells.toArray = #[.string e.name, .int .u16 (e.num.toNat : Int)] := rfl
      rw [hce]
      clear hb4 hce HUP HA HT HO HB HBT t1 t1' hmin m1 m2 m3 m4 m5 m6 m7
      go_upto_region 18 with (fail)
      refine at_world (fun W => ∃ z, z = w4.heap.size ∧ Below w4.heap.size w4 W ∧ Blk W z 125 #[.string e.name, .int .u16 (e.num.toNat : Int)]) ⟨_, rfl, (Below.refl _ _).alloc (Nat.le_refl _) _, Blk.new _ _ _⟩ (fun w5 h5 => ?_)
      obtain ⟨z, hz, hb5, hZ5⟩ := h5
      rw [← hz]
      have HZB := hide hZ5
      have HA5 := hide (HA4.out.below hb5)
      have HT5 := hide (HT4.out.trans ((Tch.of_below hb5).mono HT4.out.size fun _ _ h => h))
      have HO5 := hide (own_below HO4.out hb5)
      have HB5 := hide (And.intro ((HB4.out.1.below hb5).more hb5.size) HB4.out.2)
      have HBT5 := hide (HBT4.out.below hb5)
      clear hz hb5 hZ5 HA4 HT4 HO4 HB4 HBT4
      obtain ⟨j0, hj0, j1, j2, j3⟩ := info_ent
      have HJ := hide (And.intro hj0 (And.intro j1 (And.intro j2 j3)))
      have hone : ∀ u ∈ ([.string e.name, .int .u16 (e.num.toNat : Int)] : List Value), u.oneCell' = true := by simp [Value.oneCell']
      have HONE := hide hone
      have hk6 : k ≤ 1000000 := by have := HSZ.out; omega
      have hs5 := HT5.out.size
      clear hj0 j1 j2 j3 hone
      go_wp2_with (first | ((with_reducible refine at_load 125 (.tmp 11) ?_); refine wpList_load_blk rfl 125 (.tmp 11) rfl z _ _ _ (by rfl) HZB.out Tryz.underlying125 rfl (by exact size_ent) ?_) | (at_builtin; refine wpList_append_one rfl (.tmp 63) (.tmp 65) 60 rfl w.heap.size 125 j0 (.agg #[.string ⟨#[]⟩, .int .u16 0]) 2 24 Tryz.underlying60 HJ.out.1 HJ.out.2.1 HJ.out.2.2.1 HJ.out.2.2.2 rfl (by decide) Ao co k (flat2 (l.take k)) [.string e.name, .int .u16 (e.num.toNat : Int)] w5 rfl HO5.out rfl rfl rfl HONE.out hk6 (by decide) hs5 ?_; intro A9 c9 w6 hown9 hg9 hb9 hat9) | fail)
      have htg : Tch w5.heap.size (fun g => (Value.slice Ao k co).ownBlock = some g) w5 w6 := Tch.grown hg9 (Nat.le_refl _) (fun g hg _ => hg)
      have hown_ge : ∀ g, (Value.slice Ao k co).ownBlock = some g → w.heap.size ≤ g := fun g hg => (own_block_ge HO5.out hg).1
      have hav : ∀ (t : TypeId) g cur, t ≠ 125 → Blk w5 g t cur → ¬ (Value.slice Ao k co).ownBlock = some g := fun t g cur ht hB => row_not_blk HO5.out hB ht
      have hll := H.out.tx.log.log.lt
      have hgg := H.out.gp.lt
      have HA6 := hide (HA5.out.apart htg (fun g hg => ⟨fun ho => H.out.tx.other_new (hown_ge g hg) ho, by have := hown_ge g hg; omega, by have := hown_ge g hg; omega⟩))
      have HT6 := hide (HT5.out.trans (htg.mono HT5.out.size (fun g hk hg => by have := hown_ge g hg; omega)))
      have HB6 := hide (And.intro (HB5.out.1.keepT HBT5.out htg (fun g cur hB => hav _ g cur (by decide) hB)) HB5.out.2)
      have HBT6 := hide (HBT5.out.tch htg (fun g cur hB => hav _ g cur (by decide) hB))
      have hfl : flat2 (l.take k) ++ [.string e.name, .int .u16 (e.num.toNat : Int)] = flat2 (l.take (k + 1)) := by
        rw [List.take_add_one, HE.out.1]
        simp [flat2, EntV.cells]
      rw [hfl] at hown9
      have HO6 := hide hown9
      clear hown9 hg9 hb9 hat9 htg hown_ge hav hll hgg hfl HA5 HT5 HO5 HB5 HBT5
      go_roundg (N - (k + 1))
      case rel => exact ⟨k + 1, A9, c9, by omega, rfl, rfl, by rw [Nat.mul_add, hy]; first | rfl | go_num, HA6, HT6, HB6, HBT6, HO6⟩
      case measure => have := HGH.out; omega
    · have hkN : k = N := by omega
      have t1 : decide ((y : Int) < (sz : Int)) = false := by have := HSZ.out; simp; omega
      have t1' : ¬ (y : Int) < (sz : Int) := by have := HSZ.out; omega
      have HKN := hide hkN
      clear hkl hk hkN hLL
      go_wp2
      go_returns
      refine ⟨Ao, co, ?_, ?_, HA.out, HT.out⟩
      · have e1 := HN.out
        have e2 := HKN.out
        simp [e1, e2]
      · have h0 := HO.out
        rw [HKN.out, List.take_of_length_le (by rw [HN.out]; exact Nat.le_refl _)] at h0
        rw [HN.out]
        exact h0
end
end Go.Proofs.YthmkgohfeahdhaaGreat

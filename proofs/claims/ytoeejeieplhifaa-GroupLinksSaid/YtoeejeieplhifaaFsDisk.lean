/- The disk, walked: what stands in it, read and written. -/
import Derived.Test.YtoeejeieplhifaaFsOps
import Derived.Test.YtoeejeieplhifaaConfRows
import Derived.Test.YtoeejeieplhifaaProg
import Derived.Deep.RegionHeld3
import Derived.Deep.RegionLaw
import Derived.Deep.QuietTactic
import Derived.BigQuiet
import Derived.Handy
import Derived.Deep.LoopGhost
import Derived.Deep.Cut
import Derived.Deep.CutRange
namespace Go.Proofs.Ytoeejeieplhifaa
open Go.RowKit
set_option linter.unusedSimpArgs false
set_option linter.unusedVariables false

theorem zero_block (w : World) : (zeroValue 67).run Try.prog w = .ok (.agg (bvs zeroB).toArray) w := by kernel_rfl
theorem build_block (w : World) : (Instr.build 67 #[]).run Try.prog w = .ok (bval zeroB) w := by kernel_rfl
theorem size_block : (Try.prog.info? 67).map (·.size) = some 64 := by kernel_rfl
theorem size_blockOf {b : List UInt8} (h : b.length = 64) : (Try.prog.info? 67).map (·.size) = some (bvs b).toArray.size := by rw [size_block, bvs_size h]

theorem info_block : ∃ i, Try.prog.info? 67 = some i ∧ i.zero = some (bval zeroB) ∧ i.size = 64 ∧ i.bytes = 64 := by
  have h : (Try.prog.info? 67).map (fun i => (i.zero, i.size, i.bytes)) = some (some (bval zeroB), 64, 64) := by kernel_rfl
  cases hi : Try.prog.info? 67 with
  | none => rw [hi] at h; cases h
  | some i =>
    rw [hi] at h
    simp only [Option.map_some, Option.some.injEq, Prod.mk.injEq] at h
    exact ⟨i, rfl, h.1, h.2.1, h.2.2⟩

/-- A disk that works, of these blocks. -/
structure DiskAt (w : World) (dd rr : Nat) (D : List BlkV) : Prop where
  disk : ∃ wr rd : Int, Blk w dd 129 #[.slice (some ⟨rr, 0, none⟩) D.length D.length, .int .i64 (-1), .bool false, .int .i64 wr, .int .i64 rd]
  row : Blk w rr 67 (flatB D).toArray
  len : ∀ b ∈ D, b.length = 64
  most : D.length ≤ 65536
section
variable {w w' : World} {dd rr : Nat} {D : List BlkV}
theorem DiskAt.dlt (h : DiskAt w dd rr D) : dd < w.heap.size := by obtain ⟨_, _, hd⟩ := h.disk; exact hd.lt
theorem DiskAt.keep (h : DiskAt w dd rr D) (h1 : w'.heap[dd]? = w.heap[dd]?) (h2 : w'.heap[rr]? = w.heap[rr]?) : DiskAt w' dd rr D := by
  obtain ⟨wr, rd, hd⟩ := h.disk
  exact ⟨⟨wr, rd, h1.trans hd⟩, h2.trans h.row, h.len, h.most⟩
theorem DiskAt.below (h : DiskAt w dd rr D) (hb : Below w.heap.size w w') : DiskAt w' dd rr D := h.keep (hb.block _ h.dlt) (hb.block _ h.row.lt)

theorem disk_len (h : DiskAt w dd rr D) : Calls Try.prog 86 #[.pointer (some ⟨dd, 0, none⟩)] w fun e w' => e = .returned (.int .i64 (D.length : Int)) ∧ w = w' := by
  obtain ⟨wr, rd, hd⟩ := h.disk
  have k0 := hd.cell 0
  have kl := hd.lt
  go_enter Try.func86, Try.ntmps86
  go_wp2
  go_returns
  exact ⟨rfl, rfl⟩

set_option maxRecDepth 100000 in
theorem disk_read (h : DiskAt w dd rr D) {k : Nat} {b : BlkV} (hk : D[k]? = some b) :
    Calls Try.prog 90 #[.pointer (some ⟨dd, 0, none⟩), .int .i64 (k : Int)] w fun e w' => e = .returned (.tuple #[bval b, .int .i64 0]) ∧ DiskAt w' dd rr D ∧ Tch w.heap.size (· = dd) w w' := by
  obtain ⟨wr, rd, hd⟩ := h.disk
  have hkl : k < D.length := (List.getElem?_eq_some_iff.1 hk).1
  have hb : b.length = 64 := h.len b (List.mem_of_getElem? hk)
  have hR := h.row
  have hrl := hR.lt
  have hkz : (k : Int) < (D.length : Int) := by omega
  go_enter Try.func90, Try.ntmps90
  go_upto_region 1 with (first | ((with_reducible refine at_alloc 67 ?_); refine wpList_alloc_as rfl 67 rfl _ (zero_block _) ?_) | fail)
  refine at_world (fun W => ∃ g, g = w.heap.size ∧ Below w.heap.size w W ∧ Blk W g 67 (bvs zeroB).toArray) ⟨_, rfl, (Below.refl _ _).alloc (Nat.le_refl _) _, Blk.new _ _ _⟩ (fun w1 h1 => ?_)
  obtain ⟨g, hg, hb1, hG⟩ := h1
  rw [← hg]
  have d1 := hd.below hb1 hd.lt
  have r1 := hR.below hb1 hR.lt
  have c0 := d1.cell 0
  have c4 := d1.cell 4
  have f4 := d1.frozen 4
  have dl := d1.lt
  have k0 : decide ((k : Int) < 0) = false := by simp
  have k1 : decide (D.length ≤ k) = false := by simpa using hkl
  have gl : w.heap.size ≤ g := Nat.le_of_eq hg.symm
  have HG := hide hg
  clear hg
  go_upto_region 6 with (fail)
  refine at_world (fun W => Tch w.heap.size (· = dd) w W ∧ Blk W g 67 (bvs zeroB).toArray ∧ DiskAt W dd rr D)
    ⟨(Tch.of_below hb1).trans (Tch.setCell fun _ => rfl), hG.far (by have := hG.ne d1 (by decide); exact this) _, ⟨⟨wr, _, d1.set_ 4 _⟩, r1.far (r1.ne d1 (by decide)) _, h.len, h.most⟩⟩ (fun w2 h2 => ?_)
  obtain ⟨ht2, hG2, h2⟩ := h2
  have HR := hide (fun o (ho : o = 64 * k) => (h2.row.range (o := o) (xs := bvs b) fun j v hj => by
    have hj64 : j < 64 := by have := (List.getElem?_eq_some_iff.1 hj).1; rw [bvs_length, hb] at this; exact this
    rw [ho, List.getElem?_toArray, flatB_get h.len hk hj64]; exact hj))
  clear c0 c4 f4 dl d1 r1 hG hb1 hR hd
  obtain ⟨wr2, rd2, d2⟩ := h2.disk
  have c0 := d2.cell 0
  have dl := d2.lt
  have H2 := hide (And.intro ht2 h2)
  have HB := hide hb
  clear ht2 d2 h2 h hb hk
  go_wp2_with (first | ((with_reducible refine at_load 67 (.tmp 35) ?_); refine wpList_load_mid rfl 67 (.tmp 35) rfl rr _ (by rfl) (bvs b) _ (HR.out _ (by omega)) Try.underlying67 rfl (by rw [size_block, bvs_length, HB.out]) ?_) | ((with_reducible refine at_store 67 (.tmp 4) (.tmp 36) ?_); refine wpList_store_blk rfl 67 (.tmp 4) (.tmp 36) rfl g 67 _ _ (by rfl) (by rfl) hG2 (size_blockOf HB.out) (by rw [zero_size, bvs_size HB.out]) (bvs_oneCell _) (fun hB3 => ?_)) | ((with_reducible refine at_end ?_); refine bodyPost_ret (v := .tuple #[bval b, .int .i64 0]) (results_run2 rfl (ResV.row rfl hB3 Try.underlying67 rfl (size_blockOf HB.out)) rfl) rfl ⟨rfl, ?_, ?_⟩) | fail)
  all_goals obtain ⟨ht2, h2⟩ := H2.out
  all_goals have n1 : g ≠ dd := fun e => by obtain ⟨_, _, d2⟩ := h2.disk; exact hG2.ne d2 (by decide) e
  all_goals have n2 : rr ≠ g := fun e => by have := h2.row.lt; subst e; exact absurd hrl (by omega)
  · exact h2.keep (setRow_other _ _ _ _ (Ne.symm n1)) (setRow_other _ _ _ _ n2)
  · exact ht2.trans (Tch.setRow fun hp => absurd hp (by omega))

set_option maxRecDepth 100000 in
theorem disk_write (h : DiskAt w dd rr D) {k : Nat} {b : BlkV} (hkl : k < D.length) (hb : b.length = 64) :
    Calls Try.prog 55 #[.pointer (some ⟨dd, 0, none⟩), .int .i64 (k : Int), bval b] w fun e w' => e = .returned (.int .i64 0) ∧ DiskAt w' dd rr (D.set k b) ∧ Tch w.heap.size (fun x => x = dd ∨ x = rr) w w' := by
  obtain ⟨wr, rd, hd⟩ := h.disk
  have hR := h.row
  have hrl := hR.lt
  have hkz : (k : Int) < (D.length : Int) := by omega
  go_enter Try.func55, Try.ntmps55
  go_upto_region 1 with (fail)
  refine at_world (fun W => ∃ g, g = w.heap.size ∧ Below w.heap.size w W ∧ Blk W g 67 (bvs b).toArray) ⟨_, rfl, (Below.refl _ _).alloc (Nat.le_refl _) _, Blk.new _ _ _⟩ (fun w1 h1 => ?_)
  obtain ⟨g, hg, hb1, hG⟩ := h1
  rw [← hg]
  have d1 := hd.below hb1 hd.lt
  have r1 := hR.below hb1 hR.lt
  have c0 := d1.cell 0
  have c1 := d1.cell 1
  have c2 := d1.cell 2
  have dl := d1.lt
  have k0 : decide ((k : Int) < 0) = false := by simp
  have k1 : decide (D.length ≤ k) = false := by simpa using hkl
  have gl : w.heap.size ≤ g := Nat.le_of_eq hg.symm
  have HG := hide hg
  clear hg
  have HB := hide hb
  clear hb
  go_upto_region 9 with (fail)
  refine wp_region_text [0, 0, 0, 0, 0, 0, 0, 2] (· = w1.drew) (by kernel_rfl) (by kernel_rfl) rfl ?_
  iterate 5 (refine wpOrd_q (v := ?_) (by rfl) (fun W hW => ?_) ?_; rotate_left; (focus ((cases hW; go_simp); try with_reducible rfl)); try simp only [Act.put, List.setIfInBounds_toArray, List.set_cons_zero, List.set_cons_succ])
  refine wpOrd_q (v := .agg (bvs b).toArray) (by rfl) (fun W hW => by cases hW; exact exec_load_blk 67 (.tmp 5) rfl g _ (bvs b).toArray _ rfl hG.drew Try.underlying67 rfl (size_blockOf HB.out)) ?_
  try simp only [Act.put, List.setIfInBounds_toArray, List.set_cons_zero, List.set_cons_succ]
  iterate 1 (refine wpOrd_q (v := ?_) (by rfl) (fun W hW => ?_) ?_; rotate_left; (focus ((cases hW; go_simp); try with_reducible rfl)); try simp only [Act.put, List.setIfInBounds_toArray, List.set_cons_zero, List.set_cons_succ])
  refine wpOrd_b (by rfl) (fun K hK => ?_)
  refine wp_store_mid 67 (.tmp 41) (.tmp 40) rfl rr (k * 64) (bvs b).toArray (by rfl) (by rfl) (r1.drew.there (by rw [bvs_size HB.out, List.size_toArray, flatB_length h.len]; omega)) (size_blockOf HB.out) (bvs_oneCell _) ?_
  refine hK (fun _ => True) _ _ trivial (wpOrd_nil ?_)
  have hB3 : Blk (w1.drew.setCells rr (k * 64) (bvs b)) rr 67 (flatB (D.set k b)).toArray := by
    have := r1.drew.setCells (k * 64) (bvs b) (by rw [bvs_length, HB.out, List.size_toArray, flatB_length h.len]; omega)
    rw [Nat.mul_comm k 64, bvs_length, HB.out] at this
    rw [Nat.mul_comm k 64, ← flatB_set h.len hkl HB.out]
    exact this
  refine at_world (fun W => Tch w.heap.size (fun x => x = dd ∨ x = rr) w W ∧ DiskAt W dd rr (D.set k b))
    ⟨((Tch.of_below hb1).drew).trans (Tch.setCells (fun _ => .inr rfl) _ _ _), ⟨⟨wr, rd, by
      rw [List.length_set]
      exact (Tch.setCells (B := w1.heap.size) (S := (· = rr)) (fun _ => rfl) (bvs b) (k * 64) w1.drew).block dd dl (d1.ne r1 (by decide)) |>.trans d1.drew⟩, hB3, set_lens h.len HB.out, by rw [List.length_set]; exact h.most⟩⟩ (fun w2 h2 => ?_)
  obtain ⟨ht2, h2⟩ := h2
  clear c0 c1 c2 dl d1 r1 hG hb1 hR hd h hB3
  obtain ⟨wr2, rd2, d2⟩ := h2.disk
  have c1 := d2.cell 1
  have f1 := d2.frozen 1
  have c3 := d2.cell 3
  have f3 := d2.frozen 3
  have dl := d2.lt
  have H2 := hide (And.intro ht2 h2)
  clear ht2 h2
  go_wp2
  go_returns
  obtain ⟨ht2, h2⟩ := H2.out
  refine ⟨rfl, ⟨⟨_, _, d2.set_ 3 _⟩, h2.row.far (h2.row.ne d2 (by decide)) _, h2.len, h2.most⟩, ht2.trans (Tch.setCell fun _ => .inl rfl)⟩

set_option maxRecDepth 100000 in
theorem disk_write_no (h : DiskAt w dd rr D) {k : Int} {b : BlkV} (hk : k < 0 ∨ (D.length : Int) ≤ k) :
    Calls Try.prog 55 #[.pointer (some ⟨dd, 0, none⟩), .int .i64 k, bval b] w fun e w' => e = .returned (.int .i64 27) ∧ Below w.heap.size w w' := by
  obtain ⟨wr, rd, hd⟩ := h.disk
  go_enter Try.func55, Try.ntmps55
  go_upto_region 1 with (fail)
  refine at_world (fun W => Below w.heap.size w W) ((Below.refl _ _).alloc (Nat.le_refl _) _) (fun w1 hb1 => ?_)
  have d1 := hd.below hb1 hd.lt
  have c0 := d1.cell 0
  have dl := d1.lt
  by_cases h0 : k < 0
  · have k0 : decide (k < 0) = true := by simpa using h0
    have HB := hide hb1
    clear hb1 hd d1 h hk
    go_wp2
    go_returns
    exact ⟨rfl, HB.out⟩
  · have k0 : decide (k < 0) = false := by simpa using h0
    have k1 : decide ((D.length : Int) ≤ k) = true := by simp; omega
    have HB := hide hb1
    clear hb1 hd d1 h hk
    go_wp2
    go_returns
    exact ⟨rfl, HB.out⟩

set_option maxRecDepth 100000 in
set_option maxHeartbeats 800000 in
theorem disk_read_no (h : DiskAt w dd rr D) {k : Int} (hk : k < 0 ∨ (D.length : Int) ≤ k) :
    Calls Try.prog 90 #[.pointer (some ⟨dd, 0, none⟩), .int .i64 k] w fun e w' => e = .returned (.tuple #[bval zeroB, .int .i64 27]) ∧ Below w.heap.size w w' := by
  obtain ⟨wr, rd, hd⟩ := h.disk
  go_enter Try.func90, Try.ntmps90
  go_upto_region 1 with (first | ((with_reducible refine at_alloc 67 ?_); refine wpList_alloc_as rfl 67 rfl _ (zero_block _) ?_) | fail)
  refine at_world (fun W => ∃ g, g = w.heap.size ∧ Below w.heap.size w W ∧ Blk W g 67 (bvs zeroB).toArray) ⟨_, rfl, (Below.refl _ _).alloc (Nat.le_refl _) _, Blk.new _ _ _⟩ (fun w1 h1 => ?_)
  obtain ⟨g, hg, hb1, hG⟩ := h1
  rw [← hg]
  have d1 := hd.below hb1 hd.lt
  have gl : w.heap.size ≤ g := Nat.le_of_eq hg.symm
  have c0 := d1.cell 0
  have dl := d1.lt
  have HB := hide hb1
  clear hb1 hg hd d1 h
  by_cases h0 : k < 0
  · have k0 : decide (k < 0) = true := by simpa using h0
    clear hk
    go_wp2_with (first | ((with_reducible refine at_build 67 #[] ?_); refine wpList_zero_as rfl 67 rfl _ (build_block _) ?_) | ((with_reducible refine at_store 67 (.tmp 4) (.tmp 22) ?_); refine wpList_store_blk rfl 67 (.tmp 4) (.tmp 22) rfl g 67 _ _ (by rfl) (by rfl) hG (size_blockOf zeroB_length) rfl (bvs_oneCell _) (fun hB3 => ?_)) | ((with_reducible refine at_end ?_); refine bodyPost_ret (v := .tuple #[bval zeroB, .int .i64 27]) (results_run2 rfl (ResV.row rfl hB3 Try.underlying67 rfl (size_blockOf zeroB_length)) rfl) rfl ⟨rfl, below_setRow HB.out gl _⟩) | fail)
  · have k0 : decide (k < 0) = false := by simpa using h0
    have k1 : decide ((D.length : Int) ≤ k) = true := by simp; omega
    clear hk
    go_wp2_with (first | ((with_reducible refine at_build 67 #[] ?_); refine wpList_zero_as rfl 67 rfl _ (build_block _) ?_) | ((with_reducible refine at_store 67 (.tmp 4) (.tmp 22) ?_); refine wpList_store_blk rfl 67 (.tmp 4) (.tmp 22) rfl g 67 _ _ (by rfl) (by rfl) hG (size_blockOf zeroB_length) rfl (bvs_oneCell _) (fun hB3 => ?_)) | ((with_reducible refine at_end ?_); refine bodyPost_ret (v := .tuple #[bval zeroB, .int .i64 27]) (results_run2 rfl (ResV.row rfl hB3 Try.underlying67 rfl (size_blockOf zeroB_length)) rfl) rfl ⟨rfl, below_setRow HB.out gl _⟩) | fail)

theorem made_zero (n : Nat) : (madeCells (bvs zeroB).toArray (n * 64)).toList = flatB (List.replicate n zeroB) := by
  rw [flatB_zero]
  apply List.ext_getElem
  · simp [madeCells, Nat.mul_comm]
  · intro i h1 h2
    have hr : bvs zeroB = List.replicate 64 (.int .u8 0) := by rw [bvs, zeroB, List.map_replicate]; rfl
    have hz : ∀ j : Nat, j < 64 → (bvs zeroB).toArray[j]! = .int .u8 0 := fun j hj => by
      rw [hr, getElem!_pos _ j (by simpa using hj)]
      simp only [List.getElem_toArray, List.getElem_replicate]
    simp only [madeCells, Array.toList_map, List.getElem_map, Array.toList_range, List.getElem_range, List.getElem_replicate]
    rw [zero_size]
    exact hz _ (Nat.mod_lt _ (by decide))

set_option maxRecDepth 100000 in
theorem disk_new (w : World) {n : Nat} (hn : n ≤ 65536) :
    Calls Try.prog 60 #[.int .i64 (n : Int)] w fun e w' => ∃ dd rr, e = .returned (.tuple #[.pointer (some ⟨dd, 0, none⟩), .int .i64 0]) ∧ w.heap.size ≤ dd ∧ w.heap.size ≤ rr ∧ DiskAt w' dd rr (List.replicate n zeroB) ∧ Below w.heap.size w w' := by
  have k0 : decide ((n : Int) < 0) = false := by simp
  have k1 : decide ((65536 : Int) < n) = false := by simp; omega
  go_enter Try.func60, Try.ntmps60
  obtain ⟨i, hi1, hi2, hi3, hi4⟩ := info_block
  have HI1 := hide hi1
  have HI2 := hide hi2
  have HI3 := hide hi3
  have HI4 := hide hi4
  clear hi1 hi2 hi3 hi4
  go_wp2_with (first | (refine wpList_make_full w rfl (.tmp 10) (.tmp 10) 57 rfl w.heap.size 67 i (bval zeroB) 64 Try.underlying57 HI1.out HI2.out HI3.out .i64 .i64 n n n (by rfl) (by rfl) rfl rfl (by rw [HI4.out]; omega) (by unfold maxLen; omega) (Nat.le_refl _) (fun w1 ho hg => ?_)) | fail)
  go_returns
  have hB := own_blk ho
  have hbz : (bval zeroB).cells = (bvs zeroB).toArray := rfl
  rw [hbz, made_zero] at hB
  have hz : ∀ b ∈ List.replicate n zeroB, b.length = 64 := fun b hb => by rw [(List.mem_replicate.1 hb).2]; exact zeroB_length
  refine ⟨w1.heap.size, w.heap.size, rfl, hg.size, Nat.le_refl _, ⟨⟨0, 0, by rw [List.length_replicate]; exact Blk.new _ _ _⟩, hB.alloc _, hz, by rw [List.length_replicate]; exact hn⟩, (grown_none hg).alloc hg.size _⟩
end
end Go.Proofs.Ytoeejeieplhifaa

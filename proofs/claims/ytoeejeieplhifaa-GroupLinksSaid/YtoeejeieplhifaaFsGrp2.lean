/- Groups, walked: Give, Get, Put. -/
import Derived.Test.YtoeejeieplhifaaFsGrp1
namespace Go.Proofs.Ytoeejeieplhifaa
open Go.RowKit
set_option linter.unusedSimpArgs false
set_option linter.unusedVariables false

section
variable {w w' : World} {i : Ids} {s : Sto} {gg : Nat} {g : GeoN} {lab : Int}
set_option maxRecDepth 100000 in
theorem give_none {tt n : Nat} (hG : GroupAt w gg tt g lab) (hn : n < 65536) (h : n < 1 ∨ g.blocks < n) :
    Calls Try.prog 26 #[.pointer (some ⟨gg, 0, none⟩), .int .u16 (n : Int)] w fun e w' => e = .returned (.int .i64 27) ∧ w = w' := by
  have hh := has_not hG hn h
  have HH := hide hh
  clear hh h hG
  go_enter Try.func26, Try.ntmps26
  go_wp2_with fail
  refine HH.out.mono ?_
  rintro e w1 ⟨rfl, rfl⟩
  go_wp2
  go_returns
  exact ⟨rfl, rfl⟩

set_option maxRecDepth 100000 in
set_option maxHeartbeats 800000 in
theorem give_not {k : Nat} (h : TxAt w i s) (hG : GroupAt w gg i.tt g lab) (hg : g.Ok s.D.length) (hk : k < g.blocks) (hb : s.bit g.base k = false) :
    Calls Try.prog 26 #[.pointer (some ⟨gg, 0, none⟩), .int .u16 ((k + 1 : Nat) : Int)] w fun e w' => e = .returned (.int .i64 3) ∧ TxAt w' i s ∧ Tch w.heap.size i.own w w' := by
  obtain ⟨b1, b2, b3⟩ := geo_bits hg
  have hkz : (k : Int) ≤ 65503 := by have := hg.map1; have := hg.data; have := hg.fits; have := hg.small; have := hg.base; omega
  have hh := has_yes (w := w) (n := k + 1) hG (by omega) (by omega) (by omega)
  have hkb : g.base + k / 512 < s.D.length := b3 _ (by omega)
  have ec : IntKind.i64.wrap (((k + 1 : Nat) : Int)) = ((k + 1 : Nat) : Int) := IntWalk.i64_in _ (by omega)
  have e1 : IntKind.i64.wrap (((k + 1 : Nat) : Int) - 1) = (k : Int) := by rw [IntWalk.i64_in _ (by omega)]; omega
  obtain ⟨n, hn⟩ : ∃ n, k + 1 = n := ⟨_, rfl⟩
  rw [hn] at hh e1 ec ⊢
  have HH := hide hh
  have H := hide h
  have HG := hide hG
  have HB := hide (And.intro b1 (And.intro b2 hkb))
  have HK := hide hk
  have HBT := hide hb
  clear hn hh h hG b1 b2 b3 hkb hk hb hg
  go_enter Try.func26, Try.ntmps26
  go_wp2_with fail
  refine HH.out.mono ?_
  rintro e w0 ⟨rfl, rfl⟩
  go_wp2_with fail
  refine (taken_ok HG.out HB.out.1 HB.out.2.1).mono ?_
  rintro e w1 ⟨bm, rfl, -, hbm, hb1⟩
  have HW := hide (And.intro (H.out.below hb1) (And.intro hbm hb1))
  clear hbm hb1
  go_wp2_with fail
  refine (has_bit HW.out.1 HW.out.2.1 HB.out.1 HB.out.2.1 HK.out HB.out.2.2).mono ?_
  rw [HBT.out]
  rintro e w2 ⟨rfl, hx2, ht2⟩
  have HF2 := hide (And.intro hx2 ((Tch.of_below (S := i.own) HW.out.2.2).trans (ht2.mono HW.out.2.2.size fun _ _ h => h)))
  clear hx2 ht2
  go_wp2
  go_returns
  exact ⟨rfl, HF2.out.1, HF2.out.2⟩

set_option maxRecDepth 100000 in
set_option maxHeartbeats 800000 in
theorem give_ok {k : Nat} (h : TxAt w i s) (hG : GroupAt w gg i.tt g lab) (hg : g.Ok s.D.length) (hr : s.M.length ≤ 28) (hk : k < g.blocks) (hb : s.bit g.base k = true) :
    Calls Try.prog 26 #[.pointer (some ⟨gg, 0, none⟩), .int .u16 ((k + 1 : Nat) : Int)] w fun e w' => e = .returned (.int .i64 0) ∧ TxAt w' i (s.setBit g.base k false) ∧ Tch w.heap.size i.own w w' := by
  obtain ⟨b1, b2, b3⟩ := geo_bits hg
  obtain ⟨c1, c2⟩ := geo_room hg hk hr
  have hkz : (k : Int) ≤ 65503 := by have := hg.map1; have := hg.data; have := hg.fits; have := hg.small; have := hg.base; omega
  have hh := has_yes (w := w) (n := k + 1) hG (by omega) (by omega) (by omega)
  have hkb : g.base + k / 512 < s.D.length := b3 _ (by omega)
  have ec : IntKind.i64.wrap (((k + 1 : Nat) : Int)) = ((k + 1 : Nat) : Int) := IntWalk.i64_in _ (by omega)
  have e1 : IntKind.i64.wrap (((k + 1 : Nat) : Int) - 1) = (k : Int) := by rw [IntWalk.i64_in _ (by omega)]; omega
  obtain ⟨n, hn⟩ : ∃ n, k + 1 = n := ⟨_, rfl⟩
  rw [hn] at hh e1 ec ⊢
  have HH := hide hh
  have H := hide h
  have HG := hide hG
  have HB := hide (And.intro b1 (And.intro b2 hkb))
  have HK := hide hk
  have HBT := hide hb
  have HC := hide c1
  clear hn hh h hG b1 b2 b3 hkb hk hb hg c1 c2 hr
  go_enter Try.func26, Try.ntmps26
  go_wp2_with fail
  refine HH.out.mono ?_
  rintro e w0 ⟨rfl, rfl⟩
  go_wp2_with fail
  refine (taken_ok HG.out HB.out.1 HB.out.2.1).mono ?_
  rintro e w1 ⟨bm, rfl, -, hbm, hb1⟩
  have HW := hide (And.intro (H.out.below hb1) (And.intro hbm hb1))
  clear hbm hb1
  go_wp2_with fail
  refine (has_bit HW.out.1 HW.out.2.1 HB.out.1 HB.out.2.1 HK.out HB.out.2.2).mono ?_
  rw [HBT.out]
  rintro e w2 ⟨rfl, hx2, ht2⟩
  have HF2 := hide (And.intro hx2 (And.intro ((Tch.of_below (S := i.own) HW.out.2.2).trans (ht2.mono HW.out.2.2.size fun _ _ h => h)) (Blk.tch HW.out.2.1 ht2 HW.out.2.1.lt (HW.out.2.1.not_own HW.out.1))))
  clear hx2 ht2
  go_wp2_with fail
  refine (set_ok HF2.out.1 HF2.out.2.2 HB.out.1 HB.out.2.1 HK.out HC.out).mono ?_
  rintro e w3 ⟨rfl, hx3, ht3⟩
  have HF3 := hide (And.intro hx3 (HF2.out.2.1.trans (ht3.mono HF2.out.2.1.size fun _ _ h => h)))
  clear hx3 ht3
  go_wp2
  go_returns
  exact ⟨rfl, HF3.out.1, HF3.out.2⟩

set_option maxRecDepth 100000 in
set_option maxHeartbeats 800000 in
theorem gput_ok {k : Nat} {b : BlkV} (h : TxAt w i s) (hG : GroupAt w gg i.tt g lab) (hg : g.Ok s.D.length) (hr : s.M.length ≤ 28) (hk : k < g.blocks) (hb : b.length = 64) :
    Calls Try.prog 27 #[.pointer (some ⟨gg, 0, none⟩), .int .u16 ((k + 1 : Nat) : Int), bval b] w fun e w' => e = .returned (.int .i64 0) ∧ TxAt w' i (s.put (g.data + k) b) ∧ Tch w.heap.size i.own w w' := by
  have hdk : g.data + k < s.D.length := by have := hg.fits; omega
  have hcan : s.Can (g.data + k) := can_of hdk (by have := hg.data; have := hg.base; omega) (by omega)
  have hdl := h.ok.most
  have hkz : (k : Int) ≤ 65503 := by have := hg.map1; have := hg.data; have := hg.fits; have := hg.small; have := hg.base; omega
  have ec : IntKind.i64.wrap (((k + 1 : Nat) : Int)) = ((k + 1 : Nat) : Int) := IntWalk.i64_in _ (by omega)
  have e1 : IntKind.i64.wrap ((g.data : Int) + ((k + 1 : Nat) : Int)) = (g.data : Int) + ((k + 1 : Nat) : Int) := IntWalk.i64_in _ (by omega)
  have e2 : IntKind.i64.wrap ((g.data : Int) + ((k + 1 : Nat) : Int) - 1) = ((g.data + k : Nat) : Int) := by rw [IntWalk.i64_in _ (by omega)]; omega
  obtain ⟨q, hq⟩ : ∃ q, g.data + k = q := ⟨_, rfl⟩
  obtain ⟨n, hn⟩ : ∃ n, k + 1 = n := ⟨_, rfl⟩
  have hn6 : n < 65536 := by omega
  have hn1 : 1 ≤ n := by omega
  have hn2 : n ≤ g.blocks := by omega
  rw [hq] at hcan e2 ⊢
  rw [hn] at ec e1 e2 ⊢
  have H := hide h
  have HG := hide hG
  have HC := hide hcan
  have HB := hide hb
  have HN := hide (And.intro hn6 (And.intro hn1 hn2))
  clear hq hn h hG hcan hdk hb hg hr hk hn6 hn1 hn2 hdl
  go_enter Try.func27, Try.ntmps27
  go_upto_region 1 with (fail)
  refine at_world (fun W => ∃ p, p = w.heap.size ∧ Below w.heap.size w W ∧ Blk W p 67 (bvs b).toArray) ⟨_, rfl, (Below.refl _ _).alloc (Nat.le_refl _) _, Blk.new _ _ _⟩ (fun w1 hw1 => ?_)
  obtain ⟨p, hp, hb1, hP⟩ := hw1
  rw [← hp]
  have HP := hide (And.intro hP hb1)
  have HG1 := hide (HG.out.below hb1)
  clear hp hb1 hP
  go_wp2_with fail
  refine (has_yes HG1.out HN.out.1 HN.out.2.1 HN.out.2.2).mono ?_
  rintro e w0 ⟨rfl, rfl⟩
  have c0 := HG1.out.cell 0
  have c4 := HG1.out.cell 4
  have cl := HG1.out.lt
  go_upto_region 5 with (fail)
  refine wp_region_text [0, 0, 0, 0, 0, 0, 0, 0, 0, 0, 0, 0, 0, 0, 2, 0] (· = w1.drew) (by kernel_rfl) (by kernel_rfl) rfl ?_
  iterate 13 (refine wpOrd_q (v := ?_) (by rfl) (fun W hW => ?_) ?_; rotate_left; (focus ((cases hW; go_simp); try with_reducible rfl)); try simp only [Act.put, List.setIfInBounds_toArray, List.set_cons_zero, List.set_cons_succ])
  refine wpOrd_q (v := .agg (bvs b).toArray) (by rfl) (fun W hW => by cases hW; exact exec_load_blk 67 (.tmp 5) rfl p _ (bvs b).toArray _ rfl HP.out.1.drew Try.underlying67 rfl (size_blockOf HB.out)) ?_
  try simp only [Act.put, List.setIfInBounds_toArray, List.set_cons_zero, List.set_cons_succ]
  refine wpOrd_b (by rfl) (fun K hK => ?_)
  go_simp
  refine (put_ok (H.out.below HP.out.2.drew) (k := q) (b := b) HB.out HC.out.lt HC.out.free HC.out.room).mono ?_
  rintro e w5 ⟨rfl, hx5, ht5⟩
  refine hK (fun _ => True) _ _ trivial ?_
  have HF5 := hide (And.intro hx5 ((Tch.of_below (S := i.own) HP.out.2).drew.trans ((ht5.sub fun _ h => Ids.own_mm h).mono HP.out.2.size fun _ _ h => h)))
  clear hK K c0 c4 cl hx5 ht5
  try simp only [Act.put, List.setIfInBounds_toArray, List.set_cons_zero, List.set_cons_succ]
  iterate 1 (refine wpOrd_q (v := ?_) (by rfl) (fun W hW => ?_) ?_; rotate_left; (focus (go_simp; try with_reducible rfl)); try simp only [Act.put, List.setIfInBounds_toArray, List.set_cons_zero, List.set_cons_succ])
  refine wpOrd_nil ?_
  go_wp2
  go_returns
  exact ⟨rfl, HF5.out.1, HF5.out.2⟩

set_option maxRecDepth 100000 in
set_option maxHeartbeats 800000 in
theorem gget_ok {k : Nat} (h : TxAt w i s) (hG : GroupAt w gg i.tt g lab) (hg : g.Ok s.D.length) (hk : k < g.blocks) :
    Calls Try.prog 29 #[.pointer (some ⟨gg, 0, none⟩), .int .u16 ((k + 1 : Nat) : Int)] w fun e w' => e = .returned (.tuple #[bval (s.at_ (g.data + k)), .int .i64 0]) ∧ TxAt w' i s ∧ Tch w.heap.size i.own w w' := by
  have hdk : g.data + k < s.D.length := by have := hg.fits; omega
  have hdl := h.ok.most
  have hkz : (k : Int) ≤ 65503 := by have := hg.map1; have := hg.data; have := hg.fits; have := hg.small; have := hg.base; omega
  have ec : IntKind.i64.wrap (((k + 1 : Nat) : Int)) = ((k + 1 : Nat) : Int) := IntWalk.i64_in _ (by omega)
  have e1 : IntKind.i64.wrap ((g.data : Int) + ((k + 1 : Nat) : Int)) = (g.data : Int) + ((k + 1 : Nat) : Int) := IntWalk.i64_in _ (by omega)
  have e2 : IntKind.i64.wrap ((g.data : Int) + ((k + 1 : Nat) : Int) - 1) = ((g.data + k : Nat) : Int) := by rw [IntWalk.i64_in _ (by omega)]; omega
  obtain ⟨q, hq⟩ : ∃ q, g.data + k = q := ⟨_, rfl⟩
  obtain ⟨n, hn⟩ : ∃ n, k + 1 = n := ⟨_, rfl⟩
  have hn6 : n < 65536 := by omega
  have hn1 : 1 ≤ n := by omega
  have hn2 : n ≤ g.blocks := by omega
  rw [hq] at hdk e2 ⊢
  rw [hn] at ec e1 e2 ⊢
  have hx := Sto.at_length h.ok q
  obtain ⟨b, hb⟩ : ∃ b, s.at_ q = b := ⟨_, rfl⟩
  have hget := fun W (hW : TxAt W i s) => get_ok hW hdk
  rw [hb] at hx hget ⊢
  have HGT := hide hget
  have H := hide h
  have HG := hide hG
  have HB := hide hx
  have HN := hide (And.intro hn6 (And.intro hn1 hn2))
  clear hq hn h hG hdk hb hg hk hn6 hn1 hn2 hdl hget hx
  go_enter Try.func29, Try.ntmps29
  go_upto_region 1 with (first | ((with_reducible refine at_alloc 67 ?_); refine wpList_alloc_as rfl 67 rfl _ (zero_block _) ?_) | fail)
  refine at_world (fun W => ∃ p, p = w.heap.size ∧ Below w.heap.size w W ∧ Blk W p 67 (bvs zeroB).toArray) ⟨_, rfl, (Below.refl _ _).alloc (Nat.le_refl _) _, Blk.new _ _ _⟩ (fun w1 hw1 => ?_)
  obtain ⟨p, hp, hb1, hP⟩ := hw1
  rw [← hp]
  have hwp : w.heap.size ≤ p := Nat.le_of_eq hp.symm
  have HP := hide (And.intro hP hb1)
  have HG1 := hide (HG.out.below hb1)
  clear hp hb1 hP
  go_wp2_with fail
  refine (has_yes HG1.out HN.out.1 HN.out.2.1 HN.out.2.2).mono ?_
  rintro e w0 ⟨rfl, rfl⟩
  have c0 := HG1.out.cell 0
  have c4 := HG1.out.cell 4
  have cl := HG1.out.lt
  go_upto_region 5 with (fail)
  refine wp_region_text [0, 0, 0, 0, 0, 0, 0, 0, 0, 0, 0, 0, 0, 2, 0, 0, 2, 0] (· = w1.drew) (by kernel_rfl) (by kernel_rfl) rfl ?_
  iterate 13 (refine wpOrd_q (v := ?_) (by rfl) (fun W hW => ?_) ?_; rotate_left; (focus ((cases hW; go_simp); try with_reducible rfl)); try simp only [Act.put, List.setIfInBounds_toArray, List.set_cons_zero, List.set_cons_succ])
  refine wpOrd_b (by rfl) (fun K hK => ?_)
  go_simp
  refine (HGT.out _ (H.out.below HP.out.2.drew)).mono ?_
  rintro e w5 ⟨rfl, hx5, ht5⟩
  refine hK (fun _ => True) _ _ trivial ?_
  have HF5 := hide (And.intro hx5 (And.intro ((Tch.of_below (S := i.own) HP.out.2).drew.trans (ht5.own_dd.mono HP.out.2.size fun _ _ h => h)) (HP.out.1.drew.tch ht5 HP.out.1.lt (fun e => by have := H.out.log.disk.dlt; omega))))
  clear hK K c0 c4 cl hx5 ht5
  try simp only [Act.put, List.setIfInBounds_toArray, List.set_cons_zero, List.set_cons_succ]
  iterate 2 (refine wpOrd_q (v := ?_) (by rfl) (fun W hW => ?_) ?_; rotate_left; (focus (go_simp; try with_reducible rfl)); try simp only [Act.put, List.setIfInBounds_toArray, List.set_cons_zero, List.set_cons_succ])
  refine wpOrd_b (by rfl) (fun K hK => ?_)
  refine wp_store_blk 67 (.tmp 4) (.tmp 30) rfl p 67 _ _ (by rfl) (by rfl) HF5.out.2.2 (size_blockOf HB.out) ((bvs_size zeroB_length).trans (bvs_size HB.out).symm) (bvs_oneCell _) (fun hB3 => ?_)
  refine hK (fun _ => True) _ _ trivial ?_
  clear hK K
  try simp only [Act.put, List.setIfInBounds_toArray, List.set_cons_zero, List.set_cons_succ]
  iterate 1 (refine wpOrd_q (v := ?_) (by rfl) (fun W hW => ?_) ?_; rotate_left; (focus (go_simp; try with_reducible rfl)); try simp only [Act.put, List.setIfInBounds_toArray, List.set_cons_zero, List.set_cons_succ])
  refine wpOrd_nil ?_
  have HB3 := hide hB3
  clear hB3
  go_wp2_with (first | ((with_reducible refine at_end ?_); refine bodyPost_ret (v := .tuple #[bval b, .int .i64 0]) (results_run2 rfl (ResV.row rfl HB3.out Try.underlying67 rfl (size_blockOf HB.out)) rfl) rfl ⟨rfl, ?_, ?_⟩) | fail)
  · exact H.out.setRow_new hwp HF5.out.1 _
  · exact HF5.out.2.1.trans (Tch.setRow fun hp => absurd hp (by omega))
end
end Go.Proofs.Ytoeejeieplhifaa

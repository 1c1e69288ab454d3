/- A transaction's calls, walked: Get, Put, fail, Drop. -/
import Derived.Test.YtoeejeieplhifaaFsWal
namespace Go.Proofs.Ytoeejeieplhifaa
open Go.RowKit
set_option linter.unusedSimpArgs false
set_option linter.unusedVariables false

section
variable {w w' : World} {i : Ids} {s : Sto}
theorem Tch.own_dd {B : Nat} (h : Tch B (· = i.dd) w w') : Tch B i.own w w' := h.sub fun k hk => .inr (.inr (.inl hk))
/-- what a disk's call leaves of a transaction -/
theorem TxAt.disk_step (h : TxAt w i s) (hd : DiskAt w' i.dd i.rr s.D) (ht : Tch w.heap.size (fun x => x = i.dd ∨ x = i.rr) w w') : TxAt w' i s :=
  ⟨h.txn.tch ht h.txn.lt (by rintro (e | e); exact h.ntd e; exact h.ntr e), h.map.keep (ht.block _ h.map.lt (by rintro (e | e); exact h.nmd e; exact h.nmr e)),
    ⟨h.log.log.tch ht h.log.log.lt (by rintro (e | e); exact h.log.nd e; exact h.log.nr e), hd⟩, h.ok⟩

set_option maxRecDepth 100000 in
set_option maxHeartbeats 800000 in
theorem get_ok (h : TxAt w i s) {k : Nat} (hk : k < s.D.length) :
    Calls Try.prog 66 #[.pointer (some ⟨i.tt, 0, none⟩), .int .i64 (k : Int)] w fun e w' => e = .returned (.tuple #[bval (s.at_ k), .int .i64 0]) ∧ TxAt w' i s ∧ Tch w.heap.size (· = i.dd) w w' := by
  have hk16 : k < 65536 := Nat.lt_of_lt_of_le hk h.ok.most
  have HKV := hide (show (.int .i64 (k : Int) : Value) = nkv (nk k) from (nkv_nk hk16).symm)
  have hdg := dm_get h.ok.small hk16
  have hkz : decide ((k : Int) < 0) = false := by simp
  go_enter Try.func66, Try.ntmps66
  go_upto_region 1 with (first | (refine wpList_alloc_as rfl 67 rfl _ (zero_block _) ?_) | fail)
  refine at_world (fun W => ∃ g, g = w.heap.size ∧ Below w.heap.size w W ∧ Blk W g 67 (bvs zeroB).toArray ∧ W.heap.size = g + 1) ⟨_, rfl, (Below.refl _ _).alloc (Nat.le_refl _) _, Blk.new _ _ _, by simp⟩ (fun w1 h1 => ?_)
  obtain ⟨g, hg, hb1, hG, hs1⟩ := h1
  rw [← hg]
  have hx1 := h.below hb1
  have c0 := hx1.txn.cell 0
  have c1 := hx1.txn.cell 1
  have cl := hx1.txn.lt
  have hwg : w.heap.size ≤ g := Nat.le_of_eq hg.symm
  have hgz : g < w1.heap.size := by omega
  have HX := hide hx1
  have HB1 := hide hb1
  have HM := hide hx1.map.is
  clear hg hs1 hx1 hb1
  cases hm : mget s.M k with
  | some b =>
    have hb64 : b.length = 64 := h.ok.mlen _ (mget_mem hm)
    have HAT : Hid (s.at_ k = b) := hide (by simp [Sto.at_, hm])
    have hv : (if true = true then .tuple #[(mget (dm s.M) (nk k)).getD (.agg (bvs zeroB).toArray), .bool (mget (dm s.M) (nk k)).isSome] else (mget (dm s.M) (nk k)).getD (.agg (bvs zeroB).toArray)) = Value.tuple #[bval b, .bool true] := by rw [hdg, hm]; rfl
    have HV := hide hv
    have HB := hide hb64
    have H := hide h
    clear hv hdg hm h hb64
    go_upto_region 4 with (first | ((with_reducible refine at_look 130 (.tmp 15) (.tmp 16) true ?_); refine wpList_lookup_map rfl 130 (.tmp 15) (.tmp 16) true rfl (nk k) (by rfl) HKV.out HM.out nEnc Try.underlying130 (zero_block _) _ HV.out ?_) | ((with_reducible refine at_alloc 67 ?_); refine wpList_alloc_as rfl 67 rfl _ (zero_block _) ?_) | ((with_reducible refine at_store 67 (.tmp 6) (.tmp 18) ?_); refine wpList_store_blk rfl 67 (.tmp 6) (.tmp 18) rfl w1.heap.size 67 _ _ (by rfl) (by rfl) (Blk.new _ _ _) (size_blockOf HB.out) ((bvs_size zeroB_length).trans (bvs_size HB.out).symm) (bvs_oneCell _) (fun _ => ?_)) | fail)
    refine at_world (fun W => ∃ q, q = w1.heap.size ∧ Below w.heap.size w W ∧ Blk W g 67 (bvs zeroB).toArray ∧ Blk W q 67 (bvs b).toArray) ⟨_, rfl, below_setRow (HB1.out.alloc HB1.out.size _) (by have := HB1.out.size; omega) _, (hG.alloc _).setRow_far (by omega) _, (Blk.new _ _ _).setRow_same _⟩ (fun w2 h2 => ?_)
    obtain ⟨q, hq, hb2, hG2, hQ2⟩ := h2
    rw [← hq]
    have HX2 := hide (And.intro hb2 (And.intro hwg hq))
    clear hb2 hq hG HM HX c0 c1
    go_wp2_with (first | ((with_reducible refine at_load 67 (.tmp 6) ?_); refine wpList_load_blk rfl 67 (.tmp 6) rfl q 67 _ _ (by rfl) hQ2 Try.underlying67 rfl (size_blockOf HB.out) ?_) | ((with_reducible refine at_store 67 (.tmp 4) (.tmp 21) ?_); refine wpList_store_blk rfl 67 (.tmp 4) (.tmp 21) rfl g 67 _ _ (by rfl) (by rfl) hG2 (size_blockOf HB.out) ((bvs_size zeroB_length).trans (bvs_size HB.out).symm) (bvs_oneCell _) (fun hB3 => ?_)) | ((with_reducible refine at_end ?_); refine bodyPost_ret (v := .tuple #[bval b, .int .i64 0]) (results_run2 rfl (ResV.row rfl hB3 Try.underlying67 rfl (size_blockOf HB.out)) rfl) rfl ⟨by rw [HAT.out], ?_, ?_⟩) | fail)
    · exact H.out.below (below_setRow HX2.out.1 HX2.out.2.1 _)
    · exact Tch.of_below (below_setRow HX2.out.1 HX2.out.2.1 _)
  | none =>
    have hD : s.D[k]? = some (s.D[k]'hk) := List.getElem?_eq_getElem hk
    have hb64 : (s.D[k]'hk).length = 64 := h.ok.dlen _ (List.getElem_mem hk)
    have HAT : Hid (s.at_ k = s.D[k]'hk) := hide (by simp [Sto.at_, hm, List.getD_eq_getElem?_getD, hD])
    generalize s.D[k]'hk = b at hD hb64 HAT
    have hv : (if true = true then .tuple #[(mget (dm s.M) (nk k)).getD (.agg (bvs zeroB).toArray), .bool (mget (dm s.M) (nk k)).isSome] else (mget (dm s.M) (nk k)).getD (.agg (bvs zeroB).toArray)) = Value.tuple #[bval zeroB, .bool false] := by rw [hdg, hm]; rfl
    have HV := hide hv
    have HB := hide hb64
    have HD := hide hD
    have H := hide h
    clear hv hdg hm h hb64 hD
    go_upto_region 4 with (first | ((with_reducible refine at_look 130 (.tmp 15) (.tmp 16) true ?_); refine wpList_lookup_map rfl 130 (.tmp 15) (.tmp 16) true rfl (nk k) (by rfl) HKV.out HM.out nEnc Try.underlying130 (zero_block _) _ HV.out ?_) | ((with_reducible refine at_alloc 67 ?_); refine wpList_alloc_as rfl 67 rfl _ (zero_block _) ?_) | ((with_reducible refine at_store 67 (.tmp 6) (.tmp 18) ?_); refine wpList_store_blk rfl 67 (.tmp 6) (.tmp 18) rfl w1.heap.size 67 _ _ (by rfl) (by rfl) (Blk.new _ _ _) (size_blockOf zeroB_length) ((bvs_size zeroB_length).trans (bvs_size zeroB_length).symm) (bvs_oneCell _) (fun _ => ?_)) | fail)
    refine at_world (fun W => Below w.heap.size w W ∧ Blk W g 67 (bvs zeroB).toArray ∧ TxAt W i s) ⟨below_setRow (HB1.out.alloc HB1.out.size _) (by have := HB1.out.size; omega) _, (hG.alloc _).setRow_far (by omega) _, HX.out.below (below_setRow ((Below.refl _ _).alloc (Nat.le_refl _) _) (Nat.le_refl _) _)⟩ (fun w2 h2 => ?_)
    obtain ⟨hb2, hG2, hx2⟩ := h2
    clear hG HM HX c0 c1 cl
    have c0 := hx2.txn.cell 0
    have c1 := hx2.txn.cell 1
    have cl := hx2.txn.lt
    have e0 := hx2.log.log.cell 0
    have el := hx2.log.log.lt
    have HB2 := hide hb2
    have HX2 := hide hx2
    clear hb2 hx2
    go_wp2_with fail
    refine (disk_read HX2.out.log.disk HD.out).mono ?_
    rintro e w3 ⟨rfl, hd3, ht3⟩
    have hx3 : TxAt w3 i s := HX2.out.disk_step hd3 (ht3.sub fun _ h => .inl h)
    have hgd : g ≠ i.dd := by have := H.out.log.disk.dlt; omega
    have hG3 := hG2.tch ht3 hG2.lt hgd
    have hng : w.heap.size ≤ w3.heap.size := Nat.le_trans HB2.out.size ht3.size
    have HT := hide (And.intro hx3 (And.intro ((Tch.of_below HB2.out).trans (ht3.mono HB2.out.size fun _ _ h => h)) hgd))
    have HG2 := hide hG2
    clear hG2 hd3 ht3 hx3 c0 c1 cl e0 el
    go_wp2_with (first | ((with_reducible refine at_store 67 (.tmp 4) (.tmp 31) ?_); refine wpList_store_blk rfl 67 (.tmp 4) (.tmp 31) rfl g 67 _ _ (by rfl) (by rfl) hG3 (size_blockOf HB.out) ((bvs_size zeroB_length).trans (bvs_size HB.out).symm) (bvs_oneCell _) (fun hB3 => ?_)) | ((with_reducible refine at_end ?_); refine bodyPost_ret (v := .tuple #[bval b, .int .i64 0]) (results_run2 rfl (ResV.row rfl hB3 Try.underlying67 rfl (size_blockOf HB.out)) rfl) rfl ⟨by rw [HAT.out], ?_, ?_⟩) | fail)
    · obtain ⟨hx3, ht, hgd⟩ := HT.out
      have a1 := H.out.txn.lt
      have a2 := H.out.map.lt
      have a3 := H.out.log.log.lt
      have a4 := H.out.log.disk.row.lt
      have a5 := H.out.log.disk.dlt
      exact ⟨hx3.txn.setRow_far (by omega) _, hx3.map.keep (setRow_other _ _ _ _ (by omega)), ⟨hx3.log.log.setRow_far (by omega) _, hx3.log.disk.keep (setRow_other _ _ _ _ (by omega)) (setRow_other _ _ _ _ (by omega))⟩, hx3.ok⟩
    · exact HT.out.2.1.trans (Tch.setRow fun hp => absurd hp (by omega))

set_option maxRecDepth 100000 in
theorem fail_ok (h : TxAt w i s) (n : Int) :
    Calls Try.prog 87 #[.pointer (some ⟨i.tt, 0, none⟩), .int .i64 n] w fun e w' => e = .returned (.int .i64 n) ∧ TxAt w' i { s with bad := if s.bad = 0 then n else s.bad } ∧ Tch w.heap.size (· = i.tt) w w' := by
  have c2 := h.txn.cell 2
  have f2 := h.txn.frozen 2
  have cl := h.txn.lt
  go_enter Try.func87, Try.ntmps87
  by_cases hb : s.bad = 0
  · have hbz : (s.bad == 0) = true := by simpa using hb
    have H := hide h
    have HB := hide hb
    clear h hb
    go_wp2
    go_returns
    have h := H.out
    have hd := h.ntd
    refine ⟨rfl, ⟨?_, h.map.keep ?_, ⟨h.log.log.far h.ntl.symm _, h.log.disk.keep ?_ ?_⟩, ⟨h.ok.dlen, h.ok.mlen, h.ok.keys, h.ok.many, h.ok.most, h.ok.few, h.ok.nodup, h.ok.off⟩⟩, Tch.setCell fun _ => rfl⟩
    · exact h.txn.set_ 2 _
    · exact heap_setCell_other _ _ _ _ h.ntm.symm
    · exact heap_setCell_other _ _ _ _ h.ntd.symm
    · exact heap_setCell_other _ _ _ _ h.ntr.symm
  · have hbz : (s.bad == 0) = false := by simpa using hb
    have H := hide h
    have HB := hide hb
    clear h hb
    go_wp2
    go_returns
    have h := H.out
    refine ⟨rfl, ⟨h.txn, h.map, h.log, ⟨h.ok.dlen, h.ok.mlen, h.ok.keys, h.ok.many, h.ok.most, h.ok.few, h.ok.nodup, h.ok.off⟩⟩, Tch.refl _ _ _⟩

/-- may a block be written through a transaction? -/
theorem Ids.own_tt {k : Nat} (h : k = i.tt) : i.own k := .inl h
theorem Ids.own_mm {k : Nat} (h : k = i.mm) : i.own k := .inr (.inl h)

set_option maxRecDepth 100000 in
set_option maxHeartbeats 800000 in
theorem put_ok (h : TxAt w i s) {k : Nat} {b : BlkV} (hb : b.length = 64) (hk : k < s.D.length) (hf : Sto.free k) (hm : (mget s.M k).isSome = true ∨ s.M.length < 30) :
    Calls Try.prog 53 #[.pointer (some ⟨i.tt, 0, none⟩), .int .i64 (k : Int), bval b] w fun e w' => e = .returned (.int .i64 0) ∧ TxAt w' i (s.put k b) ∧ Tch w.heap.size (· = i.mm) w w' := by
  have hk16 : k < 65536 := Nat.lt_of_lt_of_le hk h.ok.most
  have HKV := hide (show (.int .i64 (k : Int) : Value) = nkv (nk k) from (nkv_nk hk16).symm)
  have hdg := dm_get h.ok.small hk16
  have k0 : decide ((k : Int) < 0) = false := by simp
  have k1 : decide (s.D.length ≤ k) = false := by simpa using hk
  have k31 : IntKind.i64.wrap (1 + 30) = 31 := rfl
  have hf2 : decide (1 ≤ (k : Int)) = false ∨ (decide (1 ≤ (k : Int)) = true ∧ decide ((k : Int) ≤ 31) = false) := by
    rcases hf with h0 | h0
    · left; simp; omega
    · right; simp; omega
  rcases hf2 with h9 | ⟨h9, h10⟩
  all_goals
    go_enter Try.func53, Try.ntmps53
    go_upto_region 1 with (fail)
    refine at_world (fun W => ∃ g, g = w.heap.size ∧ Below w.heap.size w W ∧ Blk W g 67 (bvs b).toArray ∧ W.heap.size = g + 1) ⟨_, rfl, (Below.refl _ _).alloc (Nat.le_refl _) _, Blk.new _ _ _, by simp⟩ (fun w1 h1 => ?_)
    obtain ⟨g, hg, hb1, hG, hs1⟩ := h1
    rw [← hg]
    have hx1 := h.below hb1
    have c0 := hx1.txn.cell 0
    have c1 := hx1.txn.cell 1
    have cl := hx1.txn.lt
    have e0 := hx1.log.log.cell 0
    have e1 := hx1.log.log.cell 1
    have el := hx1.log.log.lt
    have hwg : w.heap.size ≤ g := Nat.le_of_eq hg.symm
    have HLN := hide hx1.log.disk
    have HX := hide hx1
    have HB1 := hide hb1
    clear hg hs1 hx1 hb1
    have HF := hide hf
    have HM := hide hm
    have HDG := hide hdg
    clear hf hm hdg
    go_wp2_with fail
    refine (disk_len HLN.out).mono ?_
    rintro e w' ⟨rfl, rfl⟩
    go_upto_region 5 with (fail)
    cases hmm : mget s.M k with
    | some b' =>
      have hb' : b'.length = 64 := h.ok.mlen _ (mget_mem hmm)
      have hv : (if true = true then .tuple #[(mget (dm s.M) (nk k)).getD (.agg (bvs zeroB).toArray), .bool (mget (dm s.M) (nk k)).isSome] else (mget (dm s.M) (nk k)).getD (.agg (bvs zeroB).toArray)) = Value.tuple #[bval b', .bool true] := by rw [HDG.out, hmm]; rfl
      have HV := hide hv
      have HB := hide hb'
      have H := hide h
      clear hv hmm h hb'
      go_upto_region 6 with (first | ((with_reducible refine at_look 130 (.tmp 56) (.tmp 57) true ?_); refine wpList_lookup_map rfl 130 (.tmp 56) (.tmp 57) true rfl (nk k) (by rfl) HKV.out HX.out.map.is nEnc Try.underlying130 (zero_block _) _ HV.out ?_) | ((with_reducible refine at_alloc 67 ?_); refine wpList_alloc_as rfl 67 rfl _ (zero_block _) ?_) | ((with_reducible refine at_store 67 (.tmp 7) (.tmp 59) ?_); refine wpList_store_blk rfl 67 (.tmp 7) (.tmp 59) rfl w1.heap.size 67 _ _ (by rfl) (by rfl) (Blk.new _ _ _) (size_blockOf HB.out) ((bvs_size zeroB_length).trans (bvs_size HB.out).symm) (bvs_oneCell _) (fun _ => ?_)) | fail)
      refine at_world (fun W => Below w.heap.size w W ∧ Blk W g 67 (bvs b).toArray ∧ TxAt W i s) ⟨below_setRow (HB1.out.alloc HB1.out.size _) HB1.out.size _, (hG.alloc _).setRow_far (Nat.ne_of_lt hG.lt) _, HX.out.below (below_setRow ((Below.refl _ _).alloc (Nat.le_refl _) _) (Nat.le_refl _) _)⟩ (fun w2 h2 => ?_)
      obtain ⟨hb2, hG2, hx2⟩ := h2
      clear hG HX c0 c1 cl e0 e1 el HLN
      have c0 := hx2.txn.cell 0
      have c1 := hx2.txn.cell 1
      have cl := hx2.txn.lt
      have HX2 := hide (And.intro hb2 hx2)
      clear hb2 hx2
      go_upto_region 8 with (fail)
      refine wp_region_text [0, 0, 0, 0, 0, 0, 2] (· = w2.drew) (by kernel_rfl) (by kernel_rfl) rfl ?_
      iterate 5 (refine wpOrd_q (v := ?_) (by rfl) (fun W hW => ?_) ?_; rotate_left; (focus ((cases hW; go_simp); try with_reducible rfl)); try simp only [Act.put, List.setIfInBounds_toArray, List.set_cons_zero, List.set_cons_succ])
      refine wpOrd_q (v := .agg (bvs b).toArray) (by rfl) (fun W hW => by cases hW; exact exec_load_blk 67 (.tmp 5) rfl g _ (bvs b).toArray _ rfl hG2.drew Try.underlying67 rfl (size_blockOf hb)) ?_
      try simp only [Act.put, List.setIfInBounds_toArray, List.set_cons_zero, List.set_cons_succ]
      refine wpOrd_b (by rfl) (fun K hK => ?_)
      refine wp_update_map 130 (.tmp 76) (.tmp 77) (.tmp 78) rfl (nk k) (bval b) (by rfl) HKV.out (by rfl) (HX2.out.2.map.keep rfl) nEnc Try.underlying130 (fun w3 hm3 ho3 => ?_)
      refine hK (fun _ => True) _ _ trivial (wpOrd_nil ?_)
      have HU := hide (And.intro hm3 ho3)
      clear hm3 ho3 hK K c0 c1 cl
      go_wp2
      go_returns
      obtain ⟨hb2, hx2⟩ := HX2.out
      obtain ⟨hm3, ho3⟩ := HU.out
      have hg3 := ho3.1
      rw [dm_put H.out.ok.small hk16] at hm3
      have a1 := hx2.txn.lt
      have a2 := hx2.log.log.lt
      have a3 := hx2.log.disk.dlt
      have a4 := hx2.log.disk.row.lt
      refine ⟨rfl, ⟨(hg3.block _ a1 (fun e => hx2.ntm (Option.some.inj e))).trans hx2.txn, hm3, ⟨(hg3.block _ a2 (fun e => hx2.nml (Option.some.inj e).symm)).trans hx2.log.log, hx2.log.disk.keep (hg3.block _ a3 (fun e => hx2.nmd (Option.some.inj e).symm)) (hg3.block _ a4 (fun e => hx2.nmr (Option.some.inj e).symm))⟩, H.out.ok.put hb hk HF.out HM.out⟩, ?_⟩
      exact ((Tch.of_below hb2).drew).trans (Tch.of_only (w := w2.drew) ho3 hb2.size)
    | none =>
      have hv : (if true = true then .tuple #[(mget (dm s.M) (nk k)).getD (.agg (bvs zeroB).toArray), .bool (mget (dm s.M) (nk k)).isSome] else (mget (dm s.M) (nk k)).getD (.agg (bvs zeroB).toArray)) = Value.tuple #[bval zeroB, .bool false] := by rw [HDG.out, hmm]; rfl
      have hlm : s.M.length < 30 := by rcases HM.out with h | h; rw [hmm] at h; cases h; exact h
      have hl30 : ((s.M.length : Int) == 30) = false := by simp; omega
      have HV := hide hv
      have H := hide h
      clear hv hmm h hlm
      go_upto_region 6 with (first | ((with_reducible refine at_look 130 (.tmp 56) (.tmp 57) true ?_); refine wpList_lookup_map rfl 130 (.tmp 56) (.tmp 57) true rfl (nk k) (by rfl) HKV.out HX.out.map.is nEnc Try.underlying130 (zero_block _) _ HV.out ?_) | ((with_reducible refine at_alloc 67 ?_); refine wpList_alloc_as rfl 67 rfl _ (zero_block _) ?_) | ((with_reducible refine at_store 67 (.tmp 7) (.tmp 59) ?_); refine wpList_store_blk rfl 67 (.tmp 7) (.tmp 59) rfl w1.heap.size 67 _ _ (by rfl) (by rfl) (Blk.new _ _ _) (size_blockOf zeroB_length) ((bvs_size zeroB_length).trans (bvs_size zeroB_length).symm) (bvs_oneCell _) (fun _ => ?_)) | fail)
      refine at_world (fun W => Below w.heap.size w W ∧ Blk W g 67 (bvs b).toArray ∧ TxAt W i s) ⟨below_setRow (HB1.out.alloc HB1.out.size _) HB1.out.size _, (hG.alloc _).setRow_far (Nat.ne_of_lt hG.lt) _, HX.out.below (below_setRow ((Below.refl _ _).alloc (Nat.le_refl _) _) (Nat.le_refl _) _)⟩ (fun w2 h2 => ?_)
      obtain ⟨hb2, hG2, hx2⟩ := h2
      clear hG HX c0 c1 cl e0 e1 el HLN
      have c0 := hx2.txn.cell 0
      have c1 := hx2.txn.cell 1
      have cl := hx2.txn.lt
      have hl := hx2.map.is.len Try.underlying130 3
      rw [dm_length] at hl
      have HX2 := hide (And.intro hb2 hx2)
      clear hb2 hx2
      go_upto_region 8 with (fail)
      refine wp_region_text [0, 0, 0, 0, 0, 0, 2] (· = w2.drew) (by kernel_rfl) (by kernel_rfl) rfl ?_
      iterate 5 (refine wpOrd_q (v := ?_) (by rfl) (fun W hW => ?_) ?_; rotate_left; (focus ((cases hW; go_simp); try with_reducible rfl)); try simp only [Act.put, List.setIfInBounds_toArray, List.set_cons_zero, List.set_cons_succ])
      refine wpOrd_q (v := .agg (bvs b).toArray) (by rfl) (fun W hW => by cases hW; exact exec_load_blk 67 (.tmp 5) rfl g _ (bvs b).toArray _ rfl hG2.drew Try.underlying67 rfl (size_blockOf hb)) ?_
      try simp only [Act.put, List.setIfInBounds_toArray, List.set_cons_zero, List.set_cons_succ]
      refine wpOrd_b (by rfl) (fun K hK => ?_)
      refine wp_update_map 130 (.tmp 76) (.tmp 77) (.tmp 78) rfl (nk k) (bval b) (by rfl) HKV.out (by rfl) (HX2.out.2.map.keep rfl) nEnc Try.underlying130 (fun w3 hm3 ho3 => ?_)
      refine hK (fun _ => True) _ _ trivial (wpOrd_nil ?_)
      have HU := hide (And.intro hm3 ho3)
      clear hm3 ho3 hK K c0 c1 cl hl
      go_wp2
      go_returns
      obtain ⟨hb2, hx2⟩ := HX2.out
      obtain ⟨hm3, ho3⟩ := HU.out
      have hg3 := ho3.1
      rw [dm_put H.out.ok.small hk16] at hm3
      have a1 := hx2.txn.lt
      have a2 := hx2.log.log.lt
      have a3 := hx2.log.disk.dlt
      have a4 := hx2.log.disk.row.lt
      refine ⟨rfl, ⟨(hg3.block _ a1 (fun e => hx2.ntm (Option.some.inj e))).trans hx2.txn, hm3, ⟨(hg3.block _ a2 (fun e => hx2.nml (Option.some.inj e).symm)).trans hx2.log.log, hx2.log.disk.keep (hg3.block _ a3 (fun e => hx2.nmd (Option.some.inj e).symm)) (hg3.block _ a4 (fun e => hx2.nmr (Option.some.inj e).symm))⟩, H.out.ok.put hb hk HF.out HM.out⟩, ?_⟩
      exact ((Tch.of_below hb2).drew).trans (Tch.of_only (w := w2.drew) ho3 hb2.size)

/-- a block from behind a transaction, written -/
theorem TxAt.setRow_new {g : Nat} (h0 : TxAt w i s) (hg : w.heap.size ≤ g) {s' : Sto} (h : TxAt w' i s') (c : Array Value) : TxAt (w'.setRow g c) i s' := by
  have a1 := h0.txn.lt
  have a2 := h0.map.lt
  have a3 := h0.log.log.lt
  have a4 := h0.log.disk.row.lt
  have a5 := h0.log.disk.dlt
  exact ⟨h.txn.setRow_far (by omega) _, h.map.keep (setRow_other _ _ _ _ (by omega)), ⟨h.log.log.setRow_far (by omega) _, h.log.disk.keep (setRow_other _ _ _ _ (by omega)) (setRow_other _ _ _ _ (by omega))⟩, h.ok⟩
end
end Go.Proofs.Ytoeejeieplhifaa

/- fsck: a group's bitmap: walked. Configurations: in which group a block lies; turns. Configurations: the number that tells them apart. fsck: a disk's first block: walked. A fresh disk: its bitmaps' blocks, too: walked. fsck: a whole disk is gone through: walked. fsck's laws: the fixed fact: walked. The document's answer: where groups lie. The document's answer: the number that tells configurations apart. FsckSuper: the law, walked. -/
import Derived.Test.YthmkgohfeahdhaaGreatCkSuperLawP5
import Derived.Deep.LoopGhost
import Derived.BigQuiet
import Derived.Laws.BitsAllLaws
namespace Go.Proofs.YthmkgohfeahdhaaGreat
open Go.RowKit
set_option linter.unusedSimpArgs false
set_option linter.unusedVariables false

section
variable {w0 w w' : World} {i : Ids} {s : Sto} {gg : Nat} {u : GeoN} {lab : Int} {G : GS} {kb cc : Nat} {A : Option Addr} {n c m1 m2 m3 m4 : Nat} {L1 L2 : List (NKey × Value)}
theorem zero_cell {w : World} {bb : Nat} (h : Blk w bb 106 (bvs zeroB).toArray) {j : Nat} (hj : j < 64) : w.cell? ⟨bb, j, none⟩ = some (.int .u8 0) := by
  rw [h.cell j, List.getElem?_toArray]
  unfold bvs zeroB
  rw [List.getElem?_map, List.getElem?_replicate, if_pos hj]
  rfl
/-- another block is written -/
theorem CkW.other {bb : Nat} {t : TypeId} {cs cs' : Array Value} (h : CkW w0 w i s gg u lab G kb cc A n c m1 m2 m3 m4 L1 L2) (hB : Blk w bb t cs) (h1 : t ≠ 233) (h2 : t ≠ 117) (hb : w0.heap.size ≤ bb) : CkW w0 (w.setRow bb cs') i s gg u lab G kb cc A n c m1 m2 m3 m4 L1 L2 := by
  have ht : Tch w.heap.size (· = bb) w (w.setRow bb cs') := Tch.setRow fun _ => rfl
  obtain ⟨xs, hr, hon⟩ := h.row
  exact ⟨h.ga.apart ht (fun k hk => by subst hk; exact h.avoid hb), h.ht.trans (ht.mono h.ht.size fun k hk e => by omega), h.blk.tch ht h.blk.lt (fun e => by subst e; exact hB.ne h.blk h1 rfl), h.nod.keep (ht.block _ h.nod.lt (fun e => blk_not_map hB h.nod.is e.symm)), h.nam.keep (ht.block _ h.nam.lt (fun e => blk_not_map hB h.nam.is e.symm)), h.use.keep (ht.block _ h.use.lt (fun e => blk_not_map hB h.use.is e.symm)), h.abv.keep (ht.block _ h.abv.lt (fun e => blk_not_map hB h.abv.is e.symm)),
    ⟨xs, own_keep hr fun g hg => ht.block g (own_block_ge hr hg).2 (fun e => by subst e; exact row_not_blk hr hB h2 hg), hon⟩, h.hi, h.dis, h.old⟩
set_option maxRecDepth 100000 in
set_option maxHeartbeats 8000000 in
theorem ckbitmap_ok (h : CkW w0 w i s gg u lab G kb cc A n c m1 m2 m3 m4 L1 L2) (hT : ∀ k, k < u.blocks → G.tk k = false) (hz : s.at_ (u.base + u.bitmap - 1) = zeroB) (hb1 : 1 ≤ u.bitmap) (hb5 : u.blocks ≤ 512) (hbm : u.bitmap ≤ 1) :
    Calls Tryz.prog 118 #[.pointer (some ⟨kb, 0, none⟩)] w fun r w' => r = .returned (.tuple #[]) ∧ CkW w0 w' i s gg u lab G kb cc A n c m1 m2 m3 m4 L1 L2 := by
  have H := hide h
  have hok := h.ga.ok
  have hsm := hok.small
  have hft := hok.fits
  have hdt := hok.data
  have hbs := hok.base
  obtain ⟨bs, hbs'⟩ : ∃ bs, u.base = bs := ⟨_, rfl⟩
  obtain ⟨bk, hbk'⟩ : ∃ bk, u.blocks = bk := ⟨_, rfl⟩
  obtain ⟨bp, hbp'⟩ : ∃ bp, u.bitmap = bp := ⟨_, rfl⟩
  have hbp1 : bp = 1 := by omega
  have HBP := hide hbp1
  obtain ⟨kz, hkz⟩ : ∃ kz, bs + bp - 1 = kz := ⟨_, rfl⟩
  have HU := hide (And.intro hbs' (And.intro hbk' hbp'))
  have HKZ := hide (show kz < s.D.length ∧ s.at_ kz = zeroB from ⟨by rw [← hkz]; omega, by rw [← hkz, ← hbs', ← hbp']; exact hz⟩)
  have e1 : IntKind.i64.wrap ((bs : Int) + (bp : Int)) = (bs : Int) + (bp : Int) := IntWalk.i64_in _ (by omega)
  have e2 : IntKind.i64.wrap ((bs : Int) + (bp : Int) - 1) = (kz : Int) := by rw [IntWalk.i64_in _ (by omega)]; omega
  have HE := hide (And.intro e1 e2)
  have HBK := hide (show bk ≤ 512 ∧ bs ≤ 65536 ∧ bs + bp ≤ s.D.length ∧ 1 ≤ bp from by omega)
  have HT := hide hT
  obtain ⟨kl, k0, k1, k2, k3, k4, k7, -⟩ := h.cells
  rw [hbs'] at k3
  rw [hbp'] at k4
  rw [hbk'] at k7
  clear h hT hz hb1 hb5 hbm hok hsm hft hdt hbs hbs' hbk' hbp' hbp1 hkz k1 k2 e1 e2
  go_enter Tryz.func118, Tryz.ntmps118
  go_upto_region 0 with (fail)
  refine wp_region_text [0, 0, 0, 0, 0, 0, 0, 0, 0, 0, 0, 0, 0, 0, 2, 0, 0, 0, 0, 0] (· = w.drew) (by kernel_rfl) (by kernel_rfl) rfl ?_
  iterate 14 (refine wpOrd_q (v := ?_) (by rfl) (fun W hW => ?_) ?_; rotate_left; (focus ((cases hW; go_simp); try with_reducible rfl)); try simp only [Act.put, List.setIfInBounds_toArray, List.set_cons_zero, List.set_cons_succ])
  refine wpOrd_b (by rfl) (fun K hK => ?_)
  go_simp
  refine (bits_new i.tt (f := bs) (m := bk) (by have := HBK.out; omega) (by have := HBK.out; omega) _).mono ?_
  rintro e w2 ⟨bm, rfl, hbm, hB2, hb2⟩
  refine hK (fun _ => True) _ _ trivial ?_
  clear hK K
  try simp only [Act.put, List.setIfInBounds_toArray, List.set_cons_zero, List.set_cons_succ]
  iterate 5 (refine wpOrd_q (v := ?_) (by rfl) (fun W hW => ?_) ?_; rotate_left; (focus (go_simp; try with_reducible rfl)); try simp only [Act.put, List.setIfInBounds_toArray, List.set_cons_zero, List.set_cons_succ])
  refine wpOrd_nil ?_
  have H2 := hide (H.out.below ((Below.refl _ _).drew.trans hb2))
  have HB2 := hide hB2
  clear hbm hB2 hb2 H kl k0 k3 k4 k7
  obtain ⟨kl, k0, k1, k2, k3, k4, k7, -⟩ := H2.out.cells
  rw [HU.out.2.1] at k7
  clear k0 k1 k2 k3 k4
  go_wp2_with fail
  clear kl k7
  go_loopg [37] bk (fun gh x37 wr => ∃ j : Nat, j ≤ bk ∧ gh = bk - j ∧ x37 = .int .i64 (j : Int) ∧ Hid (CkW w0 wr i s gg u lab G kb cc A n c m1 m2 m3 m4 L1 L2) ∧ Hid (BitsAt wr bm i.tt bs bk))
  case atStart => exact ⟨0, Nat.zero_le _, rfl, rfl, H2, HB2⟩
  case round =>
    clear H2 HB2
    obtain ⟨j, hj, hgh, rfl, H, HB⟩ := hrel
    have HGH := hide hgh
    clear hgh
    rcases Nat.lt_or_ge j bk with hlt | hge
    · have t1 : decide ((j : Int) < (bk : Int)) = true := by simp; omega
      have t1' : (j : Int) < (bk : Int) := by omega
      have hj512 : j < 512 := by have := HBK.out; omega
      have e64 : IntKind.i64.wrap ((j : Int) + 1) = (j : Int) + 1 := IntWalk.i64_in _ (by omega)
      have e16 : IntKind.u16.wrap ((j : Int) + 1) = (j : Int) + 1 := by rw [IntKind.wrap_u16]; omega
      have hbit : s.bit bs j = false := by
        have h0 := H.out.ga.is.bit j (by rw [HU.out.2.1]; exact hlt)
        rw [HU.out.1] at h0
        rw [h0]
        exact HT.out j (by rw [HU.out.2.1]; exact hlt)
      have hhb := has_bit H.out.ga.tx HB.out (by have := HBK.out; omega) (by have := HBK.out; omega) hlt (by have := HBK.out; omega)
      rw [hbit] at hhb
      have HHB := hide hhb
      have HKV := hide (show (.int .u16 ((j : Int) + 1) : Value) = u16k ⟨j + 1, by omega⟩ from by unfold u16k; simp)
      have HV3 := hide (show (if false = true then .tuple #[(mget ([] : List (Fin 65536 × Value)) ⟨j + 1, by omega⟩).getD (.int .i64 0), .bool (mget ([] : List (Fin 65536 × Value)) ⟨j + 1, by omega⟩).isSome] else (mget ([] : List (Fin 65536 × Value)) ⟨j + 1, by omega⟩).getD (.int .i64 0)) = Value.int .i64 0 from rfl)
      have HLT := hide hlt
      clear hbit hhb hlt hj
      go_wp2_with fail
      refine HHB.out.mono ?_
      rintro e w3 ⟨rfl, hx3, ht3⟩
      have H3 := hide (H.out.step (H.out.ga.stay hx3 ht3) ht3)
      have hB3 : BitsAt w3 bm i.tt bs bk := Blk.tch HB.out ht3 (Blk.lt HB.out) (H.out.ga.tx.other HB.out (by decide) (by decide) (by decide))
      have HB3 := hide hB3
      have huse := H3.out.use.is
      have HUSE := hide huse
      clear hx3 ht3 hB3 huse HHB H HB
      obtain ⟨kl, k0, k1, k2, k3, k4, k7, k8, k9, k10, k11, k12, k13, k14⟩ := H3.out.cells
      clear k0 k1 k2 k3 k4 k7 k8 k9 k10 k11 k12 k14
      have hlu : (Instr.lookup 231 (.map (some m3)) (.int .u16 ((j : Int) + 1)) false).run Tryz.prog w3 = .ok (.int .i64 0) w3 := by
        rw [HKV.out]
        exact HUSE.out.lookup uEnc Tryz.underlying231 (zero_int _) _ false
      go_wp2_with fail
      go_roundg (bk - (j + 1))
      case rel => exact ⟨j + 1, by have := HLT.out; omega, rfl, by first | rfl | go_num, H3, HB3⟩
      case measure => have := HGH.out; have := HLT.out; omega
    · have t1 : decide ((j : Int) < (bk : Int)) = false := by simp; omega
      have t1' : ¬ (j : Int) < (bk : Int) := by omega
      have H4 := H
      have H4d := hide (H.out.below (Below.refl _ _).drew)
      have HSS := hide (show ∀ W : World, (kb < W.heap.size ∧ W.cell? ⟨kb, 0, none⟩ = some (.pointer (some ⟨i.tt, 0, none⟩)) ∧ W.cell? ⟨kb, 3, none⟩ = some (.int .i64 (u.base : Int)) ∧ W.cell? ⟨kb, 4, none⟩ = some (.int .i64 (u.bitmap : Int))) → (fun W : World => kb < W.heap.size ∧ W.cell? ⟨kb, 0, none⟩ = some (.pointer (some ⟨i.tt, 0, none⟩)) ∧ W.cell? ⟨kb, 3, none⟩ = some (.int .i64 (bs : Int)) ∧ W.cell? ⟨kb, 4, none⟩ = some (.int .i64 (bp : Int)) ∧ True) W from fun W hW => ⟨hW.1, hW.2.1, by rw [← HU.out.1]; exact hW.2.2.1, by rw [← HU.out.2.2]; exact hW.2.2.2, trivial⟩)
      obtain ⟨e1, e2⟩ := HE.out
      clear hge hj H
      go_upto_region 10 with (fail)
      go_cut [7, 3] from 64 to 83 (fun x7 x3 we => ∃ bb, x7 = .pointer (some ⟨bb, 0, none⟩) ∧ x3 = .int .i64 0 ∧ Hid (CkW w0 we i s gg u lab G kb cc A n c m1 m2 m3 m4 L1 L2) ∧ Hid (Blk we bb 106 (bvs zeroB).toArray))
      case first =>
        refine wp_region_tree (.q 0 (.q 1 (.q 2 (.q 3 (.q 4 (.q 5 (.q 6 (.q 7 (.q 8 (.q 9 (.q 10 (.q 11 (.q 12 (.q 13 (.q 14 (.q 15 (.br 16 (.q 17 (.q 18 (.q 19 (.x 20 (.x 21 (.q 22 .nil)))))) 20 (.x 16 (.q 17 (.q 18 (.q 19 (.x 21 (.q 22 .nil))))))))))))))))))))))) (fun W : World => kb < W.heap.size ∧ W.cell? ⟨kb, 0, none⟩ = some (.pointer (some ⟨i.tt, 0, none⟩)) ∧ W.cell? ⟨kb, 3, none⟩ = some (.int .i64 (bs : Int)) ∧ W.cell? ⟨kb, 4, none⟩ = some (.int .i64 (bp : Int)) ∧ True) (by kernel_rfl) (by kernel_rfl) (HSS.out _ (by have h0 := H4d.out.cells; exact ⟨h0.1, h0.2.1, h0.2.2.2.2.1, h0.2.2.2.2.2.1⟩)) ?_
        iterate 16 (refine wpT_q (v := ?_) (by simp only [List.getElem?_toArray, List.getElem?_cons_succ, List.getElem?_cons_zero]; try rfl) (by rfl) (fun W hW => ?_) ?_; rotate_left; (focus (((obtain ⟨z1, z2, z3, z4, z5⟩ := hW; go_simp)); try with_reducible rfl)); try simp only [Act.put, List.setIfInBounds_toArray, List.set_cons_zero, List.set_cons_succ])
        refine wpT_br ?_ ?_
        · refine wpT_x (by simp only [List.getElem?_toArray, List.getElem?_cons_succ, List.getElem?_cons_zero]; try rfl) (by rfl) (fun K hK => ?_)
          go_simp
          refine (get_ok H4d.out.ga.tx (k := kz) HKZ.out.1).mono ?_
          rintro e w5 ⟨rfl, hx9, ht9⟩
          rw [HKZ.out.2]
          have htw5 := ht9.own_dd
          have Hw5 := hide (H4d.out.step (H4d.out.ga.stay hx9 htw5) htw5)
          refine hK _ _ _ (fun _ h => h) (HSS.out _ (by have h0 := Hw5.out.cells; exact ⟨h0.1, h0.2.1, h0.2.2.2.2.1, h0.2.2.2.2.2.1⟩)) ?_
          clear hK K hx9 ht9
          try simp only [Act.put, List.setIfInBounds_toArray, List.set_cons_zero, List.set_cons_succ]
          iterate 3 (refine wpT_q (v := ?_) (by simp only [List.getElem?_toArray, List.getElem?_cons_succ, List.getElem?_cons_zero]; try rfl) (by rfl) (fun W hW => ?_) ?_; rotate_left; (focus ((go_simp); try with_reducible rfl)); try simp only [Act.put, List.setIfInBounds_toArray, List.set_cons_zero, List.set_cons_succ])
          refine wpT_x (by simp only [List.getElem?_toArray, List.getElem?_cons_succ, List.getElem?_cons_zero]; try rfl) (by rfl) (fun K hK => ?_)
          refine wp_alloc_as 106 rfl _ (zero_block _) ?_
          have H6 := hide (Hw5.out.below ((Below.refl _ _).alloc (Nat.le_refl _) (.cells (bvs zeroB).toArray 106)))
          have hG1 := Blk.new w5 106 (bvs zeroB).toArray
          refine hK _ _ _ (fun _ h => h) (HSS.out _ (by have h0 := H6.out.cells; exact ⟨h0.1, h0.2.1, h0.2.2.2.2.1, h0.2.2.2.2.2.1⟩)) ?_
          clear hK K
          try simp only [Act.put, List.setIfInBounds_toArray, List.set_cons_zero, List.set_cons_succ]
          refine wpT_x (by simp only [List.getElem?_toArray, List.getElem?_cons_succ, List.getElem?_cons_zero]; try rfl) (by rfl) (fun K hK => ?_)
          refine wp_store_blk 106 (.tmp 7) (.tmp 82) rfl w5.heap.size 106 _ _ (by rfl) (by rfl) hG1 (size_blockOf zeroB_length) rfl (bvs_oneCell _) (fun hG9 => ?_)
          have HF := hide (H6.out.other (cs' := (bvs zeroB).toArray) hG1 (by decide) (by decide) (Hw5.out.ht.size))
          have HG := hide hG9
          refine hK _ _ _ (fun _ h => h) (HSS.out _ (by have h0 := HF.out.cells; exact ⟨h0.1, h0.2.1, h0.2.2.2.2.1, h0.2.2.2.2.2.1⟩)) ?_
          clear hK K hG9 hG1 H6
          try simp only [Act.put, List.setIfInBounds_toArray, List.set_cons_zero, List.set_cons_succ]
          iterate 1 (refine wpT_q (v := ?_) (by simp only [List.getElem?_toArray, List.getElem?_cons_succ, List.getElem?_cons_zero]; try rfl) (by rfl) (fun W hW => ?_) ?_; rotate_left; (focus ((go_simp); try with_reducible rfl)); try simp only [Act.put, List.setIfInBounds_toArray, List.set_cons_zero, List.set_cons_succ])
          refine wpT_nil ?_
          go_wp2
          go_meet
          case rel => exact ⟨_, rfl, rfl, HF, HG⟩
        · refine wpT_x (by simp only [List.getElem?_toArray, List.getElem?_cons_succ, List.getElem?_cons_zero]; try rfl) (by rfl) (fun K hK => ?_)
          refine wp_alloc_as 106 rfl _ (zero_block _) ?_
          have H5 := hide (H4d.out.below ((Below.refl _ _).alloc (Nat.le_refl _) (.cells (bvs zeroB).toArray 106)))
          have hG0 := Blk.new wr.drew 106 (bvs zeroB).toArray
          refine hK _ _ _ (fun _ h => h) (HSS.out _ (by have h0 := H5.out.cells; exact ⟨h0.1, h0.2.1, h0.2.2.2.2.1, h0.2.2.2.2.2.1⟩)) ?_
          clear hK K
          try simp only [Act.put, List.setIfInBounds_toArray, List.set_cons_zero, List.set_cons_succ]
          refine wpT_x (by simp only [List.getElem?_toArray, List.getElem?_cons_succ, List.getElem?_cons_zero]; try rfl) (by rfl) (fun K hK => ?_)
          go_simp
          refine (get_ok H5.out.ga.tx (k := kz) HKZ.out.1).mono ?_
          rintro e w6 ⟨rfl, hx9, ht9⟩
          rw [HKZ.out.2]
          have htw6 := ht9.own_dd
          have Hw6 := hide (H5.out.step (H5.out.ga.stay hx9 htw6) htw6)
          refine hK _ _ _ (fun _ h => h) (HSS.out _ (by have h0 := Hw6.out.cells; exact ⟨h0.1, h0.2.1, h0.2.2.2.2.1, h0.2.2.2.2.2.1⟩)) ?_
          clear hK K hx9 ht9
          try simp only [Act.put, List.setIfInBounds_toArray, List.set_cons_zero, List.set_cons_succ]
          have hG1 := hG0.tch htw6 hG0.lt (fun ho => by have h1 := H4d.out.old.1 _ ho; have h2 := H4d.out.ht.size; omega)
          clear hG0
          iterate 3 (refine wpT_q (v := ?_) (by simp only [List.getElem?_toArray, List.getElem?_cons_succ, List.getElem?_cons_zero]; try rfl) (by rfl) (fun W hW => ?_) ?_; rotate_left; (focus ((go_simp); try with_reducible rfl)); try simp only [Act.put, List.setIfInBounds_toArray, List.set_cons_zero, List.set_cons_succ])
          refine wpT_x (by simp only [List.getElem?_toArray, List.getElem?_cons_succ, List.getElem?_cons_zero]; try rfl) (by rfl) (fun K hK => ?_)
          refine wp_store_blk 106 (.tmp 7) (.tmp 82) rfl wr.heap.size 106 _ _ (by rfl) (by rfl) hG1 (size_blockOf zeroB_length) rfl (bvs_oneCell _) (fun hG9 => ?_)
          have HF := hide (Hw6.out.other (cs' := (bvs zeroB).toArray) hG1 (by decide) (by decide) (H4d.out.ht.size))
          have HG := hide hG9
          refine hK _ _ _ (fun _ h => h) (HSS.out _ (by have h0 := HF.out.cells; exact ⟨h0.1, h0.2.1, h0.2.2.2.2.1, h0.2.2.2.2.2.1⟩)) ?_
          clear hK K hG9 hG1 Hw6
          try simp only [Act.put, List.setIfInBounds_toArray, List.set_cons_zero, List.set_cons_succ]
          iterate 1 (refine wpT_q (v := ?_) (by simp only [List.getElem?_toArray, List.getElem?_cons_succ, List.getElem?_cons_zero]; try rfl) (by rfl) (fun W hW => ?_) ?_; rotate_left; (focus ((go_simp); try with_reducible rfl)); try simp only [Act.put, List.setIfInBounds_toArray, List.set_cons_zero, List.set_cons_succ])
          refine wpT_nil ?_
          go_wp2
          go_meet
          case rel => exact ⟨_, rfl, rfl, HF, HG⟩
      case rest =>
        clear e1 e2
        obtain ⟨bb, rfl, rfl, H5, HG⟩ := hcut
        obtain ⟨kl, k0, k1, k2, k3, k4, k7, -⟩ := H5.out.cells
        rw [HU.out.2.1] at k7
        rw [HU.out.2.2] at k4
        clear k0 k1 k2 k3
        have hm9 : bp = 1 := HBP.out
        have HB64 := hide (show ∀ j, j < 64 → wc.cell? ⟨bb, j, none⟩ = some (.int .u8 0) from fun j hj => zero_cell HG.out hj)
        have gl := HG.out.lt
        rw [hm9] at k4
        clear hm9
        go_wp2_with fail
        go_loopg [8] (512 - bk) (fun gh x8 wq => ∃ j : Nat, j ≤ 512 ∧ gh = 512 - j ∧ x8 = .int .i64 (j : Int) ∧ Hid (wc = wq))
        case atStart => exact ⟨bk, HBK.out.1, rfl, rfl, hide rfl⟩
        case round =>
          obtain ⟨j, hj, hgh, rfl, HW⟩ := hrel
          have hww := HW.out
          subst hww
          have HGH := hide hgh
          clear hgh
          rcases Nat.lt_or_ge j 512 with hlt | hge
          · have t1 : decide ((j : Int) < 512) = true := by simp; omega
            have t1' : (j : Int) < 512 := by omega
            have e64 : IntKind.i64.wrap ((j : Int) + 1) = (j : Int) + 1 := IntWalk.i64_in _ (by omega)
            have h63 := and63 j (by omega)
            have h7 := and7 j (by omega)
            obtain ⟨q, hq⟩ : ∃ q, j / 8 % 64 = q := ⟨_, rfl⟩
            obtain ⟨r, hr⟩ : ∃ r, j % 8 = r := ⟨_, rfl⟩
            rw [hq] at h63
            rw [hr] at h7
            have hq64 : q < 64 := by omega
            have hqz : (q : Int) < 64 := by omega
            have y := HB64.out q hq64
            have hand : bits BinOp.and IntKind.u8 0 1 = 0 := and8 (a := 0) (b := 1) (by omega) (by omega)
            have hsh : (0 : Int) / 2 ^ r = 0 := Int.zero_ediv _
            have HJ := hide hlt
            clear hq hr hlt hj hq64
            go_wp2_with fail
            go_roundg (512 - (j + 1))
            case rel => exact ⟨j + 1, by have := HJ.out; omega, rfl, by first | rfl | go_num, hide rfl⟩
            case measure => have := HGH.out; have := HJ.out; omega
          · have t1 : decide ((j : Int) < 512) = false := by simp; omega
            have t1' : ¬ (j : Int) < 512 := by omega
            clear hge hj
            go_wp2
            go_returns
            exact ⟨rfl, H5.out⟩
end
end Go.Proofs.YthmkgohfeahdhaaGreat
namespace Go.Proofs.YthmkgohfeahdhaaGreat
open Go.RowKit Go.WideMaps
set_option linter.unusedSimpArgs false
set_option linter.unusedVariables false

theorem geos_get : ∀ (a : Int) (R : List RegV) (i : Nat), (geosOf a R)[i]? = (R[i]?).map (geoOf (totalOf a (R.take i)))
  | _, [], i => by simp [geosOf]
  | a, r :: rest, 0 => by simp [geosOf, totalOf]
  | a, r :: rest, i + 1 => by
    simp only [geosOf, List.getElem?_cons_succ, List.take_succ_cons, totalOf]
    exact geos_get _ rest i
theorem total_take (a : Int) (R : List RegV) {i : Nat} {r : RegV} (h : R[i]? = some r) : totalOf a (R.take (i + 1)) = (geoOf (totalOf a (R.take i)) r).end_ := by
  rw [List.take_add_one, h]
  exact totalOf_snoc a _ r

section
variable {B : Nat} {w w' : World} {c : Nat} {R : List RegV} {K : List MarkV} {tb nb lb : Nat} {A1 A2 A3 : Option Addr} {c1 c2 c3 : Nat}

end
end Go.Proofs.YthmkgohfeahdhaaGreat
namespace Go.Proofs.YthmkgohfeahdhaaGreat
open Go.RowKit Go.WideMaps
set_option linter.unusedSimpArgs false
set_option linter.unusedVariables false

def sumStep (n x : Nat) : Nat := ((n ^^^ x) * 16777619) % 4294967296
theorem sumStep_eq (n x : Nat) : sumStep n x = ((n ^^^ x) * 16777619) % 4294967296 := by unfold sumStep; exact Eq.refl _
theorem sumStep_lt (n x : Nat) : sumStep n x < 4294967296 := by rw [sumStep_eq]; exact Nat.mod_lt _ (by decide)
attribute [irreducible] sumStep
def geoNs (g : GeoV) : List Nat := [g.base.toNat, g.blocks.toNat, g.nodes.toNat]
def sumG (n : Nat) (G : List GeoV) : Nat := G.foldl (fun n g => (geoNs g).foldl sumStep n) n
def sumP (R : List RegV) : Nat := sumG 2166136261 (geosOf 32 R)
theorem foldS_lt : ∀ (l : List Nat) (n : Nat), n < 4294967296 → l.foldl sumStep n < 4294967296
  | [], n, h => h
  | x :: l, n, _ => foldS_lt l _ (sumStep_lt n x)
theorem sumG_lt (G : List GeoV) (n : Nat) (h : n < 4294967296) : sumG n G < 4294967296 := by
  induction G generalizing n with
  | nil => exact h
  | cons g G ih => exact ih ((geoNs g).foldl sumStep n) (foldS_lt (geoNs g) n h)
theorem sumG_snoc (n : Nat) (G : List GeoV) (g : GeoV) : sumG n (G ++ [g]) = (geoNs g).foldl sumStep (sumG n G) := by
  unfold sumG
  rw [List.foldl_append, List.foldl_cons, List.foldl_nil]
/-- a group's numbers are small -/
structure GeoS (g : GeoV) : Prop where
  b0 : 0 ≤ g.base
  b1 : g.base < 2147483648
  l0 : 0 ≤ g.blocks
  l1 : g.blocks < 2147483648
  n0 : 0 ≤ g.nodes
  n1 : g.nodes < 2147483648
theorem geoS_at {R : List RegV} (hok : ∀ r ∈ R, okReg r) (hl : R.length ≤ 64) {i : Nat} {g : GeoV} (h : (geosOf 32 R)[i]? = some g) : GeoS g := by
  rw [geos_get] at h
  obtain ⟨r, hr, rfl⟩ := Option.map_eq_some_iff.1 h
  have hrb := (hok r (List.mem_of_getElem? hr)).2
  have htb := total_bounds (R := R.take i) (fun x hx => hok x (List.mem_of_mem_take hx)) 32 (by omega)
  have htl : ((R.take i).length : Int) ≤ 64 := by rw [List.length_take]; omega
  refine ⟨?_, ?_, ?_, ?_, ?_, ?_⟩ <;> simp only [geoOf] <;> omega
theorem xor_lt32 {a b : Nat} (ha : a < 4294967296) (hb : b < 4294967296) : a ^^^ b < 4294967296 := Nat.xor_lt_two_pow (n := 32) ha hb

section
variable {B : Nat} {w w' : World} {c : Nat} {R : List RegV} {K : List MarkV} {tb nb lb : Nat} {A1 A2 A3 : Option Addr} {c1 c2 c3 : Nat}
theorem groups_ok (h : ConfIn B w c R K tb nb lb A1 A2 A3 c1 c2 c3) :
    Calls Tryz.prog 155 #[.pointer (some ⟨c, 0, none⟩)] w fun e w' => e = .returned (.slice A3 (geosOf 32 R).length c3) ∧ w' = w := by
  have k5 := h.blk.cell 5
  have kl := h.blk.lt
  clear h
  go_enter Tryz.func155, Tryz.ntmps155
  go_wp2
  go_returns
  exact ⟨rfl, rfl⟩
set_option maxRecDepth 100000 in
set_option maxHeartbeats 1000000 in
theorem csum_ok (h : ConfIn B w c R K tb nb lb A1 A2 A3 c1 c2 c3) (hl : R.length ≤ 64) :
    Calls Tryz.prog 110 #[.pointer (some ⟨c, 0, none⟩)] w fun e w' => e = .returned (.int .u32 ((sumP R : Nat) : Int)) ∧ Below w.heap.size w w' := by
  have hG : (geosOf 32 R).length = R.length := geosOf_length 32 R
  have hS : ∀ i g, (geosOf 32 R)[i]? = some g → GeoS g := fun i g hg => geoS_at h.ok hl hg
  have hcell : ∀ i g, (geosOf 32 R)[i]? = some g → ∃ b, A3 = some ⟨b, 0, none⟩ ∧ b < w.heap.size ∧ ∀ j v, g.cells[j]? = some v → w.cell? ⟨b, i * 6 + j, none⟩ = some v := fun i g hg => h.geoc hg
  have hgr := groups_ok h
  have HSUM : Hid (sumP R = sumG 2166136261 (geosOf 32 R)) := hide rfl
  generalize geosOf 32 R = G at *
  have hl6 : G.length ≤ 64 := by omega
  clear h hG
  go_enter Tryz.func110, Tryz.ntmps110
  go_wp2_with fail
  refine hgr.mono ?_
  rintro e w1 ⟨rfl, rfl⟩
  clear hgr
  go_wp2_with fail
  go_loopg [3, 11] G.length (fun g x3 x11 wr => ∃ i : Nat, i ≤ G.length ∧ g = G.length - i ∧ x3 = .int .u32 ((sumG 2166136261 (G.take i) : Nat) : Int) ∧ x11 = .int .i64 (i : Int) ∧ Below w1.heap.size w1 wr)
  case atStart => exact ⟨0, Nat.zero_le _, rfl, rfl, rfl, Below.refl _ _⟩
  case round =>
    obtain ⟨i, hi, hg, rfl, rfl, hbr⟩ := hrel
    rcases Nat.lt_or_ge i G.length with hiG | hiG
    · have hiz : (i : Int) < G.length := by omega
      obtain ⟨g, hgi⟩ : ∃ g, G[i]? = some g := ⟨_, List.getElem?_eq_getElem hiG⟩
      obtain ⟨b, hA, hbl, hcc⟩ := hcell i g hgi
      have hs := hS i g hgi
      have y0 := (hbr.cell (p := ⟨b, i * 6 + 0, none⟩) hbl).trans (hcc 0 _ rfl)
      have y1 := (hbr.cell (p := ⟨b, i * 6 + 1, none⟩) hbl).trans (hcc 1 _ rfl)
      have y2 := (hbr.cell (p := ⟨b, i * 6 + 2, none⟩) hbl).trans (hcc 2 _ rfl)
      have y3 := (hbr.cell (p := ⟨b, i * 6 + 3, none⟩) hbl).trans (hcc 3 _ rfl)
      have y4 := (hbr.cell (p := ⟨b, i * 6 + 4, none⟩) hbl).trans (hcc 4 _ rfl)
      have y5 := (hbr.cell (p := ⟨b, i * 6 + 5, none⟩) hbl).trans (hcc 5 _ rfl)
      simp only [Nat.add_zero] at y0
      have hblr := Nat.lt_of_lt_of_le hbl hbr.size
      have hn0 := sumG_lt (G.take i) 2166136261 (by decide)
      have htk : sumG 2166136261 (G.take (i + 1)) = (geoNs g).foldl sumStep (sumG 2166136261 (G.take i)) := by rw [List.take_add_one, hgi]; exact sumG_snoc _ _ _
      have HTK := hide htk
      generalize sumG 2166136261 (G.take i) = n0 at *
      subst hA
      have BB := hide hbr
      clear hcc hgi htk hbr
      go_wp2_with fail
      refine at_world (fun W => ∃ g21, g21 = wr.heap.size + 1 ∧ Below wr.heap.size wr W ∧ g21 < W.heap.size ∧ ∀ j, j < 3 → W.cell? ⟨g21, j, none⟩ = some (.int .i64 (((geoNs g).getD j 0 : Nat) : Int))) ?_ (fun w5 h5 => ?_)
      · refine ⟨_, rfl, ((Below.refl _ _).alloc (Nat.le_refl _) _).alloc (by simp) _, by simp, fun j hj => ?_⟩
        rw [cell_of_row _ _ _ _ _ _ (by have := heap_alloc_new (wr.alloc (.cells #[.int .i64 g.base, .int .i64 g.bitmap, .int .i64 g.table, .int .i64 g.data, .int .i64 g.blocks, .int .i64 g.nodes] 169)) (.cells #[.int .i64 g.base, .int .i64 g.blocks, .int .i64 g.nodes] 3); simpa using this)]
        have e0 := Int.toNat_of_nonneg hs.b0
        have e1 := Int.toNat_of_nonneg hs.l0
        have e2 := Int.toNat_of_nonneg hs.n0
        match j, hj with
        | 0, _ => simp [geoNs, e0]
        | 1, _ => simp [geoNs, e1]
        | 2, _ => simp [geoNs, e2]
      obtain ⟨g21, e21, hb5, hl21, hc21⟩ := h5
      rw [← e21]
      have hxs : ∀ j, j < 3 → (geoNs g).getD j 0 < 2147483648 := fun j hj => by
        have := hs.b0; have := hs.b1; have := hs.l0; have := hs.l1; have := hs.n0; have := hs.n1
        match j, hj with
        | 0, _ => simp [geoNs]; omega
        | 1, _ => simp [geoNs]; omega
        | 2, _ => simp [geoNs]; omega
      have hx3 : (geoNs g).length = 3 := rfl
      generalize geoNs g = xs at *
      have B5 := hide (BB.out.trans (hb5.mono BB.out.size))
      clear e21 hb5 y0 y1 y2 y3 y4 y5 hs
      go_loopg [3, 23] 3 (fun gg x3 x23 wr => wr = w5 ∧ ∃ j : Nat, j ≤ 3 ∧ gg = 3 - j ∧ x3 = .int .u32 (((xs.take j).foldl sumStep n0 : Nat) : Int) ∧ x23 = .int .i64 (j : Int))
      case atStart => exact ⟨rfl, 0, by omega, rfl, rfl, rfl⟩
      case round =>
        obtain ⟨rfl, j, hj, hg2, rfl, rfl⟩ := hrel
        rcases Nat.lt_or_ge j 3 with hj3 | hj3
        · have hjz : (j : Int) < 3 := by omega
          have jc := hc21 j hj3
          have hx := hxs j hj3
          have hnj := foldS_lt (xs.take j) n0 hn0
          have hst : (xs.take (j + 1)).foldl sumStep n0 = sumStep ((xs.take j).foldl sumStep n0) (xs.getD j 0) := by
            have hjx : j < xs.length := by omega
            rw [List.take_add_one, List.getElem?_eq_getElem hjx, Option.toList_some, List.foldl_append, List.getD_eq_getElem?_getD, List.getElem?_eq_getElem hjx, List.foldl_cons, List.foldl_nil, Option.getD_some]
          generalize xs.getD j 0 = x at *
          generalize (xs.take j).foldl sumStep n0 = nj at *
          have e1 : IntKind.u32.wrap (x : Int) = (x : Int) := by rw [IntKind.wrap_u32]; omega
          have e2 : bits .xor .u32 (nj : Int) (x : Int) = ((nj ^^^ x : Nat) : Int) := u32_xor_nat nj x hnj (by omega)
          obtain ⟨z, hz⟩ : ∃ z, z = nj ^^^ x := ⟨_, rfl⟩
          have hzl := xor_lt32 hnj (show x < 4294967296 by omega)
          obtain ⟨s, hsz⟩ : ∃ s, s = sumStep nj x := ⟨_, rfl⟩
          have e3 : IntKind.u32.wrap ((z : Int) * 16777619) = (s : Int) := by rw [IntKind.wrap_u32, hsz, sumStep_eq, ← hz]; omega
          rw [← hz] at e2
          rw [← hsz] at hst
          have HST := hide hst
          clear hst hz hsz hc21 hxs
          go_wp2
          go_roundg (3 - (j + 1))
          case measure => omega
          case rel => exact ⟨rfl, j + 1, by omega, rfl, by rw [HST.out], by go_num⟩
        · obtain rfl : j = 3 := by omega
          rw [show xs.take 3 = xs by rw [← hx3]; exact List.take_length, ← HTK.out]
          clear hc21 hxs
          go_wp2
          go_roundg (G.length - (i + 1))
          case measure => omega
          case rel => exact ⟨i + 1, by omega, rfl, rfl, by go_num, B5.out⟩
    · obtain rfl : i = G.length := by omega
      rw [List.take_length, ← HSUM.out]
      clear hcell hS
      go_wp2
      go_returns
      exact ⟨rfl, hbr⟩
end
end Go.Proofs.YthmkgohfeahdhaaGreat
namespace Go.Proofs.YthmkgohfeahdhaaGreat
open Go.RowKit
set_option linter.unusedSimpArgs false
set_option linter.unusedVariables false

/-- the numbers that the first block says -/
def supX (T S : Nat) (j : Nat) : Nat := if j = 0 then 27250 else if j = 1 then T else S
def supY (T S : Nat) (j : Nat) : UInt8 := UInt8.ofNat (supX T S (j / 4) / 2 ^ (8 * (j % 4)))
/-- the first block, as far as it is written -/
def supTo (T S m : Nat) : List UInt8 := (List.range 64).map fun j => if j < m then supY T S j else 0
def supB (T S : Nat) : List UInt8 := supTo T S 12
theorem supTo_len (T S m : Nat) : (supTo T S m).length = 64 := by simp [supTo]
theorem supTo_zero (T S : Nat) : supTo T S 0 = zeroB := by
  unfold supTo zeroB
  apply List.ext_getElem?
  intro j
  rw [List.getElem?_map, List.getElem?_replicate]
  by_cases h : j < 64
  · rw [List.getElem?_range h, if_pos h]
    rfl
  · rw [List.getElem?_eq_none (by simp; omega), if_neg h]
    rfl
theorem supTo_next (T S m : Nat) (h : m < 64) : (supTo T S m).set m (supY T S m) = supTo T S (m + 1) := by
  unfold supTo
  apply List.ext_getElem?
  intro j
  by_cases hj : j < 64
  · rw [List.getElem?_map, List.getElem?_range hj]
    by_cases e : m = j
    · subst e
      rw [List.getElem?_set_self (by simpa using hj)]
      simp
    · rw [List.getElem?_set_ne e, List.getElem?_map, List.getElem?_range hj]
      have : (j < m) = (j < m + 1) := by rw [eq_iff_iff]; omega
      simp [this]
  · rw [List.getElem?_eq_none (by simp; omega), List.getElem?_eq_none (by simp; omega)]
theorem supY_val (T S i k : Nat) (hk : k < 4) : ((supY T S (4 * i + k)).toNat : Int) = ((supX T S i / 2 ^ (8 * k) : Nat) : Int) % 256 := by
  unfold supY
  rw [UInt8.toNat_ofNat', show (4 * i + k) / 4 = i from by omega, show (4 * i + k) % 4 = k from by omega]
  rfl
section
variable {B : Nat} {w w' : World} {c : Nat} {R : List RegV} {K : List MarkV} {tb nb lb : Nat} {A1 A2 A3 : Option Addr} {c1 c2 c3 : Nat}
set_option maxRecDepth 100000 in
set_option maxHeartbeats 6000000 in
theorem super_ok {T : Nat} (h : ConfIn B w c R K tb nb lb A1 A2 A3 c1 c2 c3) (hl : R.length ≤ 64) (hT : totalOf 32 R = (T : Int)) (hT2 : T ≤ 65536) :
    Calls Tryz.prog 47 #[.pointer (some ⟨c, 0, none⟩)] w fun e w' => e = .returned (bval (supB T (sumP R))) ∧ Below w.heap.size w w' := by
  have H := hide h
  have HL := hide hl
  have HT := hide (And.intro hT hT2)
  have hS : sumP R < 4294967296 := sumG_lt _ _ (by omega)
  obtain ⟨S, hSS⟩ : ∃ S, sumP R = S := ⟨_, rfl⟩
  have HS := hide hSS
  rw [hSS] at hS ⊢
  have HS2 := hide hS
  have et : IntKind.u32.wrap (T : Int) = (T : Int) := by rw [IntKind.wrap_u32]; omega
  clear h hl hT hT2 hSS hS
  go_enter Tryz.func47, Tryz.ntmps47
  go_upto_region 2 with (first | ((with_reducible refine at_alloc 106 ?_); refine wpList_alloc_as rfl 106 rfl _ (zero_block _) ?_) | fail)
  refine at_world (fun W => ∃ q p, q = w.heap.size ∧ p = w.heap.size + 1 ∧ Below w.heap.size w W ∧ Blk W q 106 (bvs zeroB).toArray ∧ Blk W p 106 (bvs zeroB).toArray) ⟨_, _, rfl, rfl, ((Below.refl _ _).alloc (Nat.le_refl _) _).alloc (by simp) _, (Blk.new _ _ _).alloc _, by have := Blk.new (w.alloc (.cells (bvs zeroB).toArray 106)) 106 (bvs zeroB).toArray; rwa [World.size_alloc] at this⟩ (fun w1 hw1 => ?_)
  obtain ⟨q, p, hq, hp, hb1, hQ1, hP1⟩ := hw1
  simp only [World.size_alloc, Act.put, List.setIfInBounds_toArray, List.set_cons_zero, List.set_cons_succ]
  rw [← hp, ← hq]
  have HB1 := hide hb1
  have HQ1 := hide hQ1
  have HP1 := hide hP1
  have HPW := hide (show w.heap.size ≤ p from by omega)
  have HQW := hide (show w.heap.size ≤ q ∧ p ≠ q from by omega)
  have hin1 := H.out.below hb1
  have HSM := hide (csum_ok hin1 HL.out)
  rw [HS.out] at HSM
  clear hq hp hb1 hQ1 hP1 hin1
  go_wp2_with fail
  refine HSM.out.mono ?_
  rintro e w2 ⟨rfl, hb2⟩
  have HB2 := hide (HB1.out.trans (hb2.mono HB1.out.size))
  have HQ2 := hide (HQ1.out.below hb2 HQ1.out.lt)
  have HP2 := hide (HP1.out.below hb2 HP1.out.lt)
  have htot := total_ok (H.out.below HB2.out)
  rw [HT.out.1] at htot
  have HTO := hide htot
  clear hb2 htot HSM HB1 HQ1 HP1
  go_wp2_with fail
  refine HTO.out.mono ?_
  rintro e w_ ⟨rfl, hw_⟩
  have hw2 := hw_.symm
  clear hw_
  subst hw2
  go_upto_region 4 with (fail)
  refine at_world (fun W => ∃ sb, sb = w2.heap.size ∧ Below w2.heap.size w2 W ∧ Blk W sb 49 #[.int .u32 27250, .int .u32 (T : Int), .int .u32 (S : Int)]) ⟨_, rfl, (Below.refl _ _).alloc (Nat.le_refl _) _, Blk.new _ _ _⟩ (fun w3 h3 => ?_)
  obtain ⟨sb, hsb, hb3, hS3⟩ := h3
  rw [← hsb]
  have HB3 := hide (HB2.out.trans (hb3.mono HB2.out.size))
  have HQ3 := hide (HQ2.out.below hb3 HQ2.out.lt)
  have HP3 := hide (HP2.out.below hb3 HP2.out.lt)
  have hP3 := HP3.out
  rw [← supTo_zero T S] at hP3
  have HP4 := hide hP3
  have HS3 := hide hS3
  have HSP := hide (show sb ≠ p from by have := HP2.out.lt; omega)
  clear hsb hb3 hS3 hP3 HTO HB2 HQ2 HP2 HP3 et
  go_wp2_with fail
  go_loopg [16] 3 (fun gh x16 wr => ∃ j : Nat, j ≤ 3 ∧ gh = 3 - j ∧ x16 = .int .i64 (j : Int) ∧ Hid (Below w.heap.size w wr) ∧ Hid (Blk wr p 106 (bvs (supTo T S (4 * j))).toArray) ∧ Hid (Blk wr q 106 (bvs zeroB).toArray) ∧ Hid (Blk wr sb 49 #[.int .u32 27250, .int .u32 (T : Int), .int .u32 (S : Int)]))
  case atStart => exact ⟨0, by omega, rfl, rfl, HB3, HP4, HQ3, HS3⟩
  case round =>
    clear HB3 HP4 HQ3 HS3
    obtain ⟨j, hj, hgh, rfl, HB, HP, HQ, HSB⟩ := hrel
    have HGH := hide hgh
    clear hgh
    rcases Nat.lt_or_ge j 3 with hlt | hge
    · have t1 : decide ((j : Int) < 3) = true := by simp; omega
      have t1' : (j : Int) < 3 := by omega
      have e64 : IntKind.i64.wrap ((j : Int) + 1) = (j : Int) + 1 := IntWalk.i64_in _ (by omega)
      obtain ⟨x, hx⟩ : ∃ x, supX T S j = x := ⟨_, rfl⟩
      have y : wr.cell? ⟨sb, j, none⟩ = some (.int .u32 (x : Int)) := by
        rw [HSB.out.cell j, ← hx]
        obtain rfl | rfl | rfl : j = 0 ∨ j = 1 ∨ j = 2 := by omega
        all_goals rfl
      have sl := HSB.out.lt
      have HX := hide (And.intro hx hlt)
      clear hx
      go_wp2_with fail
      go_loopg [21] 4 (fun gk x21 wq => ∃ k : Nat, k ≤ 4 ∧ gk = 4 - k ∧ x21 = .int .i64 (k : Int) ∧ Hid (Tch wr.heap.size (· = p) wr wq) ∧ Hid (Below w.heap.size w wq) ∧ Hid (Blk wq p 106 (bvs (supTo T S (4 * j + k))).toArray))
      case atStart => exact ⟨0, by omega, rfl, rfl, hide (Tch.refl _ _ _), HB, HP⟩
      case round =>
        clear HP
        obtain ⟨k, hk, hgk, rfl, HTq, HBq, HPq⟩ := hrel
        have HGQ := hide hgk
        clear hgk
        obtain rfl | rfl | rfl | rfl | rfl : k = 0 ∨ k = 1 ∨ k = 2 ∨ k = 3 ∨ k = 4 := by omega
        · have e1 : IntKind.i64.wrap (4 * (j : Int)) = 4 * (j : Int) := IntWalk.i64_in _ (by omega)
          have e2 : IntKind.i64.wrap (4 * (j : Int) + 0) = 4 * (j : Int) + 0 := IntWalk.i64_in _ (by omega)
          have e3 : IntKind.u8.wrap ((x : Int)) = ((supY T S (4 * j + 0)).toNat : Int) := by
            rw [supY_val T S j 0 (by omega), HX.out.1, IntKind.wrap_u8]
            simp
          have hb4 : 4 * j + 0 < 64 := by omega
          have hbz : 4 * (j : Int) + 0 < 64 := by omega
          obtain ⟨a, ha⟩ : ∃ a, 4 * j + 0 = a := ⟨_, rfl⟩
          have e4 : 4 * (j : Int) + 0 = (a : Int) := by omega
          rw [e4] at e2 hbz
          rw [ha] at e3
          have hfz := HPq.out.frozen a
          have hcz : ∃ v, wr.cell? ⟨p, a, none⟩ = some v := by
            refine ⟨_, (HPq.out.cell a).trans (Array.getElem?_eq_getElem ?_)⟩
            rw [bvs_size (supTo_len _ _ _)]; omega
          obtain ⟨v, hcz⟩ := hcz
          have pl := HPq.out.lt
          have HA := hide (And.intro ha hb4)
          have HTq' := hide (HTq.out.trans ((Tch.setCell (S := (· = p)) (B := wr.heap.size) (p := ⟨p, a, none⟩) (u := .int .u8 ((supY T S a).toNat : Int)) fun _ => rfl).mono HTq.out.size fun _ _ h => h))
          clear ha hb4
          go_wp2_with fail
          have hP' := HPq.out.set_ a (.int .u8 ((supY T S a).toNat : Int))
          have hset : (bvs (supTo T S (4 * j + 0))).toArray.setIfInBounds a (.int .u8 ((supY T S a).toNat : Int)) = (bvs (supTo T S (4 * j + (0 + 1)))).toArray := by
            rw [List.setIfInBounds_toArray]
            congr 1
            rw [show 4 * j + (0 + 1) = (4 * j + 0) + 1 from by omega, ← supTo_next T S (4 * j + 0) HA.out.2, HA.out.1]
            unfold bvs
            rw [List.map_set]
          rw [hset] at hP'
          have HP' := hide hP'
          have HB' := hide (HBq.out.setCell (p := ⟨p, a, none⟩) HPW.out (.int .u8 ((supY T S a).toNat : Int)))
          clear hP' hset
          go_roundg 3
          case rel => exact ⟨1, by omega, rfl, rfl, HTq', HB', HP'⟩
          case measure => have := HGQ.out; omega
        · have e1 : IntKind.i64.wrap (4 * (j : Int)) = 4 * (j : Int) := IntWalk.i64_in _ (by omega)
          have e2 : IntKind.i64.wrap (4 * (j : Int) + 1) = 4 * (j : Int) + 1 := IntWalk.i64_in _ (by omega)
          have e3 : IntKind.u8.wrap ((x : Int) / 256) = ((supY T S (4 * j + 1)).toNat : Int) := by
            rw [supY_val T S j 1 (by omega), HX.out.1, IntKind.wrap_u8]
            simp
          have hb4 : 4 * j + 1 < 64 := by omega
          have hbz : 4 * (j : Int) + 1 < 64 := by omega
          obtain ⟨a, ha⟩ : ∃ a, 4 * j + 1 = a := ⟨_, rfl⟩
          have e4 : 4 * (j : Int) + 1 = (a : Int) := by omega
          rw [e4] at e2 hbz
          rw [ha] at e3
          have hfz := HPq.out.frozen a
          have hcz : ∃ v, wr.cell? ⟨p, a, none⟩ = some v := by
            refine ⟨_, (HPq.out.cell a).trans (Array.getElem?_eq_getElem ?_)⟩
            rw [bvs_size (supTo_len _ _ _)]; omega
          obtain ⟨v, hcz⟩ := hcz
          have pl := HPq.out.lt
          have HA := hide (And.intro ha hb4)
          have HTq' := hide (HTq.out.trans ((Tch.setCell (S := (· = p)) (B := wr.heap.size) (p := ⟨p, a, none⟩) (u := .int .u8 ((supY T S a).toNat : Int)) fun _ => rfl).mono HTq.out.size fun _ _ h => h))
          clear ha hb4
          go_wp2_with fail
          have hP' := HPq.out.set_ a (.int .u8 ((supY T S a).toNat : Int))
          have hset : (bvs (supTo T S (4 * j + 1))).toArray.setIfInBounds a (.int .u8 ((supY T S a).toNat : Int)) = (bvs (supTo T S (4 * j + (1 + 1)))).toArray := by
            rw [List.setIfInBounds_toArray]
            congr 1
            rw [show 4 * j + (1 + 1) = (4 * j + 1) + 1 from by omega, ← supTo_next T S (4 * j + 1) HA.out.2, HA.out.1]
            unfold bvs
            rw [List.map_set]
          rw [hset] at hP'
          have HP' := hide hP'
          have HB' := hide (HBq.out.setCell (p := ⟨p, a, none⟩) HPW.out (.int .u8 ((supY T S a).toNat : Int)))
          clear hP' hset
          go_roundg 2
          case rel => exact ⟨2, by omega, rfl, rfl, HTq', HB', HP'⟩
          case measure => have := HGQ.out; omega
        · have e1 : IntKind.i64.wrap (4 * (j : Int)) = 4 * (j : Int) := IntWalk.i64_in _ (by omega)
          have e2 : IntKind.i64.wrap (4 * (j : Int) + 2) = 4 * (j : Int) + 2 := IntWalk.i64_in _ (by omega)
          have e3 : IntKind.u8.wrap ((x : Int) / 65536) = ((supY T S (4 * j + 2)).toNat : Int) := by
            rw [supY_val T S j 2 (by omega), HX.out.1, IntKind.wrap_u8]
            simp
          have hb4 : 4 * j + 2 < 64 := by omega
          have hbz : 4 * (j : Int) + 2 < 64 := by omega
          obtain ⟨a, ha⟩ : ∃ a, 4 * j + 2 = a := ⟨_, rfl⟩
          have e4 : 4 * (j : Int) + 2 = (a : Int) := by omega
          rw [e4] at e2 hbz
          rw [ha] at e3
          have hfz := HPq.out.frozen a
          have hcz : ∃ v, wr.cell? ⟨p, a, none⟩ = some v := by
            refine ⟨_, (HPq.out.cell a).trans (Array.getElem?_eq_getElem ?_)⟩
            rw [bvs_size (supTo_len _ _ _)]; omega
          obtain ⟨v, hcz⟩ := hcz
          have pl := HPq.out.lt
          have HA := hide (And.intro ha hb4)
          have HTq' := hide (HTq.out.trans ((Tch.setCell (S := (· = p)) (B := wr.heap.size) (p := ⟨p, a, none⟩) (u := .int .u8 ((supY T S a).toNat : Int)) fun _ => rfl).mono HTq.out.size fun _ _ h => h))
          clear ha hb4
          go_wp2_with fail
          have hP' := HPq.out.set_ a (.int .u8 ((supY T S a).toNat : Int))
          have hset : (bvs (supTo T S (4 * j + 2))).toArray.setIfInBounds a (.int .u8 ((supY T S a).toNat : Int)) = (bvs (supTo T S (4 * j + (2 + 1)))).toArray := by
            rw [List.setIfInBounds_toArray]
            congr 1
            rw [show 4 * j + (2 + 1) = (4 * j + 2) + 1 from by omega, ← supTo_next T S (4 * j + 2) HA.out.2, HA.out.1]
            unfold bvs
            rw [List.map_set]
          rw [hset] at hP'
          have HP' := hide hP'
          have HB' := hide (HBq.out.setCell (p := ⟨p, a, none⟩) HPW.out (.int .u8 ((supY T S a).toNat : Int)))
          clear hP' hset
          go_roundg 1
          case rel => exact ⟨3, by omega, rfl, rfl, HTq', HB', HP'⟩
          case measure => have := HGQ.out; omega
        · have e1 : IntKind.i64.wrap (4 * (j : Int)) = 4 * (j : Int) := IntWalk.i64_in _ (by omega)
          have e2 : IntKind.i64.wrap (4 * (j : Int) + 3) = 4 * (j : Int) + 3 := IntWalk.i64_in _ (by omega)
          have e3 : IntKind.u8.wrap ((x : Int) / 16777216) = ((supY T S (4 * j + 3)).toNat : Int) := by
            rw [supY_val T S j 3 (by omega), HX.out.1, IntKind.wrap_u8]
            simp
          have hb4 : 4 * j + 3 < 64 := by omega
          have hbz : 4 * (j : Int) + 3 < 64 := by omega
          obtain ⟨a, ha⟩ : ∃ a, 4 * j + 3 = a := ⟨_, rfl⟩
          have e4 : 4 * (j : Int) + 3 = (a : Int) := by omega
          rw [e4] at e2 hbz
          rw [ha] at e3
          have hfz := HPq.out.frozen a
          have hcz : ∃ v, wr.cell? ⟨p, a, none⟩ = some v := by
            refine ⟨_, (HPq.out.cell a).trans (Array.getElem?_eq_getElem ?_)⟩
            rw [bvs_size (supTo_len _ _ _)]; omega
          obtain ⟨v, hcz⟩ := hcz
          have pl := HPq.out.lt
          have HA := hide (And.intro ha hb4)
          have HTq' := hide (HTq.out.trans ((Tch.setCell (S := (· = p)) (B := wr.heap.size) (p := ⟨p, a, none⟩) (u := .int .u8 ((supY T S a).toNat : Int)) fun _ => rfl).mono HTq.out.size fun _ _ h => h))
          clear ha hb4
          go_wp2_with fail
          have hP' := HPq.out.set_ a (.int .u8 ((supY T S a).toNat : Int))
          have hset : (bvs (supTo T S (4 * j + 3))).toArray.setIfInBounds a (.int .u8 ((supY T S a).toNat : Int)) = (bvs (supTo T S (4 * j + (3 + 1)))).toArray := by
            rw [List.setIfInBounds_toArray]
            congr 1
            rw [show 4 * j + (3 + 1) = (4 * j + 3) + 1 from by omega, ← supTo_next T S (4 * j + 3) HA.out.2, HA.out.1]
            unfold bvs
            rw [List.map_set]
          rw [hset] at hP'
          have HP' := hide hP'
          have HB' := hide (HBq.out.setCell (p := ⟨p, a, none⟩) HPW.out (.int .u8 ((supY T S a).toNat : Int)))
          clear hP' hset
          go_roundg 0
          case rel => exact ⟨4, by omega, rfl, rfl, HTq', HB', HP'⟩
          case measure => have := HGQ.out; omega
        · have HQ' := hide (HQ.out.tch HTq.out HQ.out.lt HQW.out.2.symm)
          have HSB' := hide (HSB.out.tch HTq.out HSB.out.lt HSP.out)
          have hP' := HPq.out
          rw [show 4 * j + 4 = 4 * (j + 1) from by omega] at hP'
          have HP' := hide hP'
          clear y sl hP'
          go_wp2_with fail
          go_roundg (3 - (j + 1))
          case rel => exact ⟨j + 1, by omega, rfl, by first | rfl | go_num, HBq, HP', HQ', HSB'⟩
          case measure => have := HGH.out; omega
    · have t1 : decide ((j : Int) < 3) = false := by simp; omega
      have t1' : ¬ (j : Int) < 3 := by omega
      have hj3 : j = 3 := by omega
      have hP := HP.out
      rw [hj3] at hP
      have HPF : Hid (Blk wr p 106 (bvs (supB T S)).toArray) := hide hP
      have hQ := HQ.out
      have HLB := hide (supTo_len T S 12)
      clear hge hj hj3 hP HP
      go_wp2_with (first | ((with_reducible refine at_load 106 (.tmp 3) ?_); refine wpList_load_blk rfl 106 (.tmp 3) rfl p 106 _ _ (by rfl) HPF.out Tryz.underlying106 rfl (size_blockOf HLB.out) ?_) | ((with_reducible refine at_store 106 (.tmp 2) (.tmp 36) ?_); refine wpList_store_blk rfl 106 (.tmp 2) (.tmp 36) rfl q 106 _ _ (by rfl) (by rfl) hQ (size_blockOf HLB.out) ((bvs_size zeroB_length).trans (bvs_size HLB.out).symm) (bvs_oneCell _) (fun hB9 => ?_)) | ((with_reducible refine at_end ?_); refine bodyPost_ret (v := bval (supB T S)) (results_run1 rfl (ResV.row rfl hB9 Tryz.underlying106 rfl (size_blockOf HLB.out))) rfl ⟨rfl, below_setRow HB.out HQW.out.1 _⟩) | fail)
end
end Go.Proofs.YthmkgohfeahdhaaGreat
namespace Go.Proofs.YthmkgohfeahdhaaGreat
open Go.RowKit
set_option linter.unusedSimpArgs false
set_option linter.unusedVariables false

/-- the bitmaps' blocks are of noughts -/
def MapsZ (R : List RegV) (s : Sto) : Prop := ∀ (k : Nat) (v : GeoV), (geosOf 32 R)[k]? = some v → ∀ m, (geoN v).base ≤ m → m < (geoN v).base + (geoN v).bitmap → s.at_ m = zeroB
theorem MapsZ.node {R : List RegV} {n N j q : Nat} {s : Sto} {v0 : GeoV} {v : NodeV} (h : MapsZ R s) (hF : CfFacts R n) (hu : (geoN v0).Ok N) (hv : (geosOf 32 R)[j]? = some v0) (hq : q / 2 < (geoN v0).table) : MapsZ R (s.setNode (geoN v0) (q + 1) v) := fun k v' hv' m h1 h2 => by
  unfold Sto.setNode
  rw [Sto.at_put, if_neg]
  · exact h k v' hv' m h1 h2
  · intro e
    have hd := hu.data
    have hf' := (hF.geo_ok hv').data
    rw [Nat.add_sub_cancel] at e
    by_cases hkj : k = j
    · subst hkj
      rw [hv] at hv'
      cases hv'
      omega
    · rcases hF.sep hv hv' (fun e => hkj e.symm) with h3 | h3 <;> omega
theorem MapsZ.commit {R : List RegV} {n : Nat} {s : Sto} {l : List Nat} (h : MapsZ R s) (hF : CfFacts R n) (hs : s.Ok) (hp : l.Perm (s.M.map (·.1))) : MapsZ R ⟨commitD s l, [], 0⟩ := fun k v hv m h1 h2 => by
  have hb := (hF.geo_ok hv).base
  exact (commit_at hs hp (.inr (by omega))).trans (h k v hv m h1 h2)
section
variable {B : Nat} {w w' : World} {c : Nat} {R : List RegV} {K : List MarkV} {tb nb lb : Nat} {A1 A2 A3 : Option Addr} {c1 c2 c3 : Nat}
set_option maxRecDepth 100000 in
set_option maxHeartbeats 3200000 in
theorem fresh_allZ {n : Nat} (hin : ConfIn B w c R K tb nb lb A1 A2 A3 c1 c2 c3) (hF : CfFacts R n) (hR5 : R.length ≤ 5) :
    Calls Tryz.prog 16 #[.pointer (some ⟨c, 0, none⟩)] w fun e w' => ∃ (i : Ids) (D : List BlkV), e = .returned (.tuple #[.pointer (some ⟨i.dd, 0, none⟩), .pointer (some ⟨i.ll, 0, none⟩), .pointer (some ⟨i.tt, 0, none⟩)]) ∧ TxAt w' i ⟨D, [], 0⟩ ∧ D.length = n ∧ AllIs R D (fun _ => GS.fresh) ∧ MapsZ R ⟨D, [], 0⟩ ∧ (∀ k, i.own k → w.heap.size ≤ k) ∧ w.heap.size ≤ i.ll ∧ Below w.heap.size w w' := by
  have hbeg := begun_ok (w := w) hin hF.tot hF.ge hF.le
  have HIN := hide hin
  have HF := hide hF
  clear hin hF
  go_enter Tryz.func16, Tryz.ntmps16
  go_wp2_with fail
  refine hbeg.mono ?_
  rintro e w1 ⟨i, rfl, hx, hown, hll, hb1⟩
  have HIN1 := hide (HIN.out.below hb1)
  have HL1 := hide hx.log
  have HB1 := hide hb1
  have HOWN := hide (And.intro hown hll)
  clear hx hown hll hb1 hbeg
  go_wp2_with fail
  refine (len_ok HIN1.out).mono ?_
  rintro e w_ ⟨rfl, hw_⟩
  have hw_ := hw_.symm
  subst hw_
  go_wp2_with fail
  go_loopg [22] R.length (fun gh x22 wr => ∃ (j : Nat) (Dk : List BlkV), j ≤ R.length ∧ gh = R.length - j ∧ x22 = .int .i64 (j : Int) ∧ Hid (Tch w1.heap.size (fun x => x = i.dd ∨ x = i.rr) w1 wr) ∧ Hid (LogAt wr i.ll i.dd i.rr Dk) ∧ Hid (Dk.length = n ∧ AllIs R Dk (fun k => if k < j then GS.fresh else GS.none) ∧ MapsZ R ⟨Dk, [], 0⟩))
  case atStart =>
    exact ⟨0, begD n, Nat.zero_le _, rfl, rfl, hide (Tch.refl _ _ _), HL1, hide ⟨begD_length _, (fun k v hv => begun_is (HF.out.geo_ok hv)), fun k v hv m h1 h2 => begD_at (by have := (HF.out.geo_ok hv).base; omega)⟩⟩
  case round =>
    obtain ⟨j, Dk, hj, hgh, rfl, HT, HL, HI⟩ := hrel
    have HGH := hide hgh
    clear hgh
    have HD32 := hide (show 32 ≤ Dk.length from by rw [HI.out.1]; exact HF.out.ge)
    have HBr : Hid (Below w.heap.size w wr) := hide (HB1.out.trans ((HT.out.mono HB1.out.size (S' := fun _ => False) (fun k hk h => by
      rcases h with h | h
      · have := HOWN.out.1 k (.inr (.inr (.inl h))); omega
      · have := HOWN.out.1 k (.inr (.inr (.inr h))); omega)).below fun _ _ h => h))
    rcases Nat.lt_or_ge j R.length with hjl | hjl
    · have hjz : (j : Int) < (R.length : Int) := by omega
      obtain ⟨v, r, hv, hr, hgo, hval, -, -, g4, g512, n4, n128⟩ := HF.out.geo j hjl
      go_wp2_with fail
      refine (begin_ok HL.out HD32.out).mono ?_
      rintro e w7 ⟨tt, mm, rfl, htt, hmm, hx7, hb7⟩
      obtain ⟨ii, hii⟩ : ∃ ii : Ids, Ids.mk tt mm i.ll i.dd i.rr = ii := ⟨_, rfl⟩
      have htt' : tt = ii.tt := by rw [← hii]
      rw [hii] at hx7
      subst htt'
      have hgeo := geo_ok (HIN.out.below (HBr.out.trans (hb7.mono HBr.out.size))) hv
      obtain ⟨u, hu⟩ : ∃ u, geoN v = u := ⟨_, rfl⟩
      have hval2 : (Value.agg #[.int .i64 v.base, .int .i64 v.bitmap, .int .i64 v.table, .int .i64 v.data, .int .i64 v.blocks, .int .i64 v.nodes]) = .agg u.cells.toArray := by rw [← hu]; exact hval.symm
      rw [hval2] at hgeo
      rw [hu] at hgo n4
      have HX7 := hide hx7
      have HB7 := hide hb7
      have HII := hide (And.intro hii (And.intro htt hmm))
      have HGE := hide hgeo
      have HV := hide (And.intro hv hu)
      have HGO := hide (And.intro hgo n4)
      clear hii htt hmm hx7 hb7 hgeo hu hval2 hval hv hr hgo g4 g512 n4 n128
      go_wp2_with fail
      refine HGE.out.mono ?_
      rintro e w8 ⟨rfl, hb8⟩
      have HX8 := hide (HX7.out.below hb8)
      have HB8 := hide (HB7.out.trans (hb8.mono HB7.out.size))
      clear hb8 HX7 HB7 HGE
      go_upto_region 7 with (first | ((with_reducible refine at_alloc 169 ?_); refine wpList_alloc_as rfl 169 rfl _ (zero_geo _) ?_) | ((with_reducible refine at_store 169 (.tmp 10) (.tmp 31) ?_); refine wpList_store_blk rfl 169 (.tmp 10) (.tmp 31) rfl w8.heap.size _ _ _ (by rfl) (by rfl) (Blk.new _ _ _) (size_geo u) rfl (geo_one u) (fun _ => ?_)) | fail)
      refine at_world (fun W => ∃ p, p = w8.heap.size ∧ Below w8.heap.size w8 W ∧ Blk W p 169 u.cells.toArray) ⟨_, rfl, below_setRow ((Below.refl _ _).alloc (Nat.le_refl _) _) (Nat.le_refl _) _, (Blk.new _ _ _).setRow_same _⟩ (fun w9 h9 => ?_)
      obtain ⟨p, hp, hb9, hP⟩ := h9
      rw [← hp]
      have HX9 := hide (HX8.out.below hb9)
      have HB9 := hide (HB8.out.trans (hb9.mono HB8.out.size))
      have HP9 := hide hP
      clear hp hb9 hP HX8 HB8
      go_wp2_with fail
      refine at_world (fun W => ∃ kb, kb = w9.heap.size ∧ kb < W.heap.size ∧ Below w9.heap.size w9 W ∧ ∀ q, q < 3 → W.cell? ⟨kb, q, none⟩ = some (.int .u8 ((freshK q).toNat : Int))) ⟨_, rfl, by simp, (Below.refl _ _).alloc (Nat.le_refl _) _, fun q hq => by
        obtain rfl | rfl | rfl : q = 0 ∨ q = 1 ∨ q = 2 := by omega
        · exact (Blk.new w9 _ _).cell 0
        · exact (Blk.new w9 _ _).cell 1
        · exact (Blk.new w9 _ _).cell 2⟩ (fun w10 h10 => ?_)
      obtain ⟨kb, hkb, kbl, hb10, hK10⟩ := h10
      rw [← hkb]
      have HX10 := hide (HX9.out.below hb10)
      have HB10 := hide (HB9.out.trans (hb10.mono HB9.out.size))
      have HP10 := hide (HP9.out.below hb10 HP9.out.lt)
      have HK10 := hide hK10
      have HKO := hide (show ¬ ii.own kb from fun hk => HX9.out.other_new (Nat.le_of_eq hkb.symm) hk)
      have HPO := hide (show ¬ ii.own p from HX10.out.other HP10.out (by decide) (by decide) (by decide))
      clear hkb hb10 hK10 HX9 HB9 HP9
      go_loopg [35] 3 (fun gh x35 wq => ∃ (q : Nat) (s : Sto) (L : List Nat), q ≤ 3 ∧ gh = 3 - q ∧ x35 = .int .i64 (q : Int) ∧ Hid (TxAt wq ii s) ∧ Hid (Tch w10.heap.size ii.own w10 wq) ∧ Hid (Sto.Step ⟨Dk, [], 0⟩ s u L ∧ s.Is u (GS.freshTo q) ∧ s.M.length ≤ q ∧ MapsZ R s))
      case atStart =>
        refine ⟨0, _, [], by omega, rfl, rfl, HX10, hide (Tch.refl _ _ _), hide ⟨Sto.Step.refl _ _ _, ?_, Nat.le_refl _, HI.out.2.2⟩⟩
        have := HI.out.2.1 j v HV.out.1
        rw [HV.out.2] at this
        have e : (if j < j then GS.fresh else GS.none) = GS.freshTo 0 := if_neg (by omega)
        simp only [e] at this
        exact this
      case round =>
        obtain ⟨q, s, L, hq, hgq, rfl, HXq, HTq, HSq⟩ := hrel
        have HGQ := hide hgq
        clear hgq
        have kbl' : kb < _ := Nat.lt_of_lt_of_le kbl HTq.out.size
        rcases Nat.lt_or_ge q 3 with hq3 | hq3
        · have hqz : (q : Int) < 3 := by omega
          have y := (World.cell?_of_block (w := w10) (a := ⟨kb, q, none⟩) (HTq.out.block kb kbl HKO.out)).trans (HK10.out q hq3)
          have HPq := hide (HP10.out.tch HTq.out HP10.out.lt HPO.out)
          have hD : s.D.length = n := by rw [HSq.out.1.D]; exact HI.out.1
          have hug : u.Ok s.D.length := by rw [hD]; exact HGO.out.1
          have hn4 := HGO.out.2
          obtain ⟨hfs, hck⟩ := freshTo_succ q hq3
          have hwr := write_node (num := q + 1) (n := freshN (freshK q)) HXq.out hug (by omega) (by omega) rfl hck (node_can hug (by have := HSq.out.2.2.1; omega) (by omega) (by omega))
          have hst := is_set (v := freshN (freshK q)) HXq.out.ok hug (by omega) (by omega) rfl HSq.out.2.1 (num := q + 1)
          have hbf := fun W => build_fresh W (freshK q)
          rw [← hfs] at hst
          rw [show ((q + 1 : Nat) : Int) = (q : Int) + 1 from by omega] at hwr
          have hml : (s.setNode u (q + 1) (freshN (freshK q))).M.length ≤ q + 1 := by
            unfold Sto.setNode
            have := Sto.put_len s (u.base + u.bitmap + (q + 1 - 1) / 2) (wrB (s.at_ (u.base + u.bitmap + (q + 1 - 1) / 2)) ((q + 1 - 1) % 2 * 32) (encN (freshN (freshK q))))
            have := HSq.out.2.2.1
            omega
          have hz := HSq.out.2.2.2.node (v := freshN (freshK q)) HF.out (by rw [HV.out.2]; exact HGO.out.1) HV.out.1 (q := q) (by rw [HV.out.2]; have := HGO.out.1.tab; omega)
          rw [HV.out.2] at hz
          have HST := hide (And.intro (HSq.out.1.trans hst.2) (And.intro hst.1 (And.intro hml hz)))
          have e1 : IntKind.i64.wrap ((q : Int) + 1) = (q : Int) + 1 := IntWalk.i64_in _ (by omega)
          generalize s.setNode u (q + 1) (freshN (freshK q)) = s2 at hwr HST
          generalize freshK q = kk at y hwr hbf
          have HWR := hide hwr
          have HBF := hide hbf
          clear hfs hck hwr hst hbf hml hz hD hug hn4 HSq
          go_wp2_with (first | ((with_reducible refine at_load 169 (.tmp 10) ?_); refine wpList_load_blk rfl 169 (.tmp 10) rfl p _ _ _ (by rfl) HPq.out Tryz.underlying169 rfl (size_geo u) ?_) | ((with_reducible refine at_build 130 #[(0, .tmp 44), (1, .const (.int .u8 1)), (2, .const (.int .u16 1))] ?_); refine wpList_run rfl _ (exec_build 130 #[(0, .tmp 44), (1, .const (.int .u8 1)), (2, .const (.int .u16 1))] rfl #[(0, .int .u8 (kk.toNat : Int)), (1, .int .u8 1), (2, .int .u16 1)] (by simp only [List.map_toArray, List.map_cons, List.map_nil]; rfl) _ (HBF.out _)) ?_) | fail)
          refine HWR.out.mono ?_
          rintro e w11 ⟨rfl, hx11, ht11⟩
          have HX11 := hide hx11
          have HT11 := hide (HTq.out.trans (ht11.mono HTq.out.size fun _ _ h => h))
          clear hx11 ht11 HWR y kbl' HPq
          go_wp2
          go_roundg (3 - (q + 1))
          case rel => exact ⟨q + 1, s2, _, by omega, rfl, by first | rfl | go_num, HX11, HT11, HST⟩
          case measure => have := HGQ.out; omega
        · have hqe : q = 3 := by omega
          subst hqe
          clear kbl'
          have hcom := commit_ok HXq.out HSq.out.1.bad
          have HCOM := hide hcom
          clear hcom
          go_wp2_with fail
          refine HCOM.out.mono ?_
          rintro e w12 ⟨l, rfl, hp, hx12, ht12⟩
          have hDl : (commitD s l).length = n := by rw [commit_len, HSq.out.1.D]; exact HI.out.1
          have hall := AllIs.commit HI.out.2.1 HF.out HXq.out.ok HV.out.1 (by rw [HV.out.2]; exact HSq.out.1) (by rw [HV.out.2]; exact HSq.out.2.1) hp
          have hall2 : AllIs R (commitD s l) (fun k => if k < j + 1 then GS.fresh else GS.none) := fun k v hv => by
            have := hall k v hv
            have e : upd (fun k => if k < j then GS.fresh else GS.none) j (GS.freshTo 3) k = if k < j + 1 then GS.fresh else GS.none := by
              unfold upd
              by_cases h1 : k = j
              · rw [if_pos h1, if_pos (by omega)]; rfl
              · rw [if_neg h1]
                by_cases h2 : k < j
                · simp only [if_pos h2, if_pos (show k < j + 1 by omega)]
                · simp only [if_neg h2, if_neg (show ¬ k < j + 1 by omega)]
            rwa [e] at this
          have e := HII.out.1
          have HL12 : Hid (LogAt w12 i.ll i.dd i.rr (commitD s l)) := hide (by
            have h := hx12.log
            rw [← congrArg Ids.ll e, ← congrArg Ids.dd e, ← congrArg Ids.rr e] at h
            exact h)
          have hT := (Tch.of_below (S := ii.own) HB10.out).trans ((HTq.out.trans (ht12.mono HTq.out.size fun _ _ h => h)).mono HB10.out.size fun _ _ h => h)
          have HT12 : Hid (Tch w1.heap.size (fun x => x = i.dd ∨ x = i.rr) w1 w12) := hide (HT.out.trans (hT.mono HT.out.size (fun k hk h => by
            have h1 := HII.out.2.1
            have h2 := HII.out.2.2
            have h3 := HT.out.size
            rcases h with h | h | h | h
            · omega
            · rw [← e] at h; simp only at h; omega
            · rw [← e] at h; exact .inl h
            · rw [← e] at h; exact .inr h)))
          have hz2 := HSq.out.2.2.2.commit HF.out HXq.out.ok hp
          have HI12 := hide (And.intro hDl (And.intro hall2 hz2))
          clear hp hx12 ht12 hDl hall hall2 hz2 e hT HCOM HSq
          go_wp2
          go_roundg (R.length - (j + 1))
          case rel => exact ⟨j + 1, _, by omega, rfl, by first | rfl | go_num, HT12, HL12, HI12⟩
          case measure => have := HGH.out; omega
    · have hje : decide ((j : Int) < R.length) = false := by simp; omega
      have hjR : R.length = j := by omega
      go_wp2_with fail
      refine (begin_ok HL.out HD32.out).mono ?_
      rintro e w7 ⟨tt, mm, rfl, htt, hmm, hx7, hb7⟩
      have HF7 := hide (And.intro hx7 (And.intro (HBr.out.trans (hb7.mono HBr.out.size)) (show (∀ k, Ids.own ⟨tt, mm, i.ll, i.dd, i.rr⟩ k → w.heap.size ≤ k) from by
        have := HBr.out.size
        have h1 := HOWN.out.1 i.dd (.inr (.inr (.inl rfl)))
        have h2 := HOWN.out.1 i.rr (.inr (.inr (.inr rfl)))
        rintro k (e | e | e | e) <;> simp only at e <;> omega)))
      have HJ := hide hjR
      clear htt hmm hx7 hb7 hjR
      go_wp2
      go_returns
      refine ⟨⟨tt, mm, i.ll, i.dd, i.rr⟩, Dk, rfl, HF7.out.1, HI.out.1, fun k v hv => ?_, HI.out.2.2, HF7.out.2.2, HOWN.out.2, HF7.out.2.1⟩
      have hk : k < R.length := by have := (List.getElem?_eq_some_iff.1 hv).1; rwa [geosOf_length] at this
      have := HI.out.2.1 k v hv
      have e : (if k < j then GS.fresh else GS.none) = GS.fresh := if_pos (by have := HJ.out; omega)
      simp only [e] at this
      exact this
end
end Go.Proofs.YthmkgohfeahdhaaGreat
namespace Go.Proofs.YthmkgohfeahdhaaGreat
open Go.RowKit
set_option linter.unusedSimpArgs false
set_option linter.unusedVariables false

/-- a disk on which the groups' own nodes alone are, the second perhaps not -/
structure CkIn (R : List RegV) (n : Nat) (s : Sto) (tf : Nat → Bool) : Prop where
  facts : CfFacts R n
  len : s.D.length = n
  sup : s.at_ 0 = supB n (sumP R)
  maps : MapsZ R s
  grp : ∀ (k : Nat) (v : GeoV), (geosOf 32 R)[k]? = some v → ∃ G : GS, s.Is (geoN v) G ∧ G.Ok ∧ Own3 G (geoN v) (tf k) ∧ (∀ j, j < (geoN v).blocks → G.tk j = false) ∧ (∃ κ, DirN G (geoN v) 1 [] κ) ∧ (tf k = true → ∃ κ, TabN G (geoN v) [] κ) ∧ (geoN v).bitmap = 1
/-- so many faults -/
def flt (tf : Nat → Bool) : Nat → Nat
  | 0 => 0
  | j + 1 => flt tf j + if tf j then 0 else 2
theorem flt_le (tf : Nat → Bool) : ∀ j, flt tf j ≤ 2 * j
  | 0 => Nat.le_refl _
  | j + 1 => by
    have := flt_le tf j
    unfold flt
    split <;> omega
theorem build_ck (w : World) (i : Ids) (cc gg : Nat) (u : GeoN) (lab : Int) (m1 m2 m3 m4 : Nat) : (Instr.build 233 #[(0, .pointer (some ⟨i.tt, 0, none⟩)), (1, .pointer (some ⟨cc, 0, none⟩)), (2, .pointer (some ⟨gg, 0, none⟩)), (3, .agg u.cells.toArray), (4, .int .i64 lab), (6, .map (some m1)), (7, .map (some m2)), (8, .map (some m3)), (9, .map (some m4))]).run Tryz.prog w =
    .ok (.agg #[.pointer (some ⟨i.tt, 0, none⟩), .pointer (some ⟨cc, 0, none⟩), .pointer (some ⟨gg, 0, none⟩), .int .i64 (u.base : Int), .int .i64 (u.bitmap : Int), .int .i64 (u.table : Int), .int .i64 (u.data : Int), .int .i64 (u.blocks : Int), .int .i64 (u.nodes : Int), .int .i64 lab, .slice none 0 0, .map (some m1), .map (some m2), .map (some m3), .map (some m4)]) w := by kernel_rfl
/-- the world in which a group's going through begins -/
def ckNew (w : World) (i : Ids) (cc gg : Nat) (u : GeoN) (lab : Int) : World := ((((w.alloc (.map #[] 0)).alloc (.map #[] 0)).alloc (.map #[] 0)).alloc (.map #[] 0)).alloc (.cells (ckCells i cc gg u lab none 0 0 w.heap.size (w.heap.size + 1) (w.heap.size + 2) (w.heap.size + 3)) 233)
theorem ck_new {w : World} {i : Ids} {s : Sto} {cc gg : Nat} {u : GeoN} {lab : Int} {G : GS} (h : GAt w i s gg u lab G) :
    Below w.heap.size w (ckNew w i cc gg u lab) ∧ CkW w (ckNew w i cc gg u lab) i s gg u lab G (w.heap.size + 4) cc none 0 0 w.heap.size (w.heap.size + 1) (w.heap.size + 2) (w.heap.size + 3) [] [] := by
  have hb : Below w.heap.size w (ckNew w i cc gg u lab) := (((((Below.refl _ _).alloc (Nat.le_refl _) _).alloc (by simp) _).alloc (by simp <;> omega) _).alloc (by simp <;> omega) _).alloc (by simp <;> omega) _
  have hno : ∀ k, i.own k → k < w.heap.size := fun k hk => Nat.lt_of_not_le fun hle => h.tx.other_new hle hk
  refine ⟨hb, h.below hb, Tch.of_below hb, ?_, ?_, ?_, ?_, ?_, ⟨[], World.ownsRow_nil _ _ _ _, fun x hx => by cases hx⟩, ⟨by omega, by omega, by omega, by omega, by omega⟩, ⟨by omega, by omega, by omega, by omega, by omega⟩, hno, h.tx.log.log.lt, h.gp.lt⟩
  · have h0 := Blk.new ((((w.alloc (.map #[] 0)).alloc (.map #[] 0)).alloc (.map #[] 0)).alloc (.map #[] 0)) 233 (ckCells i cc gg u lab none 0 0 w.heap.size (w.heap.size + 1) (w.heap.size + 2) (w.heap.size + 3))
    simp only [World.size_alloc] at h0
    exact h0
  · have h0 := MapR.made w nkv
    refine h0.below (Below.mono ((((((Below.refl _ _).alloc (Nat.le_refl _) _).alloc (by simp) _).alloc (by simp <;> omega) _).alloc (by simp <;> omega) _) : Below (w.alloc (.map #[] 0)).heap.size (w.alloc (.map #[] 0)) (ckNew w i cc gg u lab)) (Nat.le_refl _)) (by simp)
  · have h0 := MapR.made (w.alloc (.map #[] 0)) nkv
    simp only [World.size_alloc] at h0
    exact h0.below (((((Below.refl _ _).alloc (by simp) _).alloc (by simp <;> omega) _).alloc (by simp <;> omega) _) : Below (w.heap.size + 2) ((w.alloc (.map #[] 0)).alloc (.map #[] 0)) (ckNew w i cc gg u lab)) (by omega)
  · have h0 := MapR.made ((w.alloc (.map #[] 0)).alloc (.map #[] 0)) u16k
    simp only [World.size_alloc] at h0
    exact h0.below ((((Below.refl _ _).alloc (by simp) _).alloc (by simp <;> omega) _) : Below (w.heap.size + 3) (((w.alloc (.map #[] 0)).alloc (.map #[] 0)).alloc (.map #[] 0)) (ckNew w i cc gg u lab)) (by omega)
  · have h0 := MapR.made (((w.alloc (.map #[] 0)).alloc (.map #[] 0)).alloc (.map #[] 0)) nkv
    simp only [World.size_alloc] at h0
    exact h0.below (((Below.refl _ _).alloc (by simp) _) : Below (w.heap.size + 4) ((((w.alloc (.map #[] 0)).alloc (.map #[] 0)).alloc (.map #[] 0)).alloc (.map #[] 0)) (ckNew w i cc gg u lab)) (by omega)
section
variable {B : Nat} {w w2 : World} {cc : Nat} {R : List RegV} {K : List MarkV} {tb nb lb : Nat} {A1 A2 A3 : Option Addr} {c1 c2 c3 : Nat}
set_option maxRecDepth 100000 in
set_option maxHeartbeats 8000000 in
theorem fscheck_ok {tf : Nat → Bool} {n : Nat} {s : Sto} {i : Ids} (hin : ConfIn B w2 cc R K tb nb lb A1 A2 A3 c1 c2 c3) (hb : Below w2.heap.size w2 w) (hown : ∀ k, i.own k → w2.heap.size ≤ k) (hx : TxAt w i s) (hI : CkIn R n s tf) (hR : R.length ≤ 5) :
    Calls Tryz.prog 49 #[.pointer (some ⟨i.tt, 0, none⟩), .pointer (some ⟨cc, 0, none⟩)] w fun e w' => ∃ A c, e = .returned (.slice A (flt tf R.length) c) ∧ TxAt w' i s ∧ Tch w.heap.size i.own w w' := by
  have HIN := hide hin
  have HB := hide hb
  have HOWN := hide hown
  have HX := hide hx
  have HI := hide hI
  have HR := hide hR
  have HWI := hide (show (∀ k, w.heap.size ≤ k → ¬ i.own k) ∧ i.ll < w.heap.size from ⟨fun k hk => hx.other_new hk, hx.log.log.lt⟩)
  have hg0 := get_ok (k := 0) hx (by rw [hI.len]; have := hI.facts.ge; omega)
  rw [hI.sup, show ((0 : Nat) : Int) = 0 from rfl] at hg0
  obtain ⟨sb, hsb⟩ : ∃ sb, supB n (sumP R) = sb := ⟨_, rfl⟩
  have HSL := hide (show sb.length = 64 from by rw [← hsb]; exact supTo_len _ _ _)
  have HSU := hide (fun (W : World) (h : Below w2.heap.size w2 W) => super_ok (T := n) (hin.below h) (by omega) hI.facts.tot hI.facts.le)
  rw [hsb] at hg0 HSU
  have HG0 := hide hg0
  obtain ⟨i0, hi0, j1, j2, j3⟩ := info_fault
  have HJ := hide (And.intro hi0 (And.intro j1 (And.intro j2 j3)))
  clear hin hb hown hx hI hR hg0 hsb hi0 j1 j2 j3
  go_enter Tryz.func49, Tryz.ntmps49
  go_wp2_with fail
  refine HG0.out.mono ?_
  rintro e w3 ⟨rfl, hx3, ht3⟩
  have HX3 := hide hx3
  have HT3 := hide (ht3.mono (Nat.le_refl _) (S' := i.own) fun k _ e => .inr (.inr (.inl e)))
  clear hx3 ht3 HX HG0
  go_upto_region 5 with (first | ((with_reducible refine at_alloc 106 ?_); refine wpList_alloc_as rfl 106 rfl _ (zero_block _) ?_) | ((with_reducible refine at_store 106 (.tmp 6) (.tmp 25) ?_); refine wpList_store_blk rfl 106 (.tmp 6) (.tmp 25) rfl w3.heap.size 106 _ _ (by rfl) (by rfl) (Blk.new _ _ _) (size_blockOf HSL.out) ((bvs_size zeroB_length).trans (bvs_size HSL.out).symm) (bvs_oneCell _) (fun _ => ?_)) | fail)
  refine at_world (fun W => ∃ p, p = w3.heap.size ∧ Below w3.heap.size w3 W ∧ Blk W p 106 (bvs sb).toArray) ⟨_, rfl, below_setRow ((Below.refl _ _).alloc (Nat.le_refl _) _) (Nat.le_refl _) _, (Blk.new _ _ _).setRow_same _⟩ (fun w4 h4 => ?_)
  obtain ⟨p, hp, hb4, hP4⟩ := h4
  rw [← hp]
  have HX4 := hide (HX3.out.below hb4)
  have HT4 := hide (HT3.out.trans ((Tch.of_below hb4).mono HT3.out.size fun _ _ h => h))
  have HP4 := hide hP4
  have HB4 := hide (HB.out.trans ((HT4.out.mono HB.out.size (S' := fun _ => False) (fun k hk h => by have := HOWN.out k h; omega)).below fun _ _ h => h))
  clear hp hb4 hP4 HX3 HT3
  refine wp_region_text [0, 0, 0, 0, 0, 1, 0, 0] (fun W => Below w4.heap.size w4 W) (by kernel_rfl) (by kernel_rfl) (Below.refl _ _).drew ?_
  iterate 3 (refine wpOrd_q (v := ?_) (by rfl) (fun W hW => ?_) ?_; rotate_left; (focus (go_simp; try with_reducible rfl)); try simp only [Act.put, List.setIfInBounds_toArray, List.set_cons_zero, List.set_cons_succ])
  refine wpOrd_q (v := .agg (bvs sb).toArray) (by rfl) (fun W hW => exec_load_blk 106 (.tmp 6) rfl p _ (bvs sb).toArray _ rfl (HP4.out.below hW HP4.out.lt) Tryz.underlying106 rfl (size_blockOf HSL.out)) ?_
  try simp only [Act.put, List.setIfInBounds_toArray, List.set_cons_zero, List.set_cons_succ]
  iterate 1 (refine wpOrd_q (v := ?_) (by rfl) (fun W hW => ?_) ?_; rotate_left; (focus (go_simp; try with_reducible rfl)); try simp only [Act.put, List.setIfInBounds_toArray, List.set_cons_zero, List.set_cons_succ])
  refine wpOrd_x (by rfl) (fun KK hKK => ?_)
  go_simp
  refine (HSU.out _ (HB4.out.trans ((Below.refl _ _).drew.mono HB4.out.size))).mono ?_
  rintro e w5 ⟨rfl, hb5⟩
  have HB5 := hide (show Below w4.heap.size w4 w5 from (Below.refl _ _).drew.trans hb5)
  refine hKK _ _ _ (fun _ h => h) HB5.out ?_
  clear hKK KK hb5
  try simp only [Act.put, List.setIfInBounds_toArray, List.set_cons_zero, List.set_cons_succ]
  refine wpOrd_q (v := .bool false) (by rfl) (fun W hW => exec_neq_agg 106 (.tmp 30) (.tmp 32) 106 rfl (bvs sb).toArray (bvs sb).toArray rfl rfl (by kernel_rfl) true ((block_eq W HSL.out HSL.out).trans (by simp))) ?_
  try simp only [Act.put, List.setIfInBounds_toArray, List.set_cons_zero, List.set_cons_succ]
  iterate 1 (refine wpOrd_q (v := ?_) (by rfl) (fun W hW => ?_) ?_; rotate_left; (focus (go_simp; try with_reducible rfl)); try simp only [Act.put, List.setIfInBounds_toArray, List.set_cons_zero, List.set_cons_succ])
  refine wpOrd_nil ?_
  have HX5 := hide (HX4.out.below HB5.out)
  have HT5 := hide (HT4.out.trans ((Tch.of_below HB5.out).mono HT4.out.size fun _ _ h => h))
  have HB25 := hide (HB4.out.trans (HB5.out.mono HB4.out.size))
  clear HX4 HT4 HB4 HB5 HSU HP4 HSL
  go_wp2_with fail
  refine (len_ok (HIN.out.below HB25.out)).mono ?_
  rintro e w_ ⟨rfl, hw_⟩
  have hw_ := hw_.symm
  subst hw_
  go_wp2_with fail
  go_loopg [5, 41] R.length (fun gh x5 x41 wr => ∃ (j : Nat) (A : Option Addr) (c : Nat), j ≤ R.length ∧ gh = R.length - j ∧ x41 = .int .i64 (j : Int) ∧ x5 = .slice A (flt tf j) c ∧ Hid (TxAt wr i s) ∧ Hid (Tch w.heap.size i.own w wr) ∧ Hid (∃ xs, wr.ownsRow w.heap.size 117 3 (.slice A (flt tf j) c) (flt tf j) xs))
  case atStart => exact ⟨0, none, 0, Nat.zero_le _, rfl, rfl, rfl, HX5, HT5, hide ⟨[], World.ownsRow_nil _ _ _ _⟩⟩
  case round =>
    clear HX5 HT5
    obtain ⟨j, A, c, hj, hgh, rfl, rfl, HX, HT, HROW⟩ := hrel
    have HGH := hide hgh
    clear hgh
    rcases Nat.lt_or_ge j R.length with hjl | hjl
    · have hjz : (j : Int) < (R.length : Int) := by omega
      have e64 : IntKind.i64.wrap ((j : Int) + 1) = (j : Int) + 1 := IntWalk.i64_in _ (by have := HR.out; omega)
      obtain ⟨v, r, hv, -, hgo, hval, -, -, g4, g512, n4, n128⟩ := HI.out.facts.geo j hjl
      obtain ⟨G, his, hgok, ho3, htk, ⟨κ, hdir⟩, htab, hbm⟩ := HI.out.grp j v hv
      have hz := HI.out.maps j v hv ((geoN v).base + (geoN v).bitmap - 1) (by omega) (by omega)
      have HBr : Hid (Below w2.heap.size w2 wr) := hide (HB.out.trans ((HT.out.mono HB.out.size (S' := fun _ => False) (fun k hk h => by have := HOWN.out k h; omega)).below fun _ _ h => h))
      have HGE := hide (geo_ok (HIN.out.below HBr.out) hv)
      have HOP := hide (fun (W : World) (h : Below w2.heap.size w2 W) => gopen_yes (tt := i.tt) (HIN.out.below h) hv hval)
      obtain ⟨u, hu⟩ : ∃ u, geoN v = u := ⟨_, rfl⟩
      have hval2 : (Value.agg #[.int .i64 v.base, .int .i64 v.bitmap, .int .i64 v.table, .int .i64 v.data, .int .i64 v.blocks, .int .i64 v.nodes]) = .agg u.cells.toArray := by rw [← hu]; exact hval.symm
      rw [hval2] at HGE
      rw [hu] at HOP hgo g4 g512 n4 n128 his ho3 htk hdir htab hbm hz
      have HGO := hide (And.intro hgo (And.intro his hgok))
      have HN := hide (And.intro g512 (And.intro n4 n128))
      have HO := hide ho3
      have HTK := hide (And.intro htk (And.intro hz hbm))
      have HDIR := hide (show ∃ κ, DirN G u 1 [] κ from ⟨κ, hdir⟩)
      have HTAB := hide htab
      clear hval2 hval hv hu hgo g4 g512 n4 n128 his hgok ho3 htk hdir htab hbm hz r
      go_wp2_with fail
      refine HGE.out.mono ?_
      rintro e w6 ⟨rfl, hb6⟩
      have HX6 := hide (HX.out.below hb6)
      have HT6 := hide (HT.out.trans ((Tch.of_below hb6).mono HT.out.size fun _ _ h => h))
      have HB6 := hide (HBr.out.trans (hb6.mono HBr.out.size))
      have HROW6 : Hid (∃ xs, w6.ownsRow w.heap.size 117 3 (.slice A (flt tf j) c) (flt tf j) xs) := hide (by obtain ⟨xs, hr⟩ := HROW.out; exact ⟨xs, own_below hr hb6⟩)
      clear hb6 HX HT HBr HROW HGE
      go_upto_region 11 with (first | ((with_reducible refine at_alloc 169 ?_); refine wpList_alloc_as rfl 169 rfl _ (zero_geo _) ?_) | ((with_reducible refine at_store 169 (.tmp 9) (.tmp 48) ?_); refine wpList_store_blk rfl 169 (.tmp 9) (.tmp 48) rfl w6.heap.size _ _ _ (by rfl) (by rfl) (Blk.new _ _ _) (size_geo u) rfl (geo_one u) (fun _ => ?_)) | fail)
      refine at_world (fun W => ∃ p, p = w6.heap.size ∧ Below w6.heap.size w6 W ∧ Blk W p 169 u.cells.toArray) ⟨_, rfl, below_setRow ((Below.refl _ _).alloc (Nat.le_refl _) _) (Nat.le_refl _) _, (Blk.new _ _ _).setRow_same _⟩ (fun w7 h7 => ?_)
      obtain ⟨p, hp, hb7, hP7⟩ := h7
      rw [← hp]
      have HX7 := hide (HX6.out.below hb7)
      have HT7 := hide (HT6.out.trans ((Tch.of_below hb7).mono HT6.out.size fun _ _ h => h))
      have HB7 := hide (HB6.out.trans (hb7.mono HB6.out.size))
      have HROW7 : Hid (∃ xs, w7.ownsRow w.heap.size 117 3 (.slice A (flt tf j) c) (flt tf j) xs) := hide (by obtain ⟨xs, hr⟩ := HROW6.out; exact ⟨xs, own_below hr hb7⟩)
      have HP7 := hide hP7
      clear hp hb7 hP7 HX6 HT6 HB6 HROW6
      go_wp2_with fail
      refine (HOP.out w7 HB7.out).mono ?_
      rintro e w8 ⟨gg, rfl, -, hG, hb8⟩
      have HA8 : Hid (GAt w8 i s gg u (j : Int) G) := hide ⟨HX7.out.below hb8, hG, by rw [HI.out.len]; exact HGO.out.1, HGO.out.2.1, HGO.out.2.2⟩
      have HT8 := hide (HT7.out.trans ((Tch.of_below hb8).mono HT7.out.size fun _ _ h => h))
      have HROW8 : Hid (∃ xs, w8.ownsRow w.heap.size 117 3 (.slice A (flt tf j) c) (flt tf j) xs) := hide (by obtain ⟨xs, hr⟩ := HROW7.out; exact ⟨xs, own_below hr hb8⟩)
      have HP8 := hide (HP7.out.below hb8 HP7.out.lt)
      have hbc := fun W => build_ck W i cc gg u (j : Int)
      have HBC := hide hbc
      clear hG hb8 hbc HX7 HT7 HB7 HROW7 HP7 HOP
      have hmm := @run_makeMap Tryz.prog
      go_upto_region 15 with (first | ((with_reducible refine at_load 169 (.tmp 9) ?_); refine wpList_load_blk rfl 169 (.tmp 9) rfl p _ _ _ (by rfl) HP8.out Tryz.underlying169 rfl (size_geo u) ?_) | ((with_reducible refine at_build 233 #[(0, .tmp 65), (1, .tmp 66), (2, .tmp 67), (3, .tmp 68), (4, .tmp 69), (6, .tmp 70), (7, .tmp 71), (8, .tmp 72), (9, .tmp 73)] ?_); refine wpList_run rfl _ (exec_build 233 #[(0, .tmp 65), (1, .tmp 66), (2, .tmp 67), (3, .tmp 68), (4, .tmp 69), (6, .tmp 70), (7, .tmp 71), (8, .tmp 72), (9, .tmp 73)] rfl #[(0, .pointer (some ⟨i.tt, 0, none⟩)), (1, .pointer (some ⟨cc, 0, none⟩)), (2, .pointer (some ⟨gg, 0, none⟩)), (3, .agg u.cells.toArray), (4, .int .i64 (j : Int)), (6, .map (some _)), (7, .map (some _)), (8, .map (some _)), (9, .map (some _))] (by simp only [List.map_toArray, List.map_cons, List.map_nil]; rfl) _ (HBC.out _ _ _ _ _)) ?_) | fail)
      refine at_world (fun W => ∃ kb m1 m2 m3 m4, kb = w8.heap.size + 4 ∧ CkW w8 W i s gg u (j : Int) G kb cc none 0 0 m1 m2 m3 m4 [] []) ⟨_, _, _, _, _, rfl, (ck_new HA8.out).2⟩ (fun w9 h9 => ?_)
      obtain ⟨kb, m1, m2, m3, m4, hkb, hk9⟩ := h9
      rw [show w8.heap.size + 1 + 1 + 1 + 1 = w8.heap.size + 4 from rfl, ← hkb]
      have HK9 := hide hk9
      clear hkb hk9 hmm HBC HP8 HA8
      go_wp2_with fail
      refine (ckread_ok HK9.out HN.out.2.2).mono ?_
      rintro e w10 ⟨rfl, L1, hk10, hn10⟩
      have HK10 := hide hk10
      have HL := hide hn10
      clear hk10 hn10 HK9
      go_wp2_with fail
      refine (ckblocks_ok HK10.out HL.out HO.out.plain HN.out.2.2).mono ?_
      rintro e w11 ⟨rfl, hk11⟩
      have HK11 := hide hk11
      have hst : Calls Tryz.prog 115 #[.pointer (some ⟨kb, 0, none⟩)] w11 fun r w' => r = .returned (.tuple #[]) ∧ ∃ A c, CkW w8 w' i s gg u (j : Int) G kb cc A (if tf j then 0 else 2) c m1 m2 m3 m4 L1 (namesTo 3) := by
        cases htf : tf j with
        | true =>
          obtain ⟨κ, hκ⟩ := HTAB.out htf
          exact ckown_two hk11 HL.out HN.out.2 HO.out.n1 (by have := HO.out.n2; rw [htf] at this; exact this) HO.out.n3 hκ
        | false => exact ckown_gone hk11 HL.out HN.out.2 HO.out.n1 (by have := HO.out.n2; rw [htf] at this; exact this) HO.out.n3
      obtain ⟨q, hq⟩ : ∃ q, (if tf j then 0 else 2) = q := ⟨_, rfl⟩
      rw [hq] at hst
      have HFL := hide (show flt tf (j + 1) = flt tf j + q ∧ flt tf j ≤ 2 * j ∧ q ≤ 2 from ⟨by rw [← hq]; rfl, flt_le tf j, by rw [← hq]; split <;> omega⟩)
      have HST := hide hst
      clear hk11 hst hq HK10
      go_wp2_with fail
      refine HST.out.mono ?_
      rintro e w12 ⟨rfl, D, d, hk12⟩
      have HK12 := hide hk12
      clear hk12 HK11 HST
      obtain ⟨κ, hdir⟩ := HDIR.out
      have HDD := hide (ckdirs_ok HK12.out HL.out HO.out hdir HN.out.2.2)
      clear hdir κ HDIR
      go_wp2_with fail
      refine HDD.out.mono ?_
      rintro e w13 ⟨rfl, hk13⟩
      have HK13 := hide hk13
      clear hk13 HK12 HDD
      go_wp2_with fail
      refine (cklinks_ok HK13.out HL.out HO.out HN.out.2.2).mono ?_
      rintro e w14 ⟨rfl, hk14⟩
      have HK14 := hide hk14
      clear hk14 HK13
      go_wp2_with fail
      refine (ckbitmap_ok HK14.out HTK.out.1 HTK.out.2.1 (by have := HTK.out.2.2; omega) HN.out.1 (by have := HTK.out.2.2; omega)).mono ?_
      rintro e w15 ⟨rfl, hk15⟩
      have HK15 := hide hk15
      obtain ⟨kl, -, -, -, -, -, -, -, -, k10, -⟩ := hk15.cells
      obtain ⟨ys, hy, hyo⟩ := hk15.row
      obtain ⟨xs, hr8⟩ := HROW8.out
      have HR15 := hide (own_tch hr8 hk15.ht HWI.out.1)
      have HY15 := hide (And.intro (Rd.of_own hy) hyo)
      have HWS := hide (show w.heap.size ≤ w15.heap.size from Nat.le_trans HT8.out.size hk15.ht.size)
      clear hk15 hy hyo hr8 HROW8 HK14 HL HO HTK HTAB HGO
      go_wp2_with (first | (at_builtin; refine wpList_append_rd _ rfl (.tmp 88) (.tmp 92) 112 rfl w.heap.size 117 i0 (.agg #[.int .i64 0, .int .i64 0, .int .i64 0]) 3 24 Tryz.underlying112 HJ.out.1 HJ.out.2.1 HJ.out.2.2.1 HJ.out.2.2.2 rfl (by decide) (.slice A (flt tf j) c) (flt tf j) xs (by first | rfl | simp [Act.eval]) HR15.out w15.heap.size D q d ys (by first | rfl | simp [Act.eval]) HY15.out.1 HY15.out.2 (by have := HFL.out; have := HR.out; simp only [maxLen]; omega) (by have := HFL.out; have := HR.out; omega) HWS.out ?_; intro v6 w16 hown6 hg6 _ hat6; obtain ⟨A6, c6, rfl, _, _, _⟩ := own_form hown6; have HG6 := hide (And.intro hown6 hg6); clear hown6 hg6 hat6) | fail)
      go_roundg (R.length - (j + 1))
      case rel =>
        have htg : Tch w15.heap.size (fun g => (Value.slice A (flt tf j) c).ownBlock = some g) w15 w16 := Tch.grown HG6.out.2 (Nat.le_refl _) (fun g hg _ => hg)
        have hge : ∀ g, (Value.slice A (flt tf j) c).ownBlock = some g → w.heap.size ≤ g := fun g hg => (own_block_ge HR15.out hg).1
        refine ⟨j + 1, A6, c6, by omega, rfl, by first | rfl | go_num, by rw [HFL.out.1], ?_, ?_, ?_⟩
        · exact hide (HK15.out.ga.tx.apart htg (fun g hg => ⟨HWI.out.1 g (hge g hg), by have := hge g hg; have := HWI.out.2; omega⟩))
        · exact hide (HT8.out.trans ((HK15.out.ht.mono HT8.out.size fun _ _ h => h).trans (htg.mono HWS.out (fun g hk hg => by have := hge g hg; omega))))
        · rw [HFL.out.1]; exact hide ⟨_, HG6.out.1⟩
      case measure => have := HGH.out; omega
    · have hjz : decide ((j : Int) < (R.length : Int)) = false := by simp; omega
      have hjz' : ¬ (j : Int) < (R.length : Int) := by omega
      have hje : j = R.length := by omega
      subst hje
      go_wp2
      go_returns
      exact ⟨⟨A, c, rfl⟩, HX.out, HT.out⟩
end
end Go.Proofs.YthmkgohfeahdhaaGreat
namespace Go.Proofs.YthmkgohfeahdhaaGreat
open Go.RowKit
set_option linter.unusedSimpArgs false
set_option linter.unusedVariables false

def zckH : List UInt8 := List.replicate 25 0
def zckR : List RegV := szRegs 0 zckH
theorem zck_len : zckR.length = 2 := rfl
theorem zck_bm : ∀ v ∈ geosOf 32 zckR, (geoN v).bitmap = 1 := by decide +kernel
theorem zck_conf (w : World) : Calls Tryz.prog 15 #[.agg (szCells 0 zckH none 0 0)] w fun e w' => ∃ (cc : Nat) (K : List MarkV) (tb nb lb : Nat) (A1 A2 A3 : Option Addr) (c1 c2 c3 : Nat), e = .returned (.pointer (some ⟨cc, 0, none⟩)) ∧ Below w.heap.size w w' ∧ ConfIn w.heap.size w' cc zckR K tb nb lb A1 A2 A3 c1 c2 c3 :=
  (size_conf (w := w) (m := 0) (H := zckH) (A := none) (n := 0) (c := 0) (T := []) rfl (Rd.nil _ _ _ _) (by decide)).mono fun e w' ⟨cc, K, tb, nb, lb, B1, B2, B3, d1, d2, d3, he, hb, hin, _⟩ => ⟨cc, K, tb, nb, lb, B1, B2, B3, d1, d2, d3, he, hb, hin⟩
/-- a disk as it is wanted, but for its first block -/
structure CkPre (R : List RegV) (n : Nat) (s : Sto) (tf : Nat → Bool) : Prop where
  facts : CfFacts R n
  len : s.D.length = n
  maps : MapsZ R s
  grp : ∀ (k : Nat) (v : GeoV), (geosOf 32 R)[k]? = some v → ∃ G : GS, s.Is (geoN v) G ∧ G.Ok ∧ Own3 G (geoN v) (tf k) ∧ (∀ j, j < (geoN v).blocks → G.tk j = false) ∧ (∃ κ, DirN G (geoN v) 1 [] κ) ∧ (tf k = true → ∃ κ, TabN G (geoN v) [] κ) ∧ (geoN v).bitmap = 1
theorem CkPre.sup {R : List RegV} {n : Nat} {s : Sto} {tf : Nat → Bool} (h : CkPre R n s tf) : CkIn R n (s.put 0 (supB n (sumP R))) tf := by
  refine ⟨h.facts, h.len, by rw [Sto.at_put, if_pos rfl], fun k v hv m h1 h2 => ?_, fun k v hv => ?_⟩
  · have := (h.facts.geo_ok hv).base
    rw [Sto.at_put, if_neg (by omega)]
    exact h.maps k v hv m h1 h2
  · obtain ⟨G, his, r⟩ := h.grp k v hv
    have := (h.facts.geo_ok hv).base
    exact ⟨G, his.keep (h.facts.geo_ok hv) (fun m h1 h2 => by rw [Sto.at_put, if_neg (by omega)]), r⟩
theorem CkIn.pre {R : List RegV} {n : Nat} {s : Sto} {tf : Nat → Bool} (h : CkIn R n s tf) : CkPre R n s tf := ⟨h.facts, h.len, h.maps, h.grp⟩
theorem ckfresh_own (u : GeoN) : Own3 GS.fresh u true :=
  ⟨rfl, rfl, rfl, fun k h1 h2 => by
    show (upd (upd (upd GS.none.nd 1 _) 2 _) 3 _ k).kind = 0
    rw [upd_other _ _ (by omega), upd_other _ _ (by omega), upd_other _ _ (by omega)]
    rfl⟩
theorem ckfresh_tab (u : GeoN) (κ : Nat → Nat) : TabN GS.fresh u [] κ := ⟨rfl, by decide, rfl, file_empty κ _ rfl (fresh_slot 1), by decide, fun e he => absurd he (by simp)⟩
theorem ckpre_fresh {R : List RegV} {n : Nat} {D : List BlkV} (hF : CfFacts R n) (hall : AllIs R D (fun _ => GS.fresh)) (hz : MapsZ R ⟨D, [], 0⟩) (hD : D.length = n) (hbm : ∀ v ∈ geosOf 32 R, (geoN v).bitmap = 1) : CkPre R n ⟨D, [], 0⟩ (fun _ => true) :=
  ⟨hF, hD, hz, fun k v hv => ⟨GS.fresh, hall k v hv, GS.fresh_ok, ckfresh_own _, fun _ _ => rfl, ⟨fun _ => 0, fresh_dir _ _⟩, fun _ => ⟨fun _ => 0, ckfresh_tab _ _⟩, hbm v (List.mem_of_getElem? hv)⟩⟩
theorem CkPre.lost {R : List RegV} {n : Nat} {s : Sto} {v0 : GeoV} (h : CkPre R n s (fun _ => true)) (hs : s.Ok) (hv0 : (geosOf 32 R)[0]? = some v0) (h2 : 4 ≤ (geoN v0).nodes) : CkPre R n (s.setNode (geoN v0) 2 NodeV.zero) (fun k => decide (k ≠ 0)) := by
  have hg0 := h.facts.geo_ok hv0
  refine ⟨h.facts, h.len, h.maps.node h.facts hg0 hv0 (q := 1) (by have := hg0.tab; omega), fun k v hv => ?_⟩
  obtain ⟨G, his, hok, ho, ht, ⟨κ, hd⟩, htab, hbm⟩ := h.grp k v hv
  obtain ⟨G0, his0, -⟩ := h.grp 0 v0 hv0
  have hst := is_set (v := NodeV.zero) (num := 2) hs (by rw [h.len]; exact hg0) (by omega) (by omega) rfl his0
  by_cases hk : k = 0
  · subst hk
    rw [hv0] at hv
    cases hv
    have hst' := is_set (v := NodeV.zero) (num := 2) hs (by rw [h.len]; exact hg0) (by omega) (by omega) rfl his
    have e : (G.set 2 NodeV.zero).nd 1 = G.nd 1 := upd_other G.nd (k := 2) (j := 1) NodeV.zero (by decide)
    refine ⟨_, hst'.1, hok.set 2 rfl rfl, ⟨e.trans ho.n1, by rw [if_neg (by decide)]; exact upd_same G.nd 2 NodeV.zero, (upd_other G.nd (k := 2) (j := 3) NodeV.zero (by decide)).trans ho.n3, fun m m1 m2 => ?_⟩, ht, ⟨κ, ⟨by rw [e]; exact hd.kind, by rw [e]; exact hd.links, by rw [e]; exact hd.size, ?_, hd.len, hd.good⟩⟩, fun h => absurd h (by decide), hbm⟩
    · show (upd G.nd 2 NodeV.zero m).kind = 0
      rw [upd_other _ _ (by omega)]
      exact ho.more m m1 m2
    · rw [e]
      exact hd.file.other (fun _ _ => rfl) (fun k hk => (hd.file.tree.own k hk).2)
  · have hd' : decide (k ≠ 0) = true := by simpa using hk
    exact ⟨G, his.far (h.facts.geo_ok hv) hst.2 (h.facts.sep hv0 hv (fun e => hk e.symm)), hok, by rw [hd']; exact ho, ht, ⟨κ, hd⟩, fun _ => htab rfl, hbm⟩
section
variable {B : Nat} {w w2 : World} {cc : Nat} {R : List RegV} {K : List MarkV} {tb nb lb : Nat} {A1 A2 A3 : Option Addr} {c1 c2 c3 : Nat}
set_option maxRecDepth 100000 in
set_option maxHeartbeats 4000000 in
theorem ckright_ok {tf : Nat → Bool} {n q : Nat} {s : Sto} {i : Ids} (hin : ConfIn B w2 cc R K tb nb lb A1 A2 A3 c1 c2 c3) (hb : Below w2.heap.size w2 w) (hown : ∀ k, i.own k → w2.heap.size ≤ k) (hx : TxAt w i s) (hI : CkPre R n s tf) (hR : R.length ≤ 5) (hM : s.M.length < 30) (hq : flt tf R.length = q) :
    Calls Tryz.prog 107 #[.pointer (some ⟨i.tt, 0, none⟩), .pointer (some ⟨cc, 0, none⟩)] w fun e w' => e = .returned (.bool (decide (q = 0))) ∧ TxAt w' i (s.put 0 (supB n (sumP R))) ∧ Tch w.heap.size i.own w w' := by
  have HB := hide hb
  have HX := hide hx
  have HQ : Hid (q ≤ 10) := hide (by have := flt_le tf R.length; omega)
  have HSU := hide (super_ok (T := n) (hin.below hb) (by omega) hI.facts.tot hI.facts.le)
  have HCK := hide (fun (W : World) (h : Below w2.heap.size w2 W) (h' : TxAt W i (s.put 0 (supB n (sumP R)))) => fscheck_ok hin h hown h' hI.sup hR)
  obtain ⟨sb, hsb⟩ : ∃ sb, supB n (sumP R) = sb := ⟨_, rfl⟩
  have hsl : sb.length = 64 := by rw [← hsb]; exact supTo_len _ _ _
  rw [hsb] at HSU HCK ⊢
  rw [hq] at HCK
  have HPU := hide (fun (W : World) (h : TxAt W i s) => put_ok (k := 0) h hsl (by rw [hI.len]; have := hI.facts.ge; omega) (.inl rfl) (.inr hM))
  rw [show ((0 : Nat) : Int) = 0 from rfl] at HPU
  have HOWN := hide hown
  obtain ⟨bz, hbz, hbz'⟩ : ∃ bz, decide (q = 0) = bz ∧ ((q : Int) == 0) = bz := ⟨_, rfl, by by_cases h0 : q = 0 <;> simp [h0]⟩
  rw [hbz]
  clear hin hb hown hx hI hR hM hq hsb hsl
  go_enter Tryz.func107, Tryz.ntmps107
  go_wp2_with fail
  refine HSU.out.mono ?_
  rintro e w3 ⟨rfl, hb3⟩
  have HX3 := hide (HX.out.below hb3)
  have HT3 : Hid (Tch w.heap.size i.own w w3) := hide (Tch.of_below hb3)
  clear hb3 HX HSU
  go_wp2_with fail
  refine (HPU.out w3 HX3.out).mono ?_
  rintro e w4 ⟨rfl, hx4, ht4⟩
  have HX4 := hide hx4
  have HT4 := hide (HT3.out.trans (ht4.mono HT3.out.size (S' := i.own) fun k _ e => .inr (.inl e)))
  have HB4 := hide (HB.out.trans ((HT4.out.mono HB.out.size (S' := fun _ => False) (fun k hk h => by have := HOWN.out k h; omega)).below fun _ _ h => h))
  clear hx4 ht4 HX3 HT3 HPU
  go_wp2_with fail
  refine (HCK.out w4 HB4.out HX4.out).mono ?_
  rintro e w5 ⟨A, c, rfl, hx5, ht5⟩
  have HX5 := hide hx5
  have HT5 := hide (HT4.out.trans (ht5.mono HT4.out.size fun _ _ h => h))
  clear hx5 ht5 HX4 HT4 HB4 HCK
  go_wp2
  go_returns
  exact ⟨rfl, HX5.out, HT5.out⟩
end
set_option maxRecDepth 100000 in
set_option maxHeartbeats 4000000 in
theorem awake14_ok (w : World) : Calls Tryz.prog 44 #[] w fun e w' => e = .returned (.bool true) ∧ Below w.heap.size w w' := by
  go_enter Tryz.func44, Tryz.ntmps44
  go_wp2_with (first | ((with_reducible refine at_build 26 #[] ?_); refine wpList_zero_as rfl 26 rfl _ (build_size _) ?_) | fail)
  refine (zck_conf w).mono ?_
  rintro e w2 ⟨cc, K, tb, nb, lb, B1, B2, B3, d1, d2, d3, rfl, hb2, hin⟩
  obtain ⟨n, hF⟩ := cf_facts hin.ok (by rw [zck_len]; omega)
  obtain ⟨v, r, hv, -, hgo, hval, -, -, -, -, n4, -⟩ := hF.geo 0 (by rw [zck_len]; omega)
  have HFR := hide (fresh_allZ (w := w2) hin hF (by rw [zck_len]; omega))
  have HIN := hide hin
  have HF := hide hF
  have HV := hide (And.intro hv (And.intro hval (And.intro n4 hgo)))
  have HB2 := hide hb2
  clear hin hF hv hgo hval n4 hb2 r
  go_wp2_with fail
  refine HFR.out.mono ?_
  rintro e w3 ⟨i, D, rfl, hx, hDn, hall, hz, hown, hll, hb3⟩
  have HX3 := hide hx
  have HOWN := hide hown
  have HB3 := hide hb3
  have HP3 := hide (ckpre_fresh HF.out hall hz hDn zck_bm)
  have HR1 := hide (ckright_ok (q := 0) HIN.out HB3.out HOWN.out hx HP3.out (by rw [zck_len]; omega) (by simp) rfl)
  clear hx hDn hall hz hown hll hb3 HFR
  go_wp2_with fail
  refine HR1.out.mono ?_
  rintro e w4 ⟨rfl, hx4, ht4⟩
  obtain ⟨s1, hs1⟩ : ∃ s1, Sto.put ⟨D, [], 0⟩ 0 (supB n (sumP zckR)) = s1 := ⟨_, rfl⟩
  have hP4 : CkPre zckR n s1 (fun _ => true) := by rw [← hs1]; exact HP3.out.sup.pre
  have hM1 : s1.M.length ≤ 1 := by rw [← hs1]; exact Sto.put_len _ _ _
  rw [hs1] at hx4
  have HX4 := hide hx4
  have HP4 := hide (And.intro hP4 hM1)
  have HB4 := hide (HB3.out.trans ((ht4.mono HB3.out.size (S' := fun _ => False) (fun k hk h => by have := HOWN.out k h; omega)).below fun _ _ h => h))
  have hgeo := geo_ok (HIN.out.below HB4.out) HV.out.1
  have hlost := hP4.lost hx4.ok HV.out.1 HV.out.2.2.1
  have hwr := fun (W : World) (h : TxAt W i s1) => write_node (num := 2) (n := NodeV.zero) h (by rw [hP4.len]; exact HV.out.2.2.2) (by omega) (by have := HV.out.2.2.1; omega) rfl rfl (node_can (by rw [hP4.len]; exact HV.out.2.2.2) (by omega) (by omega) (by have := HV.out.2.2.1; omega))
  have hM2 : (s1.setNode (geoN v) 2 NodeV.zero).M.length ≤ 2 := by
    unfold Sto.setNode
    have := Sto.put_len s1 ((geoN v).base + (geoN v).bitmap + (2 - 1) / 2) (wrB (s1.at_ ((geoN v).base + (geoN v).bitmap + (2 - 1) / 2)) ((2 - 1) % 2 * 32) (encN NodeV.zero))
    omega
  obtain ⟨u, hu⟩ : ∃ u, geoN v = u := ⟨_, rfl⟩
  have hval2 : (Value.agg #[.int .i64 v.base, .int .i64 v.bitmap, .int .i64 v.table, .int .i64 v.data, .int .i64 v.blocks, .int .i64 v.nodes]) = .agg u.cells.toArray := by rw [← hu]; exact HV.out.2.1.symm
  rw [hval2, show ((0 : Nat) : Int) = 0 from rfl] at hgeo
  rw [hu] at hlost hM2 hwr
  generalize s1.setNode u 2 NodeV.zero = s2 at hlost hM2 hwr
  rw [show ((2 : Nat) : Int) = 2 from rfl] at hwr
  have HGE := hide hgeo
  have HLO := hide (And.intro hlost hM2)
  have HWR := hide hwr
  clear hx4 ht4 hs1 hP4 hM1 hgeo hlost hM2 hwr hval2 hu HR1 HP3 HX3 HB3 HP4
  go_wp2_with fail
  refine HGE.out.mono ?_
  rintro e w5 ⟨rfl, hb5⟩
  have HX5 := hide (HX4.out.below hb5)
  have HB5 := hide (HB4.out.trans (hb5.mono HB4.out.size))
  clear hb5 HGE HX4 HB4
  go_upto_region 5 with (first | ((with_reducible refine at_alloc 169 ?_); refine wpList_alloc_as rfl 169 rfl _ (zero_geo _) ?_) | ((with_reducible refine at_store 169 (.tmp 6) (.tmp 22) ?_); refine wpList_store_blk rfl 169 (.tmp 6) (.tmp 22) rfl w5.heap.size _ _ _ (by rfl) (by rfl) (Blk.new _ _ _) (size_geo u) rfl (geo_one u) (fun _ => ?_)) | fail)
  refine at_world (fun W => ∃ p, p = w5.heap.size ∧ Below w5.heap.size w5 W ∧ Blk W p 169 u.cells.toArray) ⟨_, rfl, below_setRow ((Below.refl _ _).alloc (Nat.le_refl _) _) (Nat.le_refl _) _, (Blk.new _ _ _).setRow_same _⟩ (fun w6 h6 => ?_)
  obtain ⟨p, hp, hb6, hP6⟩ := h6
  rw [← hp]
  have HX6 := hide (HX5.out.below hb6)
  have HB6 := hide (HB5.out.trans (hb6.mono HB5.out.size))
  have HP6 := hide hP6
  clear hp hb6 hP6 HX5 HB5
  go_wp2_with (first | ((with_reducible refine at_load 169 (.tmp 6) ?_); refine wpList_load_blk rfl 169 (.tmp 6) rfl p _ _ _ (by rfl) HP6.out Tryz.underlying169 rfl (size_geo u) ?_) | ((with_reducible refine at_build 130 #[] ?_); refine wpList_zero_as rfl 130 rfl _ (build_node _) ?_) | fail)
  refine (HWR.out w6 HX6.out).mono ?_
  rintro e w7 ⟨rfl, hx7, ht7⟩
  have HB7 := hide (HB6.out.trans ((ht7.mono HB6.out.size (S' := fun _ => False) (fun k hk h => by have := HOWN.out k h; omega)).below fun _ _ h => h))
  have HR2 := hide (ckright_ok (q := 2) HIN.out HB7.out HOWN.out hx7 HLO.out.1 (by rw [zck_len]; omega) (by have := HLO.out.2; omega) rfl)
  clear hx7 ht7 HWR HX6 HB6
  go_wp2_with fail
  refine HR2.out.mono ?_
  rintro e w8 ⟨rfl, hx8, ht8⟩
  have HB8 := hide (HB2.out.trans ((HB7.out.trans ((ht8.mono HB7.out.size (S' := fun _ => False) (fun k hk h => by have := HOWN.out k h; omega)).below fun _ _ h => h)).mono HB2.out.size))
  clear hx8 ht8
  go_wp2
  go_returns
  exact ⟨rfl, HB8.out⟩
end Go.Proofs.YthmkgohfeahdhaaGreat
namespace Go.Proofs.YthmkgohfeahdhaaGreat
open Go.RowKit Go.WideMaps
set_option linter.unusedSimpArgs false
set_option linter.unusedVariables false

theorem info_rgeo : (Tryz.prog.info? 224).map (fun i => (i.zero, i.size, i.bytes)) = some (some (.agg #[.int .i64 0, .int .i64 0, .int .i64 0, .int .i64 0, .int .i64 0, .int .i64 0]), 6, 48) := by kernel_rfl
theorem rd_regc {w : World} {B n : Nat} {A : Option Addr} {R : List RegV} (h : Rd w B 9 A n (rcellsOf R)) (hn : 0 < n) :
    ∃ b o, A = some ⟨b, o, none⟩ ∧ b < B ∧ ∀ k r, R[k]? = some r → ∀ j v, r.cells[j]? = some v → w.cell? ⟨b, o + (k * 9 + j), none⟩ = some v := by
  obtain ⟨b, o, hA, hb, hc⟩ := h.2 hn
  exact ⟨b, o, hA, hb, fun k r hr j v hv => hc _ _ (flat_get RegV.cells 9 (fun _ => rfl) R k r hr j v hv)⟩
section
variable {A : Option Addr} {cA : Nat} {R : List RegV} {w : World}
set_option maxRecDepth 100000 in
set_option maxHeartbeats 2000000 in
theorem rgeos_ok (hr : Rd w w.heap.size 9 A R.length (rcellsOf R)) (hok : ∀ r ∈ R, okReg r) (hl : R.length ≤ 64) :
    Calls Tryz.prog 46 #[.slice A R.length cA] w fun e w' => ∃ A' c', e = .returned (.tuple #[.slice A' R.length c', .int .i64 (totalOf 32 R)]) ∧ Below w.heap.size w w' ∧
      w'.ownsRow w.heap.size 224 6 (.slice A' R.length c') R.length (gcellsOf (geosOf 32 R)) := by
  go_enter Tryz.func46, Tryz.ntmps46
  refine at_world (fun W => W = w) rfl (fun w0 e0 => ?_)
  subst e0
  go_wp2_with fail
  go_loopg [4, 5, 6] R.length (fun g x4 x5 x6 wr => ∃ (i : Nat) (A' : Option Addr) (c' : Nat), i ≤ R.length ∧ g = R.length - i ∧ x4 = .int .i64 (totalOf 32 (R.take i)) ∧ x5 = .slice A' i c' ∧ x6 = .int .i64 (i : Int) ∧ Below w0.heap.size w0 wr ∧
    Hid (wr.ownsRow w0.heap.size 224 6 (.slice A' i c') i (gcellsOf (geosOf 32 (R.take i)))))
  case atStart => exact ⟨0, none, 0, Nat.zero_le _, rfl, rfl, rfl, rfl, Below.refl _ _, hide ⟨rfl, .inl ⟨rfl, rfl⟩⟩⟩
  case round =>
    obtain ⟨i, A', c', hi, hg, rfl, rfl, rfl, hbr, ho⟩ := hrel
    rcases Nat.lt_or_ge i R.length with hiR | hiR
    · have hiz : (i : Int) < R.length := by omega
      obtain ⟨r, hri⟩ : ∃ r, R[i]? = some r := ⟨_, List.getElem?_eq_getElem hiR⟩
      have hrb := (hok r (List.mem_of_getElem? hri)).2
      have htb := total_bounds (R := R.take i) (fun x hx => hok x (List.mem_of_mem_take hx)) 32 (by omega)
      have htl : ((R.take i).length : Int) ≤ 64 := by rw [List.length_take]; omega
      have hnx := total_take 32 R hri
      have hgs : geosOf 32 (R.take (i + 1)) = geosOf 32 (R.take i) ++ [geoOf (totalOf 32 (R.take i)) r] := by rw [List.take_add_one, hri]; exact geosOf_snoc 32 _ r
      obtain ⟨b, o, hA, hb, hc⟩ := rd_regc hr (by omega)
      have y3 := (hbr.cell (p := ⟨b, o + (i * 9 + 3), none⟩) hb).trans (hc i r hri 3 _ rfl)
      have y4 := (hbr.cell (p := ⟨b, o + (i * 9 + 4), none⟩) hb).trans (hc i r hri 4 _ rfl)
      simp only [← Nat.add_assoc] at y3 y4
      have hbl := Nat.lt_of_lt_of_le hb hbr.size
      have HNX := hide hnx
      have HGS := hide hgs
      have BR := hide hbr
      subst hA
      generalize hat : totalOf 32 (R.take i) = at_ at *
      have HAT := hide hat
      clear hnx hgs hc hri hbr hat
      go_wp2
      refine wp_region_text [0, 0, 0, 0, 0, 0, 0, 0, 0, 0, 0, 0, 1, 1] (Below wr.heap.size wr) (by kernel_rfl) (by kernel_rfl) (Below.refl _ _).drew ?_
      iterate 12 (refine wpOrd_q (v := ?_) (by rfl) (fun W hW => ?_) ?_; rotate_left; (focus ((obtain ⟨hWc, hWf⟩ := bcell hW); go_simp; try with_reducible rfl)); try simp only [Act.put, List.setIfInBounds_toArray, List.set_cons_zero, List.set_cons_succ])
      refine wpOrd_x (by rfl) (fun K hK => ?_)
      go_simp
      refine hK (Below wr.heap.size wr) _ _ (fun _ h => h) ((Below.refl _ _).alloc (Nat.le_refl _) _).drew ?_
      clear hK K
      try simp only [Act.put, List.setIfInBounds_toArray, List.set_cons_zero, List.set_cons_succ]
      refine at_world (fun W => ∃ g7, g7 = wr.heap.size ∧ Below wr.heap.size wr W ∧ Blk W g7 224 #[.int .i64 0, .int .i64 0, .int .i64 0, .int .i64 0, .int .i64 0, .int .i64 0]) ⟨_, rfl, ((Below.refl _ _).alloc (Nat.le_refl _) _).drew, (Blk.new wr _ _).drew⟩ (fun w4 h4 => ?_)
      obtain ⟨g7, e7, hb4, k4⟩ := h4
      rw [← e7]
      have E7 := hide e7
      have hg7 : wr.heap.size ≤ g7 := by omega
      have hb4' : Below g7 wr w4 := by rw [e7]; exact hb4
      clear e7
      refine wpOrd_x (by rfl) (fun K hK => ?_)
      refine wp_store_row 224 (.tmp 7) (.tmp 25) (by rfl) g7 #[.int .i64 at_, .int .i64 0, .int .i64 0, .int .i64 0, .int .i64 r.blocks, .int .i64 r.nodes] (by rfl) (by rfl) 224 _ k4 (by kernel_rfl) (by rfl) (by simp [Value.oneCell']) ?_
      refine hK (Below g7 wr) _ _ (fun _ h => h) (below_setRow hb4' (Nat.le_refl _) _) ?_
      clear hK K
      try simp only [Act.put, List.setIfInBounds_toArray, List.set_cons_zero, List.set_cons_succ]
      refine wpOrd_nil ?_
      refine at_world (fun W => Below wr.heap.size wr W ∧ Blk W g7 224 #[.int .i64 at_, .int .i64 0, .int .i64 0, .int .i64 0, .int .i64 r.blocks, .int .i64 r.nodes]) ⟨below_setRow hb4 hg7 _, setRow_heap _ _ _ _ _ _ k4⟩ (fun w5 h5 => ?_)
      obtain ⟨hb5, k5⟩ := h5
      have B5 := hide (BR.out.trans (hb5.mono BR.out.size))
      have hg70 : w0.heap.size ≤ g7 := Nat.le_trans BR.out.size hg7
      have hown5 := hide (own_below ho.out hb5)
      have hnob : Hid ((Value.slice A' i c').ownBlock ≠ some g7) := hide fun e => by have := (own_block_ge ho.out e).2; omega
      have K5 := hide k5
      clear y3 y4 hbl hb4 k4 hb5 k5 hg7
      obtain ⟨BM, hBM⟩ : ∃ BM : Nat, (BM : Int) = (r.blocks + 511) / 512 := ⟨_, Int.toNat_of_nonneg (by omega)⟩
      obtain ⟨TM, hTM⟩ : ∃ TM : Nat, (TM : Int) = (r.nodes * 32 + 63) / 64 := ⟨_, Int.toNat_of_nonneg (by omega)⟩
      go_wp2_with fail
      go_loopg [26] BM (fun g x26 wr => ∃ bm : Nat, bm ≤ BM ∧ g = BM - bm ∧ Below w5.heap.size w5 w5 ∧ Below w0.heap.size w0 wr ∧ Blk wr g7 224 #[.int .i64 at_, .int .i64 (bm : Int), .int .i64 0, .int .i64 0, .int .i64 r.blocks, .int .i64 r.nodes] ∧ Hid (wr.ownsRow w0.heap.size 224 6 (.slice A' i c') i (gcellsOf (geosOf 32 (R.take i)))))
      case atStart => exact ⟨0, Nat.zero_le _, rfl, Below.refl _ _, B5.out, K5.out, hown5⟩
      case round =>
        obtain ⟨bm, hbm, hg2, _, hb6, k6, o6⟩ := hrel
        have c1 := k6.cell 1
        have c4 := k6.cell 4
        have f1 := k6.frozen 1
        have l6 := k6.lt
        have HB6 := hide hb6
        have K6 := hide k6
        clear hb6 k6
        rcases Nat.lt_or_ge bm BM with hlt | hge
        · have t1 : decide ((bm : Int) * 64 * 8 < r.blocks) = true := decide_eq_true (by omega)
          have t2 : (bm : Int) * 64 * 8 < r.blocks := by omega
          go_wp2
          go_roundg (BM - (bm + 1))
          case measure => omega
          case rel => exact ⟨bm + 1, by omega, rfl, Below.refl _ _, HB6.out.setCell hg70 _, by simpa using K6.out.set_ 1 (.int .i64 ((bm : Int) + 1)), hide (ownsRow_setCell_other (a := ⟨g7, 1, none⟩) o6.out hnob.out _)⟩
        · have t1 : decide ((bm : Int) * 64 * 8 < r.blocks) = false := decide_eq_false (by omega)
          have t2 : ¬ (bm : Int) * 64 * 8 < r.blocks := by omega
          go_wp2_with fail
          obtain rfl : bm = BM := by omega
          clear c1 c4 f1 l6 t1 t2
          go_loopg [37] TM (fun g x37 wr => ∃ tm : Nat, tm ≤ TM ∧ g = TM - tm ∧ Below w0.heap.size w0 wr ∧ Blk wr g7 224 #[.int .i64 at_, .int .i64 (bm : Int), .int .i64 (tm : Int), .int .i64 0, .int .i64 r.blocks, .int .i64 r.nodes] ∧ Hid (wr.ownsRow w0.heap.size 224 6 (.slice A' i c') i (gcellsOf (geosOf 32 (R.take i)))))
          case atStart => exact ⟨0, Nat.zero_le _, rfl, HB6.out, K6.out, o6⟩
          case round =>
            obtain ⟨tm, htm, hg3, hb7, k7, o7⟩ := hrel
            have c1 := k7.cell 1
            have c2 := k7.cell 2
            have c4 := k7.cell 4
            have c5 := k7.cell 5
            have f2 := k7.frozen 2
            have f3 := k7.frozen 3
            have l7 := k7.lt
            have HB7 := hide hb7
            have K7 := hide k7
            rcases Nat.lt_or_ge tm TM with hlt2 | hge2
            · have t1 : decide ((tm : Int) * 64 < r.nodes * 32) = true := decide_eq_true (by omega)
              have t2 : (tm : Int) * 64 < r.nodes * 32 := by omega
              clear hb7 k7
              go_wp2
              go_roundg (TM - (tm + 1))
              case measure => omega
              case rel => exact ⟨tm + 1, by omega, rfl, HB7.out.setCell hg70 _, by simpa using K7.out.set_ 2 (.int .i64 ((tm : Int) + 1)), hide (ownsRow_setCell_other (a := ⟨g7, 2, none⟩) o7.out hnob.out _)⟩
            · have t1 : decide ((tm : Int) * 64 < r.nodes * 32) = false := decide_eq_false (by omega)
              have t2 : ¬ (tm : Int) * 64 < r.nodes * 32 := by omega
              have c0 := k7.cell 0
              have c3 := k7.cell 3
              have e1 : IntKind.i64.wrap (at_ + (bm : Int)) = at_ + (bm : Int) := IntWalk.i64_in _ (by omega)
              have e2 : IntKind.i64.wrap (at_ + (bm : Int) + (tm : Int)) = at_ + (bm : Int) + (tm : Int) := IntWalk.i64_in _ (by omega)
              have e3 : IntKind.i64.wrap (at_ + (bm : Int) + (tm : Int) + r.blocks) = at_ + (bm : Int) + (tm : Int) + r.blocks := IntWalk.i64_in _ (by omega)
              obtain rfl : tm = TM := by omega
              have e0 : wrap64 ((tm : Int) * 64) = (tm : Int) * 64 := IntWalk.wrap64_in _ (by omega)
              have hsz := HB7.out.size
              have W9 := hide (ownsRow_setCell_other (a := ⟨g7, 3, none⟩) o7.out hnob.out (.int .i64 (at_ + (bm : Int) + (tm : Int))))
              have hi6 : i ≤ 1000000 := by omega
              obtain ⟨r0, hr0, r1, r2, r3⟩ := info_parts info_rgeo
              have HM := hide (And.intro hBM hTM)
              clear hb7 k7 hBM hTM
              go_wp2_with (at_builtin; refine wpList_append_one rfl (.tmp 61) (.tmp 63) 102 rfl w0.heap.size 224 r0 (.agg #[.int .i64 0, .int .i64 0, .int .i64 0, .int .i64 0, .int .i64 0, .int .i64 0]) 6 48 Tryz.underlying102 hr0 r1 r2 r3 rfl (by decide) A' c' i (gcellsOf (geosOf 32 (R.take i))) [.int .i64 at_, .int .i64 (bm : Int), .int .i64 (tm : Int), .int .i64 (at_ + (bm : Int) + (tm : Int)), .int .i64 r.blocks, .int .i64 r.nodes] (wr.setCell ⟨g7, 3, none⟩ (.int .i64 (at_ + (bm : Int) + (tm : Int)))) rfl W9.out (by simp [World.setCell]) (by simp [Act.eval]) rfl (by simp [Value.oneCell']) hi6 (by decide) (by simp [World.setCell]; exact hsz) ?_; intro A2 c2' w9 hown hg9 hb9 hat9)
              have hdat : (geoOf at_ r).data = at_ + (bm : Int) + (tm : Int) := by rw [HM.out.1, HM.out.2]; rfl
              have hgc : (geoOf at_ r).cells = [.int .i64 at_, .int .i64 (bm : Int), .int .i64 (tm : Int), .int .i64 (at_ + (bm : Int) + (tm : Int)), .int .i64 r.blocks, .int .i64 r.nodes] := by
                rw [← hdat, HM.out.1, HM.out.2]; rfl
              go_roundg (R.length - (i + 1))
              case measure => omega
              case rel =>
                refine ⟨i + 1, A2, c2', by omega, rfl, ?_, rfl, by go_num, (HB7.out.setCell hg70 _).trans hb9, hide ?_⟩
                · rw [HNX.out, ← hdat]; rfl
                · rw [HGS.out, gcellsOf_snoc, hgc]; exact hown
    · obtain rfl : i = R.length := by omega
      rw [List.take_length] at ho ⊢
      go_wp2
      go_returns
      exact ⟨A', c', rfl, hbr, ho.out⟩
end
end Go.Proofs.YthmkgohfeahdhaaGreat
namespace Go.Proofs.YthmkgohfeahdhaaGreat
open Go.RowKit Go.WideMaps
set_option linter.unusedSimpArgs false
set_option linter.unusedVariables false

section
variable {A : Option Addr} {cA : Nat} {R : List RegV} {w : World}
set_option maxRecDepth 100000 in
set_option maxHeartbeats 2000000 in
theorem rsum_ok (hr : Rd w w.heap.size 9 A R.length (rcellsOf R)) (hok : ∀ r ∈ R, okReg r) (hl : R.length ≤ 64) :
    Calls Tryz.prog 48 #[.slice A R.length cA] w fun e w' => e = .returned (.int .u32 ((sumP R : Nat) : Int)) ∧ Below w.heap.size w w' := by
  have hG : (geosOf 32 R).length = R.length := geosOf_length 32 R
  have hS : ∀ i g, (geosOf 32 R)[i]? = some g → GeoS g := fun i g hg => geoS_at hok hl hg
  have hgeo := rgeos_ok (cA := cA) hr hok hl
  have HSUM : Hid (sumP R = sumG 2166136261 (geosOf 32 R)) := hide rfl
  go_enter Tryz.func48, Tryz.ntmps48
  refine at_world (fun W => W = w) rfl (fun w0 e0 => ?_)
  subst e0
  go_wp2_with fail
  refine hgeo.mono ?_
  rintro e w1 ⟨A', c', rfl, hb1, ho⟩
  clear hgeo hr hok
  generalize totalOf 32 R = tot at *
  generalize geosOf 32 R = G at *
  rw [← hG] at ho
  have hcell : ∀ i g, G[i]? = some g → ∃ b, A' = some ⟨b, 0, none⟩ ∧ b < w1.heap.size ∧ ∀ j v, g.cells[j]? = some v → w1.cell? ⟨b, i * 6 + j, none⟩ = some v := fun i g hg => by
    obtain ⟨b, hA, _, hbl, hc⟩ := own_base ho (by have := (List.getElem?_eq_some_iff.1 hg).1; omega)
    exact ⟨b, hA, hbl, fun j v hv => hc _ _ (flat_get GeoV.cells 6 (fun _ => rfl) G i g hg j v hv)⟩
  rw [← hG]
  rw [← hG] at hl
  have HB1 := hide hb1
  clear hG ho hb1
  go_wp2_with fail
  go_loopg [5, 6] G.length (fun g x5 x6 wr => ∃ i : Nat, i ≤ G.length ∧ g = G.length - i ∧ x5 = .int .u64 ((sumG 2166136261 (G.take i) : Nat) : Int) ∧ x6 = .int .i64 (i : Int) ∧ Below w1.heap.size w1 wr)
  case atStart => exact ⟨0, Nat.zero_le _, rfl, rfl, rfl, Below.refl _ _⟩
  case round =>
    obtain ⟨i, hi, hg, rfl, rfl, hbr⟩ := hrel
    rcases Nat.lt_or_ge i G.length with hiG | hiG
    · have hiz : (i : Int) < G.length := by omega
      obtain ⟨g, hgi⟩ : ∃ g, G[i]? = some g := ⟨_, List.getElem?_eq_getElem hiG⟩
      obtain ⟨b, hA, hbl, hcc⟩ := hcell i g hgi
      have hs := hS i g hgi
      have y0 := (hbr.cell (p := ⟨b, i * 6 + 0, none⟩) hbl).trans (hcc 0 _ rfl)
      have y4 := (hbr.cell (p := ⟨b, i * 6 + 4, none⟩) hbl).trans (hcc 4 _ rfl)
      have y5 := (hbr.cell (p := ⟨b, i * 6 + 5, none⟩) hbl).trans (hcc 5 _ rfl)
      simp only [Nat.add_zero] at y0
      have hblr := Nat.lt_of_lt_of_le hbl hbr.size
      have hn0 := sumG_lt (G.take i) 2166136261 (by decide)
      have htk : sumG 2166136261 (G.take (i + 1)) = (geoNs g).foldl sumStep (sumG 2166136261 (G.take i)) := by rw [List.take_add_one, hgi]; exact sumG_snoc _ _ _
      have HTK := hide htk
      generalize sumG 2166136261 (G.take i) = n0 at *
      subst hA
      have BB := hide hbr
      clear hcc hgi htk hbr
      go_wp2
      refine wp_region_text [0, 0, 0, 0, 0, 0, 0, 0, 0, 0, 0, 0, 0, 0, 0, 1, 0] (Below wr.heap.size wr) (by kernel_rfl) (by kernel_rfl) (Below.refl _ _).drew ?_
      iterate 15 (refine wpOrd_q (v := ?_) (by rfl) (fun W hW => ?_) ?_; rotate_left; (focus ((obtain ⟨hWc, hWf⟩ := bcell hW); go_simp; try with_reducible rfl)); try simp only [Act.put, List.setIfInBounds_toArray, List.set_cons_zero, List.set_cons_succ])
      refine wpOrd_x (by rfl) (fun K hK => ?_)
      go_simp
      refine hK (Below wr.heap.size wr) _ _ (fun _ h => h) ((Below.refl _ _).alloc (Nat.le_refl _) _).drew ?_
      clear hK K
      try simp only [Act.put, List.setIfInBounds_toArray, List.set_cons_zero, List.set_cons_succ]
      iterate 1 (refine wpOrd_q (v := ?_) (by rfl) (fun W hW => ?_) ?_; rotate_left; (focus (go_simp; try with_reducible rfl)); try simp only [Act.put, List.setIfInBounds_toArray, List.set_cons_zero, List.set_cons_succ])
      refine wpOrd_nil ?_
      refine at_world (fun W => ∃ g21, g21 = wr.heap.size ∧ Below wr.heap.size wr W ∧ g21 < W.heap.size ∧ ∀ j, j < 3 → W.cell? ⟨g21, j, none⟩ = some (.int .i64 (((geoNs g).getD j 0 : Nat) : Int))) ?_ (fun w5 h5 => ?_)
      · refine ⟨_, rfl, ((Below.refl _ _).alloc (Nat.le_refl _) _).drew, by simp, fun j hj => ?_⟩
        have e0 := Int.toNat_of_nonneg hs.b0
        have e1 := Int.toNat_of_nonneg hs.l0
        have e2 := Int.toNat_of_nonneg hs.n0
        have hc9 := fun j => (Blk.new wr 3 #[.int .i64 g.base, .int .i64 g.blocks, .int .i64 g.nodes]).drew.cell j
        match j, hj with
        | 0, _ => exact (hc9 0).trans (by simp [geoNs, e0])
        | 1, _ => exact (hc9 1).trans (by simp [geoNs, e1])
        | 2, _ => exact (hc9 2).trans (by simp [geoNs, e2])
      obtain ⟨g21, e21, hb5, hl21, hc21⟩ := h5
      rw [← e21]
      have hxs : ∀ j, j < 3 → (geoNs g).getD j 0 < 2147483648 := fun j hj => by
        have := hs.b0; have := hs.b1; have := hs.l0; have := hs.l1; have := hs.n0; have := hs.n1
        match j, hj with
        | 0, _ => simp [geoNs]; omega
        | 1, _ => simp [geoNs]; omega
        | 2, _ => simp [geoNs]; omega
      have hx3 : (geoNs g).length = 3 := rfl
      generalize geoNs g = xs at *
      have B5 := hide (BB.out.trans (hb5.mono BB.out.size))
      clear e21 hb5 y0 y4 y5 hs
      go_wp2_with fail
      go_loopg [5, 8] 3 (fun gg x5 x8 wr => wr = w5 ∧ ∃ j : Nat, j ≤ 3 ∧ gg = 3 - j ∧ x5 = .int .u64 (((xs.take j).foldl sumStep n0 : Nat) : Int) ∧ x8 = .int .i64 (j : Int))
      case atStart => exact ⟨rfl, 0, by omega, rfl, rfl, rfl⟩
      case round =>
        obtain ⟨rfl, j, hj, hg2, rfl, rfl⟩ := hrel
        rcases Nat.lt_or_ge j 3 with hj3 | hj3
        · have hjz : (j : Int) < 3 := by omega
          have jc := hc21 j hj3
          have hx := hxs j hj3
          have hnj := foldS_lt (xs.take j) n0 hn0
          have hst : (xs.take (j + 1)).foldl sumStep n0 = sumStep ((xs.take j).foldl sumStep n0) (xs.getD j 0) := by
            have hjx : j < xs.length := by omega
            rw [List.take_add_one, List.getElem?_eq_getElem hjx, Option.toList_some, List.foldl_append, List.getD_eq_getElem?_getD, List.getElem?_eq_getElem hjx, List.foldl_cons, List.foldl_nil, Option.getD_some]
          generalize xs.getD j 0 = x at *
          generalize (xs.take j).foldl sumStep n0 = nj at *
          have e1 : IntKind.u64.wrap (x : Int) = (x : Int) := by rw [IntKind.wrap_u64]; omega
          have e2 : bits .xor .u64 (nj : Int) (x : Int) = ((nj ^^^ x : Nat) : Int) := u64_xor_nat nj x (by omega) (by omega)
          obtain ⟨z, hz⟩ : ∃ z, z = nj ^^^ x := ⟨_, rfl⟩
          have hzl := xor_lt32 hnj (show x < 4294967296 by omega)
          rw [← hz] at hzl
          obtain ⟨s, hsz⟩ : ∃ s, s = sumStep nj x := ⟨_, rfl⟩
          obtain ⟨pz, hpz⟩ : ∃ pz : Nat, pz = z * 16777619 := ⟨_, rfl⟩
          have e3 : IntKind.u64.wrap ((z : Int) * 16777619) = (pz : Int) := by rw [IntKind.wrap_u64]; omega
          have e4 : (pz : Int).tmod 4294967296 = (s : Int) := by rw [IntWalk.rem_in _ _ (by omega), hsz, sumStep_eq, ← hz]; omega
          rw [← hz] at e2
          rw [← hsz] at hst
          have HST := hide hst
          clear hst hz hsz hpz hc21 hxs
          go_wp2
          go_roundg (3 - (j + 1))
          case measure => omega
          case rel => exact ⟨rfl, j + 1, by omega, rfl, by rw [HST.out], by go_num⟩
        · obtain rfl : j = 3 := by omega
          rw [show xs.take 3 = xs by rw [← hx3]; exact List.take_length, ← HTK.out]
          clear hc21 hxs
          go_wp2
          go_roundg (G.length - (i + 1))
          case measure => omega
          case rel => exact ⟨i + 1, by omega, rfl, rfl, by go_num, B5.out⟩
    · obtain rfl : i = G.length := by omega
      have hlt := sumG_lt (G.take G.length) 2166136261 (by decide)
      rw [List.take_length, ← HSUM.out] at hlt ⊢
      have e1 : IntKind.u32.wrap ((sumP R : Nat) : Int) = ((sumP R : Nat) : Int) := by rw [IntKind.wrap_u32]; omega
      clear hcell hS
      obtain ⟨sp, hsp⟩ : ∃ sp, sp = sumP R := ⟨_, rfl⟩
      rw [← hsp] at hlt e1 ⊢
      have HSP := hide hsp
      clear hsp
      go_wp2
      go_returns
      exact ⟨by rw [← HSP.out]; rfl, HB1.out.trans (hbr.mono HB1.out.size)⟩
end
end Go.Proofs.YthmkgohfeahdhaaGreat
namespace Go.Proofs.YthmkgohfeahdhaaGreat
open Go.RowKit
set_option linter.unusedSimpArgs false
set_option linter.unusedVariables false

theorem szregs_ok (m : UInt8) (H : List UInt8) : ∀ r ∈ szRegs m H, okReg r := fun r hr => by
  obtain ⟨i, -, rfl⟩ := List.mem_map.1 hr
  refine ⟨sz_name i, ?_, ?_, ?_, ?_⟩
  · show (4 : Int) ≤ 8 + ((H.getD (5 * i) 0).toNat : Int) % 60
    omega
  · show 8 + ((H.getD (5 * i) 0).toNat : Int) % 60 ≤ 512
    omega
  · show (4 : Int) ≤ 8 + 2 * (((H.getD (5 * i + 1) 0).toNat : Int) % 12)
    omega
  · show 8 + 2 * (((H.getD (5 * i + 1) 0).toNat : Int) % 12) ≤ 128
    omega
theorem pow_next (x k : Nat) : x / 2 ^ (8 * (k + 1)) = x / 2 ^ (8 * k) / 256 := by
  rw [Nat.div_div_eq_div_mul, show 8 * (k + 1) = 8 * k + 8 from by omega, Nat.pow_add]
section
variable {w : World} {m : UInt8} {H : List UInt8} {A : Option Addr} {n c : Nat} {T : List UInt8}
set_option maxRecDepth 100000 in
set_option maxHeartbeats 6000000 in
theorem fssuper_all (hH : H.length = 25) (hT : Rd w w.heap.size 1 A n (bvs T)) (hnm : n ≤ 9223372036854775807) :
    Calls Tryz.prog 6 #[.agg (szCells m H A n c)] w fun e w' => e = .returned (.bool true) ∧ Below w.heap.size w w' := by
  have hsz : (szCells m H A n c).size = 27 := szCells_size hH
  go_enter Tryz.func6, Tryz.ntmps6
  go_upto_region 1 with (fail)
  refine at_world (fun W => ∃ bx, bx = w.heap.size ∧ Below w.heap.size w W ∧ Blk W bx 26 (szCells m H A n c)) ⟨_, rfl, (Below.refl _ _).alloc (Nat.le_refl _) _, Blk.new _ _ _⟩ (fun w1 h1 => ?_)
  obtain ⟨bx, hbx, hb1, hX1⟩ := h1
  rw [← hbx]
  have hS : ((Tryz.prog.info? 26).map (·.size)) = some (szCells m H A n c).size := by rw [hsz]; kernel_rfl
  have HS := hide hS
  have HB1 := hide hb1
  have HX1 := hide hX1
  clear hbx hX1 hS hsz hb1
  go_wp2_with fail
  refine (awake14_ok w1).mono ?_
  rintro e w2 ⟨rfl, hb2⟩
  have HX2 := hide (HX1.out.below hb2 HX1.out.lt)
  have HB2 := hide (HB1.out.trans (hb2.mono HB1.out.size))
  have HT2 := hide ((hT.below HB2.out).more HB2.out.size)
  have HH := hide (And.intro hH hnm)
  clear hb2 HX1 HB1 hT hH hnm
  go_wp2_with (first | (refine wpList_load_row rfl 26 (.tmp 1) (by rfl) bx (by rfl) 26 (szCells m H A n c) (0, 0) _ HX2.out Tryz.underlying26 rfl HS.out ?_) | fail)
  have hreg := size_regs (w := w2) (m := m) (c := c) HH.out.1 HT2.out HH.out.2
  have hfive : (szRegs m H).length ≤ 5 := by rw [szRegs_length]; exact szMany_le m
  rw [← szRegs_length m H] at hreg
  have HFIVE := hide hfive
  refine hreg.mono ?_
  rintro e w3 ⟨K, A1, A2, c1, c2, rfl, hb3, o1, -, -⟩
  have hgeos := rgeos_ok (cA := c1) (Rd.of_own o1) (szregs_ok m H) (by omega)
  have HR3 := hide (Rd.of_own o1)
  have HX3 := hide (HX2.out.below hb3 HX2.out.lt)
  have HB3 := hide (HB2.out.trans (hb3.mono HB2.out.size))
  have HT3 := hide ((HT2.out.below hb3).more hb3.size)
  obtain ⟨N, hN⟩ : ∃ N, SzFacts (szRegs m H) N := sz_facts (szregs_ok m H)
  rw [hN.tot] at hgeos
  have HN := hide (And.intro hN.tot (And.intro hN.ge hN.le))
  have HGS := hide hgeos
  clear hreg hb3 o1 hgeos hN hfive HX2 HB2 HT2
  go_wp2_with fail
  refine HGS.out.mono ?_
  rintro e w4 ⟨A', c', rfl, hb4, -⟩
  have HX4 := hide (HX3.out.below hb4 HX3.out.lt)
  have HB4 := hide (HB3.out.trans (hb4.mono HB3.out.size))
  have HT4 := hide ((HT3.out.below hb4).more hb4.size)
  have HR4 := hide ((HR3.out.below hb4).more hb4.size)
  clear hb4 HX3 HB3 HT3 HR3 HGS
  go_wp2_with (first | (refine wpList_load_row rfl 26 (.tmp 1) (by rfl) bx (by rfl) 26 (szCells m H A n c) (0, 0) _ HX4.out Tryz.underlying26 rfl HS.out ?_) | fail)
  refine (size_conf (w := w4) HH.out.1 HT4.out HH.out.2).mono ?_
  rintro e w5 ⟨cc, K', tb, nb0, lb, B1, B2, B3, d1, d2, d3, rfl, hb5, hin, -⟩
  have HB5 := hide (HB4.out.trans (hb5.mono HB4.out.size))
  have HR5 := hide ((HR4.out.below hb5).more hb5.size)
  have hsup := super_ok (T := N) hin (by have := HFIVE.out; omega) HN.out.1 HN.out.2.2
  have hSlt : sumP (szRegs m H) < 4294967296 := sumG_lt _ _ (by omega)
  have hsum := fun (W : World) (hr : Rd W W.heap.size 9 A1 (szRegs m H).length (rcellsOf (szRegs m H))) => rsum_ok (cA := c1) hr (szregs_ok m H) (by have := HFIVE.out; omega)
  obtain ⟨S, hSS⟩ : ∃ S, sumP (szRegs m H) = S := ⟨_, rfl⟩
  rw [hSS] at hsup hSlt hsum
  generalize szRegs m H = R at *
  have HSUP := hide hsup
  have HSUM := hide hsum
  have HSL := hide hSlt
  clear hsup hsum hSlt hSS hin hb5 HX4 HB4 HT4 HR4 HS HH
  go_wp2_with fail
  refine HSUP.out.mono ?_
  rintro e w6 ⟨rfl, hb6⟩
  have HB6 := hide (HB5.out.trans (hb6.mono HB5.out.size))
  have HR6 := hide ((HR5.out.below hb6).more hb6.size)
  have HLB := hide (supTo_len N S 12)
  clear hb6 HB5 HR5 HSUP
  go_upto_region 6 with (first | ((with_reducible refine at_alloc 106 ?_); refine wpList_alloc_as rfl 106 rfl _ (zero_block _) ?_) | ((with_reducible refine at_store 106 (.tmp 7) (.tmp 26) ?_); refine wpList_store_blk rfl 106 (.tmp 7) (.tmp 26) rfl w6.heap.size 106 _ _ (by rfl) (by rfl) (Blk.new _ _ _) (size_blockOf HLB.out) ((bvs_size zeroB_length).trans (bvs_size HLB.out).symm) (bvs_oneCell _) (fun _ => ?_)) | fail)
  refine at_world (fun W => ∃ p, p = w6.heap.size ∧ Below w6.heap.size w6 W ∧ Blk W p 106 (bvs (supB N S)).toArray) ⟨_, rfl, below_setRow ((Below.refl _ _).alloc (Nat.le_refl _) _) (Nat.le_refl _) _, (Blk.new _ _ _).setRow_same _⟩ (fun w7 h7 => ?_)
  obtain ⟨p, hp, hb7, hP7⟩ := h7
  rw [← hp]
  have HB7 := hide (HB6.out.trans (hb7.mono HB6.out.size))
  have HR7 := hide ((HR6.out.below hb7).more hb7.size)
  have HP7 := hide hP7
  clear hp hb7 hP7 HB6 HR6
  go_upto_region 7 with (first | ((with_reducible refine at_alloc 106 ?_); refine wpList_alloc_as rfl 106 rfl _ (zero_block _) ?_) | fail)
  refine at_world (fun W => ∃ q, q = w7.heap.size ∧ Below w7.heap.size w7 W ∧ Blk W q 106 (bvs zeroB).toArray) ⟨_, rfl, (Below.refl _ _).alloc (Nat.le_refl _) _, Blk.new _ _ _⟩ (fun w8 h8 => ?_)
  obtain ⟨q, hq, hb8, hQ8⟩ := h8
  rw [← hq]
  have HB8 := hide (HB7.out.trans (hb8.mono HB7.out.size))
  have HR8 := hide ((HR7.out.below hb8).more hb8.size)
  have HP8 := hide (HP7.out.below hb8 HP7.out.lt)
  have HQ8 := hide hQ8
  have HPQ := hide (show p ≠ q ∧ w.heap.size ≤ q from ⟨by have := HP7.out.lt; omega, by have := HB7.out.size; omega⟩)
  have u1 : IntKind.u64.wrap (N : Int) = (N : Int) := by rw [IntKind.wrap_u64]; have := HN.out.2.2; omega
  have u2 : IntKind.u64.wrap (S : Int) = (S : Int) := by rw [IntKind.wrap_u64]; have := HSL.out; omega
  clear hq hb8 hQ8 HB7 HR7 HP7
  go_wp2_with fail
  refine (HSUM.out w8 HR8.out).mono ?_
  rintro e w9 ⟨rfl, hb9⟩
  have HB9 := hide (HB8.out.trans (hb9.mono HB8.out.size))
  have HP9 := hide (HP8.out.below hb9 HP8.out.lt)
  have HQ9 := hide (HQ8.out.below hb9 HQ8.out.lt)
  clear hb9 HB8 HR8 HP8 HQ8 HSUM
  go_upto_region 8 with (fail)
  refine at_world (fun W => ∃ sb, sb = w9.heap.size ∧ Below w9.heap.size w9 W ∧ Blk W sb 108 #[.int .u64 27250, .int .u64 (N : Int), .int .u64 (S : Int)]) ⟨_, rfl, (Below.refl _ _).alloc (Nat.le_refl _) _, Blk.new _ _ _⟩ (fun wa ha => ?_)
  obtain ⟨sb, hsb, hba, hSa⟩ := ha
  rw [← hsb]
  have HBa := hide (HB9.out.trans (hba.mono HB9.out.size))
  have HPa := hide (HP9.out.below hba HP9.out.lt)
  have hQa := HQ9.out.below hba HQ9.out.lt
  rw [← supTo_zero N S] at hQa
  have HQa := hide hQa
  have HSa := hide hSa
  have HSQ := hide (show sb ≠ q from by have := HQ9.out.lt; omega)
  clear hsb hba hSa hQa HB9 HP9 HQ9 u1 u2
  go_wp2_with fail
  go_loopg [34] 3 (fun gh x34 wr => ∃ j : Nat, j ≤ 3 ∧ gh = 3 - j ∧ x34 = .int .i64 (j : Int) ∧ Hid (Below w.heap.size w wr) ∧ Hid (Blk wr q 106 (bvs (supTo N S (4 * j))).toArray) ∧ Hid (Blk wr p 106 (bvs (supB N S)).toArray) ∧ Hid (Blk wr sb 108 #[.int .u64 27250, .int .u64 (N : Int), .int .u64 (S : Int)]))
  case atStart => exact ⟨0, by omega, rfl, rfl, HBa, HQa, HPa, HSa⟩
  case round =>
    clear HBa HPa HQa HSa
    obtain ⟨j, hj, hgh, rfl, HB, HQ, HP, HSB⟩ := hrel
    have HGH := hide hgh
    clear hgh
    rcases Nat.lt_or_ge j 3 with hlt | hge
    · have t1 : decide ((j : Int) < 3) = true := by simp; omega
      have t1' : (j : Int) < 3 := by omega
      have e64 : IntKind.i64.wrap ((j : Int) + 1) = (j : Int) + 1 := IntWalk.i64_in _ (by omega)
      obtain ⟨x, hx⟩ : ∃ x, supX N S j = x := ⟨_, rfl⟩
      have y : wr.cell? ⟨sb, j, none⟩ = some (.int .u64 (x : Int)) := by
        rw [HSB.out.cell j, ← hx]
        obtain rfl | rfl | rfl : j = 0 ∨ j = 1 ∨ j = 2 := by omega
        all_goals rfl
      have hxl : x < 4294967296 := by
        have := HN.out.2.2
        have := HSL.out
        rw [← hx]; unfold supX; split
        · omega
        · split <;> omega
      have sl := HSB.out.lt
      have HX := hide (And.intro hx (And.intro hlt hxl))
      clear hx hxl
      go_wp2_with fail
      clear y sl
      go_loopg [10, 39] 4 (fun gk x10 x39 wq => ∃ k : Nat, k ≤ 4 ∧ gk = 4 - k ∧ x39 = .int .i64 (k : Int) ∧ x10 = .int .u64 ((x / 2 ^ (8 * k) : Nat) : Int) ∧ Hid (Tch wr.heap.size (· = q) wr wq) ∧ Hid (Below w.heap.size w wq) ∧ Hid (Blk wq q 106 (bvs (supTo N S (4 * j + k))).toArray))
      case atStart => exact ⟨0, by omega, rfl, rfl, by simp, hide (Tch.refl _ _ _), HB, HQ⟩
      case round =>
        clear HQ
        obtain ⟨k, hk, hgk, rfl, rfl, HTq, HBq, HQq⟩ := hrel
        have HGQ := hide hgk
        clear hgk
        obtain ⟨z, hz⟩ : ∃ z, x / 2 ^ (8 * k) = z := ⟨_, rfl⟩
        have hzl : z < 4294967296 := by rw [← hz]; exact Nat.lt_of_le_of_lt (Nat.div_le_self _ _) HX.out.2.2
        rw [hz]
        have HZ := hide (And.intro hz hzl)
        rcases Nat.lt_or_ge k 4 with hk4 | hk4
        · have t2 : decide ((k : Int) < 4) = true := by simp; omega
          have t2' : (k : Int) < 4 := by omega
          obtain ⟨a, ha⟩ : ∃ a, 4 * j + k = a := ⟨_, rfl⟩
          have e1 : IntKind.i64.wrap (4 * (j : Int)) = 4 * (j : Int) := IntWalk.i64_in _ (by omega)
          have e4 : 4 * (j : Int) + (k : Int) = (a : Int) := by omega
          have e2 : IntKind.i64.wrap (a : Int) = (a : Int) := IntWalk.i64_in _ (by omega)
          have e5 : IntKind.i64.wrap ((k : Int) + 1) = (k : Int) + 1 := IntWalk.i64_in _ (by omega)
          have hb4 : a < 64 := by omega
          have hbz : (a : Int) < 64 := by omega
          have hfz := HQq.out.frozen a
          have hcz : ∃ v, wr.cell? ⟨q, a, none⟩ = some v := by
            refine ⟨_, (HQq.out.cell a).trans (Array.getElem?_eq_getElem ?_)⟩
            rw [bvs_size (supTo_len _ _ _)]; omega
          obtain ⟨v, hcz⟩ := hcz
          have pl := HQq.out.lt
          have HA := hide (And.intro ha hb4)
          have e3 : (z : Int) % 256 = ((supY N S a).toNat : Int) := by rw [← ha, supY_val N S j k hk4, HX.out.1, hz]
          have e9 : IntKind.u64.wrap ((z : Int) / 256) = ((z / 256 : Nat) : Int) := by rw [IntKind.wrap_u64]; omega
          have HTq' := hide (HTq.out.trans ((Tch.setCell (S := (· = q)) (B := _) (p := ⟨q, a, none⟩) (u := .int .u8 ((supY N S a).toNat : Int)) fun _ => rfl).mono HTq.out.size fun _ _ h => h))
          clear ha hb4 hz hzl
          go_wp2_with fail
          have hP' := HQq.out.set_ a (.int .u8 ((supY N S a).toNat : Int))
          have hset : (bvs (supTo N S (4 * j + k))).toArray.setIfInBounds a (.int .u8 ((supY N S a).toNat : Int)) = (bvs (supTo N S (4 * j + (k + 1)))).toArray := by
            rw [List.setIfInBounds_toArray]
            congr 1
            rw [show 4 * j + (k + 1) = (4 * j + k) + 1 from by omega, ← supTo_next N S (4 * j + k) (by rw [HA.out.1]; exact HA.out.2), HA.out.1]
            unfold bvs
            rw [List.map_set]
          rw [hset] at hP'
          have HP' := hide hP'
          have HB' := hide (HBq.out.setCell (p := ⟨q, a, none⟩) HPQ.out.2 (.int .u8 ((supY N S a).toNat : Int)))
          clear hP' hset
          go_roundg (4 - (k + 1))
          case rel => exact ⟨k + 1, by omega, rfl, by first | rfl | go_num, by rw [pow_next, HZ.out.1]; try simp, HTq', HB', HP'⟩
          case measure => have := HGQ.out; omega
        · obtain rfl : k = 4 := by omega
          have HP' := hide (HP.out.tch HTq.out HP.out.lt HPQ.out.1)
          have HSB' := hide (HSB.out.tch HTq.out HSB.out.lt HSQ.out)
          have hQ' := HQq.out
          rw [show 4 * j + 4 = 4 * (j + 1) from by omega] at hQ'
          have HQ' := hide hQ'
          clear hQ'
          go_wp2_with fail
          go_roundg (3 - (j + 1))
          case rel => exact ⟨j + 1, by omega, rfl, by first | rfl | go_num, HBq, HQ', HP', HSB'⟩
          case measure => have := HGH.out; omega
    · have t1 : decide ((j : Int) < 3) = false := by simp; omega
      have t1' : ¬ (j : Int) < 3 := by omega
      have hj3 : j = 3 := by omega
      have hQ := HQ.out
      rw [hj3] at hQ
      have HQF : Hid (Blk wr q 106 (bvs (supB N S)).toArray) := hide hQ
      have heq := fun W => (block_eq W HLB.out HLB.out).trans (show _ = Result.ok true W by simp)
      have HEQ := hide heq
      clear hge hj hj3 hQ HQ heq
      go_wp2_with (first | ((with_reducible refine at_load 106 (.tmp 7) ?_); refine wpList_load_blk rfl 106 (.tmp 7) rfl p 106 _ _ (by rfl) HP.out Tryz.underlying106 rfl (size_blockOf HLB.out) ?_) | ((with_reducible refine at_load 106 (.tmp 8) ?_); refine wpList_load_blk rfl 106 (.tmp 8) rfl q 106 _ _ (by rfl) HQF.out Tryz.underlying106 rfl (size_blockOf HLB.out) ?_) | ((with_reducible refine at_binop .eql 106 (.tmp 54) (.tmp 55) 106 ?_); refine wpList_run rfl _ (exec_eql_agg 106 (.tmp 54) (.tmp 55) 106 rfl _ _ rfl rfl (by kernel_rfl) _ (HEQ.out _)) ?_) | fail)
      go_returns
      exact ⟨rfl, HB.out⟩
end
end Go.Proofs.YthmkgohfeahdhaaGreat

/- A transaction is written: install, Commit: walked. -/
import Derived.Test.YtoeejeieplhifaaFsCommit
import Derived.Test.YtoeejeieplhifaaFsCommit2
namespace Go.Proofs.Ytoeejeieplhifaa
open Go.RowKit
set_option linter.unusedSimpArgs false
set_option linter.unusedVariables false

section
variable {w w' : World} {ll dd rr : Nat} {D : List BlkV}
theorem LogAt.two (h : LogAt w ll dd rr D) {D' : List BlkV} (hd : DiskAt w' dd rr D') (ht : Tch w.heap.size (fun x => x = dd ∨ x = rr) w w') : LogAt w' ll dd rr D' := ⟨h.log.tch ht h.log.lt (by rintro (e | e); exact h.nd e; exact h.nr e), hd⟩
/-- what the log's install comes to -/
def instAll (D : List BlkV) (l : List Nat) : List BlkV := if l = [] then D else (instD D 0 l).set 1 (headB [])
set_option maxRecDepth 100000 in
set_option maxHeartbeats 1600000 in
theorem install_ok {A : Option Addr} {n c : Nat} {l : List Nat} (h : LogAt w ll dd rr D) (hR : Rd w w.heap.size 1 A n (nvs l)) (hA : ∀ b, A = some b → ¬ (b.block = dd ∨ b.block = rr)) (hD : ∀ x ∈ l, x < D.length) (hl : 2 + l.length ≤ D.length) (h30 : l.length ≤ 30) (hm : 32 ≤ D.length) :
    Calls Try.prog 58 #[.pointer (some ⟨ll, 0, none⟩), .slice A n c] w fun e w' => e = .returned (.int .i64 0) ∧ LogAt w' ll dd rr (instAll D l) ∧ Tch w.heap.size (fun x => x = dd ∨ x = rr) w w' := by
  have hln : n = l.length := by have := hR.len; simp [nvs] at this; omega
  subst hln
  have hmost := h.disk.most
  have H := hide h
  have HR := hide hR
  have HA := hide hA
  have HD := hide hD
  have h11 : IntKind.i64.wrap 2 = 2 := rfl
  clear h hR hA hD
  go_enter Try.func58, Try.ntmps58
  go_wp2_with fail
  go_loopg [12] l.length (fun gh x12 wr => ∃ (k : Nat) (Dk : List BlkV), k ≤ l.length ∧ gh = l.length - k ∧ x12 = .int .i64 (k : Int) ∧ Hid (LogAt wr ll dd rr Dk) ∧ Hid (Tch w.heap.size (fun x => x = dd ∨ x = rr) w wr) ∧ Hid (instD Dk k (l.drop k) = instD D 0 l ∧ Dk.length = D.length))
  case atStart => exact ⟨0, D, Nat.zero_le _, rfl, rfl, H, hide (Tch.refl _ _ _), hide ⟨by simp, rfl⟩⟩
  case round =>
    obtain ⟨k, Dk, hk, hg, rfl, HL, HT, HI⟩ := hrel
    have HGH := hide hg
    clear hg
    rcases Nat.lt_or_ge k l.length with hkl | hkl
    · have hkz : (k : Int) < l.length := by omega
      obtain ⟨bA, o, hAe, hbA, hc⟩ := HR.out.2 (by omega)
      subst hAe
      have hnb := HA.out _ rfl
      have y0 := hc k _ (nvs_get (List.getElem?_eq_getElem hkl))
      have y : wr.cell? ⟨bA, o + k, none⟩ = some (.int .i64 ((l[k] : Nat) : Int)) := by
        rw [← y0]
        exact World.cell?_of_block (w := w) (HT.out.block bA hbA hnb)
      have hx := HD.out _ (List.getElem_mem hkl)
      have HX : Hid (instD (Dk.set l[k] (Dk.getD (2 + k) zeroB)) (k + 1) (l.drop (k + 1)) = instD D 0 l) := hide (by
        have := HI.out.1
        rw [List.drop_eq_getElem_cons hkl, instD] at this
        exact this)
      have hb : Dk[2 + k]? = some (Dk.getD (2 + k) zeroB) := by
        have : 2 + k < Dk.length := by rw [HI.out.2]; omega
        rw [List.getD_eq_getElem?_getD, List.getElem?_eq_getElem this]; rfl
      have hb64 : (Dk.getD (2 + k) zeroB).length = 64 := getD_len HL.out.disk.len _
      generalize Dk.getD (2 + k) zeroB = b at hb hb64 HX
      generalize l[k] = x at y hx HX y0
      have bl : bA < wr.heap.size := Nat.lt_of_lt_of_le hbA HT.out.size
      have e2 : IntKind.i64.wrap (2 + (k : Int)) = ((2 + k : Nat) : Int) := by rw [IntWalk.i64_in _ (by omega)]; omega
      have hxk : x < Dk.length := by rw [HI.out.2]; exact hx
      have HLN := hide HI.out.2
      have HB := hide hb
      have HB64 := hide hb64
      clear hc y0 hnb hb hb64 hx HI
      generalize 2 + k = j at e2 HB
      go_upto_region 4 with (fail)
      have c0 := HL.out.log.cell 0
      have c1 := HL.out.log.cell 1
      have cl := HL.out.log.lt
      go_cut [7, 8] from 13 to 45 (fun x7 x8 wc => ∃ g, x7 = .pointer (some ⟨g, 0, none⟩) ∧ x8 = .int .i64 0 ∧ Hid (LogAt wc ll dd rr Dk) ∧ Hid (Tch w.heap.size (fun x => x = dd ∨ x = rr) w wc) ∧ Hid (Blk wc g 67 (bvs b).toArray ∧ w.heap.size ≤ g))
      case first =>
        refine wp_region_tree (.q 0 (.q 1 (.q 2 (.q 3 (.q 4 (.q 5 (.q 6 (.q 7 (.q 8 (.q 9 (.q 10 (.br 11 (.q 12 (.q 13 (.q 14 (.x 15 (.x 16 (.q 17 .nil)))))) 15 (.x 11 (.q 12 (.q 13 (.q 14 (.x 16 (.q 17 .nil)))))))))))))))))) (fun W => LogAt W ll dd rr Dk ∧ Tch w.heap.size (fun x => x = dd ∨ x = rr) w W) (by kernel_rfl) (by kernel_rfl) ⟨HL.out.below (Below.refl _ _).drew, HT.out.drew⟩ ?_
        iterate 11 (refine wpT_q (v := ?_) (by simp only [List.getElem?_toArray, List.getElem?_cons_succ, List.getElem?_cons_zero]; try rfl) (by rfl) (fun W hW => ?_) ?_; rotate_left; (focus ((have hc0 := hW.1.log.cell 0; have hc1 := hW.1.log.cell 1; have hcl := hW.1.log.lt; go_simp); try with_reducible rfl)); try simp only [Act.put, List.setIfInBounds_toArray, List.set_cons_zero, List.set_cons_succ])
        refine wpT_br ?_ ?_
        · refine wpT_x (by simp only [List.getElem?_toArray, List.getElem?_cons_succ, List.getElem?_cons_zero]; try rfl) (by rfl) (fun K hK => ?_)
          go_simp
          refine (disk_read (HL.out.disk.below (Below.refl _ _).drew) HB.out).mono ?_
          rintro e w2 ⟨rfl, hd2, ht2⟩
          have hL2 : LogAt w2 ll dd rr Dk := LogAt.two (w := wr) HL.out hd2 ((Tch.refl _ _ _).drew.trans (ht2.sub fun _ h => .inl h))
          have hT2 := HT.out.drew.trans ((ht2.sub (S' := fun x => x = dd ∨ x = rr) fun _ h => .inl h).mono (by have := HT.out.size; exact this) fun _ _ h => h)
          refine hK _ _ _ (fun _ h => h) ⟨hL2, hT2⟩ ?_
          clear hK K
          try simp only [Act.put, List.setIfInBounds_toArray, List.set_cons_zero, List.set_cons_succ]
          iterate 3 (refine wpT_q (v := ?_) (by simp only [List.getElem?_toArray, List.getElem?_cons_succ, List.getElem?_cons_zero]; try rfl) (by rfl) (fun W hW => ?_) ?_; rotate_left; (focus ((go_simp); try with_reducible rfl)); try simp only [Act.put, List.setIfInBounds_toArray, List.set_cons_zero, List.set_cons_succ])
          refine wpT_x (by simp only [List.getElem?_toArray, List.getElem?_cons_succ, List.getElem?_cons_zero]; try rfl) (by rfl) (fun K hK => ?_)
          refine wp_alloc_as 67 rfl _ (zero_block _) ?_
          have hbl : Below w2.heap.size w2 (w2.alloc (.cells (bvs zeroB).toArray 67)) := (Below.refl _ _).alloc (Nat.le_refl _) _
          refine hK _ _ _ (fun _ h => h) ⟨hL2.below hbl, hT2.alloc (Nat.le_refl _) _⟩ ?_
          clear hK K
          try simp only [Act.put, List.setIfInBounds_toArray, List.set_cons_zero, List.set_cons_succ]
          refine wpT_x (by simp only [List.getElem?_toArray, List.getElem?_cons_succ, List.getElem?_cons_zero]; try rfl) (by rfl) (fun K hK => ?_)
          refine wp_store_blk 67 (.tmp 7) (.tmp 30) rfl w2.heap.size 67 _ _ (by rfl) (by rfl) (Blk.new _ _ _) (size_blockOf HB64.out) ((bvs_size zeroB_length).trans (bvs_size HB64.out).symm) (bvs_oneCell _) (fun hG => ?_)
          have hfin : LogAt ((w2.alloc (.cells (bvs zeroB).toArray 67)).setRow w2.heap.size (bvs b).toArray) ll dd rr Dk ∧ Tch w.heap.size (fun x => x = dd ∨ x = rr) w ((w2.alloc (.cells (bvs zeroB).toArray 67)).setRow w2.heap.size (bvs b).toArray) :=
            ⟨hL2.below (below_setRow hbl (Nat.le_refl _) _), hT2.trans ((Tch.of_below (below_setRow hbl (Nat.le_refl _) _)).mono hT2.size fun _ _ h => h)⟩
          refine hK _ _ _ (fun _ h => h) hfin ?_
          have HF := hide hfin
          have HG2 := hide (And.intro hG hT2.size)
          clear hK K hfin hG hL2 hd2 hT2 ht2 hbl
          try simp only [Act.put, List.setIfInBounds_toArray, List.set_cons_zero, List.set_cons_succ]
          iterate 1 (refine wpT_q (v := ?_) (by simp only [List.getElem?_toArray, List.getElem?_cons_succ, List.getElem?_cons_zero]; try rfl) (by rfl) (fun W hW => ?_) ?_; rotate_left; (focus ((go_simp); try with_reducible rfl)); try simp only [Act.put, List.setIfInBounds_toArray, List.set_cons_zero, List.set_cons_succ])
          refine wpT_nil ?_
          go_wp2
          go_meet
          case rel => exact ⟨_, rfl, rfl, hide HF.out.1, hide HF.out.2, HG2⟩
        · refine wpT_x (by simp only [List.getElem?_toArray, List.getElem?_cons_succ, List.getElem?_cons_zero]; try rfl) (by rfl) (fun K hK => ?_)
          refine wp_alloc_as 67 rfl _ (zero_block _) ?_
          have hbl : Below wr.heap.size wr (wr.drew.alloc (.cells (bvs zeroB).toArray 67)) := (Below.refl _ _).drew.alloc (Nat.le_refl _) _
          have hL1 := HL.out.below hbl
          have hT1 : Tch w.heap.size (fun x => x = dd ∨ x = rr) w (wr.drew.alloc (.cells (bvs zeroB).toArray 67)) := HT.out.trans ((Tch.of_below hbl).mono HT.out.size fun _ _ h => h)
          have hG1 := Blk.new wr.drew 67 (bvs zeroB).toArray
          refine hK _ _ _ (fun _ h => h) ⟨hL1, hT1⟩ ?_
          clear hK K
          try simp only [Act.put, List.setIfInBounds_toArray, List.set_cons_zero, List.set_cons_succ]
          refine wpT_x (by simp only [List.getElem?_toArray, List.getElem?_cons_succ, List.getElem?_cons_zero]; try rfl) (by rfl) (fun K hK => ?_)
          go_simp
          refine (disk_read hL1.disk HB.out).mono ?_
          rintro e w2 ⟨rfl, hd2, ht2⟩
          have hL2 : LogAt w2 ll dd rr Dk := hL1.two hd2 (ht2.sub fun _ h => .inl h)
          have hT2 := hT1.trans ((ht2.sub (S' := fun x => x = dd ∨ x = rr) fun _ h => .inl h).mono hT1.size fun _ _ h => h)
          have hgd : wr.heap.size ≠ dd := by have := HL.out.disk.dlt; omega
          have hgr : wr.heap.size ≠ rr := by have := HL.out.disk.row.lt; omega
          have hgl : wr.heap.size ≠ ll := by have := HL.out.log.lt; omega
          have hG2 := hG1.tch ht2 hG1.lt hgd
          refine hK _ _ _ (fun _ h => h) ⟨hL2, hT2⟩ ?_
          clear hK K
          try simp only [Act.put, List.setIfInBounds_toArray, List.set_cons_zero, List.set_cons_succ]
          iterate 3 (refine wpT_q (v := ?_) (by simp only [List.getElem?_toArray, List.getElem?_cons_succ, List.getElem?_cons_zero]; try rfl) (by rfl) (fun W hW => ?_) ?_; rotate_left; (focus ((go_simp); try with_reducible rfl)); try simp only [Act.put, List.setIfInBounds_toArray, List.set_cons_zero, List.set_cons_succ])
          refine wpT_x (by simp only [List.getElem?_toArray, List.getElem?_cons_succ, List.getElem?_cons_zero]; try rfl) (by rfl) (fun K hK => ?_)
          refine wp_store_blk 67 (.tmp 7) (.tmp 30) rfl wr.heap.size 67 _ _ (by rfl) (by rfl) hG2 (size_blockOf HB64.out) ((bvs_size zeroB_length).trans (bvs_size HB64.out).symm) (bvs_oneCell _) (fun hG => ?_)
          have hfin : LogAt (w2.setRow wr.heap.size (bvs b).toArray) ll dd rr Dk ∧ Tch w.heap.size (fun x => x = dd ∨ x = rr) w (w2.setRow wr.heap.size (bvs b).toArray) :=
            ⟨⟨hL2.log.setRow_far hgl.symm _, hL2.disk.keep (setRow_other _ _ _ _ hgd.symm) (setRow_other _ _ _ _ hgr.symm)⟩, hT2.trans (Tch.setRow fun hp => absurd hp (by have := HT.out.size; omega))⟩
          refine hK _ _ _ (fun _ h => h) hfin ?_
          have HF := hide hfin
          have HG2 := hide (And.intro hG HT.out.size)
          clear hK K hfin hG hL2 hd2 hT2 ht2 hbl hG2 hG1 hL1 hT1 hgd hgr hgl
          try simp only [Act.put, List.setIfInBounds_toArray, List.set_cons_zero, List.set_cons_succ]
          iterate 1 (refine wpT_q (v := ?_) (by simp only [List.getElem?_toArray, List.getElem?_cons_succ, List.getElem?_cons_zero]; try rfl) (by rfl) (fun W hW => ?_) ?_; rotate_left; (focus ((go_simp); try with_reducible rfl)); try simp only [Act.put, List.setIfInBounds_toArray, List.set_cons_zero, List.set_cons_succ])
          refine wpT_nil ?_
          go_wp2
          go_meet
          case rel => exact ⟨_, rfl, rfl, hide HF.out.1, hide HF.out.2, HG2⟩
      case rest =>
        obtain ⟨g, rfl, rfl, HL2, HT2, HG2⟩ := hcut
        clear c0 c1 cl
        have c0 := HL2.out.log.cell 0
        have cl := HL2.out.log.lt
        go_upto_region 7 with (fail)
        refine wp_region_text [0, 0, 0, 0, 0, 0, 2, 0] (· = wc.drew) (by kernel_rfl) (by kernel_rfl) rfl ?_
        iterate 5 (refine wpOrd_q (v := ?_) (by rfl) (fun W hW => ?_) ?_; rotate_left; (focus ((cases hW; go_simp); try with_reducible rfl)); try simp only [Act.put, List.setIfInBounds_toArray, List.set_cons_zero, List.set_cons_succ])
        refine wpOrd_q (v := .agg (bvs b).toArray) (by rfl) (fun W hW => by cases hW; exact exec_load_blk 67 (.tmp 7) rfl g _ (bvs b).toArray _ rfl HG2.out.1.drew Try.underlying67 rfl (size_blockOf HB64.out)) ?_
        try simp only [Act.put, List.setIfInBounds_toArray, List.set_cons_zero, List.set_cons_succ]
        refine wpOrd_b (by rfl) (fun K hK => ?_)
        go_simp
        refine (disk_write (HL2.out.disk.below (Below.refl _ _).drew) hxk HB64.out).mono ?_
        rintro e w3 ⟨rfl, hd3, ht3⟩
        refine hK (fun _ => True) _ _ trivial ?_
        clear hK K
        try simp only [Act.put, List.setIfInBounds_toArray, List.set_cons_zero, List.set_cons_succ]
        iterate 1 (refine wpOrd_q (v := ?_) (by rfl) (fun W hW => ?_) ?_; rotate_left; (focus (go_simp; try with_reducible rfl)); try simp only [Act.put, List.setIfInBounds_toArray, List.set_cons_zero, List.set_cons_succ])
        refine wpOrd_nil ?_
        have hL3 : LogAt w3 ll dd rr (Dk.set x b) := LogAt.two (w := wc) HL2.out hd3 ((Tch.refl _ _ _).drew.trans ht3)
        have hT3 := HT2.out.drew.trans (ht3.mono (by have := HT2.out.size; exact this) fun _ _ h => h)
        have HL3 := hide hL3
        have HT3 := hide hT3
        clear hL3 hT3 hd3 ht3 c0 cl
        go_wp2
        go_roundg (l.length - (k + 1))
        case rel => exact ⟨k + 1, Dk.set x b, by omega, rfl, by go_num, HL3, HT3, hide ⟨HX.out, by rw [List.length_set]; exact HLN.out⟩⟩
        case measure => have := HGH.out; omega
    · have hD2 : instD D 0 l = Dk := by rw [← HI.out.1, List.drop_of_length_le hkl]; rfl
      have HE := hide (And.intro hD2 HI.out.2)
      have hkf : decide ((k : Int) < l.length) = false := by simp; omega
      clear hD2 HI
      by_cases hl0 : l = []
      · have hz : ((l.length : Int) == 0) = true := by rw [hl0]; rfl
        have HL0 := hide hl0
        clear hl0
        go_wp2
        go_returns
        refine ⟨rfl, ?_, HT.out⟩
        unfold instAll
        rw [if_pos HL0.out]
        have h1 := HE.out.1
        rw [HL0.out, instD] at h1
        rw [h1]
        exact HL.out
      · have hz : ((l.length : Int) == 0) = false := by
          have : 0 < l.length := List.length_pos_iff.2 hl0
          simp; omega
        have HL0 := hide hl0
        have hfo := format_ok HL.out (by rw [HE.out.2]; exact hm)
        have HFO := hide hfo
        clear hl0 hfo
        go_wp2_with fail
        refine HFO.out.mono ?_
        rintro e w3 ⟨rfl, hL3, ht3⟩
        have HF := hide (And.intro hL3 (HT.out.trans (ht3.mono HT.out.size fun _ _ h => h)))
        clear hL3 ht3 HFO
        go_wp2
        go_returns
        refine ⟨rfl, ?_, HF.out.2⟩
        unfold instAll
        rw [if_neg HL0.out, HE.out.1]
        exact HF.out.1
end
end Go.Proofs.Ytoeejeieplhifaa

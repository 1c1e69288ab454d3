/- A directory's entries as bytes: walked. A directory's entries from bytes: walked. A directory's places: walked. A directory's entries, one by one: walked. A directory: is there a name, is there any: walked. Directories as they are meant: places, plain. A directory's entry turned: walked. A directory's entry added: walked. -/
import Derived.Test.YthmkgohfeahdhaaGreatDiPlaysLawP9
import Derived.Lib.BufferWrite
namespace Go.Proofs.YthmkgohfeahdhaaGreat
open Go.RowKit
set_option linter.unusedSimpArgs false
set_option linter.unusedVariables false

/-- an entry's bytes -/
def packB (e : EntV) : List UInt8 := UInt8.ofNat e.num.toNat :: UInt8.ofNat (e.num.toNat / 256) :: (e.name.data.toList ++ List.replicate 14 0).take 14
theorem packB_length (e : EntV) : (packB e).length = 16 := by simp [packB]
theorem packB_eq (name : ByteArray) (num : UInt16) (hn : name.size ≤ 14) : packB ⟨name, num⟩ = UInt8.ofNat num.toNat :: UInt8.ofNat (num.toNat / 256) :: (name.data.toList ++ List.replicate (14 - name.size) 0) := by
  have hl : name.data.toList.length = name.size := (dn_sz name).symm
  unfold packB
  congr 2
  show (name.data.toList ++ List.replicate 14 0).take 14 = _
  rw [List.take_append, List.take_of_length_le (by omega), hl, List.take_replicate]
  congr 2
  omega
theorem pack_row (name : ByteArray) (lo hi : UInt8) (hn : name.size ≤ 14) :
    (bvs (lo :: hi :: List.replicate 14 0)).toArray.toList.take 2 ++ Lib.byteCells name.data.toList ++ (bvs (lo :: hi :: List.replicate 14 0)).toArray.toList.drop (2 + name.size) = bvs (lo :: hi :: (name.data.toList ++ List.replicate (14 - name.size) 0)) := by
  have e : (bvs (lo :: hi :: List.replicate 14 0)).toArray.toList = .int .u8 (lo.toNat : Int) :: .int .u8 (hi.toNat : Int) :: bvs (List.replicate 14 0) := by simp [bvs]
  rw [e, Nat.add_comm 2 name.size, show name.size + 2 = (name.size + 1) + 1 from rfl, List.drop_succ_cons, List.drop_succ_cons]
  simp only [bvs, List.map_cons, List.map_append, List.map_replicate, List.drop_replicate, List.take_succ_cons, List.take_zero, Lib.byteCells]
  rfl
set_option maxRecDepth 100000 in
set_option maxHeartbeats 1000000 in
theorem pack_ok (name : ByteArray) (num : UInt16) (hn : name.size ≤ 14) (w : World) :
    Calls Tryz.prog 121 #[.agg #[.string name, .int .u16 (num.toNat : Int)]] w fun e w' => e = .returned (.agg (bvs (packB ⟨name, num⟩)).toArray) ∧ Below w.heap.size w w' := by
  have HNS := hide hn
  clear hn
  go_enter Tryz.func121, Tryz.ntmps121
  go_upto_region 2 with (fail)
  refine at_world (fun W => ∃ p r q, q = w.heap.size + 1 + 1 ∧ r = w.heap.size + 1 ∧ p = w.heap.size ∧ Below w.heap.size w W ∧ Blk W p 125 #[.string name, .int .u16 (num.toNat : Int)] ∧ Blk W r 235 (bvs (List.replicate 16 0)).toArray ∧ Blk W q 235 (bvs (List.replicate 16 0)).toArray) ⟨w.heap.size, w.heap.size + 1, w.heap.size + 1 + 1, rfl, rfl, rfl, ?_, ?_, ?_, ?_⟩ (fun w1 h1 => ?_)
  · exact (((Below.refl _ _).alloc (Nat.le_refl _) _).alloc (by simp) _).alloc (by simp; omega) _
  · exact ((Blk.new w _ _).alloc _).alloc _
  · have h := (Blk.new (w.alloc (.cells #[.string name, .int .u16 (num.toNat : Int)] 125)) 235 (bvs (List.replicate 16 0)).toArray).alloc (.cells (bvs (List.replicate 16 0)).toArray 235)
    rw [World.size_alloc] at h
    exact h
  · have h := Blk.new ((w.alloc (.cells #[.string name, .int .u16 (num.toNat : Int)] 125)).alloc (.cells (bvs (List.replicate 16 0)).toArray 235)) 235 (bvs (List.replicate 16 0)).toArray
    rw [World.size_alloc, World.size_alloc] at h
    exact h
  obtain ⟨p, r, q, eq, er, ep, hb1, hP, hR, hQ⟩ := h1
  rw [← eq, ← er, ← ep]
  have HB := hide hb1
  have HP := hide hP
  have HR := hide hR
  have HQ := hide hQ
  have HN := hide (And.intro eq (And.intro er ep))
  clear eq er ep hb1 hP hR hQ
  have hpq : p ≠ q := by have := HN.out; omega
  have hrq : r ≠ q := by have := HN.out; omega
  refine wp_region_text [0, 0, 0, 0, 0, 0, 0, 0, 1, 0, 1] (fun W => Blk W p 125 #[.string name, .int .u16 (num.toNat : Int)]) (by kernel_rfl) (by kernel_rfl) HP.out.drew ?_
  iterate 8 (refine wpOrd_q (v := ?_) (by rfl) (fun W hW => ?_) ?_; rotate_left; (focus ((have c1 := hW.cell 1; have cl := hW.lt; go_simp); try with_reducible rfl)); try simp only [Act.put, List.setIfInBounds_toArray, List.set_cons_zero, List.set_cons_succ])
  have z0 : w1.drew.cell? ⟨q, 0, none⟩ = some (.int .u8 0) := HQ.out.drew.cell 0
  have f0 := HQ.out.drew.frozen 0
  have zl := HQ.out.drew.lt
  refine wpOrd_x (by rfl) (fun KK hKK => ?_)
  go_simp
  have hs : Tch w1.heap.size (· = q) w1 (w1.setCell ⟨q, 0, none⟩ (.int .u8 (IntKind.u8.wrap (num.toNat : Int)))) := Tch.setCell (fun _ => rfl)
  refine hKK _ _ _ (fun _ h => h) (HP.out.tch hs HP.out.lt hpq).drew ?_
  have hqw : w.heap.size ≤ q := by have := HN.out; omega
  obtain ⟨lo, hlo⟩ : ∃ lo : UInt8, IntKind.u8.wrap (num.toNat : Int) = (lo.toNat : Int) := ⟨UInt8.ofNat num.toNat, by rw [IntKind.wrap_u8, UInt8.toNat_ofNat']; omega⟩
  obtain ⟨hi, hhi⟩ : ∃ hi : UInt8, IntKind.u8.wrap ((num.toNat : Int) / 256) = (hi.toNat : Int) := ⟨UInt8.ofNat (num.toNat / 256), by rw [IntKind.wrap_u8, UInt8.toNat_ofNat']; omega⟩
  rw [hlo] at hs ⊢
  rw [hhi]
  refine at_world (fun W => Below w.heap.size w W ∧ Blk W p 125 #[.string name, .int .u16 (num.toNat : Int)] ∧ Blk W q 235 ((bvs (List.replicate 16 0)).toArray.setIfInBounds 0 (.int .u8 (lo.toNat : Int))) ∧ Blk W r 235 (bvs (List.replicate 16 0)).toArray) ⟨(HB.out.setCell (p := ⟨q, 0, none⟩) hqw _).drew, (HP.out.tch hs HP.out.lt hpq).drew, (HQ.out.set_ 0 _).drew, (HR.out.tch hs HR.out.lt hrq).drew⟩ (fun w2 h2 => ?_)
  have HB2 := hide h2.1
  have HP2 := hide h2.2.1
  have HQ2 := hide h2.2.2.1
  have HR2 := hide h2.2.2.2
  have HLH := hide (And.intro hlo hhi)
  have HQW := hide hqw
  clear h2 hs hlo hhi hqw z0 f0 zl hKK KK
  try simp only [Act.put, List.setIfInBounds_toArray, List.set_cons_zero, List.set_cons_succ]
  iterate 1 (refine wpOrd_q (v := ?_) (by rfl) (fun W hW => ?_) ?_; rotate_left; (focus (go_simp; try with_reducible rfl)); try simp only [Act.put, List.setIfInBounds_toArray, List.set_cons_zero, List.set_cons_succ])
  have z1 : w2.cell? ⟨q, 1, none⟩ = some (.int .u8 0) := HQ2.out.cell 1
  have f1 := HQ2.out.frozen 1
  have zl := HQ2.out.lt
  refine wpOrd_x (by rfl) (fun KK hKK => ?_)
  go_simp
  have hs : Tch w2.heap.size (· = q) w2 (w2.setCell ⟨q, 1, none⟩ (.int .u8 (hi.toNat : Int))) := Tch.setCell (fun _ => rfl)
  refine hKK _ _ _ (fun _ h => h) (HP2.out.tch hs HP2.out.lt hpq) ?_
  refine at_world (fun W => Below w.heap.size w W ∧ Blk W p 125 #[.string name, .int .u16 (num.toNat : Int)] ∧ Blk W q 235 (bvs (lo :: hi :: List.replicate 14 0)).toArray ∧ Blk W r 235 (bvs (List.replicate 16 0)).toArray) ⟨HB2.out.setCell (p := ⟨q, 1, none⟩) HQW.out _, HP2.out.tch hs HP2.out.lt hpq, HQ2.out.set_ 1 _, HR2.out.tch hs HR2.out.lt hrq⟩ (fun w3 h3 => ?_)
  have HB3 := hide h3.1
  have HP3 := hide h3.2.1
  have HQ3 := hide h3.2.2.1
  have HR3 := hide h3.2.2.2
  clear h3 hs z1 f1 zl hKK KK
  refine wpOrd_nil ?_
  go_upto_region 3 with (fail)
  have hrow := Lib.run_copy_row_string (P := Tryz.prog) w3.drew 24 9 3 5 q 2 14 14 name _ 235 Tryz.underlying24 (by kernel_rfl) HQ3.out.drew HNS.out (by have := HNS.out; simp [bvs]; omega)
  rw [pack_row name lo hi HNS.out] at hrow
  have HROW := hide hrow
  clear hrow
  refine wp_region_text [0, 0, 0, 1] (fun W => Blk W p 125 #[.string name, .int .u16 (num.toNat : Int)]) (by kernel_rfl) (by kernel_rfl) HP3.out.drew ?_
  refine wpOrd_q (v := .slice (some ⟨q, 2, none⟩) 14 14) (by rfl) (fun W hW => exec_slice_arr 235 5 (.tmp 3) (.const (.int .i64 2)) rfl q 16 2 .i64 (by rfl) (by rfl) Tryz.underlying235 (by kernel_rfl) (by omega)) ?_
  try simp only [Act.put, List.setIfInBounds_toArray, List.set_cons_zero, List.set_cons_succ]
  iterate 2 (refine wpOrd_q (v := ?_) (by rfl) (fun W hW => ?_) ?_; rotate_left; (focus ((have c0 := hW.cell 0; have cl := hW.lt; go_simp); try with_reducible rfl)); try simp only [Act.put, List.setIfInBounds_toArray, List.set_cons_zero, List.set_cons_succ])
  refine wpOrd_x (by rfl) (fun KK hKK => ?_)
  refine wp_copy_as (.tmp 13) (.tmp 15) 24 9 rfl _ _ (by rfl) (by rfl) HROW.out ?_
  refine hKK _ _ _ (fun _ h => h) (HP3.out.drew.setRow_far hpq _) ?_
  clear hKK KK
  try simp only [Act.put, List.setIfInBounds_toArray, List.set_cons_zero, List.set_cons_succ]
  refine wpOrd_nil ?_
  refine at_world (fun W => Below w.heap.size w W ∧ Blk W q 235 (bvs (lo :: hi :: (name.data.toList ++ List.replicate (14 - name.size) 0))).toArray ∧ Blk W r 235 (bvs (List.replicate 16 0)).toArray) ⟨below_setRow HB3.out.drew HQW.out _, HQ3.out.drew.setRow_same _, HR3.out.drew.setRow_far hrq _⟩ (fun w4 h4 => ?_)
  have HB4 := hide h4.1
  have HQ4 := hide h4.2.1
  have HR4 := hide h4.2.2
  clear h4 HROW HB3 HQ3 HP3 HB2 HP2 HQ2 HB HP HR HQ
  have hp := packB_eq name num HNS.out
  rw [show UInt8.ofNat num.toNat = lo from by have := HLH.out.1; rw [IntKind.wrap_u8] at this; apply UInt8.toNat_inj.1; rw [UInt8.toNat_ofNat']; omega, show UInt8.ofNat (num.toNat / 256) = hi from by have := HLH.out.2; rw [IntKind.wrap_u8] at this; apply UInt8.toNat_inj.1; rw [UInt8.toNat_ofNat']; omega] at hp
  rw [← hp] at HQ4
  have hsz : (Tryz.prog.info? 235).map (·.size) = some (bvs (packB ⟨name, num⟩)).toArray.size := by
    have : (Tryz.prog.info? 235).map (·.size) = some 16 := by kernel_rfl
    rw [this, List.size_toArray, bvs_length, packB_length]
  have hrw : w.heap.size ≤ r := by have := HN.out; omega
  have HRW := hide hrw
  have HSZ := hide hsz
  clear hp hsz hrw HR3 HR2
  go_wp2_with (first | ((with_reducible refine at_load 235 (.tmp 3) ?_); refine wpList_load_blk rfl 235 (.tmp 3) rfl q _ _ _ (by rfl) HQ4.out Tryz.underlying235 rfl HSZ.out ?_) | ((with_reducible refine at_store 235 (.tmp 2) (.tmp 17) ?_); refine wpList_store_blk rfl 235 (.tmp 2) (.tmp 17) rfl r _ _ _ (by rfl) (by rfl) HR4.out HSZ.out (by rw [List.size_toArray, List.size_toArray, bvs_length, bvs_length, packB_length]; rfl) (bvs_oneCell _) (fun hB5 => ?_)) | ((with_reducible refine at_end ?_); refine bodyPost_ret (v := .agg (bvs (packB ⟨name, num⟩)).toArray) (results_run1 rfl (ResV.row rfl hB5 Tryz.underlying235 rfl HSZ.out)) rfl ⟨rfl, below_setRow HB4.out HRW.out _⟩) | fail)
end Go.Proofs.YthmkgohfeahdhaaGreat
namespace Go.Proofs.YthmkgohfeahdhaaGreat
open Go.RowKit
set_option linter.unusedSimpArgs false
set_option linter.unusedVariables false

/-- an entry that may stand in a directory's place -/
def EntV.Good (e : EntV) : Prop := (e.num = 0 ∧ e.name.data.toList = []) ∨ (e.num ≠ 0 ∧ nameErr e.name.data.toList = 0)
theorem nameErr_zero {l : List UInt8} (h : nameErr l = 0) : l ≠ [] ∧ l.length ≤ 14 ∧ ∀ c ∈ l, c ≠ 0 := by
  unfold nameErr at h
  split at h
  · cases h
  · rename_i h0
    split at h
    · cases h
    · split at h
      · rename_i h2
        refine ⟨fun e => h0 (.inl e), by omega, fun c hc e => ?_⟩
        rw [List.all_eq_true] at h2
        have := h2 c hc
        subst e
        revert this
        decide
      · cases h
theorem EntV.Good.name {e : EntV} (h : e.Good) : e.name.size ≤ 14 ∧ ∀ c ∈ e.name.data.toList, c ≠ 0 := by
  rw [dn_sz]
  rcases h with ⟨_, h⟩ | ⟨_, h⟩
  · rw [h]; simp
  · exact (nameErr_zero h).2
theorem pk_name {e : EntV} (h : e.name.size ≤ 14) {k : Nat} (hk : k < e.name.size) : (packB e).getD (2 + k) 0 = e.name.data.toList.getD k 0 := by
  have hl := dn_sz e.name
  rw [show packB e = _ from packB_eq e.name e.num h, show 2 + k = (k + 1) + 1 from by omega]
  simp only [List.getD_eq_getElem?_getD, List.getElem?_cons_succ]
  rw [List.getElem?_append_left (by omega)]
theorem pk_zero {e : EntV} (h : e.name.size ≤ 14) {j : Nat} (hj : 2 + e.name.size ≤ j) : (packB e).getD j 0 = 0 := by
  have hl := dn_sz e.name
  obtain ⟨k, rfl⟩ : ∃ k, j = (k + 1) + 1 := ⟨j - 2, by omega⟩
  rw [show packB e = _ from packB_eq e.name e.num h]
  simp only [List.getD_eq_getElem?_getD, List.getElem?_cons_succ]
  rw [List.getElem?_append_right (by omega), List.getElem?_replicate]
  split <;> rfl
theorem size_ent : (Tryz.prog.info? 125).map (·.size) = some 2 := by kernel_rfl
theorem str_name (e : EntV) : str e.name.data.toList = e.name := by
  obtain ⟨⟨d⟩, n⟩ := e
  simp [str]
abbrev str0 (e : EntV) : List UInt8 := e.name.data.toList
theorem pk_mid {e : EntV} (h : e.name.size ≤ 14) : ((packB e).drop 2).take (2 + e.name.size - 2) = e.name.data.toList := by
  have hl := dn_sz e.name
  rw [show packB e = _ from packB_eq e.name e.num h, List.drop_succ_cons, List.drop_succ_cons, List.drop_zero, List.take_append_of_le_length (by omega), List.take_of_length_le (by omega)]
section
variable {w : World}
set_option maxRecDepth 100000 in
set_option maxHeartbeats 1000000 in
theorem unpack_good (e : EntV) (hg : e.Good) {A : Option Addr} {c : Nat} (hc16 : 16 ≤ c) (h : Rd w w.heap.size 1 A 16 (bvs (packB e))) :
    Calls Tryz.prog 160 #[.slice A 16 c] w fun r w' => r = .returned (.tuple #[.agg e.cells.toArray, .bool true]) ∧ Below w.heap.size w w' := by
  obtain ⟨m, hm⟩ : ∃ m, e.name.size = m := ⟨_, rfl⟩
  have hn1 := hg.name
  rw [hm] at hn1
  have hm14 : m ≤ 14 := hn1.1
  have HG := hide (And.intro hg hm)
  have HR := hide h
  have HNZ := hide (show ∀ k, k < m → (packB e).getD (2 + k) 0 ≠ 0 from fun k hk => by
    rw [pk_name (by omega) (by omega), List.getD_eq_getElem?_getD, List.getElem?_eq_getElem (by rw [← dn_sz]; omega)]
    exact hn1.2 _ (List.getElem_mem _))
  have HZ := hide (show ∀ j, 2 + m ≤ j → (packB e).getD j 0 = 0 from fun j hj => pk_zero (by omega) (by omega))
  obtain ⟨ba, oa, rfl, hba, hca⟩ := h.byte (i := 0) (by omega)
  have HC := hide hca
  clear hg h hn1 hm hca
  go_enter Tryz.func160, Tryz.ntmps160
  go_wp2_with fail
  refine at_world (fun W => ∃ p, p = w.heap.size ∧ Below w.heap.size w W ∧ Blk W p 125 #[.string ⟨#[]⟩, .int .u16 0]) ⟨_, rfl, (Below.refl _ _).alloc (Nat.le_refl _) _, Blk.new _ _ _⟩ (fun w1 h1 => ?_)
  obtain ⟨p, hp, hb1, hP1⟩ := h1
  rw [← hp]
  have HB := hide hb1
  have HP := hide hP1
  have HPW := hide (show w.heap.size ≤ p from Nat.le_of_eq hp.symm)
  have bal : ba < w1.heap.size := Nat.lt_of_lt_of_le hba hb1.size
  have HC1 := hide (show ∀ j, j < 16 → w1.cell? ⟨ba, oa + j, none⟩ = some (.int .u8 (((packB e).getD j 0).toNat : Int)) from fun j hj => (World.cell?_of_block (w := w) (a := ⟨ba, oa + j, none⟩) (hb1.block ba hba)).trans (HC.out j hj))
  clear hp hb1 hP1 hba
  go_loopg [4] m (fun gh x4 wr => ∃ k : Nat, k ≤ m ∧ gh = m - k ∧ x4 = .int .i64 ((2 + k : Nat) : Int) ∧ wr = w1)
  case atStart => exact ⟨0, Nat.zero_le _, rfl, rfl, rfl⟩
  case round =>
    obtain ⟨k, hk, hgh, rfl, rfl⟩ := hrel
    have HGH := hide hgh
    clear hgh
    obtain ⟨y, hy⟩ : ∃ y : Nat, 2 + k = y := ⟨_, rfl⟩
    rw [hy]
    rcases Nat.lt_or_ge k m with hkl | hkl
    · have ck := HC1.out y (by omega)
      have hz := HNZ.out k hkl
      rw [hy] at hz
      obtain ⟨pc, hpc⟩ : ∃ pc, ((packB e).getD y 0).toNat = pc := ⟨_, rfl⟩
      have hpc0 : pc ≠ 0 := fun e0 => hz (UInt8.toNat_inj.1 (by rw [hpc, e0]; rfl))
      rw [hpc] at ck
      have t1 : decide ((y : Int) < 16) = true := by simp; omega
      have t2 : (y : Int) < 16 := by omega
      have t3 : ((pc : Int) == 0) = false := by rw [beq_eq_false_iff_ne]; omega
      have t3' : ¬ (pc : Int) = 0 := by omega
      have e64 : IntKind.i64.wrap ((y : Int) + 1) = (y : Int) + 1 := IntWalk.i64_in _ (by omega)
      clear hz hpc hpc0
      go_wp2_with fail
      go_roundg (m - (k + 1))
      case rel => exact ⟨k + 1, by omega, rfl, by rw [← Nat.add_assoc, hy]; go_num, rfl⟩
      case measure => have := HGH.out; omega
    · obtain rfl : k = m := by omega
      clear hkl hk
      rcases Nat.lt_or_ge y 16 with hyl | hyl
      · have ck := HC1.out y (by omega)
        rw [HZ.out y (by omega)] at ck
        have t1 : decide ((y : Int) < 16) = true := by simp; omega
        have t2 : (y : Int) < 16 := by omega
        have t3 : y < c := by omega
        have t4 : ¬ y = c := by omega
        have t5 : decide (y < c) = true := by simp; omega
        go_wp2_with fail
        clear ck t1 t2
        go_loopg [6, 29] (16 - y) (fun gh x6 x29 wq => ∃ j : Nat, j ≤ 16 - y ∧ gh = 16 - y - j ∧ x29 = .int .i64 (j : Int) ∧ wq = wr)
        case atStart => exact ⟨0, Nat.zero_le _, rfl, rfl, rfl⟩
        case round =>
          obtain ⟨j, hj, hgj, rfl, rfl⟩ := hrel
          have HGJ := hide hgj
          clear hgj
          rcases Nat.lt_or_ge j (16 - y) with hjl | hjl
          · have cj := HC1.out (y + j) (by omega)
            rw [HZ.out (y + j) (by omega), ← Nat.add_assoc] at cj
            have u1 : decide (j < 16 - y) = true := by simp; omega
            have u2 : decide ((j : Int) < ((16 - y : Nat) : Int)) = true := by simp; omega
            have u3 : (j : Int) < ((16 - y : Nat) : Int) := by omega
            have e64 : IntKind.i64.wrap ((j : Int) + 1) = (j : Int) + 1 := IntWalk.i64_in _ (by omega)
            go_wp2_with fail
            go_roundg (16 - y - (j + 1))
            case rel => exact ⟨j + 1, by omega, rfl, by first | rfl | go_num, rfl⟩
            case measure => have := HGJ.out; omega
          · have u1 : decide (j < 16 - y) = false := by simp; omega
            have u2 : decide ((j : Int) < ((16 - y : Nat) : Int)) = false := by simp; omega
            have u3 : ¬ (j : Int) < ((16 - y : Nat) : Int) := by omega
            clear hjl hj
            go_wp2_with fail
            have hrd : Rd wr w.heap.size 1 (slA (some ⟨ba, oa, none⟩) c 2) (y - 2) (bvs (str0 e)) := by
              have := (HR.out.below HB.out).part (c := c) (by omega) (lo := 2) (hi := y) (by omega) (by omega)
              rw [← hy, ← HG.out.2, pk_mid (by have := HG.out.2; omega)] at this
              rw [← hy, ← HG.out.2]
              exact this
            have HRD := hide hrd
            have b0 := HC1.out 0 (by omega)
            have b1 := HC1.out 1 (by omega)
            obtain ⟨lo, hlo⟩ : ∃ lo, ((packB e).getD 0 0).toNat = lo := ⟨_, rfl⟩
            obtain ⟨hi, hhi⟩ : ∃ hi, ((packB e).getD 1 0).toNat = hi := ⟨_, rfl⟩
            have hlo' : lo < 256 := by rw [← hlo]; exact UInt8.toNat_lt _
            have hhi' : hi < 256 := by rw [← hhi]; exact UInt8.toNat_lt _
            rw [hlo, Nat.add_zero] at b0
            rw [hhi] at b1
            have hnum : lo + 256 * hi = e.num.toNat := by
              have h1 : lo = e.num.toNat % 256 := by rw [← hlo]; exact UInt8.toNat_ofNat' ..
              have h2 : hi = e.num.toNat / 256 % 256 := by rw [← hhi]; exact UInt8.toNat_ofNat' ..
              have := e.num.toNat_lt
              omega
            have hor : bits BinOp.or IntKind.u16 (lo : Int) ((hi : Int) * 256) = (e.num.toNat : Int) := by
              have h := or_two hlo' hhi'
              rw [show ((256 * hi : Nat) : Int) = (hi : Int) * 256 from by omega, hnum] at h
              exact h
            have e1 : IntKind.u16.wrap (lo : Int) = (lo : Int) := by rw [IntKind.wrap_u16]; omega
            have e2 : IntKind.u16.wrap (hi : Int) = (hi : Int) := by rw [IntKind.wrap_u16]; omega
            have e3 : IntKind.u16.wrap ((hi : Int) * 256) = (hi : Int) * 256 := by rw [IntKind.wrap_u16]; omega
            have hlen : (16 : Int) = 16 := rfl
            clear hrd hlo hhi
            refine wp_region_text [0, 0, 0, 0, 0, 0, 0, 0, 0, 0, 0, 0, 0, 0, 0, 1, 1] (fun W => Below wr.heap.size wr W) (by kernel_rfl) (by kernel_rfl) (Below.refl _ _).drew ?_
            iterate 2 (refine wpOrd_q (v := ?_) (by rfl) (fun W hW => ?_) ?_; rotate_left; (focus ((obtain ⟨hWc, hWf⟩ := bcell hW; go_simp); try with_reducible rfl)); try simp only [Act.put, List.setIfInBounds_toArray, List.set_cons_zero, List.set_cons_succ])
            refine wpOrd_q (v := .slice (slA (some ⟨ba, oa, none⟩) c 2) (y - 2) (c - 2)) (by rfl) (fun W hW => exec_slice_lh 24 5 (.tmp 37) (.const (.int .i64 2)) (.tmp 38) rfl (some ⟨ba, oa, none⟩) 16 c 2 y .i64 .i64 (by rfl) (by rfl) (by rfl) Tryz.underlying24 (by kernel_rfl) (by omega) (by omega)) ?_
            try simp only [Act.put, List.setIfInBounds_toArray, List.set_cons_zero, List.set_cons_succ]
            refine wpOrd_q (v := .string e.name) (by rfl) (fun W hW => by rw [show Value.string e.name = .string (str (str0 e)) from by rw [str_name]]; exact exec_str 24 9 5 (.tmp 39) rfl _ _ _ (str0 e) _ (by rfl) Tryz.underlying24 Tryz.underlying5 Tryz.underlying9 (HRD.out.below (hW.mono HB.out.size))) ?_
            try simp only [Act.put, List.setIfInBounds_toArray, List.set_cons_zero, List.set_cons_succ]
            iterate 9 (refine wpOrd_q (v := ?_) (by rfl) (fun W hW => ?_) ?_; rotate_left; (focus ((obtain ⟨hWc, hWf⟩ := bcell hW; go_simp); try with_reducible rfl)); try simp only [Act.put, List.setIfInBounds_toArray, List.set_cons_zero, List.set_cons_succ])
            refine wpOrd_q (v := .int .u16 (e.num.toNat : Int)) (by rfl) (fun W hW => by go_simp; try exact hor) ?_
            try simp only [Act.put, List.setIfInBounds_toArray, List.set_cons_zero, List.set_cons_succ]
            iterate 1 (refine wpOrd_q (v := ?_) (by rfl) (fun W hW => ?_) ?_; rotate_left; (focus ((obtain ⟨hWc, hWf⟩ := bcell hW; go_simp); try with_reducible rfl)); try simp only [Act.put, List.setIfInBounds_toArray, List.set_cons_zero, List.set_cons_succ])
            refine wpOrd_x (by rfl) (fun KK hKK => ?_)
            go_simp
            refine hKK _ _ _ (fun _ h => h) ((Below.refl _ _).drew.alloc (Nat.le_refl _) _) ?_
            clear hKK KK
            try simp only [Act.put, List.setIfInBounds_toArray, List.set_cons_zero, List.set_cons_succ]
            refine wpOrd_x (by rfl) (fun KK hKK => ?_)
            go_simp
            refine hKK _ _ _ (fun _ h => h) ((Below.refl _ _).alloc (Nat.le_refl _) _).drew ?_
            clear hKK KK
            refine wpOrd_nil ?_
            refine at_world (fun W => ∃ q, q = wr.heap.size ∧ Below w.heap.size w W ∧ Blk W p 125 #[.string ⟨#[]⟩, .int .u16 0] ∧ Blk W q 125 #[.string e.name, .int .u16 (e.num.toNat : Int)]) ⟨_, rfl, (HB.out.alloc HB.out.size _).drew, (HP.out.alloc _).drew, (Blk.new _ _ _).drew⟩ (fun w3 h3 => ?_)
            obtain ⟨q, hq, hb3, hP3, hQ3⟩ := h3
            rw [← hq]
            have HB3 := hide hb3
            have HP3 := hide hP3
            have HQ3 := hide hQ3
            have q0 := hQ3.cell 0
            have q1 := hQ3.cell 1
            have ql := hQ3.lt
            clear hq hb3 hP3 hQ3 HRD HC1 HC b0 b1 hor e1 e2 e3 hlen
            rcases HG.out.1 with ⟨hz, hnm⟩ | ⟨hz, hnm⟩
            · have hz0 : e.num.toNat = 0 := by rw [hz]; rfl
              have hnm0 : e.name = ⟨#[]⟩ := by rw [← str_name e, hnm]; rfl
              have hk0 : y = 2 := by have := HG.out.2; rw [hnm0] at this; rw [← hy, ← this]; rfl
              rw [hz0] at q1
              have hce : e.cells.toArray = #[.string ⟨#[]⟩, .int .u16 0] := by unfold EntV.cells; rw [hz0, hnm0]; rfl
              have HCE := hide hce
              have HPQ := hide (below_setRow HB3.out HPW.out #[.string ⟨#[]⟩, .int .u16 0])
              subst hk0
              clear hce
              go_wp2_with (first | ((with_reducible refine at_store 125 (.tmp 2) (.tmp 55) ?_); refine wpList_store_blk rfl 125 (.tmp 2) (.tmp 55) rfl p _ _ _ (by rfl) (by rfl) HP3.out (by exact size_ent) (by rfl) (by simp [Value.oneCell']) (fun hB4 => ?_)) | ((with_reducible refine at_end ?_); refine bodyPost_ret (v := .tuple #[.agg #[.string ⟨#[]⟩, .int .u16 0], .bool true]) (results_run2 rfl (ResV.row rfl hB4 Tryz.underlying125 rfl size_ent) rfl) rfl ⟨by rw [HCE.out], HPQ.out⟩) | fail)
            · have hz0 : e.num.toNat ≠ 0 := fun h0 => hz (UInt16.toNat_inj.1 h0)
              have t6 : ((e.num.toNat : Int) == 0) = false := by rw [beq_eq_false_iff_ne]; omega
              have t6' : ¬ (e.num.toNat : Int) = 0 := by omega
              go_wp2_with fail
              refine (dirname_ok e.name w3).mono ?_
              rintro _ _ ⟨rfl, rfl⟩
              rw [hnm]
              have HPQ := hide (below_setRow HB3.out HPW.out #[.string e.name, .int .u16 (e.num.toNat : Int)])
              go_wp2_with (first | ((with_reducible refine at_store 125 (.tmp 2) (.tmp 63) ?_); refine wpList_store_blk rfl 125 (.tmp 2) (.tmp 63) rfl p _ _ _ (by rfl) (by rfl) HP3.out (by exact size_ent) (by rfl) (by simp [Value.oneCell']) (fun hB4 => ?_)) | ((with_reducible refine at_end ?_); refine bodyPost_ret (v := .tuple #[.agg #[.string e.name, .int .u16 (e.num.toNat : Int)], .bool true]) (results_run2 rfl (ResV.row rfl hB4 Tryz.underlying125 rfl size_ent) rfl) rfl ⟨rfl, HPQ.out⟩) | fail)
      · have t1 : decide ((y : Int) < 16) = false := by simp; omega
        have t2 : ¬ (y : Int) < 16 := by omega
        have t2' : (y : Int) ≤ 16 := by omega
        have hyle : y ≤ 16 := by omega
        rcases Nat.lt_or_ge y c with hyc | hyc
        · have t3 : y < c := hyc
          have t4 : ¬ y = c := by omega
          have t5 : decide (y < c) = true := by simp; omega
          go_wp2_with fail
          clear t1 t2
          go_loopg [6, 29] (16 - y) (fun gh x6 x29 wq => ∃ j : Nat, j ≤ 16 - y ∧ gh = 16 - y - j ∧ x29 = .int .i64 (j : Int) ∧ wq = wr)
          case atStart => exact ⟨0, Nat.zero_le _, rfl, rfl, rfl⟩
          case round =>
            obtain ⟨j, hj, hgj, rfl, rfl⟩ := hrel
            have HGJ := hide hgj
            clear hgj
            rcases Nat.lt_or_ge j (16 - y) with hjl | hjl
            · exfalso; omega
            · have u1 : decide (j < 16 - y) = false := by simp; omega
              have u2 : decide ((j : Int) < ((16 - y : Nat) : Int)) = false := by simp; omega
              have u3 : ¬ (j : Int) < ((16 - y : Nat) : Int) := by omega
              clear hjl hj
              go_wp2_with fail
              have hrd : Rd wr w.heap.size 1 (slA (some ⟨ba, oa, none⟩) c 2) (y - 2) (bvs (str0 e)) := by
                have := (HR.out.below HB.out).part (c := c) (by omega) (lo := 2) (hi := y) (by omega) (by omega)
                rw [← hy, ← HG.out.2, pk_mid (by have := HG.out.2; omega)] at this
                rw [← hy, ← HG.out.2]
                exact this
              have HRD := hide hrd
              have b0 := HC1.out 0 (by omega)
              have b1 := HC1.out 1 (by omega)
              obtain ⟨lo, hlo⟩ : ∃ lo, ((packB e).getD 0 0).toNat = lo := ⟨_, rfl⟩
              obtain ⟨hi, hhi⟩ : ∃ hi, ((packB e).getD 1 0).toNat = hi := ⟨_, rfl⟩
              have hlo' : lo < 256 := by rw [← hlo]; exact UInt8.toNat_lt _
              have hhi' : hi < 256 := by rw [← hhi]; exact UInt8.toNat_lt _
              rw [hlo, Nat.add_zero] at b0
              rw [hhi] at b1
              have hnum : lo + 256 * hi = e.num.toNat := by
                have h1 : lo = e.num.toNat % 256 := by rw [← hlo]; exact UInt8.toNat_ofNat' ..
                have h2 : hi = e.num.toNat / 256 % 256 := by rw [← hhi]; exact UInt8.toNat_ofNat' ..
                have := e.num.toNat_lt
                omega
              have hor : bits BinOp.or IntKind.u16 (lo : Int) ((hi : Int) * 256) = (e.num.toNat : Int) := by
                have h := or_two hlo' hhi'
                rw [show ((256 * hi : Nat) : Int) = (hi : Int) * 256 from by omega, hnum] at h
                exact h
              have e1 : IntKind.u16.wrap (lo : Int) = (lo : Int) := by rw [IntKind.wrap_u16]; omega
              have e2 : IntKind.u16.wrap (hi : Int) = (hi : Int) := by rw [IntKind.wrap_u16]; omega
              have e3 : IntKind.u16.wrap ((hi : Int) * 256) = (hi : Int) * 256 := by rw [IntKind.wrap_u16]; omega
              have hlen : (16 : Int) = 16 := rfl
              clear hrd hlo hhi
              refine wp_region_text [0, 0, 0, 0, 0, 0, 0, 0, 0, 0, 0, 0, 0, 0, 0, 1, 1] (fun W => Below wr.heap.size wr W) (by kernel_rfl) (by kernel_rfl) (Below.refl _ _).drew ?_
              iterate 2 (refine wpOrd_q (v := ?_) (by rfl) (fun W hW => ?_) ?_; rotate_left; (focus ((obtain ⟨hWc, hWf⟩ := bcell hW; go_simp); try with_reducible rfl)); try simp only [Act.put, List.setIfInBounds_toArray, List.set_cons_zero, List.set_cons_succ])
              refine wpOrd_q (v := .slice (slA (some ⟨ba, oa, none⟩) c 2) (y - 2) (c - 2)) (by rfl) (fun W hW => exec_slice_lh 24 5 (.tmp 37) (.const (.int .i64 2)) (.tmp 38) rfl (some ⟨ba, oa, none⟩) 16 c 2 y .i64 .i64 (by rfl) (by rfl) (by rfl) Tryz.underlying24 (by kernel_rfl) (by omega) (by omega)) ?_
              try simp only [Act.put, List.setIfInBounds_toArray, List.set_cons_zero, List.set_cons_succ]
              refine wpOrd_q (v := .string e.name) (by rfl) (fun W hW => by rw [show Value.string e.name = .string (str (str0 e)) from by rw [str_name]]; exact exec_str 24 9 5 (.tmp 39) rfl _ _ _ (str0 e) _ (by rfl) Tryz.underlying24 Tryz.underlying5 Tryz.underlying9 (HRD.out.below (hW.mono HB.out.size))) ?_
              try simp only [Act.put, List.setIfInBounds_toArray, List.set_cons_zero, List.set_cons_succ]
              iterate 9 (refine wpOrd_q (v := ?_) (by rfl) (fun W hW => ?_) ?_; rotate_left; (focus ((obtain ⟨hWc, hWf⟩ := bcell hW; go_simp); try with_reducible rfl)); try simp only [Act.put, List.setIfInBounds_toArray, List.set_cons_zero, List.set_cons_succ])
              refine wpOrd_q (v := .int .u16 (e.num.toNat : Int)) (by rfl) (fun W hW => by go_simp; try exact hor) ?_
              try simp only [Act.put, List.setIfInBounds_toArray, List.set_cons_zero, List.set_cons_succ]
              iterate 1 (refine wpOrd_q (v := ?_) (by rfl) (fun W hW => ?_) ?_; rotate_left; (focus ((obtain ⟨hWc, hWf⟩ := bcell hW; go_simp); try with_reducible rfl)); try simp only [Act.put, List.setIfInBounds_toArray, List.set_cons_zero, List.set_cons_succ])
              refine wpOrd_x (by rfl) (fun KK hKK => ?_)
              go_simp
              refine hKK _ _ _ (fun _ h => h) ((Below.refl _ _).drew.alloc (Nat.le_refl _) _) ?_
              clear hKK KK
              try simp only [Act.put, List.setIfInBounds_toArray, List.set_cons_zero, List.set_cons_succ]
              refine wpOrd_x (by rfl) (fun KK hKK => ?_)
              go_simp
              refine hKK _ _ _ (fun _ h => h) ((Below.refl _ _).alloc (Nat.le_refl _) _).drew ?_
              clear hKK KK
              refine wpOrd_nil ?_
              refine at_world (fun W => ∃ q, q = wr.heap.size ∧ Below w.heap.size w W ∧ Blk W p 125 #[.string ⟨#[]⟩, .int .u16 0] ∧ Blk W q 125 #[.string e.name, .int .u16 (e.num.toNat : Int)]) ⟨_, rfl, (HB.out.alloc HB.out.size _).drew, (HP.out.alloc _).drew, (Blk.new _ _ _).drew⟩ (fun w3 h3 => ?_)
              obtain ⟨q, hq, hb3, hP3, hQ3⟩ := h3
              rw [← hq]
              have HB3 := hide hb3
              have HP3 := hide hP3
              have HQ3 := hide hQ3
              have q0 := hQ3.cell 0
              have q1 := hQ3.cell 1
              have ql := hQ3.lt
              clear hq hb3 hP3 hQ3 HRD HC1 HC b0 b1 hor e1 e2 e3 hlen
              rcases HG.out.1 with ⟨hz, hnm⟩ | ⟨hz, hnm⟩
              · have hz0 : e.num.toNat = 0 := by rw [hz]; rfl
                have hnm0 : e.name = ⟨#[]⟩ := by rw [← str_name e, hnm]; rfl
                have hk0 : y = 2 := by have := HG.out.2; rw [hnm0] at this; rw [← hy, ← this]; rfl
                exfalso; omega
              · have hz0 : e.num.toNat ≠ 0 := fun h0 => hz (UInt16.toNat_inj.1 h0)
                have t6 : ((e.num.toNat : Int) == 0) = false := by rw [beq_eq_false_iff_ne]; omega
                have t6' : ¬ (e.num.toNat : Int) = 0 := by omega
                go_wp2_with fail
                refine (dirname_ok e.name w3).mono ?_
                rintro _ _ ⟨rfl, rfl⟩
                rw [hnm]
                have HPQ := hide (below_setRow HB3.out HPW.out #[.string e.name, .int .u16 (e.num.toNat : Int)])
                go_wp2_with (first | ((with_reducible refine at_store 125 (.tmp 2) (.tmp 63) ?_); refine wpList_store_blk rfl 125 (.tmp 2) (.tmp 63) rfl p _ _ _ (by rfl) (by rfl) HP3.out (by exact size_ent) (by rfl) (by simp [Value.oneCell']) (fun hB4 => ?_)) | ((with_reducible refine at_end ?_); refine bodyPost_ret (v := .tuple #[.agg #[.string e.name, .int .u16 (e.num.toNat : Int)], .bool true]) (results_run2 rfl (ResV.row rfl hB4 Tryz.underlying125 rfl size_ent) rfl) rfl ⟨rfl, HPQ.out⟩) | fail)
        · obtain rfl : y = c := by omega
          go_wp2_with fail
          clear t1 t2
          go_loopg [6, 29] (16 - y) (fun gh x6 x29 wq => ∃ j : Nat, j ≤ 16 - y ∧ gh = 16 - y - j ∧ x29 = .int .i64 (j : Int) ∧ wq = wr)
          case atStart => exact ⟨0, Nat.zero_le _, rfl, rfl, rfl⟩
          case round =>
            obtain ⟨j, hj, hgj, rfl, rfl⟩ := hrel
            have HGJ := hide hgj
            clear hgj
            rcases Nat.lt_or_ge j (16 - y) with hjl | hjl
            · exfalso; omega
            · have u1 : decide (j < 16 - y) = false := by simp; omega
              have u2 : decide ((j : Int) < ((16 - y : Nat) : Int)) = false := by simp; omega
              have u3 : ¬ (j : Int) < ((16 - y : Nat) : Int) := by omega
              clear hjl hj
              go_wp2_with fail
              have hrd : Rd wr w.heap.size 1 (slA (some ⟨ba, oa, none⟩) y 2) (y - 2) (bvs (str0 e)) := by
                have := (HR.out.below HB.out).part (c := y) (by omega) (lo := 2) (hi := y) (by omega) (by omega)
                rw [← hy, ← HG.out.2, pk_mid (by have := HG.out.2; omega)] at this
                rw [← hy, ← HG.out.2]
                exact this
              have HRD := hide hrd
              have b0 := HC1.out 0 (by omega)
              have b1 := HC1.out 1 (by omega)
              obtain ⟨lo, hlo⟩ : ∃ lo, ((packB e).getD 0 0).toNat = lo := ⟨_, rfl⟩
              obtain ⟨hi, hhi⟩ : ∃ hi, ((packB e).getD 1 0).toNat = hi := ⟨_, rfl⟩
              have hlo' : lo < 256 := by rw [← hlo]; exact UInt8.toNat_lt _
              have hhi' : hi < 256 := by rw [← hhi]; exact UInt8.toNat_lt _
              rw [hlo, Nat.add_zero] at b0
              rw [hhi] at b1
              have hnum : lo + 256 * hi = e.num.toNat := by
                have h1 : lo = e.num.toNat % 256 := by rw [← hlo]; exact UInt8.toNat_ofNat' ..
                have h2 : hi = e.num.toNat / 256 % 256 := by rw [← hhi]; exact UInt8.toNat_ofNat' ..
                have := e.num.toNat_lt
                omega
              have hor : bits BinOp.or IntKind.u16 (lo : Int) ((hi : Int) * 256) = (e.num.toNat : Int) := by
                have h := or_two hlo' hhi'
                rw [show ((256 * hi : Nat) : Int) = (hi : Int) * 256 from by omega, hnum] at h
                exact h
              have e1 : IntKind.u16.wrap (lo : Int) = (lo : Int) := by rw [IntKind.wrap_u16]; omega
              have e2 : IntKind.u16.wrap (hi : Int) = (hi : Int) := by rw [IntKind.wrap_u16]; omega
              have e3 : IntKind.u16.wrap ((hi : Int) * 256) = (hi : Int) * 256 := by rw [IntKind.wrap_u16]; omega
              have hlen : (16 : Int) = 16 := rfl
              clear hrd hlo hhi
              refine wp_region_text [0, 0, 0, 0, 0, 0, 0, 0, 0, 0, 0, 0, 0, 0, 0, 1, 1] (fun W => Below wr.heap.size wr W) (by kernel_rfl) (by kernel_rfl) (Below.refl _ _).drew ?_
              iterate 2 (refine wpOrd_q (v := ?_) (by rfl) (fun W hW => ?_) ?_; rotate_left; (focus ((obtain ⟨hWc, hWf⟩ := bcell hW; go_simp); try with_reducible rfl)); try simp only [Act.put, List.setIfInBounds_toArray, List.set_cons_zero, List.set_cons_succ])
              refine wpOrd_q (v := .slice (slA (some ⟨ba, oa, none⟩) y 2) (y - 2) (y - 2)) (by rfl) (fun W hW => exec_slice_lh 24 5 (.tmp 37) (.const (.int .i64 2)) (.tmp 38) rfl (some ⟨ba, oa, none⟩) 16 y 2 y .i64 .i64 (by rfl) (by rfl) (by rfl) Tryz.underlying24 (by kernel_rfl) (by omega) (by omega)) ?_
              try simp only [Act.put, List.setIfInBounds_toArray, List.set_cons_zero, List.set_cons_succ]
              refine wpOrd_q (v := .string e.name) (by rfl) (fun W hW => by rw [show Value.string e.name = .string (str (str0 e)) from by rw [str_name]]; exact exec_str 24 9 5 (.tmp 39) rfl _ _ _ (str0 e) _ (by rfl) Tryz.underlying24 Tryz.underlying5 Tryz.underlying9 (HRD.out.below (hW.mono HB.out.size))) ?_
              try simp only [Act.put, List.setIfInBounds_toArray, List.set_cons_zero, List.set_cons_succ]
              iterate 9 (refine wpOrd_q (v := ?_) (by rfl) (fun W hW => ?_) ?_; rotate_left; (focus ((obtain ⟨hWc, hWf⟩ := bcell hW; go_simp); try with_reducible rfl)); try simp only [Act.put, List.setIfInBounds_toArray, List.set_cons_zero, List.set_cons_succ])
              refine wpOrd_q (v := .int .u16 (e.num.toNat : Int)) (by rfl) (fun W hW => by go_simp; try exact hor) ?_
              try simp only [Act.put, List.setIfInBounds_toArray, List.set_cons_zero, List.set_cons_succ]
              iterate 1 (refine wpOrd_q (v := ?_) (by rfl) (fun W hW => ?_) ?_; rotate_left; (focus ((obtain ⟨hWc, hWf⟩ := bcell hW; go_simp); try with_reducible rfl)); try simp only [Act.put, List.setIfInBounds_toArray, List.set_cons_zero, List.set_cons_succ])
              refine wpOrd_x (by rfl) (fun KK hKK => ?_)
              go_simp
              refine hKK _ _ _ (fun _ h => h) ((Below.refl _ _).drew.alloc (Nat.le_refl _) _) ?_
              clear hKK KK
              try simp only [Act.put, List.setIfInBounds_toArray, List.set_cons_zero, List.set_cons_succ]
              refine wpOrd_x (by rfl) (fun KK hKK => ?_)
              go_simp
              refine hKK _ _ _ (fun _ h => h) ((Below.refl _ _).alloc (Nat.le_refl _) _).drew ?_
              clear hKK KK
              refine wpOrd_nil ?_
              refine at_world (fun W => ∃ q, q = wr.heap.size ∧ Below w.heap.size w W ∧ Blk W p 125 #[.string ⟨#[]⟩, .int .u16 0] ∧ Blk W q 125 #[.string e.name, .int .u16 (e.num.toNat : Int)]) ⟨_, rfl, (HB.out.alloc HB.out.size _).drew, (HP.out.alloc _).drew, (Blk.new _ _ _).drew⟩ (fun w3 h3 => ?_)
              obtain ⟨q, hq, hb3, hP3, hQ3⟩ := h3
              rw [← hq]
              have HB3 := hide hb3
              have HP3 := hide hP3
              have HQ3 := hide hQ3
              have q0 := hQ3.cell 0
              have q1 := hQ3.cell 1
              have ql := hQ3.lt
              clear hq hb3 hP3 hQ3 HRD HC1 HC b0 b1 hor e1 e2 e3 hlen
              rcases HG.out.1 with ⟨hz, hnm⟩ | ⟨hz, hnm⟩
              · have hz0 : e.num.toNat = 0 := by rw [hz]; rfl
                have hnm0 : e.name = ⟨#[]⟩ := by rw [← str_name e, hnm]; rfl
                have hk0 : y = 2 := by have := HG.out.2; rw [hnm0] at this; rw [← hy, ← this]; rfl
                exfalso; omega
              · have hz0 : e.num.toNat ≠ 0 := fun h0 => hz (UInt16.toNat_inj.1 h0)
                have t6 : ((e.num.toNat : Int) == 0) = false := by rw [beq_eq_false_iff_ne]; omega
                have t6' : ¬ (e.num.toNat : Int) = 0 := by omega
                go_wp2_with fail
                refine (dirname_ok e.name w3).mono ?_
                rintro _ _ ⟨rfl, rfl⟩
                rw [hnm]
                have HPQ := hide (below_setRow HB3.out HPW.out #[.string e.name, .int .u16 (e.num.toNat : Int)])
                go_wp2_with (first | ((with_reducible refine at_store 125 (.tmp 2) (.tmp 63) ?_); refine wpList_store_blk rfl 125 (.tmp 2) (.tmp 63) rfl p _ _ _ (by rfl) (by rfl) HP3.out (by exact size_ent) (by rfl) (by simp [Value.oneCell']) (fun hB4 => ?_)) | ((with_reducible refine at_end ?_); refine bodyPost_ret (v := .tuple #[.agg #[.string e.name, .int .u16 (e.num.toNat : Int)], .bool true]) (results_run2 rfl (ResV.row rfl hB4 Tryz.underlying125 rfl size_ent) rfl) rfl ⟨rfl, HPQ.out⟩) | fail)
end
end Go.Proofs.YthmkgohfeahdhaaGreat
namespace Go.Proofs.YthmkgohfeahdhaaGreat
open Go.RowKit
set_option linter.unusedSimpArgs false
set_option linter.unusedVariables false

/-- a directory's bytes -/
def pks (l : List EntV) : List UInt8 := l.flatMap packB
theorem pks_length : ∀ l : List EntV, (pks l).length = 16 * l.length
  | [] => rfl
  | e :: l => by
    have := pks_length l
    unfold pks at this ⊢
    rw [List.flatMap_cons, List.length_append, this, packB_length, List.length_cons]
    omega
theorem pks_piece : ∀ {l : List EntV} {k : Nat} {e : EntV}, l[k]? = some e → ((pks l).drop (16 * k)).take 16 = packB e
  | [], k, e, h => by simp at h
  | a :: l, 0, e, h => by
    obtain rfl : a = e := by simpa using h
    unfold pks
    rw [List.flatMap_cons, Nat.mul_zero, List.drop_zero, ← packB_length a, List.take_left']
    rw [packB_length]
  | a :: l, k + 1, e, h => by
    have h1 := pks_piece (l := l) (k := k) (e := e) (by simpa using h)
    unfold pks at h1 ⊢
    rw [List.flatMap_cons, show 16 * (k + 1) = (packB a).length + 16 * k from by rw [packB_length]; omega, List.drop_append, List.drop_eq_nil_of_le (by omega), List.nil_append, Nat.add_sub_cancel_left, h1]
theorem info_ent : ∃ i, Tryz.prog.info? 125 = some i ∧ i.zero = some (.agg #[.string ⟨#[]⟩, .int .u16 0]) ∧ i.size = 2 ∧ i.bytes = 24 := by
  have h : (Tryz.prog.info? 125).map (fun i => (i.zero, i.size, i.bytes)) = some (some (.agg #[.string ⟨#[]⟩, .int .u16 0]), 2, 24) := by kernel_rfl
  cases hi : Tryz.prog.info? 125 with
  | none => rw [hi] at h; cases h
  | some i =>
    rw [hi] at h
    simp only [Option.map_some, Option.some.injEq, Prod.mk.injEq] at h
    exact ⟨i, rfl, h.1, h.2.1, h.2.2⟩
section
variable {w w' : World} {i : Ids} {s : Sto} {gg : Nat} {g : GeoN} {lab : Int} {G : GS}
set_option maxRecDepth 100000 in
set_option maxHeartbeats 4000000 in
theorem dopen_ok {num sz : Nat} {l : List EntV} {κ : Nat → Nat} (h : GAt w i s gg g lab G) (h1 : 1 ≤ num) (h2 : num ≤ g.nodes) (hk : (G.nd num).kind = 2) (hl : (pks l).length = sz) (hsz : (G.nd num).size.toNat = sz)
    (hf : FileAt G g.blocks (G.nd num) (blks sz) κ sz (fun j => (pks l).getD j 0)) (hlen : sz ≤ 16384) (hg : ∀ e ∈ l, e.Good) :
    Calls Tryz.prog 119 #[.pointer (some ⟨gg, 0, none⟩), .int .i64 (num : Int)] w fun e w' => ∃ A c, e = .returned (.tuple #[.slice A l.length c, .int .i64 0]) ∧ w'.ownsRow w.heap.size 125 2 (.slice A l.length c) l.length (flat2 l) ∧ GAt w' i s gg g lab G ∧ Tch w.heap.size i.own w w' := by
  have hdir := h.gok.dir num
  have hnd := gs_node' h h1 h2
  obtain ⟨n0, hn0⟩ : ∃ n0, G.nd num = n0 := ⟨_, rfl⟩
  rw [hn0] at hnd hdir
  have H := hide h
  have HND := hide hnd
  have HN0 := hide hn0
  have HD := hide hdir
  have HK := hide (And.intro h1 (And.intro h2 (And.intro hk (And.intro hl hsz))))
  have HF := hide hf
  have HR := hide hg
  have HL := hide hlen
  clear h hnd hn0 hdir h1 h2 hk hl hf hg
  go_enter Tryz.func119, Tryz.ntmps119
  go_wp2_with fail
  refine HND.out.mono ?_
  rintro e w1 ⟨rfl, ha1, ht1⟩
  have HA1 := hide ha1
  have HT1 := hide ht1
  clear ha1 ht1 HND
  go_upto_region 2 with (first | ((with_reducible refine at_alloc 130 ?_); refine wpList_alloc_as rfl 130 rfl _ (zero_node _) ?_) | ((with_reducible refine at_store 130 (.tmp 6) (.tmp 17) ?_); refine wpList_store_blk rfl 130 (.tmp 6) (.tmp 17) rfl w1.heap.size _ _ _ (by rfl) (by rfl) (Blk.new _ _ _) (size_nodeOf HD.out) (by rw [List.size_toArray, List.size_toArray, NodeV.cells_length HD.out]; rfl) (NodeV.cells_one _) (fun _ => ?_)) | fail)
  refine at_world (fun W => ∃ q, q = w1.heap.size ∧ Below w1.heap.size w1 W ∧ Blk W q 130 n0.cells.toArray) ⟨_, rfl, below_setRow ((Below.refl _ _).alloc (Nat.le_refl _) _) (Nat.le_refl _) _, (Blk.new _ _ _).setRow_same _⟩ (fun w2 hw2 => ?_)
  obtain ⟨q, hq, hb2, hQ2⟩ := hw2
  rw [← hq]
  have HA2 := hide (HA1.out.below hb2)
  have HT2 := hide (HT1.out.trans ((Tch.of_below hb2).mono HT1.out.size fun _ _ h => h))
  have q0 := (hQ2.cell 0).trans (node_cells_at n0).1
  have q3 := (hQ2.cell 3).trans (node_cells_at n0).2.2.2
  have ql := hQ2.lt
  have hsz2 : n0.size.toNat = sz := by rw [← HN0.out]; exact HK.out.2.2.2.2
  rw [hsz2] at q3
  have hkd : (n0.kind.toNat : Int) = 2 := by rw [← HN0.out, HK.out.2.2.1]; rfl
  rw [hkd] at q0
  have e1 : IntKind.i64.wrap (sz : Int) = (sz : Int) := IntWalk.i64_in _ (by omega)
  have hrd := read_file (num := num) (off := 0) (many := sz) (en := sz) (c := blks sz) (sz := sz) (κ := κ) (f := fun j => (pks l).getD j 0) HA2.out HK.out.1 HK.out.2.1 (by rw [HK.out.2.2.1]; decide) HK.out.2.2.2.2 HF.out (by omega) (by omega) HL.out (by have := HL.out; omega)
  have hmap : (List.range sz).map (fun k => (pks l).getD (0 + k) 0) = pks l := by
    have hlen := HK.out.2.2.2.1
    apply List.ext_getElem?
    intro j
    rw [List.getElem?_map]
    by_cases hj : j < sz
    · rw [List.getElem?_range hj, List.getElem?_eq_getElem (by rw [hlen]; exact hj), Option.map_some, List.getD_eq_getElem?_getD, Nat.zero_add, List.getElem?_eq_getElem (by rw [hlen]; exact hj)]
      rfl
    · rw [List.getElem?_eq_none (by simpa using hj), List.getElem?_eq_none (by rw [hlen]; omega)]
      rfl
  rw [Nat.sub_zero, hmap, show ((0 : Nat) : Int) = 0 from rfl] at hrd
  have HRD := hide hrd
  clear hq hb2 hQ2 hsz2 hmap hrd hsz hlen hkd HA1 HT1
  go_wp2_with fail
  refine HRD.out.mono ?_
  rintro e w3 ⟨A3, c3, rfl, hr3, ha3, ht3, -, hc3, hown3⟩
  have HBT3 := hide (BT.of_own hown3)
  have HA3 := hide ha3
  have HT3 := hide (HT2.out.trans (ht3.mono HT2.out.size fun _ _ h => h))
  have HR3 := hide (And.intro hr3 hc3)
  clear hr3 ha3 ht3 hc3 hown3 HRD HA2 HT2 q0 q3 ql e1
  go_wp2_with fail
  obtain ⟨N, hN⟩ : ∃ N, l.length = N := ⟨_, rfl⟩
  have hszN : sz = 16 * N := by rw [← hN, ← pks_length, HK.out.2.2.2.1]
  have HN := hide hN
  have HSZ := hide hszN
  clear hN hszN
  go_loopg [9, 10, 11, 12] N (fun gh x9 x10 x11 x12 wr => ∃ (k : Nat) (Ao : Option Addr) (co : Nat), k ≤ N ∧ gh = N - k ∧ x9 = .slice Ao k co ∧ x10 = .int .i64 ((16 * k : Nat) : Int) ∧ Hid (GAt wr i s gg g lab G) ∧ Hid (Tch w.heap.size i.own w wr) ∧ Hid (Rd wr wr.heap.size 1 A3 sz (bvs (pks l)) ∧ sz ≤ c3) ∧ Hid (BT wr A3) ∧ Hid (wr.ownsRow w.heap.size 125 2 (.slice Ao k co) k (flat2 (l.take k))))
  case atStart => exact ⟨0, none, 0, Nat.zero_le _, rfl, rfl, rfl, HA3, HT3, HR3, HBT3, hide (World.ownsRow_nil _ _ _ _)⟩
  case round =>
    clear HA3 HT3 HR3 HBT3
    obtain ⟨k, Ao, co, hk, hgh, rfl, rfl, HA, HT, HB, HBT, HO⟩ := hrel
    have HGH := hide hgh
    have hLL := HL.out
    clear hgh
    obtain ⟨y, hy⟩ : ∃ y : Nat, 16 * k = y := ⟨_, rfl⟩
    rw [hy]
    rcases Nat.lt_or_ge k N with hkl | hkl
    · obtain ⟨e, he⟩ : ∃ e, l[k]? = some e := ⟨_, List.getElem?_eq_getElem (by rw [HN.out]; exact hkl)⟩
      have hysz : y + 16 ≤ sz := by have := HSZ.out; omega
      obtain ⟨ba, oa, rfl, hba, -⟩ := HB.out.1.byte (i := 0) (by omega)
      have hc3 := HB.out.2
      have hrd : Rd wr wr.heap.size 1 (some ⟨ba, oa + y, none⟩) 16 (bvs (packB e)) := by
        have h0 := HB.out.1.part HB.out.2 (lo := y) (hi := y + 16) (by omega) hysz
        rw [Nat.add_sub_cancel_left, ← hy, pks_piece he, hy] at h0
        unfold slA at h0
        rw [if_neg (by omega)] at h0
        simpa [Addr.add_mid] using h0
      have hup := unpack_good e (HR.out e (List.mem_of_getElem? he)) (c := c3 - y) (by omega) hrd
      have HUP := hide hup
      have HE := hide (And.intro he (HR.out e (List.mem_of_getElem? he)))
      have t1 : decide ((y : Int) < (sz : Int)) = true := by simp; omega
      have t1' : (y : Int) < (sz : Int) := by omega
      have e64 : IntKind.i64.wrap ((y : Int) + 16) = (y : Int) + 16 := IntWalk.i64_in _ (by omega)
      have hmin : min ((y : Int) + 16) (sz : Int) = (y : Int) + 16 := by omega
      have m1 : (y : Int) + 16 ≤ (sz : Int) := by omega
      have m2 : ¬ (sz : Int) < (y : Int) + 16 := by omega
      have m3 : (y : Int) + 16 ≤ (c3 : Int) := by omega
      have m4 : y < c3 := by omega
      have m5 : ¬ y = c3 := by omega
      have m6 : ¬ c3 = y := by omega
      clear hup hrd he hba
      have m7 : ((y : Int) + 16).toNat - y = 16 := by omega
      go_wp2_with fail
      refine HUP.out.mono ?_
      rintro _ w4 ⟨rfl, hb4⟩
      have HA4 := hide (HA.out.below hb4)
      have HT4 := hide (HT.out.trans ((Tch.of_below hb4).mono HT.out.size fun _ _ h => h))
      have HO4 := hide (own_below HO.out hb4)
      have HB4 := hide (And.intro ((HB.out.1.below hb4).more hb4.size) HB.out.2)
      have HBT4 := hide (HBT.out.below hb4)
      have hce : e.cells.toArray = #[.string e.name, .int .u16 (e.num.toNat : Int)] := rfl
      rw [hce]
      clear hb4 hce HUP HA HT HO HB HBT t1 t1' hmin m1 m2 m3 m4 m5 m6 m7
      go_upto_region 18 with (fail)
      refine at_world (fun W => ∃ z, z = w4.heap.size ∧ Below w4.heap.size w4 W ∧ Blk W z 125 #[.string e.name, .int .u16 (e.num.toNat : Int)]) ⟨_, rfl, (Below.refl _ _).alloc (Nat.le_refl _) _, Blk.new _ _ _⟩ (fun w5 h5 => ?_)
      obtain ⟨z, hz, hb5, hZ5⟩ := h5
      rw [← hz]
      have HZB := hide hZ5
      have HA5 := hide (HA4.out.below hb5)
      have HT5 := hide (HT4.out.trans ((Tch.of_below hb5).mono HT4.out.size fun _ _ h => h))
      have HO5 := hide (own_below HO4.out hb5)
      have HB5 := hide (And.intro ((HB4.out.1.below hb5).more hb5.size) HB4.out.2)
      have HBT5 := hide (HBT4.out.below hb5)
      clear hz hb5 hZ5 HA4 HT4 HO4 HB4 HBT4
      obtain ⟨j0, hj0, j1, j2, j3⟩ := info_ent
      have HJ := hide (And.intro hj0 (And.intro j1 (And.intro j2 j3)))
      have hone : ∀ u ∈ ([.string e.name, .int .u16 (e.num.toNat : Int)] : List Value), u.oneCell' = true := by simp [Value.oneCell']
      have HONE := hide hone
      have hk6 : k ≤ 1000000 := by have := HSZ.out; omega
      have hs5 := HT5.out.size
      clear hj0 j1 j2 j3 hone
      go_wp2_with (first | ((with_reducible refine at_load 125 (.tmp 11) ?_); refine wpList_load_blk rfl 125 (.tmp 11) rfl z _ _ _ (by rfl) HZB.out Tryz.underlying125 rfl (by exact size_ent) ?_) | (at_builtin; refine wpList_append_one rfl (.tmp 63) (.tmp 65) 60 rfl w.heap.size 125 j0 (.agg #[.string ⟨#[]⟩, .int .u16 0]) 2 24 Tryz.underlying60 HJ.out.1 HJ.out.2.1 HJ.out.2.2.1 HJ.out.2.2.2 rfl (by decide) Ao co k (flat2 (l.take k)) [.string e.name, .int .u16 (e.num.toNat : Int)] w5 rfl HO5.out rfl rfl rfl HONE.out hk6 (by decide) hs5 ?_; intro A9 c9 w6 hown9 hg9 hb9 hat9) | fail)
      have htg : Tch w5.heap.size (fun g => (Value.slice Ao k co).ownBlock = some g) w5 w6 := Tch.grown hg9 (Nat.le_refl _) (fun g hg _ => hg)
      have hown_ge : ∀ g, (Value.slice Ao k co).ownBlock = some g → w.heap.size ≤ g := fun g hg => (own_block_ge HO5.out hg).1
      have hav : ∀ (t : TypeId) g cur, t ≠ 125 → Blk w5 g t cur → ¬ (Value.slice Ao k co).ownBlock = some g := fun t g cur ht hB => row_not_blk HO5.out hB ht
      have hll := H.out.tx.log.log.lt
      have hgg := H.out.gp.lt
      have HA6 := hide (HA5.out.apart htg (fun g hg => ⟨fun ho => H.out.tx.other_new (hown_ge g hg) ho, by have := hown_ge g hg; omega, by have := hown_ge g hg; omega⟩))
      have HT6 := hide (HT5.out.trans (htg.mono HT5.out.size (fun g hk hg => by have := hown_ge g hg; omega)))
      have HB6 := hide (And.intro (HB5.out.1.keepT HBT5.out htg (fun g cur hB => hav _ g cur (by decide) hB)) HB5.out.2)
      have HBT6 := hide (HBT5.out.tch htg (fun g cur hB => hav _ g cur (by decide) hB))
      have hfl : flat2 (l.take k) ++ [.string e.name, .int .u16 (e.num.toNat : Int)] = flat2 (l.take (k + 1)) := by
        rw [List.take_add_one, HE.out.1]
        simp [flat2, EntV.cells]
      rw [hfl] at hown9
      have HO6 := hide hown9
      clear hown9 hg9 hb9 hat9 htg hown_ge hav hll hgg hfl HA5 HT5 HO5 HB5 HBT5
      go_roundg (N - (k + 1))
      case rel => exact ⟨k + 1, A9, c9, by omega, rfl, rfl, by rw [Nat.mul_add, hy]; first | rfl | go_num, HA6, HT6, HB6, HBT6, HO6⟩
      case measure => have := HGH.out; omega
    · have hkN : k = N := by omega
      have t1 : decide ((y : Int) < (sz : Int)) = false := by have := HSZ.out; simp; omega
      have t1' : ¬ (y : Int) < (sz : Int) := by have := HSZ.out; omega
      have HKN := hide hkN
      clear hkl hk hkN hLL
      go_wp2
      go_returns
      refine ⟨Ao, co, ?_, ?_, HA.out, HT.out⟩
      · have e1 := HN.out
        have e2 := HKN.out
        simp [e1, e2]
      · have h0 := HO.out
        rw [HKN.out, List.take_of_length_le (by rw [HN.out]; exact Nat.le_refl _)] at h0
        rw [HN.out]
        exact h0
end
end Go.Proofs.YthmkgohfeahdhaaGreat
namespace Go.Proofs.YthmkgohfeahdhaaGreat
open Go.RowKit
set_option linter.unusedSimpArgs false
set_option linter.unusedVariables false

/-- those that are there -/
def live (l : List EntV) : List EntV := l.filter fun e => decide (e.num ≠ 0)
theorem flat2_get : ∀ {L : List EntV} {k j : Nat} {n : EntV}, L[k]? = some n → j < 2 → (flat2 L)[k * 2 + j]? = n.cells[j]?
  | [], k, j, n, h, _ => by simp at h
  | a :: r, 0, j, n, h, hj => by
    obtain rfl : a = n := by simpa using h
    unfold flat2
    rw [List.flatMap_cons, Nat.zero_mul, Nat.zero_add, List.getElem?_append_left (by simp [EntV.cells]; omega)]
  | a :: r, k + 1, j, n, h, hj => by
    have := flat2_get (L := r) (k := k) (j := j) (n := n) (by simpa using h) hj
    unfold flat2 at this ⊢
    rw [List.flatMap_cons, List.getElem?_append_right (by simp [EntV.cells]; omega), ← this]
    congr 1
    simp [EntV.cells]; omega
theorem ent_range {w : World} {B n co : Nat} {Ao : Option Addr} {L : List EntV} (h : w.ownsRow B 125 2 (.slice Ao n co) n (flat2 L)) (hn : 0 < n) : ∃ g, Ao = some ⟨g, 0, none⟩ ∧ g < w.heap.size ∧ ∀ (k : Nat) (r : EntV), L[k]? = some r → w.rangeAt g (k * 2) r.cells := by
  obtain ⟨g, hA, _, hlt, hc⟩ := own_base h hn
  refine ⟨g, hA, hlt, fun k r hk j v hj => ?_⟩
  have hj2 : j < 2 := by have := (List.getElem?_eq_some_iff.1 hj).1; simpa [EntV.cells] using this
  have := flat2_get hk hj2
  exact hc _ _ (this.trans hj)
theorem live_snoc (l : List EntV) (k : Nat) {e : EntV} (he : l[k]? = some e) : live (l.take (k + 1)) = if e.num = 0 then live (l.take k) else live (l.take k) ++ [e] := by
  unfold live
  rw [List.take_add_one, he, List.filter_append]
  by_cases h : e.num = 0
  · simp [h]
  · simp [h]
section
variable {w w' : World} {i : Ids} {s : Sto} {gg : Nat} {g : GeoN} {lab : Int} {G : GS}
set_option maxRecDepth 100000 in
set_option maxHeartbeats 4000000 in
theorem dlist_ok {num : Nat} {l : List EntV} (h : GAt w i s gg g lab G) (hln : l.length ≤ 1024)
    (hop : ∀ W, GAt W i s gg g lab G → Calls Tryz.prog 119 #[.pointer (some ⟨gg, 0, none⟩), .int .i64 (num : Int)] W fun e w' => ∃ A c, e = .returned (.tuple #[.slice A l.length c, .int .i64 0]) ∧ w'.ownsRow W.heap.size 125 2 (.slice A l.length c) l.length (flat2 l) ∧ GAt w' i s gg g lab G ∧ Tch W.heap.size i.own W w') :
    Calls Tryz.prog 63 #[.pointer (some ⟨gg, 0, none⟩), .int .i64 (num : Int)] w fun e w' => ∃ A c, e = .returned (.tuple #[.slice A (live l).length c, .int .i64 0]) ∧ w'.ownsRow w.heap.size 125 2 (.slice A (live l).length c) (live l).length (flat2 (live l)) ∧ GAt w' i s gg g lab G ∧ Tch w.heap.size i.own w w' := by
  have H := hide h
  have HOP := hide hop
  have HLN := hide hln
  clear h hop hln
  go_enter Tryz.func63, Tryz.ntmps63
  go_wp2_with fail
  refine (HOP.out w H.out).mono ?_
  rintro e w1 ⟨A, c, rfl, hown, ha1, ht1⟩
  obtain ⟨N, hN⟩ : ∃ N, l.length = N := ⟨_, rfl⟩
  have HN := hide hN
  rw [hN] at hown ⊢
  have HO1 := hide hown
  have HA1 := hide ha1
  have HT1 := hide ht1
  clear hown ha1 ht1 hN
  go_wp2_with fail
  have hw1 := HT1.out.size
  have HW1 := hide hw1
  clear hw1
  go_loopg [8, 10, 22] N (fun gh x8 x10 x22 wr => ∃ (k m : Nat) (Ao : Option Addr) (co : Nat), k ≤ N ∧ gh = N - k ∧ x8 = .slice Ao m co ∧ x22 = .int .i64 (k : Int) ∧ Hid ((live (l.take k)).length = m) ∧ Hid (GAt wr i s gg g lab G) ∧ Hid (Tch w.heap.size i.own w wr) ∧ Hid (wr.ownsRow w.heap.size 125 2 (.slice A N c) N (flat2 l)) ∧ Hid (∀ b, (Value.slice A N c).ownBlock = some b → b < w1.heap.size) ∧ Hid (w1.heap.size ≤ wr.heap.size ∧ wr.ownsRow w1.heap.size 125 2 (.slice Ao m co) m (flat2 (live (l.take k)))))
  case atStart => exact ⟨0, 0, none, 0, Nat.zero_le _, rfl, rfl, rfl, hide (by simp [live]), HA1, HT1, HO1, hide (fun b hb => (own_block_ge HO1.out hb).2), hide ⟨Nat.le_refl _, World.ownsRow_nil _ _ _ _⟩⟩
  case round =>
    obtain ⟨k, m, Ao, co, hk, hgh, rfl, rfl, HM, HA, HT, HO, HBB, HS⟩ := hrel
    have HGH := hide hgh
    have hln := HLN.out
    have hnn := HN.out
    clear hgh
    rcases Nat.lt_or_ge k N with hkl | hkl
    · obtain ⟨e, he⟩ : ∃ e, l[k]? = some e := ⟨_, List.getElem?_eq_getElem (by omega)⟩
      obtain ⟨ga, rfl, hga, hrg⟩ := ent_range HO.out (by omega)
      have hrg' : wr.rangeAt ga (k * 2) [.string e.name, .int .u16 (e.num.toNat : Int)] := hrg k e he
      have HRG := hide hrg'
      have HE := hide he
      have t1 : decide ((k : Int) < (N : Int)) = true := by simp; omega
      have t1' : (k : Int) < (N : Int) := by omega
      have e64 : IntKind.i64.wrap ((k : Int) + 1) = (k : Int) + 1 := IntWalk.i64_in _ (by omega)
      have hsz : (Tryz.prog.info? 125).map (·.size) = some ([Value.string e.name, .int .u16 (e.num.toNat : Int)] : List Value).length := size_ent
      have HSZ := hide hsz
      clear hrg hrg' he hsz hln hnn
      go_upto_region 8 with (first | ((with_reducible refine at_load 125 (.tmp 24) ?_); refine wpList_load_mid rfl 125 (.tmp 24) rfl ga (k * 2) (by rfl) [.string e.name, .int .u16 (e.num.toNat : Int)] _ HRG.out Tryz.underlying125 rfl HSZ.out ?_) | fail)
      refine at_world (fun W => ∃ z, z = wr.heap.size ∧ Below wr.heap.size wr W ∧ Blk W z 125 #[.string e.name, .int .u16 (e.num.toNat : Int)]) ⟨_, rfl, (Below.refl _ _).alloc (Nat.le_refl _) _, Blk.new _ _ _⟩ (fun w5 h5 => ?_)
      obtain ⟨z, hz, hb5, hZ5⟩ := h5
      rw [← hz]
      have HZB := hide hZ5
      have HA5 := hide (HA.out.below hb5)
      have HT5 := hide (HT.out.trans ((Tch.of_below hb5).mono HT.out.size fun _ _ h => h))
      have HO5 := hide (own_below HO.out hb5)
      have HS5 := hide (And.intro (Nat.le_trans HS.out.1 hb5.size) (own_below HS.out.2 hb5))
      have z1 := hZ5.cell 1
      have zl := hZ5.lt
      clear hz hb5 hZ5 HA HT HO HS HRG
      have hls := live_snoc l k HE.out
      by_cases hz : e.num = 0
      · rw [if_pos hz] at hls
        have hn0 : e.num.toNat = 0 := by rw [hz]; rfl
        have t2 : decide ((0 : Int) < (e.num.toNat : Int)) = false := by simp; omega
        have HLS := hide hls
        clear hls
        go_wp2_with fail
        go_roundg (N - (k + 1))
        case rel => exact ⟨k + 1, m, Ao, co, by omega, rfl, rfl, by first | rfl | go_num, hide (by rw [HLS.out]; exact HM.out), HA5, HT5, HO5, HBB, hide (by rw [HLS.out]; exact HS5.out)⟩
        case measure => have := HGH.out; omega
      · rw [if_neg hz] at hls
        have hn0 : e.num.toNat ≠ 0 := fun h0 => hz (UInt16.toNat_inj.1 h0)
        have t2 : decide ((0 : Int) < (e.num.toNat : Int)) = true := by simp; omega
        have t2' : (0 : Int) < (e.num.toNat : Int) := by omega
        have HLS := hide hls
        obtain ⟨j0, hj0, j1, j2, j3⟩ := info_ent
        have HJ := hide (And.intro hj0 (And.intro j1 (And.intro j2 j3)))
        have hone : ∀ u ∈ ([.string e.name, .int .u16 (e.num.toNat : Int)] : List Value), u.oneCell' = true := by simp [Value.oneCell']
        have HONE := hide hone
        have hmk : m ≤ 1000000 := by
          have h1 := HM.out
          have h2 : (live (l.take k)).length ≤ (l.take k).length := List.length_filter_le _ _
          rw [List.length_take] at h2
          have := HLN.out
          omega
        clear hls hj0 j1 j2 j3 hone
        go_wp2_with (first | ((with_reducible refine at_load 125 (.tmp 10) ?_); refine wpList_load_blk rfl 125 (.tmp 10) rfl z _ _ _ (by rfl) HZB.out Tryz.underlying125 rfl (by exact size_ent) ?_) | (at_builtin; refine wpList_append_one rfl (.tmp 29) (.tmp 31) 60 rfl w1.heap.size 125 j0 (.agg #[.string ⟨#[]⟩, .int .u16 0]) 2 24 Tryz.underlying60 HJ.out.1 HJ.out.2.1 HJ.out.2.2.1 HJ.out.2.2.2 rfl (by decide) Ao co m (flat2 (live (l.take k))) [.string e.name, .int .u16 (e.num.toNat : Int)] w5 rfl HS5.out.2 rfl rfl rfl HONE.out hmk (by decide) HS5.out.1 ?_; intro A9 c9 w6 hown9 hg9 hb9 hat9) | fail)
        have htg : Tch w5.heap.size (fun g => (Value.slice Ao m co).ownBlock = some g) w5 w6 := Tch.grown hg9 (Nat.le_refl _) (fun g hg _ => hg)
        have hown_ge : ∀ g, (Value.slice Ao m co).ownBlock = some g → w1.heap.size ≤ g := fun g hg => (own_block_ge HS5.out.2 hg).1
        have hll := H.out.tx.log.log.lt
        have hgg := H.out.gp.lt
        have hw1 := HW1.out
        have HA6 := hide (HA5.out.apart htg (fun g hg => ⟨fun ho => H.out.tx.other_new (Nat.le_trans hw1 (hown_ge g hg)) ho, by have := hown_ge g hg; omega, by have := hown_ge g hg; omega⟩))
        have HT6 := hide (HT5.out.trans (htg.mono HT5.out.size (fun g hk hg => by have := hown_ge g hg; omega)))
        have HO6 := hide (own_keep HO5.out fun b hb => htg.block b (own_block_ge HO5.out hb).2 (fun hg => by have := hown_ge b hg; have := HBB.out b hb; omega))
        have hfl : flat2 (live (l.take k)) ++ [.string e.name, .int .u16 (e.num.toNat : Int)] = flat2 (live (l.take (k + 1))) := by
          rw [HLS.out]
          simp [flat2, EntV.cells]
        rw [hfl] at hown9
        have HS6 := hide (And.intro (Nat.le_trans HS5.out.1 htg.size) hown9)
        clear hown9 hg9 hb9 hat9 htg hown_ge hll hgg hw1 hfl HA5 HT5 HO5 HS5
        go_roundg (N - (k + 1))
        case rel => exact ⟨k + 1, m + 1, A9, c9, by omega, rfl, rfl, by first | rfl | go_num, hide (by rw [HLS.out, List.length_append, HM.out]; rfl), HA6, HT6, HO6, HBB, HS6⟩
        case measure => have := HGH.out; omega
    · have hkN : k = N := by omega
      have t1 : decide ((k : Int) < (N : Int)) = false := by simp; omega
      have t1' : ¬ (k : Int) < (N : Int) := by omega
      have htk : l.take k = l := List.take_of_length_le (by omega)
      have HF := hide (And.intro HM.out (own_mono HS.out.2 HW1.out))
      rw [htk] at HF
      clear hkl hk hkN htk hln hnn
      go_wp2
      go_returns
      refine ⟨Ao, co, ?_, ?_, HA.out, HT.out⟩
      · have e1 := HF.out.1
        simp [e1]
      · rw [HF.out.1]
        exact HF.out.2
end
end Go.Proofs.YthmkgohfeahdhaaGreat
namespace Go.Proofs.YthmkgohfeahdhaaGreat
open Go.RowKit
set_option linter.unusedSimpArgs false
set_option linter.unusedVariables false

section
variable {w w' : World} {i : Ids} {s : Sto} {gg : Nat} {g : GeoN} {lab : Int} {G : GS}
/-- what dir.List says -/
def ListsTo (i : Ids) (s : Sto) (gg : Nat) (g : GeoN) (lab : Int) (G : GS) (num : Nat) (l : List EntV) : Prop :=
  ∀ W, GAt W i s gg g lab G → Calls Tryz.prog 63 #[.pointer (some ⟨gg, 0, none⟩), .int .i64 (num : Int)] W fun e w' => ∃ A c, e = .returned (.tuple #[.slice A l.length c, .int .i64 0]) ∧ w'.ownsRow W.heap.size 125 2 (.slice A l.length c) l.length (flat2 l) ∧ GAt w' i s gg g lab G ∧ Tch W.heap.size i.own W w'
set_option maxRecDepth 100000 in
set_option maxHeartbeats 2000000 in
theorem dempty_ok {num : Nat} {l : List EntV} (h : GAt w i s gg g lab G) (hl : ListsTo i s gg g lab G num l) :
    Calls Tryz.prog 65 #[.pointer (some ⟨gg, 0, none⟩), .int .i64 (num : Int)] w fun e w' => e = .returned (.tuple #[.bool (decide (l.length = 0)), .int .i64 0]) ∧ GAt w' i s gg g lab G ∧ Tch w.heap.size i.own w w' := by
  have H := hide h
  have HL := hide hl
  clear h hl
  go_enter Tryz.func65, Tryz.ntmps65
  go_wp2_with fail
  refine (HL.out w H.out).mono ?_
  rintro e w1 ⟨A, c, rfl, hown, ha1, ht1⟩
  obtain ⟨N, hN⟩ : ∃ N, l.length = N := ⟨_, rfl⟩
  have HN := hide hN
  rw [hN]
  have HF := hide (And.intro ha1 ht1)
  clear hown ha1 ht1 hN
  by_cases h0 : N = 0
  · subst h0
    go_wp2_with fail
    go_returns
    refine ⟨?_, HF.out⟩
    have := HN.out
    simp [this]
  · have t1 : ((N : Int) == 0) = false := by rw [beq_eq_false_iff_ne]; omega
    have t2 : ¬ (N : Int) = 0 := by omega
    go_wp2_with fail
    go_returns
    refine ⟨?_, HF.out⟩
    have := HN.out
    simp [this, h0]
set_option maxRecDepth 100000 in
set_option maxHeartbeats 2000000 in
theorem dfind_no {num : Nat} {l : List EntV} {nm : ByteArray} (h : GAt w i s gg g lab G) (hl : ListsTo i s gg g lab G num l) (hln : l.length ≤ 1024) (hno : ∀ e ∈ l, e.name ≠ nm) :
    Calls Tryz.prog 54 #[.pointer (some ⟨gg, 0, none⟩), .int .i64 (num : Int), .string nm] w fun e w' => e = .returned (.tuple #[.int .i64 0, .int .i64 3]) ∧ GAt w' i s gg g lab G ∧ Tch w.heap.size i.own w w' := by
  have H := hide h
  have HL := hide hl
  have HNO := hide (And.intro hno hln)
  clear h hl hno hln
  go_enter Tryz.func54, Tryz.ntmps54
  go_wp2_with fail
  refine (HL.out w H.out).mono ?_
  rintro e w1 ⟨A, c, rfl, hown, ha1, ht1⟩
  obtain ⟨N, hN⟩ : ∃ N, l.length = N := ⟨_, rfl⟩
  have HN := hide hN
  rw [hN] at hown ⊢
  have HO1 := hide hown
  have HA1 := hide ha1
  have HT1 := hide ht1
  clear hown ha1 ht1 hN
  go_wp2_with fail
  go_loopg [11, 23] N (fun gh x11 x23 wr => ∃ k : Nat, k ≤ N ∧ gh = N - k ∧ x23 = .int .i64 (k : Int) ∧ Hid (GAt wr i s gg g lab G) ∧ Hid (Tch w.heap.size i.own w wr) ∧ Hid (wr.ownsRow w.heap.size 125 2 (.slice A N c) N (flat2 l)))
  case atStart => exact ⟨0, Nat.zero_le _, rfl, rfl, HA1, HT1, HO1⟩
  case round =>
    obtain ⟨k, hk, hgh, rfl, HA, HT, HO⟩ := hrel
    have HGH := hide hgh
    have hln := HNO.out.2
    have hnn := HN.out
    clear hgh
    rcases Nat.lt_or_ge k N with hkl | hkl
    · obtain ⟨e, he⟩ : ∃ e, l[k]? = some e := ⟨_, List.getElem?_eq_getElem (by omega)⟩
      obtain ⟨ga, rfl, hga, hrg⟩ := ent_range HO.out (by omega)
      have hrg' : wr.rangeAt ga (k * 2) [.string e.name, .int .u16 (e.num.toNat : Int)] := hrg k e he
      have HRG := hide hrg'
      have hne : ¬ e.name = nm := HNO.out.1 e (List.mem_of_getElem? he)
      have hne' : (e.name.toList == nm.toList) = false := by
        rw [beq_eq_false_iff_ne, Lib.toList_data, Lib.toList_data]
        intro h0
        apply hne
        rw [← str_name e, h0]
        obtain ⟨⟨d⟩⟩ := nm
        simp [str]
      have t1 : decide ((k : Int) < (N : Int)) = true := by simp; omega
      have t1' : (k : Int) < (N : Int) := by omega
      have e64 : IntKind.i64.wrap ((k : Int) + 1) = (k : Int) + 1 := IntWalk.i64_in _ (by omega)
      have hsz : (Tryz.prog.info? 125).map (·.size) = some ([Value.string e.name, .int .u16 (e.num.toNat : Int)] : List Value).length := size_ent
      have HSZ := hide hsz
      clear hrg hrg' he hsz hln hnn
      go_upto_region 7 with (first | ((with_reducible refine at_load 125 (.tmp 25) ?_); refine wpList_load_mid rfl 125 (.tmp 25) rfl ga (k * 2) (by rfl) [.string e.name, .int .u16 (e.num.toNat : Int)] _ HRG.out Tryz.underlying125 rfl HSZ.out ?_) | fail)
      refine at_world (fun W => ∃ z, z = wr.heap.size ∧ Below wr.heap.size wr W ∧ Blk W z 125 #[.string e.name, .int .u16 (e.num.toNat : Int)]) ⟨_, rfl, (Below.refl _ _).alloc (Nat.le_refl _) _, Blk.new _ _ _⟩ (fun w5 h5 => ?_)
      obtain ⟨z, hz, hb5, hZ5⟩ := h5
      rw [← hz]
      have HA5 := hide (HA.out.below hb5)
      have HT5 := hide (HT.out.trans ((Tch.of_below hb5).mono HT.out.size fun _ _ h => h))
      have HO5 := hide (own_below HO.out hb5)
      have z0 := hZ5.cell 0
      have zl := hZ5.lt
      clear hz hb5 hZ5 HA HT HO HRG
      go_wp2_with fail
      go_roundg (N - (k + 1))
      case rel => exact ⟨k + 1, by omega, rfl, by first | rfl | go_num, HA5, HT5, HO5⟩
      case measure => have := HGH.out; omega
    · have t1 : decide ((k : Int) < (N : Int)) = false := by simp; omega
      have t1' : ¬ (k : Int) < (N : Int) := by omega
      clear hkl hk hln hnn
      go_wp2
      go_returns
      exact ⟨rfl, HA.out, HT.out⟩
set_option maxRecDepth 100000 in
set_option maxHeartbeats 2000000 in
theorem dfind_at {num K : Nat} {l : List EntV} {nm : ByteArray} {e0 : EntV} (hK : l[K]? = some e0) (hnm : e0.name = nm) (h : GAt w i s gg g lab G) (hl : ListsTo i s gg g lab G num l) (hln : l.length ≤ 1024) (hno : ∀ j, j < K → ∀ x, l[j]? = some x → x.name ≠ nm) :
    Calls Tryz.prog 54 #[.pointer (some ⟨gg, 0, none⟩), .int .i64 (num : Int), .string nm] w fun e w' => e = .returned (.tuple #[.int .i64 (e0.num.toNat : Int), .int .i64 0]) ∧ GAt w' i s gg g lab G ∧ Tch w.heap.size i.own w w' := by
  have H := hide h
  have HL := hide hl
  have HNO := hide (And.intro hno hln)
  have HKE := hide (And.intro hK hnm)
  have HKL := hide (List.getElem?_eq_some_iff.1 hK).1
  clear h hl hno hln hK hnm
  go_enter Tryz.func54, Tryz.ntmps54
  go_wp2_with fail
  refine (HL.out w H.out).mono ?_
  rintro e w1 ⟨A, c, rfl, hown, ha1, ht1⟩
  obtain ⟨N, hN⟩ : ∃ N, l.length = N := ⟨_, rfl⟩
  have HN := hide hN
  rw [hN] at hown ⊢
  have HO1 := hide hown
  have HA1 := hide ha1
  have HT1 := hide ht1
  clear hown ha1 ht1 hN
  go_wp2_with fail
  go_loopg [11, 23] K (fun gh x11 x23 wr => ∃ k : Nat, k ≤ K ∧ gh = K - k ∧ x23 = .int .i64 (k : Int) ∧ Hid (GAt wr i s gg g lab G) ∧ Hid (Tch w.heap.size i.own w wr) ∧ Hid (wr.ownsRow w.heap.size 125 2 (.slice A N c) N (flat2 l)))
  case atStart => exact ⟨0, Nat.zero_le _, rfl, rfl, HA1, HT1, HO1⟩
  case round =>
    obtain ⟨k, hk, hgh, rfl, HA, HT, HO⟩ := hrel
    have HGH := hide hgh
    have hln := HNO.out.2
    have hnn := HN.out
    clear hgh
    have hkl2 := HKL.out
    rcases Nat.lt_or_ge k K with hkl | hkl
    · obtain ⟨e, he⟩ : ∃ e, l[k]? = some e := ⟨_, List.getElem?_eq_getElem (by omega)⟩
      obtain ⟨ga, rfl, hga, hrg⟩ := ent_range HO.out (by omega)
      have hrg' : wr.rangeAt ga (k * 2) [.string e.name, .int .u16 (e.num.toNat : Int)] := hrg k e he
      have HRG := hide hrg'
      have hne : ¬ e.name = nm := HNO.out.1 k hkl e he
      have hne' : (e.name.toList == nm.toList) = false := by
        rw [beq_eq_false_iff_ne, Lib.toList_data, Lib.toList_data]
        intro h0
        apply hne
        rw [← str_name e, h0]
        obtain ⟨⟨d⟩⟩ := nm
        simp [str]
      have t1 : decide ((k : Int) < (N : Int)) = true := by simp; omega
      have t1' : (k : Int) < (N : Int) := by omega
      have e64 : IntKind.i64.wrap ((k : Int) + 1) = (k : Int) + 1 := IntWalk.i64_in _ (by omega)
      have hsz : (Tryz.prog.info? 125).map (·.size) = some ([Value.string e.name, .int .u16 (e.num.toNat : Int)] : List Value).length := size_ent
      have HSZ := hide hsz
      clear hrg hrg' he hsz hln hnn hkl2
      go_upto_region 7 with (first | ((with_reducible refine at_load 125 (.tmp 25) ?_); refine wpList_load_mid rfl 125 (.tmp 25) rfl ga (k * 2) (by rfl) [.string e.name, .int .u16 (e.num.toNat : Int)] _ HRG.out Tryz.underlying125 rfl HSZ.out ?_) | fail)
      refine at_world (fun W => ∃ z, z = wr.heap.size ∧ Below wr.heap.size wr W ∧ Blk W z 125 #[.string e.name, .int .u16 (e.num.toNat : Int)]) ⟨_, rfl, (Below.refl _ _).alloc (Nat.le_refl _) _, Blk.new _ _ _⟩ (fun w5 h5 => ?_)
      obtain ⟨z, hz, hb5, hZ5⟩ := h5
      rw [← hz]
      have HA5 := hide (HA.out.below hb5)
      have HT5 := hide (HT.out.trans ((Tch.of_below hb5).mono HT.out.size fun _ _ h => h))
      have HO5 := hide (own_below HO.out hb5)
      have z0 := hZ5.cell 0
      have zl := hZ5.lt
      clear hz hb5 hZ5 HA HT HO HRG
      go_wp2_with fail
      go_roundg (K - (k + 1))
      case rel => exact ⟨k + 1, by omega, rfl, by first | rfl | go_num, HA5, HT5, HO5⟩
      case measure => have := HGH.out; omega
    · obtain rfl : k = K := by omega
      have he := HKE.out.1
      obtain ⟨ga, rfl, hga, hrg⟩ := ent_range HO.out (by omega)
      have hrg' : wr.rangeAt ga (k * 2) [.string e0.name, .int .u16 (e0.num.toNat : Int)] := hrg k e0 he
      have HRG := hide hrg'
      have hne' : (e0.name.toList == nm.toList) = true := by rw [HKE.out.2]; simp
      have e7 : IntKind.i64.wrap (e0.num.toNat : Int) = (e0.num.toNat : Int) := IntWalk.i64_in _ (by have := e0.num.toNat_lt; omega)
      have t1 : decide ((k : Int) < (N : Int)) = true := by simp; omega
      have t1' : (k : Int) < (N : Int) := by omega
      have e64 : IntKind.i64.wrap ((k : Int) + 1) = (k : Int) + 1 := IntWalk.i64_in _ (by omega)
      have hsz : (Tryz.prog.info? 125).map (·.size) = some ([Value.string e0.name, .int .u16 (e0.num.toNat : Int)] : List Value).length := size_ent
      have HSZ := hide hsz
      clear hrg hrg' he hsz hln hnn hkl2
      go_upto_region 7 with (first | ((with_reducible refine at_load 125 (.tmp 25) ?_); refine wpList_load_mid rfl 125 (.tmp 25) rfl ga (k * 2) (by rfl) [.string e0.name, .int .u16 (e0.num.toNat : Int)] _ HRG.out Tryz.underlying125 rfl HSZ.out ?_) | fail)
      refine at_world (fun W => ∃ z, z = wr.heap.size ∧ Below wr.heap.size wr W ∧ Blk W z 125 #[.string e0.name, .int .u16 (e0.num.toNat : Int)]) ⟨_, rfl, (Below.refl _ _).alloc (Nat.le_refl _) _, Blk.new _ _ _⟩ (fun w5 h5 => ?_)
      obtain ⟨z, hz, hb5, hZ5⟩ := h5
      rw [← hz]
      have HA5 := hide (HA.out.below hb5)
      have HT5 := hide (HT.out.trans ((Tch.of_below hb5).mono HT.out.size fun _ _ h => h))
      have HO5 := hide (own_below HO.out hb5)
      have z0 := hZ5.cell 0
      have z1 := hZ5.cell 1
      have zl := hZ5.lt
      clear hz hb5 hZ5 HA HT HO HRG
      go_wp2_with fail
      go_returns
      exact ⟨rfl, HA5.out, HT5.out⟩
end
end Go.Proofs.YthmkgohfeahdhaaGreat
namespace Go.Proofs.YthmkgohfeahdhaaGreat
open Go.RowKit
set_option linter.unusedSimpArgs false
set_option linter.unusedVariables false

def EntV.zero : EntV := ⟨⟨#[]⟩, 0⟩
theorem EntV.zero_good : EntV.zero.Good := .inl ⟨rfl, rfl⟩
/-- a directory lies in a group: its places, where its blocks are -/
structure DirN (G : GS) (g : GeoN) (num : Nat) (l : List EntV) (κ : Nat → Nat) : Prop where
  kind : (G.nd num).kind = 2
  links : (G.nd num).links ≠ 0
  size : (G.nd num).size.toNat = 16 * l.length
  file : FileAt G g.blocks (G.nd num) (blks (16 * l.length)) κ (16 * l.length) (fun j => (pks l).getD j 0)
  len : l.length ≤ 1024
  good : ∀ e ∈ l, e.Good
theorem Tree.other {G G' : GS} {m : Nat} {n : NodeV} {pr : Nat → Bool} {κ : Nat → Nat} (h : Tree G m n pr κ) (hb : ∀ c, pr c = true → G'.by_ (κ c) = G.by_ (κ c)) (ht : ∀ c, pr c = true → G'.tk (κ c) = true) : Tree G' m n pr κ :=
  ⟨h.dir, h.rng, h.cls, h.top, fun c p j h1 h2 h3 => by rw [hb p h3]; exact h.sub c p j h1 h2 h3, fun c hc => ⟨(h.own c hc).1, ht c hc⟩, h.inj⟩
theorem FileAt.other {G G' : GS} {m c len : Nat} {n : NodeV} {κ : Nat → Nat} {f : Nat → UInt8} (h : FileAt G m n c κ len f) (hb : ∀ k, prOf c k = true → G'.by_ (κ k) = G.by_ (κ k)) (ht : ∀ k, prOf c k = true → G'.tk (κ k) = true) : FileAt G' m n c κ len f :=
  ⟨h.tree.other hb ht, h.cle, h.fit, fun j hj => by rw [hb _ (prOf_true.2 (by have := h.fit; omega))]; exact h.byte j hj⟩
/-- no block is in both -/
def Apart (p : Nat → Bool) (κ : Nat → Nat) (p' : Nat → Bool) (κ' : Nat → Nat) : Prop := ∀ c c', p c = true → p' c' = true → κ c ≠ κ' c'
theorem FileAt.left {G G' : GS} {m c len num : Nat} {n : NodeV} {κ κ1 κ2 : Nat → Nat} {p1 p2 : Nat → Bool} {f : Nat → UInt8} (h : FileAt G m n c κ len f) (hl : Left G G' num p1 p2 κ1 κ2) (ha : Apart p1 κ1 (prOf c) κ) : FileAt G' m n c κ len f :=
  h.other (fun k hk => hl.by_ _ (h.tree.own k hk).2 fun c' hc' => ha c' k hc' hk) (fun k hk => hl.tk _ (h.tree.own k hk).2)
theorem Apart.left {G G' : GS} {m num : Nat} {n : NodeV} {κ κ1 κ2 : Nat → Nat} {p p1 p2 : Nat → Bool} (ht : Tree G m n p κ) (hl : Left G G' num p1 p2 κ1 κ2) (ha : Apart p1 κ1 p κ) : Apart p2 κ2 p κ := fun c c' h1 h2 => by
  cases hc : p1 c with
  | true => rw [(hl.old c hc).1]; exact ha c c' hc h2
  | false =>
    intro he
    have := hl.fresh c h1 hc
    rw [he, (ht.own c' h2).2] at this
    cases this
theorem DirN.left {G G' : GS} {g : GeoN} {num num' : Nat} {l : List EntV} {κ κ1 κ2 : Nat → Nat} {p1 p2 : Nat → Bool} (h : DirN G g num l κ) (hl : Left G G' num' p1 p2 κ1 κ2) (hn : num ≠ num') (ha : Apart p1 κ1 (prOf (blks (16 * l.length))) κ) : DirN G' g num l κ := by
  have e := hl.nd num hn
  exact ⟨by rw [e]; exact h.kind, by rw [e]; exact h.links, by rw [e]; exact h.size, by rw [e]; exact h.file.left hl ha, h.len, h.good⟩

/-! ### places -/
def named (nm : ByteArray) (e : EntV) : Bool := decide (e.num ≠ 0 ∧ e.name = nm)
def addAt (l : List EntV) : Nat := l.findIdx fun e => decide (e.num = 0)
def addL (l : List EntV) (x : EntV) : List EntV := if addAt l < l.length then l.set (addAt l) x else l ++ [x]
/-- how many places are left when the empty ones at the end are not counted -/
def trimN (l : List EntV) : Nat → Nat
  | 0 => 0
  | k + 1 => match l[k]? with
    | some e => if e.num = 0 then trimN l k else k + 1
    | none => k + 1
theorem trimN_le (l : List EntV) : ∀ k, trimN l k ≤ k
  | 0 => Nat.le_refl _
  | k + 1 => by
    unfold trimN
    split
    · split
      · exact Nat.le_succ_of_le (trimN_le l k)
      · exact Nat.le_refl _
    · exact Nat.le_refl _
def dropEnd (l : List EntV) (K : Nat) : Nat := trimN (l.set K EntV.zero) l.length
def dropL (l : List EntV) (K : Nat) : List EntV := if dropEnd l K ≤ K then l.take (dropEnd l K) else l.set K EntV.zero
theorem addAt_le (l : List EntV) : addAt l ≤ l.length := List.findIdx_le_length
theorem addAt_eq {l : List EntV} {j : Nat} (h0 : ∀ i, i < j → ∀ e, l[i]? = some e → e.num ≠ 0) (h1 : j = l.length ∨ ∃ e, l[j]? = some e ∧ e.num = 0) : addAt l = j := by
  unfold addAt
  rcases h1 with rfl | ⟨e, he, hz⟩
  · rw [List.findIdx_eq_length]
    intro x hx
    obtain ⟨k, hk, rfl⟩ := List.mem_iff_getElem.1 hx
    have := h0 k hk _ (List.getElem?_eq_getElem hk)
    simpa using this
  · obtain ⟨hj, rfl⟩ := List.getElem?_eq_some_iff.1 he
    rw [List.findIdx_eq hj]
    refine ⟨by simpa using hz, fun i hi => ?_⟩
    have := h0 i hi _ (List.getElem?_eq_getElem (by omega))
    simpa using this
theorem addL_length (l : List EntV) (x : EntV) : (addL l x).length = max l.length (addAt l + 1) := by
  have := addAt_le l
  unfold addL
  split
  · rw [List.length_set]; omega
  · rw [List.length_append, List.length_singleton]; omega
theorem good_set {l : List EntV} {x : EntV} {k : Nat} (h : ∀ e ∈ l, e.Good) (hx : x.Good) : ∀ e ∈ l.set k x, e.Good := fun e he => by
  rcases List.mem_or_eq_of_mem_set he with h1 | rfl
  · exact h e h1
  · exact hx
theorem good_addL {l : List EntV} {x : EntV} (h : ∀ e ∈ l, e.Good) (hx : x.Good) : ∀ e ∈ addL l x, e.Good := fun e he => by
  unfold addL at he
  split at he
  · exact good_set h hx e he
  · rcases List.mem_append.1 he with h1 | h1
    · exact h e h1
    · rw [List.mem_singleton.1 h1]; exact hx
theorem pks_append (a b : List EntV) : pks (a ++ b) = pks a ++ pks b := by simp [pks]
theorem pks_getD {l : List EntV} {k : Nat} {e : EntV} (h : l[k]? = some e) {j : Nat} (hj : j < 16) : (pks l).getD (16 * k + j) 0 = (packB e).getD j 0 := by
  have := pks_piece h
  rw [List.getD_eq_getElem?_getD, List.getD_eq_getElem?_getD, ← this, List.getElem?_take_of_lt hj, List.getElem?_drop]
theorem pks_set {l : List EntV} {k j : Nat} {x : EntV} (hk : k < l.length) (hj : j < 16 * l.length) : over (fun j => (pks l).getD j 0) (16 * k) (packB x) 16 j = (pks (l.set k x)).getD j 0 := by
  obtain ⟨q, r, hr, rfl⟩ : ∃ q r, r < 16 ∧ j = 16 * q + r := ⟨j / 16, j % 16, Nat.mod_lt _ (by omega), by omega⟩
  have hq : q < l.length := by omega
  unfold over
  by_cases h : q = k
  · subst h
    rw [if_pos ⟨by omega, by omega⟩, pks_getD (l := l.set q x) (e := x) (by rw [List.getElem?_set_self hq]) hr, Nat.add_sub_cancel_left]
  · rw [if_neg (by omega), pks_getD (l := l.set k x) (e := l[q]) (by rw [List.getElem?_set_ne (fun e => h e.symm), List.getElem?_eq_getElem hq]) hr]
    exact pks_getD (List.getElem?_eq_getElem hq) hr
theorem pks_addL {l : List EntV} {j : Nat} {x : EntV} (hj : j < 16 * (addL l x).length) : over (fun j => (pks l).getD j 0) (16 * addAt l) (packB x) 16 j = (pks (addL l x)).getD j 0 := by
  have hle := addAt_le l
  have hlen := addL_length l x
  by_cases h : addAt l < l.length
  · have e : addL l x = l.set (addAt l) x := by unfold addL; rw [if_pos h]
    rw [e] at hj ⊢
    rw [List.length_set] at hj
    exact pks_set h hj
  · have e : addL l x = l ++ [x] := by unfold addL; rw [if_neg h]
    have e1 : addAt l = l.length := by omega
    rw [e, List.length_append, List.length_singleton] at hj
    have e2 : pks [x] = packB x := by simp [pks]
    rw [e, pks_append, e1, e2, ← over_end (l := pks l) (d := packB x) (by rw [pks_length, packB_length]; omega), pks_length, packB_length]
theorem pks_take {l : List EntV} {k j : Nat} (hj : j < 16 * k) (hk : k ≤ l.length) : (pks l).getD j 0 = (pks (l.take k)).getD j 0 := by
  obtain ⟨q, r, hr, rfl⟩ : ∃ q r, r < 16 ∧ j = 16 * q + r := ⟨j / 16, j % 16, Nat.mod_lt _ (by omega), by omega⟩
  have hq : q < l.length := by omega
  rw [pks_getD (List.getElem?_eq_getElem hq) hr, pks_getD (l := l.take k) (e := l[q]) (by rw [List.getElem?_take_of_lt (by omega), List.getElem?_eq_getElem hq]) hr]
theorem check_dir {n n' : NodeV} {x : Nat} (h : n.same n') (hk : n.kind = 2) (hl : n.links ≠ 0) (hs : max n.size.toNat x ≤ 16384) (h16 : max n.size.toNat x % 16 = 0) : checkN (n'.grow x) = true := by
  have h1 : (n'.grow x).kind = 2 := h.1.trans hk
  have h2 : (n'.grow x).links = n.links := h.2.1
  have h3 : (n'.grow x).size.toNat = max n.size.toNat x := by rw [grow_size (by rw [h.2.2.2]; omega), h.2.2.2]
  unfold checkN
  rw [h1, h2, h3]
  simp [hl, h16]
  omega
theorem check_dsize {n n' : NodeV} {x : Nat} (h : n.same n') (hk : n.kind = 2) (hl : n.links ≠ 0) (hs : x ≤ 16384) (h16 : x % 16 = 0) : checkN (n'.sized x) = true := by
  have h1 : (n'.sized x).kind = 2 := h.1.trans hk
  have h2 : (n'.sized x).links = n.links := h.2.1
  have h3 : (n'.sized x).size.toNat = x := by
    unfold NodeV.sized
    simp only
    rw [UInt32.toNat_ofNat', Nat.mod_eq_of_lt (by omega)]
  unfold checkN
  rw [h1, h2, h3]
  simp [hl, h16]
  omega
theorem named_false {nm : ByteArray} {e : EntV} (h : named nm e = false) : e.num = 0 ∨ e.name ≠ nm := by
  unfold named at h
  rw [decide_eq_false_iff_not] at h
  by_cases h0 : e.num = 0
  · exact .inl h0
  · exact .inr fun h1 => h ⟨h0, h1⟩
theorem named_true {nm : ByteArray} {e : EntV} (h : named nm e = true) : e.num ≠ 0 ∧ e.name = nm := of_decide_eq_true h
end Go.Proofs.YthmkgohfeahdhaaGreat
namespace Go.Proofs.YthmkgohfeahdhaaGreat
open Go.RowKit
set_option linter.unusedSimpArgs false
set_option linter.unusedVariables false

section
variable {P : Program} {w : World}
theorem run_slice_all (t e : TypeId) (g n : Nat) (hu : P.underlying t = some (.array n e)) (hs : (P.info? e).map (·.size) = some 1) (hn : 0 < n) :
    (Instr.sliceAt t (.pointer (some ⟨g, 0, none⟩)) none none none).run P w = .ok (.slice (some ⟨g, 0, none⟩) n n) w := by
  cases hq : P.info? e with
  | none => simp [hq] at hs
  | some i =>
    have hi : i.size = 1 := by simpa [hq] using hs
    have h2 : ¬ n = 0 := by omega
    simp [Instr.sliceAt, Instr.sureAddr, run_underlying hu, Instr.sliceBounds, sizeOf, typeInfo, hq, hi, Addr.add_mid, h2, Result.andThen]
end
theorem pack_size (e : EntV) : (Tryz.prog.info? 235).map (·.size) = some (bvs (packB e)).toArray.size := by
  have : (Tryz.prog.info? 235).map (·.size) = some 16 := by kernel_rfl
  rw [this, List.size_toArray, bvs_length, packB_length]
theorem name_eq_true {a b : ByteArray} (h : a = b) : (a.toList == b.toList) = true := by rw [h]; simp
theorem name_eq_false {e : EntV} {nm : ByteArray} (h : e.name ≠ nm) : (e.name.toList == nm.toList) = false := by
  rw [beq_eq_false_iff_ne, Lib.toList_data, Lib.toList_data]
  intro h0
  apply h
  rw [← str_name e, h0]
  obtain ⟨⟨d⟩⟩ := nm
  simp [str]
/-- what dir.open says -/
def OpensTo (i : Ids) (s : Sto) (gg : Nat) (g : GeoN) (lab : Int) (G : GS) (num : Nat) (l : List EntV) : Prop :=
  ∀ W, GAt W i s gg g lab G → Calls Tryz.prog 119 #[.pointer (some ⟨gg, 0, none⟩), .int .i64 (num : Int)] W fun e w' => ∃ A c, e = .returned (.tuple #[.slice A l.length c, .int .i64 0]) ∧ w'.ownsRow W.heap.size 125 2 (.slice A l.length c) l.length (flat2 l) ∧ GAt w' i s gg g lab G ∧ Tch W.heap.size i.own W w'
section
variable {w w' : World} {i : Ids} {s : Sto} {gg : Nat} {g : GeoN} {lab : Int} {G : GS}
theorem dopens {num : Nat} {l : List EntV} {κ : Nat → Nat} (hd : DirN G g num l κ) (h1 : 1 ≤ num) (h2 : num ≤ g.nodes) : OpensTo i s gg g lab G num l := fun W h =>
  dopen_ok h h1 h2 hd.kind (pks_length l) hd.size hd.file (by have := hd.len; omega) hd.good
theorem dlists {num : Nat} {l : List EntV} {κ : Nat → Nat} (hd : DirN G g num l κ) (h1 : 1 ≤ num) (h2 : num ≤ g.nodes) : ListsTo i s gg g lab G num (live l) := fun W h =>
  dlist_ok h hd.len (dopens hd h1 h2)
set_option maxRecDepth 100000 in
set_option maxHeartbeats 4000000 in
theorem dturn_main {num : Nat} {l : List EntV} {nm : ByteArray} {v : UInt16} {R : Int → World → Prop} (h : GAt w i s gg g lab G) (hln : l.length ≤ 1024) (hgd : ∀ e ∈ l, e.Good) (hop : OpensTo i s gg g lab G num l) (hv : v ≠ 0)
    (hx : (∀ e ∈ l, named nm e = false) → ∀ w', GAt w' i s gg g lab G → Tch w.heap.size i.own w w' → R 3 w')
    (hw : ∀ K e, l[K]? = some e → named nm e = true → (∀ j, j < K → ∀ x, l[j]? = some x → named nm x = false) → ∀ W z, GAt W i s gg g lab G → Tch w.heap.size i.own w W → w.heap.size ≤ z → Blk W z 235 (bvs (packB ⟨nm, v⟩)).toArray →
      Calls Tryz.prog 33 #[.pointer (some ⟨gg, 0, none⟩), .int .i64 (num : Int), .int .i64 ((16 * K : Nat) : Int), .slice (some ⟨z, 0, none⟩) 16 16] W fun e w' => ∃ x, e = .returned (.int .i64 x) ∧ R x w') :
    Calls Tryz.prog 59 #[.pointer (some ⟨gg, 0, none⟩), .int .i64 (num : Int), .agg #[.string nm, .int .u16 (v.toNat : Int)]] w fun e w' => ∃ x, e = .returned (.int .i64 x) ∧ R x w' := by
  have H := hide h
  have HOP := hide hop
  have HLN := hide (And.intro hln hgd)
  have HX := hide hx
  have HW := hide hw
  have hv0 : v.toNat ≠ 0 := fun h0 => hv (UInt16.toNat_inj.1 h0)
  have tv : ((v.toNat : Int) == 0) = false := by rw [beq_eq_false_iff_ne]; omega
  clear h hop hln hx hw hv
  go_enter Tryz.func59, Tryz.ntmps59
  go_upto_region 1 with (fail)
  refine at_world (fun W => ∃ q, q = w.heap.size ∧ Below w.heap.size w W ∧ Blk W q 125 #[.string nm, .int .u16 (v.toNat : Int)]) ⟨_, rfl, (Below.refl _ _).alloc (Nat.le_refl _) _, Blk.new _ _ _⟩ (fun w0 h0 => ?_)
  obtain ⟨q, hq, hb0, hQ0⟩ := h0
  rw [← hq]
  have HA0 := hide (H.out.below hb0)
  have HT0 := hide (Tch.of_below (S := i.own) hb0)
  have HQ0 := hide hQ0
  have HQN := hide (And.intro hq (show ¬ i.own q from H.out.tx.other_new (Nat.le_of_eq hq.symm)))
  clear hq hb0 hQ0
  go_wp2_with fail
  refine (HOP.out w0 HA0.out).mono ?_
  rintro e w1 ⟨A, c, rfl, hown, ha1, ht1⟩
  obtain ⟨N, hN⟩ : ∃ N, l.length = N := ⟨_, rfl⟩
  have HN := hide hN
  rw [hN] at hown ⊢
  have hqlt := HQ0.out.lt
  have HQ1 := hide (Blk.tch HQ0.out ht1 hqlt HQN.out.2)
  have HO1 := hide hown
  have HA1 := hide ha1
  have HT1 := hide (HT0.out.trans (ht1.mono HT0.out.size fun _ _ h => h))
  have HQL := hide (show q < w0.heap.size from hqlt)
  have qc1 := HQ1.out.cell 1
  have qc0 := HQ1.out.cell 0
  have ql := HQ1.out.lt
  clear hown ha1 ht1 hN hqlt HA0 HT0 HQ0
  go_wp2_with fail
  clear qc1 qc0 ql
  go_loopg [9, 10, 26] N (fun gh x9 x10 x26 wr => ∃ k : Nat, k ≤ N ∧ gh = N - k ∧ x26 = .int .i64 (k : Int) ∧ Hid (GAt wr i s gg g lab G) ∧ Hid (Tch w.heap.size i.own w wr) ∧ Hid (wr.ownsRow w0.heap.size 125 2 (.slice A N c) N (flat2 l)) ∧ Hid (Blk wr q 125 #[.string nm, .int .u16 (v.toNat : Int)]) ∧ Hid (∀ j, j < k → ∀ x, l[j]? = some x → named nm x = false))
  case atStart => exact ⟨0, Nat.zero_le _, rfl, rfl, HA1, HT1, HO1, HQ1, hide fun j hj => absurd hj (Nat.not_lt_zero _)⟩
  case round =>
    obtain ⟨k, hk, hgh, rfl, HA, HT, HO, HQ, HNO⟩ := hrel
    have HGH := hide hgh
    have hln := HLN.out.1
    have hnn := HN.out
    clear hgh
    rcases Nat.lt_or_ge k N with hkl | hkl
    · obtain ⟨e, he⟩ : ∃ e, l[k]? = some e := ⟨_, List.getElem?_eq_getElem (by omega)⟩
      obtain ⟨ga, rfl, hga, hrg⟩ := ent_range HO.out (by omega)
      have hrg' : wr.rangeAt ga (k * 2) [.string e.name, .int .u16 (e.num.toNat : Int)] := hrg k e he
      have HRG := hide hrg'
      have HE := hide he
      have t1 : decide ((k : Int) < (N : Int)) = true := by simp; omega
      have t1' : (k : Int) < (N : Int) := by omega
      have e64 : IntKind.i64.wrap ((k : Int) + 1) = (k : Int) + 1 := IntWalk.i64_in _ (by omega)
      obtain ⟨y, hy⟩ : ∃ y : Nat, 16 * k = y := ⟨_, rfl⟩
      have e16 : IntKind.i64.wrap ((k : Int) * 16) = (y : Int) := by rw [IntWalk.i64_in _ (by omega)]; omega
      have HY := hide hy
      have hsz : (Tryz.prog.info? 125).map (·.size) = some ([Value.string e.name, .int .u16 (e.num.toNat : Int)] : List Value).length := size_ent
      have HSZ := hide hsz
      clear hrg hrg' he hsz hln hnn hy
      go_upto_region 9 with (first | ((with_reducible refine at_load 125 (.tmp 29) ?_); refine wpList_load_mid rfl 125 (.tmp 29) rfl ga (k * 2) (by rfl) [.string e.name, .int .u16 (e.num.toNat : Int)] _ HRG.out Tryz.underlying125 rfl HSZ.out ?_) | fail)
      refine at_world (fun W => ∃ z, z = wr.heap.size ∧ Below wr.heap.size wr W ∧ Blk W z 125 #[.string e.name, .int .u16 (e.num.toNat : Int)]) ⟨_, rfl, (Below.refl _ _).alloc (Nat.le_refl _) _, Blk.new _ _ _⟩ (fun w5 h5 => ?_)
      obtain ⟨z, hz, hb5, hZ5⟩ := h5
      rw [← hz]
      have HA5 := hide (HA.out.below hb5)
      have HT5 := hide (HT.out.trans ((Tch.of_below hb5).mono HT.out.size fun _ _ h => h))
      have HO5 := hide (own_below HO.out hb5)
      have HQ5 := hide (HQ.out.below hb5 HQ.out.lt)
      have z0 := hZ5.cell 0
      have z1 := hZ5.cell 1
      have zl := hZ5.lt
      have qc0 := HQ5.out.cell 0
      have ql := HQ5.out.lt
      clear hz hb5 hZ5 HA HT HO HQ HRG
      by_cases hnm : named nm e = true
      · obtain ⟨hn1, hn2⟩ := named_true hnm
        have hgood := HLN.out.2 e (List.mem_of_getElem? HE.out)
        have hsz14 := hgood.name.1
        rw [hn2] at hsz14
        have HNM := hide (And.intro hnm hsz14)
        have hn0 : e.num.toNat ≠ 0 := fun h0 => hn1 (UInt16.toNat_inj.1 h0)
        have t2 : decide ((0 : Int) < (e.num.toNat : Int)) = true := by simp; omega
        have t2' : (0 : Int) < (e.num.toNat : Int) := by omega
        have t3 := name_eq_true hn2
        clear hnm hn1 hn2 hgood hsz14 hn0
        go_wp2_with (first | ((with_reducible refine at_load 125 (.tmp 5) ?_); refine wpList_load_blk rfl 125 (.tmp 5) rfl q _ _ _ (by rfl) HQ5.out Tryz.underlying125 rfl (by exact size_ent) ?_) | fail)
        refine (pack_ok nm v HNM.out.2 w5).mono ?_
        rintro _ w6 ⟨rfl, hb6⟩
        have HA6 := hide (HA5.out.below hb6)
        have HT6 := hide (HT5.out.trans ((Tch.of_below hb6).mono HT5.out.size fun _ _ h => h))
        have HPS := hide (pack_size ⟨nm, v⟩)
        clear hb6 HA5 HT5 HO5 HQ5 z0 z1 zl qc0 ql t1 t1' t2 t2' t3 e64
        go_upto_region 11 with (first | ((with_reducible refine at_store 235 (.tmp 11) (.tmp 42) ?_); refine wpList_store_blk rfl 235 (.tmp 11) (.tmp 42) rfl w6.heap.size _ _ _ (by rfl) (by rfl) (Blk.new _ _ _) HPS.out (by rw [List.size_toArray, List.size_toArray, bvs_length, packB_length]; rfl) (bvs_oneCell _) (fun _ => ?_)) | fail)
        refine at_world (fun W => ∃ z, z = w6.heap.size ∧ Below w6.heap.size w6 W ∧ Blk W z 235 (bvs (packB ⟨nm, v⟩)).toArray) ⟨_, rfl, below_setRow ((Below.refl _ _).alloc (Nat.le_refl _) _) (Nat.le_refl _) _, (Blk.new _ _ _).setRow_same _⟩ (fun w7 h7 => ?_)
        obtain ⟨z', hz', hb7, hZ7⟩ := h7
        rw [← hz']
        have HA7 := hide (HA6.out.below hb7)
        have HT7 := hide (HT6.out.trans ((Tch.of_below hb7).mono HT6.out.size fun _ _ h => h))
        have hzw : w.heap.size ≤ z' := by rw [hz']; exact HT6.out.size
        have HZ7 := hide (And.intro hzw hZ7)
        clear hz' hb7 hZ7 hzw HA6 HT6
        have hres := HW.out k e HE.out HNM.out.1 HNO.out w7 z' HA7.out HT7.out HZ7.out.1 HZ7.out.2
        rw [HY.out] at hres
        have HRES := hide hres
        clear hres
        go_wp2_with (first | ((with_reducible refine at_slice 235 (.tmp 11) none none ?_); refine wpList_run rfl _ (exec_slice 235 (.tmp 11) none none rfl (run_slice_all 235 5 z' 16 Tryz.underlying235 (by kernel_rfl) (by decide))) ?_) | fail)
        refine HRES.out.mono ?_
        rintro _ w8 ⟨x, rfl, hr⟩
        have HR := hide hr
        clear hr HRES
        go_wp2_with fail
        go_returns
        exact ⟨x, rfl, HR.out⟩
      · have hnm' : named nm e = false := by simpa using hnm
        have hno' : ∀ j, j < k + 1 → ∀ x, l[j]? = some x → named nm x = false := fun j hj x hx => by
          rcases Nat.lt_succ_iff_lt_or_eq.1 hj with h1 | rfl
          · exact HNO.out j h1 x hx
          · rw [HE.out] at hx
            cases hx
            exact hnm'
        have HNO' := hide hno'
        rcases named_false hnm' with h0 | h0
        · have t2 : decide ((0 : Int) < (e.num.toNat : Int)) = false := by rw [h0]; rfl
          have hn0 : e.num.toNat = 0 := by rw [h0]; rfl
          clear hnm hnm' hno' h0
          go_wp2_with fail
          go_roundg (N - (k + 1))
          case rel => exact ⟨k + 1, by omega, rfl, by first | rfl | go_num, HA5, HT5, HO5, HQ5, HNO'⟩
          case measure => have := HGH.out; omega
        · have t3 := name_eq_false h0
          clear hnm hnm' hno' h0
          by_cases h0 : e.num.toNat = 0
          · have t2 : decide ((0 : Int) < (e.num.toNat : Int)) = false := by rw [h0]; rfl
            go_wp2_with fail
            go_roundg (N - (k + 1))
            case rel => exact ⟨k + 1, by omega, rfl, by first | rfl | go_num, HA5, HT5, HO5, HQ5, HNO'⟩
            case measure => have := HGH.out; omega
          · have t2 : decide ((0 : Int) < (e.num.toNat : Int)) = true := by simp; omega
            have t2' : (0 : Int) < (e.num.toNat : Int) := by omega
            clear h0
            go_wp2_with fail
            go_roundg (N - (k + 1))
            case rel => exact ⟨k + 1, by omega, rfl, by first | rfl | go_num, HA5, HT5, HO5, HQ5, HNO'⟩
            case measure => have := HGH.out; omega
    · have t1 : decide ((k : Int) < (N : Int)) = false := by simp; omega
      have t1' : ¬ (k : Int) < (N : Int) := by omega
      have hno : ∀ e ∈ l, named nm e = false := fun e he => by
        obtain ⟨j, hj⟩ := List.getElem?_of_mem he
        exact HNO.out j (by have := (List.getElem?_eq_some_iff.1 hj).1; omega) e hj
      have HNO' := hide hno
      clear hkl hk hln hnn hno
      go_wp2
      go_returns
      exact ⟨3, rfl, HX.out HNO'.out _ HA.out HT.out⟩
end
end Go.Proofs.YthmkgohfeahdhaaGreat
namespace Go.Proofs.YthmkgohfeahdhaaGreat
open Go.RowKit
set_option linter.unusedSimpArgs false
set_option linter.unusedVariables false

section
variable {w w' : World} {i : Ids} {s : Sto} {gg : Nat} {g : GeoN} {lab : Int} {G : GS}
/-- where the first empty place of so many is -/
def FreeTo (l : List EntV) (k : Nat) (a : Int) : Prop := (a = -1 ∧ ∀ j, j < k → ∀ x, l[j]? = some x → x.num ≠ 0) ∨ (∃ j : Nat, a = (j : Int) ∧ j < k ∧ (∃ x, l[j]? = some x ∧ x.num = 0) ∧ ∀ t, t < j → ∀ x, l[t]? = some x → x.num ≠ 0)
theorem free_more {l : List EntV} {k : Nat} {e : EntV} (he : l[k]? = some e) (h0 : e.num ≠ 0) (h : ∀ j, j < k → ∀ x, l[j]? = some x → x.num ≠ 0) : ∀ j, j < k + 1 → ∀ x, l[j]? = some x → x.num ≠ 0 := fun j hj x hx => by
  rcases Nat.lt_succ_iff_lt_or_eq.1 hj with h1 | rfl
  · exact h j h1 x hx
  · rw [he] at hx
    cases hx
    exact h0
set_option maxRecDepth 100000 in
set_option maxHeartbeats 2000000 in
theorem dadd_name {num : Nat} {l : List EntV} {nm : ByteArray} {v : UInt16} (h : GAt w i s gg g lab G) (hop : OpensTo i s gg g lab G num l) (hn : nameErr nm.data.toList ≠ 0) :
    Calls Tryz.prog 53 #[.pointer (some ⟨gg, 0, none⟩), .int .i64 (num : Int), .agg #[.string nm, .int .u16 (v.toNat : Int)]] w fun e w' => e = .returned (.int .i64 (nameErr nm.data.toList)) ∧ GAt w' i s gg g lab G ∧ Tch w.heap.size i.own w w' := by
  have H := hide h
  have HOP := hide hop
  obtain ⟨ne, hne⟩ : ∃ ne, nameErr nm.data.toList = ne := ⟨_, rfl⟩
  have HNE := hide hne
  rw [hne] at hn ⊢
  have tn : (ne == 0) = false := by rw [beq_eq_false_iff_ne]; exact hn
  clear h hop hne
  go_enter Tryz.func53, Tryz.ntmps53
  go_upto_region 1 with (fail)
  refine at_world (fun W => ∃ q, q = w.heap.size ∧ Below w.heap.size w W ∧ Blk W q 125 #[.string nm, .int .u16 (v.toNat : Int)]) ⟨_, rfl, (Below.refl _ _).alloc (Nat.le_refl _) _, Blk.new _ _ _⟩ (fun w0 h0 => ?_)
  obtain ⟨q, hq, hb0, hQ0⟩ := h0
  rw [← hq]
  have HA0 := hide (H.out.below hb0)
  have HT0 := hide (Tch.of_below (S := i.own) hb0)
  have HQ0 := hide hQ0
  have HQN := hide (And.intro hq (show ¬ i.own q from H.out.tx.other_new (Nat.le_of_eq hq.symm)))
  clear hq hb0 hQ0
  go_wp2_with fail
  refine (HOP.out w0 HA0.out).mono ?_
  rintro e w1 ⟨A, c, rfl, hown, ha1, ht1⟩
  obtain ⟨N, hN⟩ : ∃ N, l.length = N := ⟨_, rfl⟩
  have HN := hide hN
  rw [hN] at hown ⊢
  have hqlt := HQ0.out.lt
  have HQ1 := hide (Blk.tch HQ0.out ht1 hqlt HQN.out.2)
  have HO1 := hide hown
  have HA1 := hide ha1
  have HT1 := hide (HT0.out.trans (ht1.mono HT0.out.size fun _ _ h => h))
  have qc1 := HQ1.out.cell 1
  have qc0 := HQ1.out.cell 0
  have ql := HQ1.out.lt
  clear hown ha1 ht1 hN hqlt HA0 HT0 HQ0
  go_wp2_with fail
  refine (dirname_ok nm w1).mono ?_
  rintro _ w2 ⟨rfl, rfl⟩
  rw [HNE.out]
  go_wp2_with fail
  go_returns
  exact ⟨rfl, HA1.out, HT1.out⟩
set_option maxRecDepth 100000 in
set_option maxHeartbeats 2000000 in
theorem dadd_zero {num : Nat} {l : List EntV} {nm : ByteArray} {v : UInt16} (h : GAt w i s gg g lab G) (hop : OpensTo i s gg g lab G num l) (hn : nameErr nm.data.toList = 0) (hv : v = 0) :
    Calls Tryz.prog 53 #[.pointer (some ⟨gg, 0, none⟩), .int .i64 (num : Int), .agg #[.string nm, .int .u16 (v.toNat : Int)]] w fun e w' => e = .returned (.int .i64 27) ∧ GAt w' i s gg g lab G ∧ Tch w.heap.size i.own w w' := by
  have H := hide h
  have HOP := hide hop
  have HNE := hide hn
  have HV := hide hv
  clear h hop hn hv
  go_enter Tryz.func53, Tryz.ntmps53
  go_upto_region 1 with (fail)
  refine at_world (fun W => ∃ q, q = w.heap.size ∧ Below w.heap.size w W ∧ Blk W q 125 #[.string nm, .int .u16 (v.toNat : Int)]) ⟨_, rfl, (Below.refl _ _).alloc (Nat.le_refl _) _, Blk.new _ _ _⟩ (fun w0 h0 => ?_)
  obtain ⟨q, hq, hb0, hQ0⟩ := h0
  rw [← hq]
  have HA0 := hide (H.out.below hb0)
  have HT0 := hide (Tch.of_below (S := i.own) hb0)
  have HQ0 := hide hQ0
  have HQN := hide (And.intro hq (show ¬ i.own q from H.out.tx.other_new (Nat.le_of_eq hq.symm)))
  clear hq hb0 hQ0
  go_wp2_with fail
  refine (HOP.out w0 HA0.out).mono ?_
  rintro e w1 ⟨A, c, rfl, hown, ha1, ht1⟩
  obtain ⟨N, hN⟩ : ∃ N, l.length = N := ⟨_, rfl⟩
  have HN := hide hN
  rw [hN] at hown ⊢
  have hqlt := HQ0.out.lt
  have HQ1 := hide (Blk.tch HQ0.out ht1 hqlt HQN.out.2)
  have HO1 := hide hown
  have HA1 := hide ha1
  have HT1 := hide (HT0.out.trans (ht1.mono HT0.out.size fun _ _ h => h))
  have qc1 := HQ1.out.cell 1
  have qc0 := HQ1.out.cell 0
  have ql := HQ1.out.lt
  clear hown ha1 ht1 hN hqlt HA0 HT0 HQ0
  have tv : ((v.toNat : Int) == 0) = true := by rw [HV.out]; rfl
  go_wp2_with fail
  refine (dirname_ok nm w1).mono ?_
  rintro _ w2 ⟨rfl, rfl⟩
  rw [HNE.out]
  go_wp2_with fail
  go_returns
  exact ⟨rfl, HA1.out, HT1.out⟩
set_option maxRecDepth 100000 in
set_option maxHeartbeats 6000000 in
theorem dadd_main {num : Nat} {l : List EntV} {nm : ByteArray} {v : UInt16} {R : Int → World → Prop} (h : GAt w i s gg g lab G) (hln : l.length ≤ 1024) (hgd : ∀ e ∈ l, e.Good) (hop : OpensTo i s gg g lab G num l) (hn : nameErr nm.data.toList = 0) (hv : v ≠ 0)
    (hx : (∃ e ∈ l, named nm e = true) → ∀ w', GAt w' i s gg g lab G → Tch w.heap.size i.own w w' → R 4 w')
    (hw : (∀ e ∈ l, named nm e = false) → ∀ W z, GAt W i s gg g lab G → Tch w.heap.size i.own w W → w.heap.size ≤ z → Blk W z 235 (bvs (packB ⟨nm, v⟩)).toArray →
      Calls Tryz.prog 33 #[.pointer (some ⟨gg, 0, none⟩), .int .i64 (num : Int), .int .i64 ((16 * addAt l : Nat) : Int), .slice (some ⟨z, 0, none⟩) 16 16] W fun e w' => ∃ x, e = .returned (.int .i64 x) ∧ R x w') :
    Calls Tryz.prog 53 #[.pointer (some ⟨gg, 0, none⟩), .int .i64 (num : Int), .agg #[.string nm, .int .u16 (v.toNat : Int)]] w fun e w' => ∃ x, e = .returned (.int .i64 x) ∧ R x w' := by
  have H := hide h
  have HOP := hide hop
  have HLN := hide (And.intro hln hgd)
  have HX := hide hx
  have HW := hide hw
  have HNE := hide hn
  have HSN := hide (show nm.size ≤ 14 from by rw [dn_sz]; exact (nameErr_zero hn).2.1)
  have hv0 : v.toNat ≠ 0 := fun h0 => hv (UInt16.toNat_inj.1 h0)
  have tv : ((v.toNat : Int) == 0) = false := by rw [beq_eq_false_iff_ne]; omega
  have tv' : ¬ (v.toNat : Int) = 0 := by omega
  clear h hop hln hx hw hv hn hv0
  go_enter Tryz.func53, Tryz.ntmps53
  go_upto_region 1 with (fail)
  refine at_world (fun W => ∃ q, q = w.heap.size ∧ Below w.heap.size w W ∧ Blk W q 125 #[.string nm, .int .u16 (v.toNat : Int)]) ⟨_, rfl, (Below.refl _ _).alloc (Nat.le_refl _) _, Blk.new _ _ _⟩ (fun w0 h0 => ?_)
  obtain ⟨q, hq, hb0, hQ0⟩ := h0
  rw [← hq]
  have HA0 := hide (H.out.below hb0)
  have HT0 := hide (Tch.of_below (S := i.own) hb0)
  have HQ0 := hide hQ0
  have HQN := hide (And.intro hq (show ¬ i.own q from H.out.tx.other_new (Nat.le_of_eq hq.symm)))
  clear hq hb0 hQ0
  go_wp2_with fail
  refine (HOP.out w0 HA0.out).mono ?_
  rintro e w1 ⟨A, c, rfl, hown, ha1, ht1⟩
  obtain ⟨N, hN⟩ : ∃ N, l.length = N := ⟨_, rfl⟩
  have HN := hide hN
  rw [hN] at hown ⊢
  have hqlt := HQ0.out.lt
  have HQ1 := hide (Blk.tch HQ0.out ht1 hqlt HQN.out.2)
  have HO1 := hide hown
  have HA1 := hide ha1
  have HT1 := hide (HT0.out.trans (ht1.mono HT0.out.size fun _ _ h => h))
  have qc1 := HQ1.out.cell 1
  have qc0 := HQ1.out.cell 0
  have ql := HQ1.out.lt
  clear hown ha1 ht1 hN hqlt HA0 HT0 HQ0
  go_wp2_with fail
  refine (dirname_ok nm w1).mono ?_
  rintro _ w2 ⟨rfl, rfl⟩
  rw [HNE.out]
  go_wp2_with fail
  clear qc1 qc0 ql
  go_loopg [10, 11, 12, 34, 39] N (fun gh x10 x11 x12 x34 x39 wr => ∃ (k : Nat) (a : Int), k ≤ N ∧ gh = N - k ∧ x10 = .int .i64 a ∧ x34 = .int .i64 (k : Int) ∧ Hid (GAt wr i s gg g lab G) ∧ Hid (Tch w.heap.size i.own w wr) ∧ Hid (wr.ownsRow w0.heap.size 125 2 (.slice A N c) N (flat2 l)) ∧ Hid (Blk wr q 125 #[.string nm, .int .u16 (v.toNat : Int)]) ∧ Hid (∀ j, j < k → ∀ x, l[j]? = some x → named nm x = false) ∧ Hid (FreeTo l k a))
  case atStart => exact ⟨0, -1, Nat.zero_le _, rfl, rfl, rfl, HA1, HT1, HO1, HQ1, hide fun j hj => absurd hj (Nat.not_lt_zero _), hide (.inl ⟨rfl, fun j hj => absurd hj (Nat.not_lt_zero _)⟩)⟩
  case round =>
    obtain ⟨k, a, hk, hgh, rfl, rfl, HA, HT, HO, HQ, HNO, HFR⟩ := hrel
    have HGH := hide hgh
    have hln := HLN.out.1
    have hnn := HN.out
    clear hgh HA1 HT1 HO1 HQ1
    rcases Nat.lt_or_ge k N with hkl | hkl
    · obtain ⟨e, he⟩ : ∃ e, l[k]? = some e := ⟨_, List.getElem?_eq_getElem (by omega)⟩
      obtain ⟨ga, rfl, hga, hrg⟩ := ent_range HO.out (by omega)
      have hrg' : wr.rangeAt ga (k * 2) [.string e.name, .int .u16 (e.num.toNat : Int)] := hrg k e he
      have HRG := hide hrg'
      have HE := hide he
      have t1 : decide ((k : Int) < (N : Int)) = true := by simp; omega
      have t1' : (k : Int) < (N : Int) := by omega
      have e64 : IntKind.i64.wrap ((k : Int) + 1) = (k : Int) + 1 := IntWalk.i64_in _ (by omega)
      have hsz : (Tryz.prog.info? 125).map (·.size) = some ([Value.string e.name, .int .u16 (e.num.toNat : Int)] : List Value).length := size_ent
      have HSZ := hide hsz
      clear hrg hrg' he hsz hln hnn
      go_upto_region 13 with (first | ((with_reducible refine at_load 125 (.tmp 37) ?_); refine wpList_load_mid rfl 125 (.tmp 37) rfl ga (k * 2) (by rfl) [.string e.name, .int .u16 (e.num.toNat : Int)] _ HRG.out Tryz.underlying125 rfl HSZ.out ?_) | fail)
      refine at_world (fun W => ∃ z, z = wr.heap.size ∧ Below wr.heap.size wr W ∧ Blk W z 125 #[.string e.name, .int .u16 (e.num.toNat : Int)]) ⟨_, rfl, (Below.refl _ _).alloc (Nat.le_refl _) _, Blk.new _ _ _⟩ (fun w5 h5 => ?_)
      obtain ⟨z, hz, hb5, hZ5⟩ := h5
      rw [← hz]
      have HA5 := hide (HA.out.below hb5)
      have HT5 := hide (HT.out.trans ((Tch.of_below hb5).mono HT.out.size fun _ _ h => h))
      have HO5 := hide (own_below HO.out hb5)
      have HQ5 := hide (HQ.out.below hb5 HQ.out.lt)
      have qc0 := HQ5.out.cell 0
      have ql := HQ5.out.lt
      have z0 := hZ5.cell 0
      have z1 := hZ5.cell 1
      have zl := hZ5.lt
      clear hz hb5 hZ5 HA HT HO HQ HRG
      by_cases hnm : named nm e = true
      · obtain ⟨hn1, hn2⟩ := named_true hnm
        have hex : ∃ e ∈ l, named nm e = true := ⟨e, List.mem_of_getElem? HE.out, hnm⟩
        have HEX := hide hex
        have hn0 : e.num.toNat ≠ 0 := fun h0 => hn1 (UInt16.toNat_inj.1 h0)
        have t0 : ((e.num.toNat : Int) == 0) = false := by rw [beq_eq_false_iff_ne]; omega
        have t0' : ¬ (e.num.toNat : Int) = 0 := by omega
        have t2 : decide ((0 : Int) < (e.num.toNat : Int)) = true := by simp; omega
        have t2' : (0 : Int) < (e.num.toNat : Int) := by omega
        have t3 := name_eq_true hn2
        clear hnm hn1 hn2 hex hn0
        go_wp2_with fail
        go_returns
        exact ⟨4, rfl, HX.out HEX.out _ HA5.out HT5.out⟩
      · have hnm' : named nm e = false := by simpa using hnm
        have hno' : ∀ j, j < k + 1 → ∀ x, l[j]? = some x → named nm x = false := fun j hj x hx => by
          rcases Nat.lt_succ_iff_lt_or_eq.1 hj with h1 | rfl
          · exact HNO.out j h1 x hx
          · rw [HE.out] at hx
            cases hx
            exact hnm'
        have HNO' := hide hno'
        by_cases hz0 : e.num = 0
        · have HZ0 := hide hz0
          have t0 : ((e.num.toNat : Int) == 0) = true := by rw [hz0]; rfl
          have t0' : (e.num.toNat : Int) = 0 := by rw [hz0]; rfl
          have t2 : decide ((0 : Int) < (e.num.toNat : Int)) = false := by rw [hz0]; rfl
          have hn0 : e.num.toNat = 0 := by rw [hz0]; rfl
          clear hnm hnm' hno' hz0
          rcases HFR.out with ⟨rfl, hf⟩ | ⟨j, rfl, hj, hjz, hjf⟩
          · have HF := hide hf
            clear hf HFR
            go_wp2_with fail
            go_roundg (N - (k + 1))
            case rel => exact ⟨k + 1, (k : Int), by omega, rfl, by first | rfl | go_num, by first | rfl | go_num, HA5, HT5, HO5, HQ5, HNO', hide (.inr ⟨k, rfl, Nat.lt_succ_self k, ⟨e, HE.out, HZ0.out⟩, HF.out⟩)⟩
            case measure => have := HGH.out; omega
          · have HF := hide (And.intro hj (And.intro hjz hjf))
            have t4 : decide ((j : Int) < 0) = false := by simp
            have t4' : ¬ (j : Int) < 0 := by omega
            clear hj hjz hjf HFR
            go_wp2_with fail
            go_roundg (N - (k + 1))
            case rel => exact ⟨k + 1, (j : Int), by omega, rfl, by first | rfl | go_num, by first | rfl | go_num, HA5, HT5, HO5, HQ5, HNO', hide (.inr ⟨j, rfl, Nat.lt_succ_of_lt HF.out.1, HF.out.2⟩)⟩
            case measure => have := HGH.out; omega
        · have HZ0 := hide hz0
          have hne : e.name ≠ nm := by
            rcases named_false hnm' with h0 | h0
            · exact absurd h0 hz0
            · exact h0
          have t3 := name_eq_false hne
          have hn0 : e.num.toNat ≠ 0 := fun h0 => hz0 (UInt16.toNat_inj.1 h0)
          have t0 : ((e.num.toNat : Int) == 0) = false := by rw [beq_eq_false_iff_ne]; omega
          have t0' : ¬ (e.num.toNat : Int) = 0 := by omega
          have t2 : decide ((0 : Int) < (e.num.toNat : Int)) = true := by simp; omega
          have t2' : (0 : Int) < (e.num.toNat : Int) := by omega
          clear hnm hnm' hno' hz0 hne hn0
          rcases HFR.out with ⟨rfl, hf⟩ | ⟨j, rfl, hj, hjz, hjf⟩
          · have HF := hide (free_more HE.out HZ0.out hf)
            clear hf HFR
            go_wp2_with fail
            go_roundg (N - (k + 1))
            case rel => exact ⟨k + 1, (-1), by omega, rfl, by first | rfl | go_num, by first | rfl | go_num, HA5, HT5, HO5, HQ5, HNO', hide (.inl ⟨rfl, HF.out⟩)⟩
            case measure => have := HGH.out; omega
          · have HF := hide (And.intro hj (And.intro hjz hjf))
            clear hj hjz hjf HFR
            go_wp2_with fail
            go_roundg (N - (k + 1))
            case rel => exact ⟨k + 1, (j : Int), by omega, rfl, by first | rfl | go_num, by first | rfl | go_num, HA5, HT5, HO5, HQ5, HNO', hide (.inr ⟨j, rfl, Nat.lt_succ_of_lt HF.out.1, HF.out.2⟩)⟩
            case measure => have := HGH.out; omega
    · have t1 : decide ((k : Int) < (N : Int)) = false := by simp; omega
      have t1' : ¬ (k : Int) < (N : Int) := by omega
      have hkN : k = N := by omega
      have hno : ∀ e ∈ l, named nm e = false := fun e he => by
        obtain ⟨j, hj⟩ := List.getElem?_of_mem he
        exact HNO.out j (by have := (List.getElem?_eq_some_iff.1 hj).1; omega) e hj
      have HNO' := hide hno
      rcases HFR.out with ⟨rfl, hf⟩ | ⟨j, rfl, hj, hjz, hjf⟩
      · have hat : addAt l = N := addAt_eq (fun t ht x hx => hf t (by omega) x hx) (.inl hnn.symm)
        obtain ⟨y, hy⟩ : ∃ y : Nat, 16 * N = y := ⟨_, rfl⟩
        have e16 : IntKind.i64.wrap ((N : Int) * 16) = (y : Int) := by rw [IntWalk.i64_in _ (by omega)]; omega
        have HY := hide hy
        have HAT := hide hat
        clear hkl hk hln hnn hno hf hy hat hkN
        go_wp2_with (first | ((with_reducible refine at_load 125 (.tmp 5) ?_); refine wpList_load_blk rfl 125 (.tmp 5) rfl q _ _ _ (by rfl) HQ.out Tryz.underlying125 rfl (by exact size_ent) ?_) | fail)
        refine (pack_ok nm v HSN.out wr).mono ?_
        rintro _ w6 ⟨rfl, hb6⟩
        have HA6 := hide (HA.out.below hb6)
        have HT6 := hide (HT.out.trans ((Tch.of_below hb6).mono HT.out.size fun _ _ h => h))
        have HPS := hide (pack_size ⟨nm, v⟩)
        clear hb6 HA HT HQ
        go_upto_region 21 with (first | ((with_reducible refine at_store 235 (.tmp 13) (.tmp 65) ?_); refine wpList_store_blk rfl 235 (.tmp 13) (.tmp 65) rfl w6.heap.size _ _ _ (by rfl) (by rfl) (Blk.new _ _ _) HPS.out (by rw [List.size_toArray, List.size_toArray, bvs_length, packB_length]; rfl) (bvs_oneCell _) (fun _ => ?_)) | fail)
        refine at_world (fun W => ∃ z, z = w6.heap.size ∧ Below w6.heap.size w6 W ∧ Blk W z 235 (bvs (packB ⟨nm, v⟩)).toArray) ⟨_, rfl, below_setRow ((Below.refl _ _).alloc (Nat.le_refl _) _) (Nat.le_refl _) _, (Blk.new _ _ _).setRow_same _⟩ (fun w7 h7 => ?_)
        obtain ⟨z', hz', hb7, hZ7⟩ := h7
        rw [← hz']
        have HA7 := hide (HA6.out.below hb7)
        have HT7 := hide (HT6.out.trans ((Tch.of_below hb7).mono HT6.out.size fun _ _ h => h))
        have hzw : w.heap.size ≤ z' := by rw [hz']; exact HT6.out.size
        have HZ7 := hide (And.intro hzw hZ7)
        clear hz' hb7 hZ7 hzw HA6 HT6
        have hres := HW.out HNO'.out w7 z' HA7.out HT7.out HZ7.out.1 HZ7.out.2
        rw [HAT.out, HY.out] at hres
        have HRES := hide hres
        clear hres
        go_wp2_with (first | ((with_reducible refine at_slice 235 (.tmp 13) none none ?_); refine wpList_run rfl _ (exec_slice 235 (.tmp 13) none none rfl (run_slice_all 235 5 z' 16 Tryz.underlying235 (by kernel_rfl) (by decide))) ?_) | fail)
        refine HRES.out.mono ?_
        rintro _ w8 ⟨x, rfl, hr⟩
        have HR := hide hr
        clear hr HRES
        go_wp2_with fail
        go_returns
        exact ⟨x, rfl, HR.out⟩
      · have hat : addAt l = j := addAt_eq hjf (.inr hjz)
        have t4 : decide ((j : Int) < 0) = false := by simp
        have t4' : ¬ (j : Int) < 0 := by omega
        obtain ⟨y, hy⟩ : ∃ y : Nat, 16 * j = y := ⟨_, rfl⟩
        have e16 : IntKind.i64.wrap ((j : Int) * 16) = (y : Int) := by rw [IntWalk.i64_in _ (by omega)]; omega
        have HY := hide hy
        have HAT := hide hat
        clear hkl hk hln hnn hno hj hjz hjf hy hat hkN
        go_wp2_with (first | ((with_reducible refine at_load 125 (.tmp 5) ?_); refine wpList_load_blk rfl 125 (.tmp 5) rfl q _ _ _ (by rfl) HQ.out Tryz.underlying125 rfl (by exact size_ent) ?_) | fail)
        refine (pack_ok nm v HSN.out wr).mono ?_
        rintro _ w6 ⟨rfl, hb6⟩
        have HA6 := hide (HA.out.below hb6)
        have HT6 := hide (HT.out.trans ((Tch.of_below hb6).mono HT.out.size fun _ _ h => h))
        have HPS := hide (pack_size ⟨nm, v⟩)
        clear hb6 HA HT HQ
        go_upto_region 21 with (first | ((with_reducible refine at_store 235 (.tmp 13) (.tmp 65) ?_); refine wpList_store_blk rfl 235 (.tmp 13) (.tmp 65) rfl w6.heap.size _ _ _ (by rfl) (by rfl) (Blk.new _ _ _) HPS.out (by rw [List.size_toArray, List.size_toArray, bvs_length, packB_length]; rfl) (bvs_oneCell _) (fun _ => ?_)) | fail)
        refine at_world (fun W => ∃ z, z = w6.heap.size ∧ Below w6.heap.size w6 W ∧ Blk W z 235 (bvs (packB ⟨nm, v⟩)).toArray) ⟨_, rfl, below_setRow ((Below.refl _ _).alloc (Nat.le_refl _) _) (Nat.le_refl _) _, (Blk.new _ _ _).setRow_same _⟩ (fun w7 h7 => ?_)
        obtain ⟨z', hz', hb7, hZ7⟩ := h7
        rw [← hz']
        have HA7 := hide (HA6.out.below hb7)
        have HT7 := hide (HT6.out.trans ((Tch.of_below hb7).mono HT6.out.size fun _ _ h => h))
        have hzw : w.heap.size ≤ z' := by rw [hz']; exact HT6.out.size
        have HZ7 := hide (And.intro hzw hZ7)
        clear hz' hb7 hZ7 hzw HA6 HT6
        have hres := HW.out HNO'.out w7 z' HA7.out HT7.out HZ7.out.1 HZ7.out.2
        rw [HAT.out, HY.out] at hres
        have HRES := hide hres
        clear hres
        go_wp2_with (first | ((with_reducible refine at_slice 235 (.tmp 13) none none ?_); refine wpList_run rfl _ (exec_slice 235 (.tmp 13) none none rfl (run_slice_all 235 5 z' 16 Tryz.underlying235 (by kernel_rfl) (by decide))) ?_) | fail)
        refine HRES.out.mono ?_
        rintro _ w8 ⟨x, rfl, hr⟩
        have HR := hide hr
        clear hr HRES
        go_wp2_with fail
        go_returns
        exact ⟨x, rfl, HR.out⟩
end
end Go.Proofs.YthmkgohfeahdhaaGreat

/- A directory's entries from bytes: walked. A directory's places: walked. A directory's entries, one by one: walked. A directory: is there a name, is there any: walked. Directories as they are meant: places, plain. A directory's entry turned: walked. A directory's calls: what comes of them. The fixed fact of the directories: walked. An act's name: walked. Two lists of entries, compared: walked. A directory's calls in a transaction of their own: what comes of them. A record of an own directory as bytes, and back: walked. The table of own directories: all its places: walked. The table of own directories: which one is a node's: walked. A node without bytes has no blocks: walked. fsck: what lies in memory while a group is gone through; a fault noted; all nodes: walked. fsck: all nodes of a group: walked. fsck: the blocks of nodes without bytes: walked. fsck: the blocks of a group's nodes: walked. fsck: a group's own nodes: walked. fsck: the names in directories, how many names nodes have: walked. -/
import Derived.Test.YthmkgohfeahdhaaGreatCkSuperLawP4
namespace Go.Proofs.YthmkgohfeahdhaaGreat
open Go.RowKit
set_option linter.unusedSimpArgs false
set_option linter.unusedVariables false

/-- an entry that may stand in a directory's place -/
def EntV.Good (e : EntV) : Prop := (e.num = 0 ∧ e.name.data.toList = []) ∨ (e.num ≠ 0 ∧ nameErr e.name.data.toList = 0)
theorem nameErr_zero {l : List UInt8} (h : nameErr l = 0) : l ≠ [] ∧ l.length ≤ 14 ∧ ∀ c ∈ l, c ≠ 0 := by
  unfold nameErr at h
  split at h
  · cases h
  · rename_i h0
    split at h
    · cases h
    · split at h
      · rename_i h2
        refine ⟨fun e => h0 (.inl e), by omega, fun c hc e => ?_⟩
        rw [List.all_eq_true] at h2
        have := h2 c hc
        subst e
        revert this
        decide
      · cases h
theorem EntV.Good.name {e : EntV} (h : e.Good) : e.name.size ≤ 14 ∧ ∀ c ∈ e.name.data.toList, c ≠ 0 := by
  rw [dn_sz]
  rcases h with ⟨_, h⟩ | ⟨_, h⟩
  · rw [h]; simp
  · exact (nameErr_zero h).2
theorem pk_name {e : EntV} (h : e.name.size ≤ 14) {k : Nat} (hk : k < e.name.size) : (packB e).getD (2 + k) 0 = e.name.data.toList.getD k 0 := by
  have hl := dn_sz e.name
  rw [show packB e = _ from packB_eq e.name e.num h, show 2 + k = (k + 1) + 1 from by omega]
  simp only [List.getD_eq_getElem?_getD, List.getElem?_cons_succ]
  rw [List.getElem?_append_left (by omega)]
theorem pk_zero {e : EntV} (h : e.name.size ≤ 14) {j : Nat} (hj : 2 + e.name.size ≤ j) : (packB e).getD j 0 = 0 := by
  have hl := dn_sz e.name
  obtain ⟨k, rfl⟩ : ∃ k, j = (k + 1) + 1 := ⟨j - 2, by omega⟩
  rw [show packB e = _ from packB_eq e.name e.num h]
  simp only [List.getD_eq_getElem?_getD, List.getElem?_cons_succ]
  rw [List.getElem?_append_right (by omega), List.getElem?_replicate]
  split <;> rfl
theorem size_ent : (Tryz.prog.info? 125).map (·.size) = some 2 := by kernel_rfl
theorem str_name (e : EntV) : str e.name.data.toList = e.name := by
  obtain ⟨⟨d⟩, n⟩ := e
  simp [str]
abbrev str0 (e : EntV) : List UInt8 := e.name.data.toList
theorem pk_mid {e : EntV} (h : e.name.size ≤ 14) : ((packB e).drop 2).take (2 + e.name.size - 2) = e.name.data.toList := by
  have hl := dn_sz e.name
  rw [show packB e = _ from packB_eq e.name e.num h, List.drop_succ_cons, List.drop_succ_cons, List.drop_zero, List.take_append_of_le_length (by omega), List.take_of_length_le (by omega)]
section
variable {w : World}
set_option maxRecDepth 100000 in
set_option maxHeartbeats 1000000 in
theorem unpack_good (e : EntV) (hg : e.Good) {A : Option Addr} {c : Nat} (hc16 : 16 ≤ c) (h : Rd w w.heap.size 1 A 16 (bvs (packB e))) :
    Calls Tryz.prog 160 #[.slice A 16 c] w fun r w' => r = .returned (.tuple #[.agg e.cells.toArray, .bool true]) ∧ Below w.heap.size w w' := by
  obtain ⟨m, hm⟩ : ∃ m, e.name.size = m := ⟨_, rfl⟩
  have hn1 := hg.name
  rw [hm] at hn1
  have hm14 : m ≤ 14 := hn1.1
  have HG := hide (And.intro hg hm)
  have HR := hide h
  have HNZ := hide (show ∀ k, k < m → (packB e).getD (2 + k) 0 ≠ 0 from fun k hk => by
    rw [pk_name (by omega) (by omega), List.getD_eq_getElem?_getD, List.getElem?_eq_getElem (by rw [← dn_sz]; omega)]
    exact hn1.2 _ (List.getElem_mem _))
  have HZ := hide (show ∀ j, 2 + m ≤ j → (packB e).getD j 0 = 0 from fun j hj => pk_zero (by omega) (by omega))
  obtain ⟨ba, oa, rfl, hba, hca⟩ := h.byte (i := 0) (by omega)
  have HC := hide hca
  clear hg h hn1 hm hca
  go_enter Tryz.func160, Tryz.ntmps160
  go_wp2_with fail
  refine at_world (fun W => ∃ p, p = w.heap.size ∧ Below w.heap.size w W ∧ Blk W p 125 #[.string ⟨#[]⟩, .int .u16 0]) ⟨_, rfl, (Below.refl _ _).alloc (Nat.le_refl _) _, Blk.new _ _ _⟩ (fun w1 h1 => ?_)
  obtain ⟨p, hp, hb1, hP1⟩ := h1
  rw [← hp]
  have HB := hide hb1
  have HP := hide hP1
  have HPW := hide (show w.heap.size ≤ p from Nat.le_of_eq hp.symm)
  have bal : ba < w1.heap.size := Nat.lt_of_lt_of_le hba hb1.size
  have HC1 := hide (show ∀ j, j < 16 → w1.cell? ⟨ba, oa + j, none⟩ = some (.int .u8 (((packB e).getD j 0).toNat : Int)) from fun j hj => (World.cell?_of_block (w := w) (a := ⟨ba, oa + j, none⟩) (hb1.block ba hba)).trans (HC.out j hj))
  clear hp hb1 hP1 hba
  go_loopg [4] m (fun gh x4 wr => ∃ k : Nat, k ≤ m ∧ gh = m - k ∧ x4 = .int .i64 ((2 + k : Nat) : Int) ∧ wr = w1)
  case atStart => exact ⟨0, Nat.zero_le _, rfl, rfl, rfl⟩
  case round =>
    obtain ⟨k, hk, hgh, rfl, rfl⟩ := hrel
    have HGH := hide hgh
    clear hgh
    obtain ⟨y, hy⟩ : ∃ y : Nat, 2 + k = y := ⟨_, rfl⟩
    rw [hy]
    rcases Nat.lt_or_ge k m with hkl | hkl
    · have ck := HC1.out y (by omega)
      have hz := HNZ.out k hkl
      rw [hy] at hz
      obtain ⟨pc, hpc⟩ : ∃ pc, ((packB e).getD y 0).toNat = pc := ⟨_, rfl⟩
      have hpc0 : pc ≠ 0 := fun e0 => hz (UInt8.toNat_inj.1 (by rw [hpc, e0]; rfl))
      rw [hpc] at ck
      have t1 : decide ((y : Int) < 16) = true := by simp; omega
      have t2 : (y : Int) < 16 := by omega
      have t3 : ((pc : Int) == 0) = false := by rw [beq_eq_false_iff_ne]; omega
      have t3' : ¬ (pc : Int) = 0 := by omega
      have e64 : IntKind.i64.wrap ((y : Int) + 1) = (y : Int) + 1 := IntWalk.i64_in _ (by omega)
      clear hz hpc hpc0
      go_wp2_with fail
      go_roundg (m - (k + 1))
      case rel => exact ⟨k + 1, by omega, rfl, by rw [← Nat.add_assoc, hy]; go_num, rfl⟩
      case measure => have := HGH.out; omega
    · obtain rfl : k = m := by omega
      clear hkl hk
      rcases Nat.lt_or_ge y 16 with hyl | hyl
      · have ck := HC1.out y (by omega)
        rw [HZ.out y (by omega)] at ck
        have t1 : decide ((y : Int) < 16) = true := by simp; omega
        have t2 : (y : Int) < 16 := by omega
        have t3 : y < c := by omega
        have t4 : ¬ y = c := by omega
        have t5 : decide (y < c) = true := by simp; omega
        go_wp2_with fail
        clear ck t1 t2
        go_loopg [6, 29] (16 - y) (fun gh x6 x29 wq => ∃ j : Nat, j ≤ 16 - y ∧ gh = 16 - y - j ∧ x29 = .int .i64 (j : Int) ∧ wq = wr)
        case atStart => exact ⟨0, Nat.zero_le _, rfl, rfl, rfl⟩
        case round =>
          obtain ⟨j, hj, hgj, rfl, rfl⟩ := hrel
          have HGJ := hide hgj
          clear hgj
          rcases Nat.lt_or_ge j (16 - y) with hjl | hjl
          · have cj := HC1.out (y + j) (by omega)
            rw [HZ.out (y + j) (by omega), ← Nat.add_assoc] at cj
            have u1 : decide (j < 16 - y) = true := by simp; omega
            have u2 : decide ((j : Int) < ((16 - y : Nat) : Int)) = true := by simp; omega
            have u3 : (j : Int) < ((16 - y : Nat) : Int) := by omega
            have e64 : IntKind.i64.wrap ((j : Int) + 1) = (j : Int) + 1 := IntWalk.i64_in _ (by omega)
            go_wp2_with fail
            go_roundg (16 - y - (j + 1))
            case rel => exact ⟨j + 1, by omega, rfl, by first | rfl | go_num, rfl⟩
            case measure => have := HGJ.out; omega
          · have u1 : decide (j < 16 - y) = false := by simp; omega
            have u2 : decide ((j : Int) < ((16 - y : Nat) : Int)) = false := by simp; omega
            have u3 : ¬ (j : Int) < ((16 - y : Nat) : Int) := by omega
            clear hjl hj
            go_wp2_with fail
            have hrd : Rd wr w.heap.size 1 (slA (some ⟨ba, oa, none⟩) c 2) (y - 2) (bvs (str0 e)) := by
              have := (HR.out.below HB.out).part (c := c) (by omega) (lo := 2) (hi := y) (by omega) (by omega)
              rw [← hy, ← HG.out.2, pk_mid (by have := HG.out.2; omega)] at this
              rw [← hy, ← HG.out.2]
              exact this
            have HRD := hide hrd
            have b0 := HC1.out 0 (by omega)
            have b1 := HC1.out 1 (by omega)
            obtain ⟨lo, hlo⟩ : ∃ lo, ((packB e).getD 0 0).toNat = lo := ⟨_, rfl⟩
            obtain ⟨hi, hhi⟩ : ∃ hi, ((packB e).getD 1 0).toNat = hi := ⟨_, rfl⟩
            have hlo' : lo < 256 := by rw [← hlo]; exact UInt8.toNat_lt _
            have hhi' : hi < 256 := by rw [← hhi]; exact UInt8.toNat_lt _
            rw [hlo, Nat.add_zero] at b0
            rw [hhi] at b1
            have hnum : lo + 256 * hi = e.num.toNat := by
              have h1 : lo = e.num.toNat % 256 := by rw [← hlo]; exact UInt8.toNat_ofNat' ..
              have h2 : hi = e.num.toNat / 256 % 256 := by rw [← hhi]; exact UInt8.toNat_ofNat' ..
              have := e.num.toNat_lt
              omega
            have hor : bits BinOp.or IntKind.u16 (lo : Int) ((hi : Int) * 256) = (e.num.toNat : Int) := by
              have h := or_two hlo' hhi'
              rw [show ((256 * hi : Nat) : Int) = (hi : Int) * 256 from by omega, hnum] at h
              exact h
            have e1 : IntKind.u16.wrap (lo : Int) = (lo : Int) := by rw [IntKind.wrap_u16]; omega
            have e2 : IntKind.u16.wrap (hi : Int) = (hi : Int) := by rw [IntKind.wrap_u16]; omega
            have e3 : IntKind.u16.wrap ((hi : Int) * 256) = (hi : Int) * 256 := by rw [IntKind.wrap_u16]; omega
            have hlen : (16 : Int) = 16 := rfl
            clear hrd hlo hhi
            refine wp_region_text [0, 0, 0, 0, 0, 0, 0, 0, 0, 0, 0, 0, 0, 0, 0, 1, 1] (fun W => Below wr.heap.size wr W) (by kernel_rfl) (by kernel_rfl) (Below.refl _ _).drew ?_
            iterate 2 (refine wpOrd_q (v := ?_) (by rfl) (fun W hW => ?_) ?_; rotate_left; (focus ((obtain ⟨hWc, hWf⟩ := bcell hW; go_simp); try with_reducible rfl)); try simp only [Act.put, List.setIfInBounds_toArray, List.set_cons_zero, List.set_cons_succ])
            refine wpOrd_q (v := .slice (slA (some ⟨ba, oa, none⟩) c 2) (y - 2) (c - 2)) (by rfl) (fun W hW => exec_slice_lh 24 5 (.tmp 37) (.const (.int .i64 2)) (.tmp 38) rfl (some ⟨ba, oa, none⟩) 16 c 2 y .i64 .i64 (by rfl) (by rfl) (by rfl) Tryz.underlying24 (by kernel_rfl) (by omega) (by omega)) ?_
            try simp only [Act.put, List.setIfInBounds_toArray, List.set_cons_zero, List.set_cons_succ]
            refine wpOrd_q (v := .string e.name) (by rfl) (fun W hW => by rw [show Value.string e.name = .string (str (str0 e)) from by rw [str_name]]; exact exec_str 24 9 5 (.tmp 39) rfl _ _ _ (str0 e) _ (by rfl) Tryz.underlying24 Tryz.underlying5 Tryz.underlying9 (HRD.out.below (hW.mono HB.out.size))) ?_
            try simp only [Act.put, List.setIfInBounds_toArray, List.set_cons_zero, List.set_cons_succ]
            iterate 9 (refine wpOrd_q (v := ?_) (by rfl) (fun W hW => ?_) ?_; rotate_left; (focus ((obtain ⟨hWc, hWf⟩ := bcell hW; go_simp); try with_reducible rfl)); try simp only [Act.put, List.setIfInBounds_toArray, List.set_cons_zero, List.set_cons_succ])
            refine wpOrd_q (v := .int .u16 (e.num.toNat : Int)) (by rfl) (fun W hW => by go_simp; try exact hor) ?_
            try simp only [Act.put, List.setIfInBounds_toArray, List.set_cons_zero, List.set_cons_succ]
            iterate 1 (refine wpOrd_q (v := ?_) (by rfl) (fun W hW => ?_) ?_; rotate_left; (focus ((obtain ⟨hWc, hWf⟩ := bcell hW; go_simp); try with_reducible rfl)); try simp only [Act.put, List.setIfInBounds_toArray, List.set_cons_zero, List.set_cons_succ])
            refine wpOrd_x (by rfl) (fun KK hKK => ?_)
            go_simp
            refine hKK _ _ _ (fun _ h => h) ((Below.refl _ _).drew.alloc (Nat.le_refl _) _) ?_
            clear hKK KK
            try simp only [Act.put, List.setIfInBounds_toArray, List.set_cons_zero, List.set_cons_succ]
            refine wpOrd_x (by rfl) (fun KK hKK => ?_)
            go_simp
            refine hKK _ _ _ (fun _ h => h) ((Below.refl _ _).alloc (Nat.le_refl _) _).drew ?_
            clear hKK KK
            refine wpOrd_nil ?_
            refine at_world (fun W => ∃ q, q = wr.heap.size ∧ Below w.heap.size w W ∧ Blk W p 125 #[.string ⟨#[]⟩, .int .u16 0] ∧ Blk W q 125 #[.string e.name, .int .u16 (e.num.toNat : Int)]) ⟨_, rfl, (HB.out.alloc HB.out.size _).drew, (HP.out.alloc _).drew, (Blk.new _ _ _).drew⟩ (fun w3 h3 => ?_)
            obtain ⟨q, hq, hb3, hP3, hQ3⟩ := h3
            rw [← hq]
            have HB3 := hide hb3
            have HP3 := hide hP3
            have HQ3 := hide hQ3
            have q0 := hQ3.cell 0
            have q1 := hQ3.cell 1
            have ql := hQ3.lt
            clear hq hb3 hP3 hQ3 HRD HC1 HC b0 b1 hor e1 e2 e3 hlen
            rcases HG.out.1 with ⟨hz, hnm⟩ | ⟨hz, hnm⟩
            · have hz0 : e.num.toNat = 0 := by rw [hz]; rfl
              have hnm0 : e.name = ⟨#[]⟩ := by rw [← str_name e, hnm]; rfl
              have hk0 : y = 2 := by have := HG.out.2; rw [hnm0] at this; rw [← hy, ← this]; rfl
              rw [hz0] at q1
              have hce : e.cells.toArray = #[.string ⟨#[]⟩, .int .u16 0] := by unfold EntV.cells; rw [hz0, hnm0]; rfl
              have HCE := hide hce
              have HPQ := hide (below_setRow HB3.out HPW.out #[.string ⟨#[]⟩, .int .u16 0])
              subst hk0
              clear hce
              go_wp2_with (first | ((with_reducible refine at_store 125 (.tmp 2) (.tmp 55) ?_); refine wpList_store_blk rfl 125 (.tmp 2) (.tmp 55) rfl p _ _ _ (by rfl) (by rfl) HP3.out (by exact size_ent) (by rfl) (by simp [Value.oneCell']) (fun hB4 => ?_)) | ((with_reducible refine at_end ?_); refine bodyPost_ret (v := .tuple #[.agg #[.string ⟨#[]⟩, .int .u16 0], .bool true]) (results_run2 rfl (ResV.row rfl hB4 Tryz.underlying125 rfl size_ent) rfl) rfl ⟨by rw [HCE.out], HPQ.out⟩) | fail)
            · have hz0 : e.num.toNat ≠ 0 := fun h0 => hz (UInt16.toNat_inj.1 h0)
              have t6 : ((e.num.toNat : Int) == 0) = false := by rw [beq_eq_false_iff_ne]; omega
              have t6' : ¬ (e.num.toNat : Int) = 0 := by omega
              go_wp2_with fail
              refine (dirname_ok e.name w3).mono ?_
              rintro _ _ ⟨rfl, rfl⟩
              rw [hnm]
              have HPQ := hide (below_setRow HB3.out HPW.out #[.string e.name, .int .u16 (e.num.toNat : Int)])
              go_wp2_with (first | ((with_reducible refine at_store 125 (.tmp 2) (.tmp 63) ?_); refine wpList_store_blk rfl 125 (.tmp 2) (.tmp 63) rfl p _ _ _ (by rfl) (by rfl) HP3.out (by exact size_ent) (by rfl) (by simp [Value.oneCell']) (fun hB4 => ?_)) | ((with_reducible refine at_end ?_); refine bodyPost_ret (v := .tuple #[.agg #[.string e.name, .int .u16 (e.num.toNat : Int)], .bool true]) (results_run2 rfl (ResV.row rfl hB4 Tryz.underlying125 rfl size_ent) rfl) rfl ⟨rfl, HPQ.out⟩) | fail)
      · have t1 : decide ((y : Int) < 16) = false := by simp; omega
        have t2 : ¬ (y : Int) < 16 := by omega
        have t2' : (y : Int) ≤ 16 := by omega
        have hyle : y ≤ 16 := by omega
        rcases Nat.lt_or_ge y c with hyc | hyc
        · have t3 : y < c := hyc
          have t4 : ¬ y = c := by omega
          have t5 : decide (y < c) = true := by simp; omega
          go_wp2_with fail
          clear t1 t2
          go_loopg [6, 29] (16 - y) (fun gh x6 x29 wq => ∃ j : Nat, j ≤ 16 - y ∧ gh = 16 - y - j ∧ x29 = .int .i64 (j : Int) ∧ wq = wr)
          case atStart => exact ⟨0, Nat.zero_le _, rfl, rfl, rfl⟩
          case round =>
            obtain ⟨j, hj, hgj, rfl, rfl⟩ := hrel
            have HGJ := hide hgj
            clear hgj
            rcases Nat.lt_or_ge j (16 - y) with hjl | hjl
            · exfalso; omega
            · have u1 : decide (j < 16 - y) = false := by simp; omega
              have u2 : decide ((j : Int) < ((16 - y : Nat) : Int)) = false := by simp; omega
              have u3 : ¬ (j : Int) < ((16 - y : Nat) : Int) := by omega
              clear hjl hj
              go_wp2_with fail
              have hrd : Rd wr w.heap.size 1 (slA (some ⟨ba, oa, none⟩) c 2) (y - 2) (bvs (str0 e)) := by
                have := (HR.out.below HB.out).part (c := c) (by omega) (lo := 2) (hi := y) (by omega) (by omega)
                rw [← hy, ← HG.out.2, pk_mid (by have := HG.out.2; omega)] at this
                rw [← hy, ← HG.out.2]
                exact this
              have HRD := hide hrd
              have b0 := HC1.out 0 (by omega)
              have b1 := HC1.out 1 (by omega)
              obtain ⟨lo, hlo⟩ : ∃ lo, ((packB e).getD 0 0).toNat = lo := ⟨_, rfl⟩
              obtain ⟨hi, hhi⟩ : ∃ hi, ((packB e).getD 1 0).toNat = hi := ⟨_, rfl⟩
              have hlo' : lo < 256 := by rw [← hlo]; exact UInt8.toNat_lt _
              have hhi' : hi < 256 := by rw [← hhi]; exact UInt8.toNat_lt _
              rw [hlo, Nat.add_zero] at b0
              rw [hhi] at b1
              have hnum : lo + 256 * hi = e.num.toNat := by
                have h1 : lo = e.num.toNat % 256 := by rw [← hlo]; exact UInt8.toNat_ofNat' ..
                have h2 : hi = e.num.toNat / 256 % 256 := by rw [← hhi]; exact UInt8.toNat_ofNat' ..
                have := e.num.toNat_lt
                omega
              have hor : bits BinOp.or IntKind.u16 (lo : Int) ((hi : Int) * 256) = (e.num.toNat : Int) := by
                have h := or_two hlo' hhi'
                rw [show ((256 * hi : Nat) : Int) = (hi : Int) * 256 from by omega, hnum] at h
                exact h
              have e1 : IntKind.u16.wrap (lo : Int) = (lo : Int) := by rw [IntKind.wrap_u16]; omega
              have e2 : IntKind.u16.wrap (hi : Int) = (hi : Int) := by rw [IntKind.wrap_u16]; omega
              have e3 : IntKind.u16.wrap ((hi : Int) * 256) = (hi : Int) * 256 := by rw [IntKind.wrap_u16]; omega
              have hlen : (16 : Int) = 16 := rfl
              clear hrd hlo hhi
              refine wp_region_text [0, 0, 0, 0, 0, 0, 0, 0, 0, 0, 0, 0, 0, 0, 0, 1, 1] (fun W => Below wr.heap.size wr W) (by kernel_rfl) (by kernel_rfl) (Below.refl _ _).drew ?_
              iterate 2 (refine wpOrd_q (v := ?_) (by rfl) (fun W hW => ?_) ?_; rotate_left; (focus ((obtain ⟨hWc, hWf⟩ := bcell hW; go_simp); try with_reducible rfl)); try simp only [Act.put, List.setIfInBounds_toArray, List.set_cons_zero, List.set_cons_succ])
              refine wpOrd_q (v := .slice (slA (some ⟨ba, oa, none⟩) c 2) (y - 2) (c - 2)) (by rfl) (fun W hW => exec_slice_lh 24 5 (.tmp 37) (.const (.int .i64 2)) (.tmp 38) rfl (some ⟨ba, oa, none⟩) 16 c 2 y .i64 .i64 (by rfl) (by rfl) (by rfl) Tryz.underlying24 (by kernel_rfl) (by omega) (by omega)) ?_
              try simp only [Act.put, List.setIfInBounds_toArray, List.set_cons_zero, List.set_cons_succ]
              refine wpOrd_q (v := .string e.name) (by rfl) (fun W hW => by rw [show Value.string e.name = .string (str (str0 e)) from by rw [str_name]]; exact exec_str 24 9 5 (.tmp 39) rfl _ _ _ (str0 e) _ (by rfl) Tryz.underlying24 Tryz.underlying5 Tryz.underlying9 (HRD.out.below (hW.mono HB.out.size))) ?_
              try simp only [Act.put, List.setIfInBounds_toArray, List.set_cons_zero, List.set_cons_succ]
              iterate 9 (refine wpOrd_q (v := ?_) (by rfl) (fun W hW => ?_) ?_; rotate_left; (focus ((obtain ⟨hWc, hWf⟩ := bcell hW; go_simp); try with_reducible rfl)); try simp only [Act.put, List.setIfInBounds_toArray, List.set_cons_zero, List.set_cons_succ])
              refine wpOrd_q (v := .int .u16 (e.num.toNat : Int)) (by rfl) (fun W hW => by go_simp; try exact hor) ?_
              try simp only [Act.put, List.setIfInBounds_toArray, List.set_cons_zero, List.set_cons_succ]
              iterate 1 (refine wpOrd_q (v := ?_) (by rfl) (fun W hW => ?_) ?_; rotate_left; (focus ((obtain ⟨hWc, hWf⟩ := bcell hW; go_simp); try with_reducible rfl)); try simp only [Act.put, List.setIfInBounds_toArray, List.set_cons_zero, List.set_cons_succ])
              refine wpOrd_x (by rfl) (fun KK hKK => ?_)
              go_simp
              refine hKK _ _ _ (fun _ h => h) ((Below.refl _ _).drew.alloc (Nat.le_refl _) _) ?_
              clear hKK KK
              try simp only [Act.put, List.setIfInBounds_toArray, List.set_cons_zero, List.set_cons_succ]
              refine wpOrd_x (by rfl) (fun KK hKK => ?_)
              go_simp
              refine hKK _ _ _ (fun _ h => h) ((Below.refl _ _).alloc (Nat.le_refl _) _).drew ?_
              clear hKK KK
              refine wpOrd_nil ?_
              refine at_world (fun W => ∃ q, q = wr.heap.size ∧ Below w.heap.size w W ∧ Blk W p 125 #[.string ⟨#[]⟩, .int .u16 0] ∧ Blk W q 125 #[.string e.name, .int .u16 (e.num.toNat : Int)]) ⟨_, rfl, (HB.out.alloc HB.out.size _).drew, (HP.out.alloc _).drew, (Blk.new _ _ _).drew⟩ (fun w3 h3 => ?_)
              obtain ⟨q, hq, hb3, hP3, hQ3⟩ := h3
              rw [← hq]
              have HB3 := hide hb3
              have HP3 := hide hP3
              have HQ3 := hide hQ3
              have q0 := hQ3.cell 0
              have q1 := hQ3.cell 1
              have ql := hQ3.lt
              clear hq hb3 hP3 hQ3 HRD HC1 HC b0 b1 hor e1 e2 e3 hlen
              rcases HG.out.1 with ⟨hz, hnm⟩ | ⟨hz, hnm⟩
              · have hz0 : e.num.toNat = 0 := by rw [hz]; rfl
                have hnm0 : e.name = ⟨#[]⟩ := by rw [← str_name e, hnm]; rfl
                have hk0 : y = 2 := by have := HG.out.2; rw [hnm0] at this; rw [← hy, ← this]; rfl
                exfalso; omega
              · have hz0 : e.num.toNat ≠ 0 := fun h0 => hz (UInt16.toNat_inj.1 h0)
                have t6 : ((e.num.toNat : Int) == 0) = false := by rw [beq_eq_false_iff_ne]; omega
                have t6' : ¬ (e.num.toNat : Int) = 0 := by omega
                go_wp2_with fail
                refine (dirname_ok e.name w3).mono ?_
                rintro _ _ ⟨rfl, rfl⟩
                rw [hnm]
                have HPQ := hide (below_setRow HB3.out HPW.out #[.string e.name, .int .u16 (e.num.toNat : Int)])
                go_wp2_with (first | ((with_reducible refine at_store 125 (.tmp 2) (.tmp 63) ?_); refine wpList_store_blk rfl 125 (.tmp 2) (.tmp 63) rfl p _ _ _ (by rfl) (by rfl) HP3.out (by exact size_ent) (by rfl) (by simp [Value.oneCell']) (fun hB4 => ?_)) | ((with_reducible refine at_end ?_); refine bodyPost_ret (v := .tuple #[.agg #[.string e.name, .int .u16 (e.num.toNat : Int)], .bool true]) (results_run2 rfl (ResV.row rfl hB4 Tryz.underlying125 rfl size_ent) rfl) rfl ⟨rfl, HPQ.out⟩) | fail)
        · obtain rfl : y = c := by omega
          go_wp2_with fail
          clear t1 t2
          go_loopg [6, 29] (16 - y) (fun gh x6 x29 wq => ∃ j : Nat, j ≤ 16 - y ∧ gh = 16 - y - j ∧ x29 = .int .i64 (j : Int) ∧ wq = wr)
          case atStart => exact ⟨0, Nat.zero_le _, rfl, rfl, rfl⟩
          case round =>
            obtain ⟨j, hj, hgj, rfl, rfl⟩ := hrel
            have HGJ := hide hgj
            clear hgj
            rcases Nat.lt_or_ge j (16 - y) with hjl | hjl
            · exfalso; omega
            · have u1 : decide (j < 16 - y) = false := by simp; omega
              have u2 : decide ((j : Int) < ((16 - y : Nat) : Int)) = false := by simp; omega
              have u3 : ¬ (j : Int) < ((16 - y : Nat) : Int) := by omega
              clear hjl hj
              go_wp2_with fail
              have hrd : Rd wr w.heap.size 1 (slA (some ⟨ba, oa, none⟩) y 2) (y - 2) (bvs (str0 e)) := by
                have := (HR.out.below HB.out).part (c := y) (by omega) (lo := 2) (hi := y) (by omega) (by omega)
                rw [← hy, ← HG.out.2, pk_mid (by have := HG.out.2; omega)] at this
                rw [← hy, ← HG.out.2]
                exact this
              have HRD := hide hrd
              have b0 := HC1.out 0 (by omega)
              have b1 := HC1.out 1 (by omega)
              obtain ⟨lo, hlo⟩ : ∃ lo, ((packB e).getD 0 0).toNat = lo := ⟨_, rfl⟩
              obtain ⟨hi, hhi⟩ : ∃ hi, ((packB e).getD 1 0).toNat = hi := ⟨_, rfl⟩
              have hlo' : lo < 256 := by rw [← hlo]; exact UInt8.toNat_lt _
              have hhi' : hi < 256 := by rw [← hhi]; exact UInt8.toNat_lt _
              rw [hlo, Nat.add_zero] at b0
              rw [hhi] at b1
              have hnum : lo + 256 * hi = e.num.toNat := by
                have h1 : lo = e.num.toNat % 256 := by rw [← hlo]; exact UInt8.toNat_ofNat' ..
                have h2 : hi = e.num.toNat / 256 % 256 := by rw [← hhi]; exact UInt8.toNat_ofNat' ..
                have := e.num.toNat_lt
                omega
              have hor : bits BinOp.or IntKind.u16 (lo : Int) ((hi : Int) * 256) = (e.num.toNat : Int) := by
                have h := or_two hlo' hhi'
                rw [show ((256 * hi : Nat) : Int) = (hi : Int) * 256 from by omega, hnum] at h
                exact h
              have e1 : IntKind.u16.wrap (lo : Int) = (lo : Int) := by rw [IntKind.wrap_u16]; omega
              have e2 : IntKind.u16.wrap (hi : Int) = (hi : Int) := by rw [IntKind.wrap_u16]; omega
              have e3 : IntKind.u16.wrap ((hi : Int) * 256) = (hi : Int) * 256 := by rw [IntKind.wrap_u16]; omega
              have hlen : (16 : Int) = 16 := rfl
              clear hrd hlo hhi
              refine wp_region_text [0, 0, 0, 0, 0, 0, 0, 0, 0, 0, 0, 0, 0, 0, 0, 1, 1] (fun W => Below wr.heap.size wr W) (by kernel_rfl) (by kernel_rfl) (Below.refl _ _).drew ?_
              iterate 2 (refine wpOrd_q (v := ?_) (by rfl) (fun W hW => ?_) ?_; rotate_left; (focus ((obtain ⟨hWc, hWf⟩ := bcell hW; go_simp); try with_reducible rfl)); try simp only [Act.put, List.setIfInBounds_toArray, List.set_cons_zero, List.set_cons_succ])
              refine wpOrd_q (v := .slice (slA (some ⟨ba, oa, none⟩) y 2) (y - 2) (y - 2)) (by rfl) (fun W hW => exec_slice_lh 24 5 (.tmp 37) (.const (.int .i64 2)) (.tmp 38) rfl (some ⟨ba, oa, none⟩) 16 y 2 y .i64 .i64 (by rfl) (by rfl) (by rfl) Tryz.underlying24 (by kernel_rfl) (by omega) (by omega)) ?_
              try simp only [Act.put, List.setIfInBounds_toArray, List.set_cons_zero, List.set_cons_succ]
              refine wpOrd_q (v := .string e.name) (by rfl) (fun W hW => by rw [show Value.string e.name = .string (str (str0 e)) from by rw [str_name]]; exact exec_str 24 9 5 (.tmp 39) rfl _ _ _ (str0 e) _ (by rfl) Tryz.underlying24 Tryz.underlying5 Tryz.underlying9 (HRD.out.below (hW.mono HB.out.size))) ?_
              try simp only [Act.put, List.setIfInBounds_toArray, List.set_cons_zero, List.set_cons_succ]
              iterate 9 (refine wpOrd_q (v := ?_) (by rfl) (fun W hW => ?_) ?_; rotate_left; (focus ((obtain ⟨hWc, hWf⟩ := bcell hW; go_simp); try with_reducible rfl)); try simp only [Act.put, List.setIfInBounds_toArray, List.set_cons_zero, List.set_cons_succ])
              refine wpOrd_q (v := .int .u16 (e.num.toNat : Int)) (by rfl) (fun W hW => by go_simp; try exact hor) ?_
              try simp only [Act.put, List.setIfInBounds_toArray, List.set_cons_zero, List.set_cons_succ]
              iterate 1 (refine wpOrd_q (v := ?_) (by rfl) (fun W hW => ?_) ?_; rotate_left; (focus ((obtain ⟨hWc, hWf⟩ := bcell hW; go_simp); try with_reducible rfl)); try simp only [Act.put, List.setIfInBounds_toArray, List.set_cons_zero, List.set_cons_succ])
              refine wpOrd_x (by rfl) (fun KK hKK => ?_)
              go_simp
              refine hKK _ _ _ (fun _ h => h) ((Below.refl _ _).drew.alloc (Nat.le_refl _) _) ?_
              clear hKK KK
              try simp only [Act.put, List.setIfInBounds_toArray, List.set_cons_zero, List.set_cons_succ]
              refine wpOrd_x (by rfl) (fun KK hKK => ?_)
              go_simp
              refine hKK _ _ _ (fun _ h => h) ((Below.refl _ _).alloc (Nat.le_refl _) _).drew ?_
              clear hKK KK
              refine wpOrd_nil ?_
              refine at_world (fun W => ∃ q, q = wr.heap.size ∧ Below w.heap.size w W ∧ Blk W p 125 #[.string ⟨#[]⟩, .int .u16 0] ∧ Blk W q 125 #[.string e.name, .int .u16 (e.num.toNat : Int)]) ⟨_, rfl, (HB.out.alloc HB.out.size _).drew, (HP.out.alloc _).drew, (Blk.new _ _ _).drew⟩ (fun w3 h3 => ?_)
              obtain ⟨q, hq, hb3, hP3, hQ3⟩ := h3
              rw [← hq]
              have HB3 := hide hb3
              have HP3 := hide hP3
              have HQ3 := hide hQ3
              have q0 := hQ3.cell 0
              have q1 := hQ3.cell 1
              have ql := hQ3.lt
              clear hq hb3 hP3 hQ3 HRD HC1 HC b0 b1 hor e1 e2 e3 hlen
              rcases HG.out.1 with ⟨hz, hnm⟩ | ⟨hz, hnm⟩
              · have hz0 : e.num.toNat = 0 := by rw [hz]; rfl
                have hnm0 : e.name = ⟨#[]⟩ := by rw [← str_name e, hnm]; rfl
                have hk0 : y = 2 := by have := HG.out.2; rw [hnm0] at this; rw [← hy, ← this]; rfl
                exfalso; omega
              · have hz0 : e.num.toNat ≠ 0 := fun h0 => hz (UInt16.toNat_inj.1 h0)
                have t6 : ((e.num.toNat : Int) == 0) = false := by rw [beq_eq_false_iff_ne]; omega
                have t6' : ¬ (e.num.toNat : Int) = 0 := by omega
                go_wp2_with fail
                refine (dirname_ok e.name w3).mono ?_
                rintro _ _ ⟨rfl, rfl⟩
                rw [hnm]
                have HPQ := hide (below_setRow HB3.out HPW.out #[.string e.name, .int .u16 (e.num.toNat : Int)])
                go_wp2_with (first | ((with_reducible refine at_store 125 (.tmp 2) (.tmp 63) ?_); refine wpList_store_blk rfl 125 (.tmp 2) (.tmp 63) rfl p _ _ _ (by rfl) (by rfl) HP3.out (by exact size_ent) (by rfl) (by simp [Value.oneCell']) (fun hB4 => ?_)) | ((with_reducible refine at_end ?_); refine bodyPost_ret (v := .tuple #[.agg #[.string e.name, .int .u16 (e.num.toNat : Int)], .bool true]) (results_run2 rfl (ResV.row rfl hB4 Tryz.underlying125 rfl size_ent) rfl) rfl ⟨rfl, HPQ.out⟩) | fail)
end
end Go.Proofs.YthmkgohfeahdhaaGreat
namespace Go.Proofs.YthmkgohfeahdhaaGreat
open Go.RowKit
set_option linter.unusedSimpArgs false
set_option linter.unusedVariables false

/-- a directory's bytes -/
def pks (l : List EntV) : List UInt8 := l.flatMap packB
theorem pks_length : ∀ l : List EntV, (pks l).length = 16 * l.length
  | [] => rfl
  | e :: l => by
    have := pks_length l
    unfold pks at this ⊢
    rw [List.flatMap_cons, List.length_append, this, packB_length, List.length_cons]
    omega
theorem pks_piece : ∀ {l : List EntV} {k : Nat} {e : EntV}, l[k]? = some e → ((pks l).drop (16 * k)).take 16 = packB e
  | [], k, e, h => by simp at h
  | a :: l, 0, e, h => by
    obtain rfl : a = e := by simpa using h
    unfold pks
    rw [List.flatMap_cons, Nat.mul_zero, List.drop_zero, ← packB_length a, List.take_left']
    rw [packB_length]
  | a :: l, k + 1, e, h => by
    have h1 := pks_piece (l := l) (k := k) (e := e) (by simpa using h)
    unfold pks at h1 ⊢
    rw [List.flatMap_cons, show 16 * (k + 1) = (packB a).length + 16 * k from by rw [packB_length]; omega, List.drop_append, List.drop_eq_nil_of_le (by omega), List.nil_append, Nat.add_sub_cancel_left, h1]
theorem info_ent : ∃ i, Tryz.prog.info? 125 = some i ∧ i.zero = some (.agg #[.string ⟨#[]⟩, .int .u16 0]) ∧ i.size = 2 ∧ i.bytes = 24 := by
  have h : (Tryz.prog.info? 125).map (fun i => (i.zero, i.size, i.bytes)) = some (some (.agg #[.string ⟨#[]⟩, .int .u16 0]), 2, 24) := by kernel_rfl
  cases hi : Tryz.prog.info? 125 with
  | none => rw [hi] at h; cases h
  | some i =>
    rw [hi] at h
    simp only [Option.map_some, Option.some.injEq, Prod.mk.injEq] at h
    exact ⟨i, rfl, h.1, h.2.1, h.2.2⟩
section
variable {w w' : World} {i : Ids} {s : Sto} {gg : Nat} {g : GeoN} {lab : Int} {G : GS}
set_option maxRecDepth 100000 in
set_option maxHeartbeats 4000000 in
theorem dopen_ok {num sz : Nat} {l : List EntV} {κ : Nat → Nat} (h : GAt w i s gg g lab G) (h1 : 1 ≤ num) (h2 : num ≤ g.nodes) (hk : (G.nd num).kind = 2) (hl : (pks l).length = sz) (hsz : (G.nd num).size.toNat = sz)
    (hf : FileAt G g.blocks (G.nd num) (blks sz) κ sz (fun j => (pks l).getD j 0)) (hlen : sz ≤ 16384) (hg : ∀ e ∈ l, e.Good) :
    Calls Tryz.prog 119 #[.pointer (some ⟨gg, 0, none⟩), .int .i64 (num : Int)] w fun e w' => ∃ A c, e = .returned (.tuple #[.slice A l.length c, .int .i64 0]) ∧ w'.ownsRow w.heap.size 125 2 (.slice A l.length c) l.length (flat2 l) ∧ GAt w' i s gg g lab G ∧ Tch w.heap.size i.own w w' := by
  have hdir := h.gok.dir num
  have hnd := gs_node' h h1 h2
  obtain ⟨n0, hn0⟩ : ∃ n0, G.nd num = n0 := ⟨_, rfl⟩
  rw [hn0] at hnd hdir
  have H := hide h
  have HND := hide hnd
  have HN0 := hide hn0
  have HD := hide hdir
  have HK := hide (And.intro h1 (And.intro h2 (And.intro hk (And.intro hl hsz))))
  have HF := hide hf
  have HR := hide hg
  have HL := hide hlen
  clear h hnd hn0 hdir h1 h2 hk hl hf hg
  go_enter Tryz.func119, Tryz.ntmps119
  go_wp2_with fail
  refine HND.out.mono ?_
  rintro e w1 ⟨rfl, ha1, ht1⟩
  have HA1 := hide ha1
  have HT1 := hide ht1
  clear ha1 ht1 HND
  go_upto_region 2 with (first | ((with_reducible refine at_alloc 130 ?_); refine wpList_alloc_as rfl 130 rfl _ (zero_node _) ?_) | ((with_reducible refine at_store 130 (.tmp 6) (.tmp 17) ?_); refine wpList_store_blk rfl 130 (.tmp 6) (.tmp 17) rfl w1.heap.size _ _ _ (by rfl) (by rfl) (Blk.new _ _ _) (size_nodeOf HD.out) (by rw [List.size_toArray, List.size_toArray, NodeV.cells_length HD.out]; rfl) (NodeV.cells_one _) (fun _ => ?_)) | fail)
  refine at_world (fun W => ∃ q, q = w1.heap.size ∧ Below w1.heap.size w1 W ∧ Blk W q 130 n0.cells.toArray) ⟨_, rfl, below_setRow ((Below.refl _ _).alloc (Nat.le_refl _) _) (Nat.le_refl _) _, (Blk.new _ _ _).setRow_same _⟩ (fun w2 hw2 => ?_)
  obtain ⟨q, hq, hb2, hQ2⟩ := hw2
  rw [← hq]
  have HA2 := hide (HA1.out.below hb2)
  have HT2 := hide (HT1.out.trans ((Tch.of_below hb2).mono HT1.out.size fun _ _ h => h))
  have q0 := (hQ2.cell 0).trans (node_cells_at n0).1
  have q3 := (hQ2.cell 3).trans (node_cells_at n0).2.2.2
  have ql := hQ2.lt
  have hsz2 : n0.size.toNat = sz := by rw [← HN0.out]; exact HK.out.2.2.2.2
  rw [hsz2] at q3
  have hkd : (n0.kind.toNat : Int) = 2 := by rw [← HN0.out, HK.out.2.2.1]; rfl
  rw [hkd] at q0
  have e1 : IntKind.i64.wrap (sz : Int) = (sz : Int) := IntWalk.i64_in _ (by omega)
  have hrd := read_file (num := num) (off := 0) (many := sz) (en := sz) (c := blks sz) (sz := sz) (κ := κ) (f := fun j => (pks l).getD j 0) HA2.out HK.out.1 HK.out.2.1 (by rw [HK.out.2.2.1]; decide) HK.out.2.2.2.2 HF.out (by omega) (by omega) HL.out (by have := HL.out; omega)
  have hmap : (List.range sz).map (fun k => (pks l).getD (0 + k) 0) = pks l := by
    have hlen := HK.out.2.2.2.1
    apply List.ext_getElem?
    intro j
    rw [List.getElem?_map]
    by_cases hj : j < sz
    · rw [List.getElem?_range hj, List.getElem?_eq_getElem (by rw [hlen]; exact hj), Option.map_some, List.getD_eq_getElem?_getD, Nat.zero_add, List.getElem?_eq_getElem (by rw [hlen]; exact hj)]
      rfl
    · rw [List.getElem?_eq_none (by simpa using hj), List.getElem?_eq_none (by rw [hlen]; omega)]
      rfl
  rw [Nat.sub_zero, hmap, show ((0 : Nat) : Int) = 0 from rfl] at hrd
  have HRD := hide hrd
  clear hq hb2 hQ2 hsz2 hmap hrd hsz hlen hkd HA1 HT1
  go_wp2_with fail
  refine HRD.out.mono ?_
  rintro e w3 ⟨A3, c3, rfl, hr3, ha3, ht3, -, hc3, hown3⟩
  have HBT3 := hide (BT.of_own hown3)
  have HA3 := hide ha3
  have HT3 := hide (HT2.out.trans (ht3.mono HT2.out.size fun _ _ h => h))
  have HR3 := hide (And.intro hr3 hc3)
  clear hr3 ha3 ht3 hc3 hown3 HRD HA2 HT2 q0 q3 ql e1
  go_wp2_with fail
  obtain ⟨N, hN⟩ : ∃ N, l.length = N := ⟨_, rfl⟩
  have hszN : sz = 16 * N := by rw [← hN, ← pks_length, HK.out.2.2.2.1]
  have HN := hide hN
  have HSZ := hide hszN
  clear hN hszN
  go_loopg [9, 10, 11, 12] N (fun gh x9 x10 x11 x12 wr => ∃ (k : Nat) (Ao : Option Addr) (co : Nat), k ≤ N ∧ gh = N - k ∧ x9 = .slice Ao k co ∧ x10 = .int .i64 ((16 * k : Nat) : Int) ∧ Hid (GAt wr i s gg g lab G) ∧ Hid (Tch w.heap.size i.own w wr) ∧ Hid (Rd wr wr.heap.size 1 A3 sz (bvs (pks l)) ∧ sz ≤ c3) ∧ Hid (BT wr A3) ∧ Hid (wr.ownsRow w.heap.size 125 2 (.slice Ao k co) k (flat2 (l.take k))))
  case atStart => exact ⟨0, none, 0, Nat.zero_le _, rfl, rfl, rfl, HA3, HT3, HR3, HBT3, hide (World.ownsRow_nil _ _ _ _)⟩
  case round =>
    clear HA3 HT3 HR3 HBT3
    obtain ⟨k, Ao, co, hk, hgh, rfl, rfl, HA, HT, HB, HBT, HO⟩ := hrel
    have HGH := hide hgh
    have hLL := HL.out
    clear hgh
    obtain ⟨y, hy⟩ : ∃ y : Nat, 16 * k = y := ⟨_, rfl⟩
    rw [hy]
    rcases Nat.lt_or_ge k N with hkl | hkl
    · obtain ⟨e, he⟩ : ∃ e, l[k]? = some e := ⟨_, List.getElem?_eq_getElem (by rw [HN.out]; exact hkl)⟩
      have hysz : y + 16 ≤ sz := by have := HSZ.out; omega
      obtain ⟨ba, oa, rfl, hba, -⟩ := HB.out.1.byte (i := 0) (by omega)
      have hc3 := HB.out.2
      have hrd : Rd wr wr.heap.size 1 (some ⟨ba, oa + y, none⟩) 16 (bvs (packB e)) := by
        have h0 := HB.out.1.part HB.out.2 (lo := y) (hi := y + 16) (by omega) hysz
        rw [Nat.add_sub_cancel_left, ← hy, pks_piece he, hy] at h0
        unfold slA at h0
        rw [if_neg (by omega)] at h0
        simpa [Addr.add_mid] using h0
      have hup := unpack_good e (HR.out e (List.mem_of_getElem? he)) (c := c3 - y) (by omega) hrd
      have HUP := hide hup
      have HE := hide (And.intro he (HR.out e (List.mem_of_getElem? he)))
      have t1 : decide ((y : Int) < (sz : Int)) = true := by simp; omega
      have t1' : (y : Int) < (sz : Int) := by omega
      have e64 : IntKind.i64.wrap ((y : Int) + 16) = (y : Int) + 16 := IntWalk.i64_in _ (by omega)
      have hmin : min ((y : Int) + 16) (sz : Int) = (y : Int) + 16 := by omega
      have m1 : (y : Int) + 16 ≤ (sz : Int) := by omega
      have m2 : ¬ (sz : Int) < (y : Int) + 16 := by omega
      have m3 : (y : Int) + 16 ≤ (c3 : Int) := by omega
      have m4 : y < c3 := by omega
      have m5 : ¬ y = c3 := by omega
      have m6 : ¬ c3 = y := by omega
      clear hup hrd he hba
      have m7 : ((y : Int) + 16).toNat - y = 16 := by omega
      go_wp2_with fail
      refine HUP.out.mono ?_
      rintro _ w4 ⟨rfl, hb4⟩
      have HA4 := hide (HA.out.below hb4)
      have HT4 := hide (HT.out.trans ((Tch.of_below hb4).mono HT.out.size fun _ _ h => h))
      have HO4 := hide (own_below HO.out hb4)
      have HB4 := hide (And.intro ((HB.out.1.below hb4).more hb4.size) HB.out.2)
      have HBT4 := hide (HBT.out.below hb4)
      have hce : e.cells.toArray = #[.string e.name, .int .u16 (e.num.toNat : Int)] := rfl
      rw [hce]
      clear hb4 hce HUP HA HT HO HB HBT t1 t1' hmin m1 m2 m3 m4 m5 m6 m7
      go_upto_region 18 with (fail)
      refine at_world (fun W => ∃ z, z = w4.heap.size ∧ Below w4.heap.size w4 W ∧ Blk W z 125 #[.string e.name, .int .u16 (e.num.toNat : Int)]) ⟨_, rfl, (Below.refl _ _).alloc (Nat.le_refl _) _, Blk.new _ _ _⟩ (fun w5 h5 => ?_)
      obtain ⟨z, hz, hb5, hZ5⟩ := h5
      rw [← hz]
      have HZB := hide hZ5
      have HA5 := hide (HA4.out.below hb5)
      have HT5 := hide (HT4.out.trans ((Tch.of_below hb5).mono HT4.out.size fun _ _ h => h))
      have HO5 := hide (own_below HO4.out hb5)
      have HB5 := hide (And.intro ((HB4.out.1.below hb5).more hb5.size) HB4.out.2)
      have HBT5 := hide (HBT4.out.below hb5)
      clear hz hb5 hZ5 HA4 HT4 HO4 HB4 HBT4
      obtain ⟨j0, hj0, j1, j2, j3⟩ := info_ent
      have HJ := hide (And.intro hj0 (And.intro j1 (And.intro j2 j3)))
      have hone : ∀ u ∈ ([.string e.name, .int .u16 (e.num.toNat : Int)] : List Value), u.oneCell' = true := by simp [Value.oneCell']
      have HONE := hide hone
      have hk6 : k ≤ 1000000 := by have := HSZ.out; omega
      have hs5 := HT5.out.size
      clear hj0 j1 j2 j3 hone
      go_wp2_with (first | ((with_reducible refine at_load 125 (.tmp 11) ?_); refine wpList_load_blk rfl 125 (.tmp 11) rfl z _ _ _ (by rfl) HZB.out Tryz.underlying125 rfl (by exact size_ent) ?_) | (at_builtin; refine wpList_append_one rfl (.tmp 63) (.tmp 65) 60 rfl w.heap.size 125 j0 (.agg #[.string ⟨#[]⟩, .int .u16 0]) 2 24 Tryz.underlying60 HJ.out.1 HJ.out.2.1 HJ.out.2.2.1 HJ.out.2.2.2 rfl (by decide) Ao co k (flat2 (l.take k)) [.string e.name, .int .u16 (e.num.toNat : Int)] w5 rfl HO5.out rfl rfl rfl HONE.out hk6 (by decide) hs5 ?_; intro A9 c9 w6 hown9 hg9 hb9 hat9) | fail)
      have htg : Tch w5.heap.size (fun g => (Value.slice Ao k co).ownBlock = some g) w5 w6 := Tch.grown hg9 (Nat.le_refl _) (fun g hg _ => hg)
      have hown_ge : ∀ g, (Value.slice Ao k co).ownBlock = some g → w.heap.size ≤ g := fun g hg => (own_block_ge HO5.out hg).1
      have hav : ∀ (t : TypeId) g cur, t ≠ 125 → Blk w5 g t cur → ¬ (Value.slice Ao k co).ownBlock = some g := fun t g cur ht hB => row_not_blk HO5.out hB ht
      have hll := H.out.tx.log.log.lt
      have hgg := H.out.gp.lt
      have HA6 := hide (HA5.out.apart htg (fun g hg => ⟨fun ho => H.out.tx.other_new (hown_ge g hg) ho, by have := hown_ge g hg; omega, by have := hown_ge g hg; omega⟩))
      have HT6 := hide (HT5.out.trans (htg.mono HT5.out.size (fun g hk hg => by have := hown_ge g hg; omega)))
      have HB6 := hide (And.intro (HB5.out.1.keepT HBT5.out htg (fun g cur hB => hav _ g cur (by decide) hB)) HB5.out.2)
      have HBT6 := hide (HBT5.out.tch htg (fun g cur hB => hav _ g cur (by decide) hB))
      have hfl : flat2 (l.take k) ++ [.string e.name, .int .u16 (e.num.toNat : Int)] = flat2 (l.take (k + 1)) := by
        rw [List.take_add_one, HE.out.1]
        simp [flat2, EntV.cells]
      rw [hfl] at hown9
      have HO6 := hide hown9
      clear hown9 hg9 hb9 hat9 htg hown_ge hav hll hgg hfl HA5 HT5 HO5 HB5 HBT5
      go_roundg (N - (k + 1))
      case rel => exact ⟨k + 1, A9, c9, by omega, rfl, rfl, by rw [Nat.mul_add, hy]; first | rfl | go_num, HA6, HT6, HB6, HBT6, HO6⟩
      case measure => have := HGH.out; omega
    · have hkN : k = N := by omega
      have t1 : decide ((y : Int) < (sz : Int)) = false := by have := HSZ.out; simp; omega
      have t1' : ¬ (y : Int) < (sz : Int) := by have := HSZ.out; omega
      have HKN := hide hkN
      clear hkl hk hkN hLL
      go_wp2
      go_returns
      refine ⟨Ao, co, ?_, ?_, HA.out, HT.out⟩
      · have e1 := HN.out
        have e2 := HKN.out
        simp [e1, e2]
      · have h0 := HO.out
        rw [HKN.out, List.take_of_length_le (by rw [HN.out]; exact Nat.le_refl _)] at h0
        rw [HN.out]
        exact h0
end
end Go.Proofs.YthmkgohfeahdhaaGreat
namespace Go.Proofs.YthmkgohfeahdhaaGreat
open Go.RowKit
set_option linter.unusedSimpArgs false
set_option linter.unusedVariables false

/-- those that are there -/
def live (l : List EntV) : List EntV := l.filter fun e => decide (e.num ≠ 0)
theorem flat2_get : ∀ {L : List EntV} {k j : Nat} {n : EntV}, L[k]? = some n → j < 2 → (flat2 L)[k * 2 + j]? = n.cells[j]?
  | [], k, j, n, h, _ => by simp at h
  | a :: r, 0, j, n, h, hj => by
    obtain rfl : a = n := by simpa using h
    unfold flat2
    rw [List.flatMap_cons, Nat.zero_mul, Nat.zero_add, List.getElem?_append_left (by simp [EntV.cells]; omega)]
  | a :: r, k + 1, j, n, h, hj => by
    have := flat2_get (L := r) (k := k) (j := j) (n := n) (by simpa using h) hj
    unfold flat2 at this ⊢
    rw [List.flatMap_cons, List.getElem?_append_right (by simp [EntV.cells]; omega), ← this]
    congr 1
    simp [EntV.cells]; omega
theorem ent_range {w : World} {B n co : Nat} {Ao : Option Addr} {L : List EntV} (h : w.ownsRow B 125 2 (.slice Ao n co) n (flat2 L)) (hn : 0 < n) : ∃ g, Ao = some ⟨g, 0, none⟩ ∧ g < w.heap.size ∧ ∀ (k : Nat) (r : EntV), L[k]? = some r → w.rangeAt g (k * 2) r.cells := by
  obtain ⟨g, hA, _, hlt, hc⟩ := own_base h hn
  refine ⟨g, hA, hlt, fun k r hk j v hj => ?_⟩
  have hj2 : j < 2 := by have := (List.getElem?_eq_some_iff.1 hj).1; simpa [EntV.cells] using this
  have := flat2_get hk hj2
  exact hc _ _ (this.trans hj)
theorem live_snoc (l : List EntV) (k : Nat) {e : EntV} (he : l[k]? = some e) : live (l.take (k + 1)) = if e.num = 0 then live (l.take k) else live (l.take k) ++ [e] := by
  unfold live
  rw [List.take_add_one, he, List.filter_append]
  by_cases h : e.num = 0
  · simp [h]
  · simp [h]
section
variable {w w' : World} {i : Ids} {s : Sto} {gg : Nat} {g : GeoN} {lab : Int} {G : GS}
set_option maxRecDepth 100000 in
set_option maxHeartbeats 4000000 in
theorem dlist_ok {num : Nat} {l : List EntV} (h : GAt w i s gg g lab G) (hln : l.length ≤ 1024)
    (hop : ∀ W, GAt W i s gg g lab G → Calls Tryz.prog 119 #[.pointer (some ⟨gg, 0, none⟩), .int .i64 (num : Int)] W fun e w' => ∃ A c, e = .returned (.tuple #[.slice A l.length c, .int .i64 0]) ∧ w'.ownsRow W.heap.size 125 2 (.slice A l.length c) l.length (flat2 l) ∧ GAt w' i s gg g lab G ∧ Tch W.heap.size i.own W w') :
    Calls Tryz.prog 63 #[.pointer (some ⟨gg, 0, none⟩), .int .i64 (num : Int)] w fun e w' => ∃ A c, e = .returned (.tuple #[.slice A (live l).length c, .int .i64 0]) ∧ w'.ownsRow w.heap.size 125 2 (.slice A (live l).length c) (live l).length (flat2 (live l)) ∧ GAt w' i s gg g lab G ∧ Tch w.heap.size i.own w w' := by
  have H := hide h
  have HOP := hide hop
  have HLN := hide hln
  clear h hop hln
  go_enter Tryz.func63, Tryz.ntmps63
  go_wp2_with fail
  refine (HOP.out w H.out).mono ?_
  rintro e w1 ⟨A, c, rfl, hown, ha1, ht1⟩
  obtain ⟨N, hN⟩ : ∃ N, l.length = N := ⟨_, rfl⟩
  have HN := hide hN
  rw [hN] at hown ⊢
  have HO1 := hide hown
  have HA1 := hide ha1
  have HT1 := hide ht1
  clear hown ha1 ht1 hN
  go_wp2_with fail
  have hw1 := HT1.out.size
  have HW1 := hide hw1
  clear hw1
  go_loopg [8, 10, 22] N (fun gh x8 x10 x22 wr => ∃ (k m : Nat) (Ao : Option Addr) (co : Nat), k ≤ N ∧ gh = N - k ∧ x8 = .slice Ao m co ∧ x22 = .int .i64 (k : Int) ∧ Hid ((live (l.take k)).length = m) ∧ Hid (GAt wr i s gg g lab G) ∧ Hid (Tch w.heap.size i.own w wr) ∧ Hid (wr.ownsRow w.heap.size 125 2 (.slice A N c) N (flat2 l)) ∧ Hid (∀ b, (Value.slice A N c).ownBlock = some b → b < w1.heap.size) ∧ Hid (w1.heap.size ≤ wr.heap.size ∧ wr.ownsRow w1.heap.size 125 2 (.slice Ao m co) m (flat2 (live (l.take k)))))
  case atStart => exact ⟨0, 0, none, 0, Nat.zero_le _, rfl, rfl, rfl, hide (by simp [live]), HA1, HT1, HO1, hide (fun b hb => (own_block_ge HO1.out hb).2), hide ⟨Nat.le_refl _, World.ownsRow_nil _ _ _ _⟩⟩
  case round =>
    obtain ⟨k, m, Ao, co, hk, hgh, rfl, rfl, HM, HA, HT, HO, HBB, HS⟩ := hrel
    have HGH := hide hgh
    have hln := HLN.out
    have hnn := HN.out
    clear hgh
    rcases Nat.lt_or_ge k N with hkl | hkl
    · obtain ⟨e, he⟩ : ∃ e, l[k]? = some e := ⟨_, List.getElem?_eq_getElem (by omega)⟩
      obtain ⟨ga, rfl, hga, hrg⟩ := ent_range HO.out (by omega)
      have hrg' : wr.rangeAt ga (k * 2) [.string e.name, .int .u16 (e.num.toNat : Int)] := hrg k e he
      have HRG := hide hrg'
      have HE := hide he
      have t1 : decide ((k : Int) < (N : Int)) = true := by simp; omega
      have t1' : (k : Int) < (N : Int) := by omega
      have e64 : IntKind.i64.wrap ((k : Int) + 1) = (k : Int) + 1 := IntWalk.i64_in _ (by omega)
      have hsz : (Tryz.prog.info? 125).map (·.size) = some ([Value.string e.name, .int .u16 (e.num.toNat : Int)] : List Value).length := size_ent
      have HSZ := hide hsz
      clear hrg hrg' he hsz hln hnn
      go_upto_region 8 with (first | ((with_reducible refine at_load 125 (.tmp 24) ?_); refine wpList_load_mid rfl 125 (.tmp 24) rfl ga (k * 2) (by rfl) [.string e.name, .int .u16 (e.num.toNat : Int)] _ HRG.out Tryz.underlying125 rfl HSZ.out ?_) | fail)
      refine at_world (fun W => ∃ z, z = wr.heap.size ∧ Below wr.heap.size wr W ∧ Blk W z 125 #[.string e.name, .int .u16 (e.num.toNat : Int)]) ⟨_, rfl, (Below.refl _ _).alloc (Nat.le_refl _) _, Blk.new _ _ _⟩ (fun w5 h5 => ?_)
      obtain ⟨z, hz, hb5, hZ5⟩ := h5
      rw [← hz]
      have HZB := hide hZ5
      have HA5 := hide (HA.out.below hb5)
      have HT5 := hide (HT.out.trans ((Tch.of_below hb5).mono HT.out.size fun _ _ h => h))
      have HO5 := hide (own_below HO.out hb5)
      have HS5 := hide (And.intro (Nat.le_trans HS.out.1 hb5.size) (own_below HS.out.2 hb5))
      have z1 := hZ5.cell 1
      have zl := hZ5.lt
      clear hz hb5 hZ5 HA HT HO HS HRG
      have hls := live_snoc l k HE.out
      by_cases hz : e.num = 0
      · rw [if_pos hz] at hls
        have hn0 : e.num.toNat = 0 := by rw [hz]; rfl
        have t2 : decide ((0 : Int) < (e.num.toNat : Int)) = false := by simp; omega
        have HLS := hide hls
        clear hls
        go_wp2_with fail
        go_roundg (N - (k + 1))
        case rel => exact ⟨k + 1, m, Ao, co, by omega, rfl, rfl, by first | rfl | go_num, hide (by rw [HLS.out]; exact HM.out), HA5, HT5, HO5, HBB, hide (by rw [HLS.out]; exact HS5.out)⟩
        case measure => have := HGH.out; omega
      · rw [if_neg hz] at hls
        have hn0 : e.num.toNat ≠ 0 := fun h0 => hz (UInt16.toNat_inj.1 h0)
        have t2 : decide ((0 : Int) < (e.num.toNat : Int)) = true := by simp; omega
        have t2' : (0 : Int) < (e.num.toNat : Int) := by omega
        have HLS := hide hls
        obtain ⟨j0, hj0, j1, j2, j3⟩ := info_ent
        have HJ := hide (And.intro hj0 (And.intro j1 (And.intro j2 j3)))
        have hone : ∀ u ∈ ([.string e.name, .int .u16 (e.num.toNat : Int)] : List Value), u.oneCell' = true := by simp [Value.oneCell']
        have HONE := hide hone
        have hmk : m ≤ 1000000 := by
          have h1 := HM.out
          have h2 : (live (l.take k)).length ≤ (l.take k).length := List.length_filter_le _ _
          rw [List.length_take] at h2
          have := HLN.out
          omega
        clear hls hj0 j1 j2 j3 hone
        go_wp2_with (first | ((with_reducible refine at_load 125 (.tmp 10) ?_); refine wpList_load_blk rfl 125 (.tmp 10) rfl z _ _ _ (by rfl) HZB.out Tryz.underlying125 rfl (by exact size_ent) ?_) | (at_builtin; refine wpList_append_one rfl (.tmp 29) (.tmp 31) 60 rfl w1.heap.size 125 j0 (.agg #[.string ⟨#[]⟩, .int .u16 0]) 2 24 Tryz.underlying60 HJ.out.1 HJ.out.2.1 HJ.out.2.2.1 HJ.out.2.2.2 rfl (by decide) Ao co m (flat2 (live (l.take k))) [.string e.name, .int .u16 (e.num.toNat : Int)] w5 rfl HS5.out.2 rfl rfl rfl HONE.out hmk (by decide) HS5.out.1 ?_; intro A9 c9 w6 hown9 hg9 hb9 hat9) | fail)
        have htg : Tch w5.heap.size (fun g => (Value.slice Ao m co).ownBlock = some g) w5 w6 := Tch.grown hg9 (Nat.le_refl _) (fun g hg _ => hg)
        have hown_ge : ∀ g, (Value.slice Ao m co).ownBlock = some g → w1.heap.size ≤ g := fun g hg => (own_block_ge HS5.out.2 hg).1
        have hll := H.out.tx.log.log.lt
        have hgg := H.out.gp.lt
        have hw1 := HW1.out
        have HA6 := hide (HA5.out.apart htg (fun g hg => ⟨fun ho => H.out.tx.other_new (Nat.le_trans hw1 (hown_ge g hg)) ho, by have := hown_ge g hg; omega, by have := hown_ge g hg; omega⟩))
        have HT6 := hide (HT5.out.trans (htg.mono HT5.out.size (fun g hk hg => by have := hown_ge g hg; omega)))
        have HO6 := hide (own_keep HO5.out fun b hb => htg.block b (own_block_ge HO5.out hb).2 (fun hg => by have := hown_ge b hg; have := HBB.out b hb; omega))
        have hfl : flat2 (live (l.take k)) ++ [.string e.name, .int .u16 (e.num.toNat : Int)] = flat2 (live (l.take (k + 1))) := by
          rw [HLS.out]
          simp [flat2, EntV.cells]
        rw [hfl] at hown9
        have HS6 := hide (And.intro (Nat.le_trans HS5.out.1 htg.size) hown9)
        clear hown9 hg9 hb9 hat9 htg hown_ge hll hgg hw1 hfl HA5 HT5 HO5 HS5
        go_roundg (N - (k + 1))
        case rel => exact ⟨k + 1, m + 1, A9, c9, by omega, rfl, rfl, by first | rfl | go_num, hide (by rw [HLS.out, List.length_append, HM.out]; rfl), HA6, HT6, HO6, HBB, HS6⟩
        case measure => have := HGH.out; omega
    · have hkN : k = N := by omega
      have t1 : decide ((k : Int) < (N : Int)) = false := by simp; omega
      have t1' : ¬ (k : Int) < (N : Int) := by omega
      have htk : l.take k = l := List.take_of_length_le (by omega)
      have HF := hide (And.intro HM.out (own_mono HS.out.2 HW1.out))
      rw [htk] at HF
      clear hkl hk hkN htk hln hnn
      go_wp2
      go_returns
      refine ⟨Ao, co, ?_, ?_, HA.out, HT.out⟩
      · have e1 := HF.out.1
        simp [e1]
      · rw [HF.out.1]
        exact HF.out.2
end
end Go.Proofs.YthmkgohfeahdhaaGreat
namespace Go.Proofs.YthmkgohfeahdhaaGreat
open Go.RowKit
set_option linter.unusedSimpArgs false
set_option linter.unusedVariables false

section
variable {w w' : World} {i : Ids} {s : Sto} {gg : Nat} {g : GeoN} {lab : Int} {G : GS}
/-- what dir.List says -/
def ListsTo (i : Ids) (s : Sto) (gg : Nat) (g : GeoN) (lab : Int) (G : GS) (num : Nat) (l : List EntV) : Prop :=
  ∀ W, GAt W i s gg g lab G → Calls Tryz.prog 63 #[.pointer (some ⟨gg, 0, none⟩), .int .i64 (num : Int)] W fun e w' => ∃ A c, e = .returned (.tuple #[.slice A l.length c, .int .i64 0]) ∧ w'.ownsRow W.heap.size 125 2 (.slice A l.length c) l.length (flat2 l) ∧ GAt w' i s gg g lab G ∧ Tch W.heap.size i.own W w'
end
end Go.Proofs.YthmkgohfeahdhaaGreat
namespace Go.Proofs.YthmkgohfeahdhaaGreat
open Go.RowKit
set_option linter.unusedSimpArgs false
set_option linter.unusedVariables false

def EntV.zero : EntV := ⟨⟨#[]⟩, 0⟩
/-- a directory lies in a group: its places, where its blocks are -/
structure DirN (G : GS) (g : GeoN) (num : Nat) (l : List EntV) (κ : Nat → Nat) : Prop where
  kind : (G.nd num).kind = 2
  links : (G.nd num).links ≠ 0
  size : (G.nd num).size.toNat = 16 * l.length
  file : FileAt G g.blocks (G.nd num) (blks (16 * l.length)) κ (16 * l.length) (fun j => (pks l).getD j 0)
  len : l.length ≤ 1024
  good : ∀ e ∈ l, e.Good
theorem Tree.other {G G' : GS} {m : Nat} {n : NodeV} {pr : Nat → Bool} {κ : Nat → Nat} (h : Tree G m n pr κ) (hb : ∀ c, pr c = true → G'.by_ (κ c) = G.by_ (κ c)) (ht : ∀ c, pr c = true → G'.tk (κ c) = true) : Tree G' m n pr κ :=
  ⟨h.dir, h.rng, h.cls, h.top, fun c p j h1 h2 h3 => by rw [hb p h3]; exact h.sub c p j h1 h2 h3, fun c hc => ⟨(h.own c hc).1, ht c hc⟩, h.inj⟩
theorem FileAt.other {G G' : GS} {m c len : Nat} {n : NodeV} {κ : Nat → Nat} {f : Nat → UInt8} (h : FileAt G m n c κ len f) (hb : ∀ k, prOf c k = true → G'.by_ (κ k) = G.by_ (κ k)) (ht : ∀ k, prOf c k = true → G'.tk (κ k) = true) : FileAt G' m n c κ len f :=
  ⟨h.tree.other hb ht, h.cle, h.fit, fun j hj => by rw [hb _ (prOf_true.2 (by have := h.fit; omega))]; exact h.byte j hj⟩
/-- no block is in both -/
def Apart (p : Nat → Bool) (κ : Nat → Nat) (p' : Nat → Bool) (κ' : Nat → Nat) : Prop := ∀ c c', p c = true → p' c' = true → κ c ≠ κ' c'
theorem FileAt.left {G G' : GS} {m c len num : Nat} {n : NodeV} {κ κ1 κ2 : Nat → Nat} {p1 p2 : Nat → Bool} {f : Nat → UInt8} (h : FileAt G m n c κ len f) (hl : Left G G' num p1 p2 κ1 κ2) (ha : Apart p1 κ1 (prOf c) κ) : FileAt G' m n c κ len f :=
  h.other (fun k hk => hl.by_ _ (h.tree.own k hk).2 fun c' hc' => ha c' k hc' hk) (fun k hk => hl.tk _ (h.tree.own k hk).2)
theorem Apart.left {G G' : GS} {m num : Nat} {n : NodeV} {κ κ1 κ2 : Nat → Nat} {p p1 p2 : Nat → Bool} (ht : Tree G m n p κ) (hl : Left G G' num p1 p2 κ1 κ2) (ha : Apart p1 κ1 p κ) : Apart p2 κ2 p κ := fun c c' h1 h2 => by
  cases hc : p1 c with
  | true => rw [(hl.old c hc).1]; exact ha c c' hc h2
  | false =>
    intro he
    have := hl.fresh c h1 hc
    rw [he, (ht.own c' h2).2] at this
    cases this
theorem FileAt.lost {G G' : GS} {m c len num : Nat} {n : NodeV} {κ κ1 : Nat → Nat} {p1 : Nat → Bool} {f : Nat → UInt8} (h : FileAt G m n c κ len f) (hl : Lost G G' num p1 κ1) (ha : Apart p1 κ1 (prOf c) κ) : FileAt G' m n c κ len f :=
  h.other (fun k hk => hl.by_ _ fun c' hc' => ha c' k hc' hk) (fun k hk => by rw [hl.tk _ fun c' hc' => ha c' k hc' hk]; exact (h.tree.own k hk).2)
theorem DirN.left {G G' : GS} {g : GeoN} {num num' : Nat} {l : List EntV} {κ κ1 κ2 : Nat → Nat} {p1 p2 : Nat → Bool} (h : DirN G g num l κ) (hl : Left G G' num' p1 p2 κ1 κ2) (hn : num ≠ num') (ha : Apart p1 κ1 (prOf (blks (16 * l.length))) κ) : DirN G' g num l κ := by
  have e := hl.nd num hn
  exact ⟨by rw [e]; exact h.kind, by rw [e]; exact h.links, by rw [e]; exact h.size, by rw [e]; exact h.file.left hl ha, h.len, h.good⟩
theorem DirN.lost {G G' : GS} {g : GeoN} {num num' : Nat} {l : List EntV} {κ κ1 : Nat → Nat} {p1 : Nat → Bool} (h : DirN G g num l κ) (hl : Lost G G' num' p1 κ1) (hn : num ≠ num') (ha : Apart p1 κ1 (prOf (blks (16 * l.length))) κ) : DirN G' g num l κ := by
  have e := hl.nd num hn
  exact ⟨by rw [e]; exact h.kind, by rw [e]; exact h.links, by rw [e]; exact h.size, by rw [e]; exact h.file.lost hl ha, h.len, h.good⟩

/-! ### places -/
def named (nm : ByteArray) (e : EntV) : Bool := decide (e.num ≠ 0 ∧ e.name = nm)
end Go.Proofs.YthmkgohfeahdhaaGreat
namespace Go.Proofs.YthmkgohfeahdhaaGreat
open Go.RowKit
set_option linter.unusedSimpArgs false
set_option linter.unusedVariables false

section
variable {P : Program} {w : World}
end
/-- what dir.open says -/
def OpensTo (i : Ids) (s : Sto) (gg : Nat) (g : GeoN) (lab : Int) (G : GS) (num : Nat) (l : List EntV) : Prop :=
  ∀ W, GAt W i s gg g lab G → Calls Tryz.prog 119 #[.pointer (some ⟨gg, 0, none⟩), .int .i64 (num : Int)] W fun e w' => ∃ A c, e = .returned (.tuple #[.slice A l.length c, .int .i64 0]) ∧ w'.ownsRow W.heap.size 125 2 (.slice A l.length c) l.length (flat2 l) ∧ GAt w' i s gg g lab G ∧ Tch W.heap.size i.own W w'
section
variable {w w' : World} {i : Ids} {s : Sto} {gg : Nat} {g : GeoN} {lab : Int} {G : GS}
theorem dopens {num : Nat} {l : List EntV} {κ : Nat → Nat} (hd : DirN G g num l κ) (h1 : 1 ≤ num) (h2 : num ≤ g.nodes) : OpensTo i s gg g lab G num l := fun W h =>
  dopen_ok h h1 h2 hd.kind (pks_length l) hd.size hd.file (by have := hd.len; omega) hd.good
theorem dlists {num : Nat} {l : List EntV} {κ : Nat → Nat} (hd : DirN G g num l κ) (h1 : 1 ≤ num) (h2 : num ≤ g.nodes) : ListsTo i s gg g lab G num (live l) := fun W h =>
  dlist_ok h hd.len (dopens hd h1 h2)
end
end Go.Proofs.YthmkgohfeahdhaaGreat
namespace Go.Proofs.YthmkgohfeahdhaaGreat
open Go.RowKit
set_option linter.unusedSimpArgs false
set_option linter.unusedVariables false

/-- what a call on one node leaves of a group's other nodes -/
structure Mov (G G' : GS) (num : Nat) (p : Nat → Bool) (κ : Nat → Nat) (p' : Nat → Bool) (κ' : Nat → Nat) : Prop where
  nd : ∀ k, k ≠ num → G'.nd k = G.nd k
  by_ : ∀ x, G.tk x = true → (∀ c, p c = true → κ c ≠ x) → G'.by_ x = G.by_ x
  tk : ∀ x, G.tk x = true → (∀ c, p c = true → κ c ≠ x) → G'.tk x = true
  new : ∀ c, p' c = true → (∃ c0, p c0 = true ∧ κ' c = κ c0) ∨ G.tk (κ' c) = false
  more : ∀ x, G'.tk x = true → G.tk x = true ∨ ∃ c, p' c = true ∧ κ' c = x
theorem Left.mov {G G' : GS} {num : Nat} {p p' : Nat → Bool} {κ κ' : Nat → Nat} (h : Left G G' num p p' κ κ') : Mov G G' num p κ p' κ' :=
  ⟨h.nd, h.by_, fun x hx _ => h.tk x hx, fun c hc => by
    cases hp : p c with
    | true => exact .inl ⟨c, hp, (h.old c hp).1⟩
    | false => exact .inr (h.fresh c hc hp), fun x hx => (h.new x hx).imp id fun ⟨c, h1, _, h2⟩ => ⟨c, h1, h2⟩⟩
theorem Lost.mov {G G' : GS} {m num : Nat} {n : NodeV} {p p' : Nat → Bool} {κ : Nat → Nat} (h : Lost G G' num p κ) (ht : Tree G m n p κ) (hp : ∀ c, p' c = true → p c = true) : Mov G G' num p κ p' κ :=
  ⟨h.nd, fun x _ hx => h.by_ x hx, fun x h1 hx => by rw [h.tk x hx]; exact h1, fun c hc => .inl ⟨c, hp c hc, rfl⟩, fun x hx => by
    by_cases hn : ∃ c, p c = true ∧ κ c = x
    · obtain ⟨c, h1, rfl⟩ := hn
      exact .inl (ht.own c h1).2
    · rw [h.tk x fun c hc e => hn ⟨c, hc, e⟩] at hx
      exact .inl hx⟩
theorem FileAt.mov {G G' : GS} {m c len num : Nat} {n : NodeV} {κ κ1 κ2 : Nat → Nat} {p1 p2 : Nat → Bool} {f : Nat → UInt8} (h : FileAt G m n c κ len f) (hl : Mov G G' num p1 κ1 p2 κ2) (ha : Apart p1 κ1 (prOf c) κ) : FileAt G' m n c κ len f :=
  h.other (fun k hk => hl.by_ _ (h.tree.own k hk).2 fun c' hc' => ha c' k hc' hk) (fun k hk => hl.tk _ (h.tree.own k hk).2 fun c' hc' => ha c' k hc' hk)
theorem Apart.mov {G G' : GS} {m num : Nat} {n : NodeV} {κ κ1 κ2 : Nat → Nat} {p p1 p2 : Nat → Bool} (ht : Tree G m n p κ) (hl : Mov G G' num p1 κ1 p2 κ2) (ha : Apart p1 κ1 p κ) : Apart p2 κ2 p κ := fun c c' h1 h2 => by
  rcases hl.new c h1 with ⟨c0, h3, h4⟩ | h3
  · rw [h4]; exact ha c0 c' h3 h2
  · intro he
    rw [he, (ht.own c' h2).2] at h3
    cases h3
theorem DirN.mov {G G' : GS} {g : GeoN} {num num' : Nat} {l : List EntV} {κ κ1 κ2 : Nat → Nat} {p1 p2 : Nat → Bool} (h : DirN G g num l κ) (hl : Mov G G' num' p1 κ1 p2 κ2) (hn : num ≠ num') (ha : Apart p1 κ1 (prOf (blks (16 * l.length))) κ) : DirN G' g num l κ := by
  have e := hl.nd num hn
  exact ⟨by rw [e]; exact h.kind, by rw [e]; exact h.links, by rw [e]; exact h.size, by rw [e]; exact h.file.mov hl ha, h.len, h.good⟩
/-- a small directory's own blocks -/
def dk (g : GeoN) (num c : Nat) (κ : Nat → Nat) : List Nat := g.base :: (g.base + g.bitmap + (num - 1) / 2) :: ((List.range 6).filter (prOf c)).map fun k => g.data + κ k
/-- a directory's step -/
structure DStep (s s' : Sto) (g : GeoN) (G G' : GS) (num : Nat) (l l' : List EntV) (κ κ' : Nat → Nat) (K0 T : List Nat) : Prop where
  dir : DirN G' g num l' κ'
  links : (G'.nd num).links = (G.nd num).links
  gen : (G'.nd num).gen = (G.nd num).gen
  mov : Mov G G' num (prOf (blks (16 * l.length))) κ (prOf (blks (16 * l'.length))) κ'
  cnt : G'.cnt g.blocks + nkeys (blks (16 * l.length)) = G.cnt g.blocks + nkeys (blks (16 * l'.length))
  inn : s'.In (K0 ++ T)
  tlen : T.length ≤ 12
  small : max (blks (16 * l.length)) (blks (16 * l'.length)) ≤ 6 → ∀ x ∈ T, x ∈ dk g num (max (blks (16 * l.length)) (blks (16 * l'.length))) κ'
  stay : Stay s s' g
  keep : ∀ c, prOf (blks (16 * l.length)) c = true → prOf (blks (16 * l'.length)) c = true → κ' c = κ c
def DRes (w w' : World) (i : Ids) (s : Sto) (gg : Nat) (g : GeoN) (lab : Int) (G : GS) (num : Nat) (l l' : List EntV) (κ : Nat → Nat) (K0 : List Nat) : Prop :=
  ∃ s' G' κ' T, GAt w' i s' gg g lab G' ∧ DStep s s' g G G' num l l' κ κ' K0 T ∧ Tch w.heap.size i.own w w'
/-- there was no room -/
def DFull (w w' : World) (i : Ids) (s : Sto) (gg : Nat) (g : GeoN) (lab : Int) (G : GS) (l l' : List EntV) : Prop :=
  g.blocks + nkeys (blks (16 * l.length)) < G.cnt g.blocks + nkeys (blks (16 * l'.length)) ∧ ∃ s' G', GAt w' i s' gg g lab G' ∧ Stay s s' g ∧ Tch w.heap.size i.own w w'
section
variable {w w' : World} {i : Ids} {s : Sto} {gg : Nat} {g : GeoN} {lab : Int} {G : GS} {K0 : List Nat}
theorem DRes.before {w0 : World} {num : Nat} {l l' : List EntV} {κ : Nat → Nat} (ht : Tch w0.heap.size i.own w0 w) (h : DRes w w' i s gg g lab G num l l' κ K0) : DRes w0 w' i s gg g lab G num l l' κ K0 := by
  obtain ⟨s', G', κ', T, k1, k2, k3⟩ := h
  exact ⟨s', G', κ', T, k1, k2, ht.trans (k3.mono ht.size fun _ _ h => h)⟩
theorem DFull.before {w0 : World} {l l' : List EntV} (ht : Tch w0.heap.size i.own w0 w) (h : DFull w w' i s gg g lab G l l') : DFull w0 w' i s gg g lab G l l' := by
  obtain ⟨k0, s', G', k1, k2, k3⟩ := h
  exact ⟨k0, s', G', k1, k2, ht.trans (k3.mono ht.size fun _ _ h => h)⟩
end
end Go.Proofs.YthmkgohfeahdhaaGreat
namespace Go.Proofs.YthmkgohfeahdhaaGreat
open Go.RowKit
set_option linter.unusedSimpArgs false
set_option linter.unusedVariables false

/-- a fresh group's root -/
theorem fresh_dir (g : GeoN) (κ : Nat → Nat) : DirN GS.fresh g 1 [] κ :=
  ⟨rfl, by decide, rfl, file_empty κ _ rfl (fresh_slot 2), by decide, fun e he => absurd he (by simp)⟩
end Go.Proofs.YthmkgohfeahdhaaGreat
namespace Go.Proofs.YthmkgohfeahdhaaGreat
open Go.RowKit
set_option linter.unusedSimpArgs false
set_option linter.unusedVariables false

def fewNames : List ByteArray := [⟨#[97]⟩, ⟨#[98]⟩, ⟨#[99]⟩, ⟨#[100, 100]⟩, ⟨#[101, 46, 102]⟩, ⟨#[102, 111, 117, 114, 116, 101, 101, 110, 45, 98, 121, 116, 101, 115]⟩, ⟨#[103]⟩, ⟨#[104]⟩]
def DAct.nm (a : DAct) : ByteArray := if a.raw then a.text else fewNames.getD (a.name % 8) ⟨#[]⟩
end Go.Proofs.YthmkgohfeahdhaaGreat
namespace Go.Proofs.YthmkgohfeahdhaaGreat
open Go.RowKit
set_option linter.unusedSimpArgs false
set_option linter.unusedVariables false

def EntV.lits (e : EntV) : List Lit := [.string e.name.data.toList, .int .u16 (e.num.toNat : Int)]
end Go.Proofs.YthmkgohfeahdhaaGreat
namespace Go.Proofs.YthmkgohfeahdhaaGreat
open Go.RowKit
set_option linter.unusedSimpArgs false
set_option linter.unusedVariables false

section
variable {w w' : World} {i : Ids} {D : List BlkV} {gg : Nat} {g : GeoN} {lab : Int} {G : GS}
/-- what comes of a call on a directory: an error, or other places -/
def DOut (w w' : World) (i : Ids) (D : List BlkV) (gg : Nat) (g : GeoN) (lab : Int) (G : GS) (num : Nat) (l : List EntV) (κ : Nat → Nat) (c : Int) : Prop :=
  (c ≠ 0 ∧ ∃ s' G', GAt w' i s' gg g lab G' ∧ s'.D = D ∧ Tch w.heap.size i.own w w') ∨ (c = 0 ∧ ∃ l', l'.length ≤ l.length + 1 ∧ DRes w w' i ⟨D, [], 0⟩ gg g lab G num l l' κ [])
theorem DOut.bad {num : Nat} {l : List EntV} {κ : Nat → Nat} {c : Int} (hc : c ≠ 0) (h : GAt w' i ⟨D, [], 0⟩ gg g lab G ∧ Tch w.heap.size i.own w w') : DOut w w' i D gg g lab G num l κ c := .inl ⟨hc, _, G, h.1, rfl, h.2⟩
end
end Go.Proofs.YthmkgohfeahdhaaGreat
namespace Go.Proofs.YthmkgohfeahdhaaGreat
open Go.RowKit
set_option linter.unusedSimpArgs false
set_option linter.unusedVariables false

/-- a record of an own directory -/
structure InR where
  lab : UInt8
  num : UInt16
  gen : UInt16
  own : UInt16
def InR.zero : InR := ⟨0, 0, 0, 0⟩
def InR.cells (r : InR) : List Value := [.int .u8 (r.lab.toNat : Int), .int .u16 (r.num.toNat : Int), .int .u16 (r.gen.toNat : Int), .int .u16 (r.own.toNat : Int)]
def InR.Good (r : InR) : Prop := r = InR.zero ∨ (r.num ≠ 0 ∧ 3 < r.own.toNat)
/-- a record's bytes -/
def recP (r : InR) : List UInt8 := [r.lab, 1, UInt8.ofNat r.num.toNat, UInt8.ofNat (r.num.toNat / 256), UInt8.ofNat r.gen.toNat, UInt8.ofNat (r.gen.toNat / 256), UInt8.ofNat r.own.toNat, UInt8.ofNat (r.own.toNat / 256)]
/-- a place's bytes -/
def placeR (r : InR) : List UInt8 := if r.own = 0 then List.replicate 8 0 else recP r
theorem placeR_length (r : InR) : (placeR r).length = 8 := by unfold placeR; split <;> rfl
theorem size_inr : (Tryz.prog.info? 244).map (·.size) = some 4 := by kernel_rfl
theorem size_rec8 (l : List UInt8) (h : l.length = 8) : (Tryz.prog.info? 245).map (·.size) = some (bvs l).toArray.size := by
  have : (Tryz.prog.info? 245).map (·.size) = some 8 := by kernel_rfl
  rw [this, List.size_toArray, bvs_length, h]
theorem rec8_lits (d : Nat) {b : List UInt8} (hb : b.length = 8) : Tryz.prog.keyLits (d + 2) 245 (bvs b) = some (b.map fun x => Lit.int .u8 (x.toNat : Int)) := by
  have := lits_ints (P := Tryz.prog) (d := d) Tryz.underlying245 Tryz.underlying5 (by kernel_rfl) (by kernel_rfl) (xs := b.map fun x => (x.toNat : Int)) (by simpa using hb) (fun x hx => by
    obtain ⟨y, _, rfl⟩ := List.mem_map.1 hx
    exact wf8 y)
  simpa [bvs, bv, List.map_map, Function.comp_def] using this
theorem rec8_eq (w : World) {a b : List UInt8} (ha : a.length = 8) (hb : b.length = 8) (q : Bool) (hq : q = true ↔ a = b) : (Op.equalIn 10000 245 (.agg (bvs a).toArray) (.agg (bvs b).toArray)).run Tryz.prog w = .ok q w := by
  have hf : ∀ {b : List UInt8}, b.length = 8 → (Value.agg (bvs b).toArray).formed Tryz.prog 245 = true := fun {b} hb => by
    unfold Value.formed
    rw [Tryz.underlying245]
    simp only [beq_iff_eq]
    rw [List.size_toArray, bvs_length, hb]
    kernel_rfl
  obtain ⟨r, h1, h2⟩ := run_equal_lits (P := Tryz.prog) w (m := 2) (D := 2) (by decide) (k := 245) (by kernel_rfl) (hf ha) (hf hb) (rec8_lits 0 ha) (rec8_lits 0 hb)
  rw [lit_inj8] at h2
  rw [h1, show r = q from by cases r <;> cases q <;> simp_all]
theorem zero_rec8 (w : World) : (Instr.build 245 #[]).run Tryz.prog w = .ok (.agg (bvs (List.replicate 8 0)).toArray) w := by kernel_rfl
theorem zero_inr (w : World) : (Instr.build 244 #[]).run Tryz.prog w = .ok (.agg InR.zero.cells.toArray) w := by kernel_rfl
theorem zero_inr' (w : World) : (zeroValue 244).run Tryz.prog w = .ok (.agg InR.zero.cells.toArray) w := by kernel_rfl
theorem build_inr (w : World) (a b c d : Int) : (Instr.build 244 #[(0, .agg #[.int .u8 a, .int .u16 b, .int .u16 c]), (1, .int .u16 d)]).run Tryz.prog w = .ok (.agg #[.int .u8 a, .int .u16 b, .int .u16 c, .int .u16 d]) w := by kernel_rfl
theorem size_inrc (r : InR) : (Tryz.prog.info? 244).map (·.size) = some r.cells.toArray.size := size_inr
theorem inr_one (r : InR) : r.cells.toArray.all (·.oneCell') = true := by simp [InR.cells, Value.oneCell']
theorem two_bytes (n : UInt16) : bits BinOp.or IntKind.u16 (((UInt8.ofNat n.toNat).toNat : Nat) : Int) ((((UInt8.ofNat (n.toNat / 256)).toNat : Nat) : Int) * 256) = (n.toNat : Int) := by
  have h := or_two (UInt8.toNat_lt (UInt8.ofNat n.toNat)) (UInt8.toNat_lt (UInt8.ofNat (n.toNat / 256)))
  rw [show ((256 * (UInt8.ofNat (n.toNat / 256)).toNat : Nat) : Int) = (((UInt8.ofNat (n.toNat / 256)).toNat : Nat) : Int) * 256 from by omega] at h
  have e : (UInt8.ofNat n.toNat).toNat + 256 * (UInt8.ofNat (n.toNat / 256)).toNat = n.toNat := by
    have := n.toNat_lt
    rw [UInt8.toNat_ofNat', UInt8.toNat_ofNat']
    omega
  rw [e] at h
  exact h
section
variable {w w' : World}
set_option maxRecDepth 100000 in
set_option maxHeartbeats 2000000 in
theorem inunpack_ok (r : InR) (hg : r.Good) {A : Option Addr} {c : Nat} (hc8 : 8 ≤ c) (h : Rd w w.heap.size 1 A 8 (bvs (placeR r))) :
    Calls Tryz.prog 162 #[.slice A 8 c] w fun e w' => e = .returned (.tuple #[.agg r.cells.toArray, .bool true]) ∧ Below w.heap.size w w' := by
  obtain ⟨ba, oa, rfl, hba, hca⟩ := h.byte (i := 0) (by omega)
  have hrg : w.rangeAt ba oa (bvs (placeR r)) := by
    obtain ⟨b, o, e, _, hc⟩ := h.2 (by omega)
    cases e
    exact fun j v hj => hc j v hj
  have HG := hide hg
  have HC := hide hca
  have HRG := hide hrg
  have HBA := hide hba
  clear hg h hca hrg hba
  go_enter Tryz.func162, Tryz.ntmps162
  go_upto_region 1 with (first | ((with_reducible refine at_alloc 244 ?_); refine wpList_alloc_as rfl 244 rfl _ (zero_inr' _) ?_) | fail)
  refine at_world (fun W => ∃ p, p = w.heap.size ∧ Below w.heap.size w W ∧ Blk W p 244 InR.zero.cells.toArray) ⟨_, rfl, (Below.refl _ _).alloc (Nat.le_refl _) _, Blk.new _ _ _⟩ (fun w1 h1 => ?_)
  obtain ⟨p, hp, hb1, hP1⟩ := h1
  rw [← hp]
  have HB := hide hb1
  have HP := hide hP1
  have HPW := hide (show w.heap.size ≤ p from Nat.le_of_eq hp.symm)
  have HRG1 := hide (show w1.rangeAt ba oa (bvs (placeR r)) from fun j v hj => (World.cell?_of_block (w := w) (a := ⟨ba, oa + j, none⟩) (hb1.block ba HBA.out)).trans (HRG.out j v hj))
  have HC1 := hide (show ∀ j, j < 8 → w1.cell? ⟨ba, oa + j, none⟩ = some (.int .u8 (((placeR r).getD j 0).toNat : Int)) from fun j hj => (World.cell?_of_block (w := w) (a := ⟨ba, oa + j, none⟩) (hb1.block ba HBA.out)).trans (HC.out j hj))
  have bal : ba < w1.heap.size := Nat.lt_of_lt_of_le HBA.out hb1.size
  have HL8 := hide (show (Tryz.prog.info? 245).map (·.size) = some (bvs (placeR r)).length from by
    have h0 := size_rec8 (placeR r) (placeR_length r)
    rwa [List.size_toArray] at h0)
  clear hp hb1 hP1
  by_cases hz : r.own = 0
  · have hr0 : r = InR.zero := by
      rcases HG.out with h0 | ⟨-, h0⟩
      · exact h0
      · rw [hz] at h0; exact absurd h0 (by decide)
    have heq : ∀ W, (Op.equalIn 10000 245 (.agg (bvs (placeR r)).toArray) (.agg (bvs (List.replicate 8 0)).toArray)).run Tryz.prog W = .ok true W := fun W => rec8_eq W (placeR_length r) rfl true (by unfold placeR; rw [if_pos hz]; simp)
    have HEQ := hide heq
    have HR0 := hide hr0
    clear heq hz hr0
    go_wp2_with (first | ((with_reducible refine at_sap 245 (.tmp 9) ?_); refine wpList_run rfl _ (exec_sap 245 (.tmp 9) rfl 8 ⟨ba, oa, none⟩ _ _ _ rfl Tryz.underlying245 (by omega)) ?_) | ((with_reducible refine at_load 245 (.tmp 10) ?_); refine wpList_load_mid rfl 245 (.tmp 10) rfl ba oa (by rfl) (bvs (placeR r)) _ HRG1.out Tryz.underlying245 rfl HL8.out ?_) | ((with_reducible refine at_build 245 #[] ?_); refine wpList_zero_as rfl 245 rfl _ (zero_rec8 _) ?_) | ((with_reducible refine at_binop .eql 245 (.tmp 11) (.tmp 12) 245 ?_); refine wpList_run rfl _ (exec_eql_agg 245 (.tmp 11) (.tmp 12) 245 rfl _ _ rfl rfl (by kernel_rfl) _ (HEQ.out _)) ?_) | ((with_reducible refine at_build 244 #[] ?_); refine wpList_zero_as rfl 244 rfl _ (zero_inr _) ?_) | ((with_reducible refine at_store 244 (.tmp 2) (.tmp 14) ?_); refine wpList_store_blk rfl 244 (.tmp 2) (.tmp 14) rfl p _ _ _ (by rfl) (by rfl) HP.out (size_inrc _) rfl (inr_one _) (fun hB5 => ?_)) | ((with_reducible refine at_end ?_); refine bodyPost_ret (v := .tuple #[.agg InR.zero.cells.toArray, .bool true]) (results_run2 rfl (ResV.row rfl hB5 Tryz.underlying244 rfl (size_inrc _)) rfl) rfl ⟨by rw [HR0.out], below_setRow HB.out HPW.out _⟩) | fail)
  · have heq : ∀ W, (Op.equalIn 10000 245 (.agg (bvs (placeR r)).toArray) (.agg (bvs (List.replicate 8 0)).toArray)).run Tryz.prog W = .ok false W := fun W => rec8_eq W (placeR_length r) rfl false (by
      unfold placeR
      rw [if_neg hz]
      constructor
      · intro h; cases h
      · intro h
        have := congrArg (fun l => l.getD 1 0) h
        have h1 : (1 : UInt8) = 0 := this
        exact absurd h1 (by decide))
    have hpl : placeR r = recP r := by unfold placeR; rw [if_neg hz]
    have HEQ := hide heq
    have HPL := hide hpl
    have hgo : r.num ≠ 0 ∧ 3 < r.own.toNat := by
      rcases HG.out with h0 | h0
      · rw [h0] at hz; exact absurd rfl hz
      · exact h0
    have HGO := hide hgo
    clear heq hz hpl hgo
    go_upto_region 5 with (first | ((with_reducible refine at_sap 245 (.tmp 9) ?_); refine wpList_run rfl _ (exec_sap 245 (.tmp 9) rfl 8 ⟨ba, oa, none⟩ _ _ _ rfl Tryz.underlying245 (by omega)) ?_) | ((with_reducible refine at_load 245 (.tmp 10) ?_); refine wpList_load_mid rfl 245 (.tmp 10) rfl ba oa (by rfl) (bvs (placeR r)) _ HRG1.out Tryz.underlying245 rfl HL8.out ?_) | ((with_reducible refine at_build 245 #[] ?_); refine wpList_zero_as rfl 245 rfl _ (zero_rec8 _) ?_) | ((with_reducible refine at_binop .eql 245 (.tmp 11) (.tmp 12) 245 ?_); refine wpList_run rfl _ (exec_eql_agg 245 (.tmp 11) (.tmp 12) 245 rfl _ _ rfl rfl (by kernel_rfl) _ (HEQ.out _)) ?_) | fail)
    have hcc := HC1.out
    rw [HPL.out] at hcc
    have c0 : w1.cell? ⟨ba, oa, none⟩ = some (.int .u8 (r.lab.toNat : Int)) := hcc 0 (by omega)
    have c1 : w1.cell? ⟨ba, oa + 1, none⟩ = some (.int .u8 1) := hcc 1 (by omega)
    have c2 : w1.cell? ⟨ba, oa + 2, none⟩ = some (.int .u8 (((UInt8.ofNat r.num.toNat).toNat : Nat) : Int)) := hcc 2 (by omega)
    have c3 : w1.cell? ⟨ba, oa + 3, none⟩ = some (.int .u8 (((UInt8.ofNat (r.num.toNat / 256)).toNat : Nat) : Int)) := hcc 3 (by omega)
    have c4 : w1.cell? ⟨ba, oa + 4, none⟩ = some (.int .u8 (((UInt8.ofNat r.gen.toNat).toNat : Nat) : Int)) := hcc 4 (by omega)
    have c5 : w1.cell? ⟨ba, oa + 5, none⟩ = some (.int .u8 (((UInt8.ofNat (r.gen.toNat / 256)).toNat : Nat) : Int)) := hcc 5 (by omega)
    have c6 : w1.cell? ⟨ba, oa + 6, none⟩ = some (.int .u8 (((UInt8.ofNat r.own.toNat).toNat : Nat) : Int)) := hcc 6 (by omega)
    have c7 : w1.cell? ⟨ba, oa + 7, none⟩ = some (.int .u8 (((UInt8.ofNat (r.own.toNat / 256)).toNat : Nat) : Int)) := hcc 7 (by omega)
    have o1 := two_bytes r.num
    have o2 := two_bytes r.gen
    have o3 := two_bytes r.own
    have l1 := UInt8.toNat_lt (UInt8.ofNat r.num.toNat)
    have l2 := UInt8.toNat_lt (UInt8.ofNat (r.num.toNat / 256))
    have l3 := UInt8.toNat_lt (UInt8.ofNat r.gen.toNat)
    have l4 := UInt8.toNat_lt (UInt8.ofNat (r.gen.toNat / 256))
    have l5 := UInt8.toNat_lt (UInt8.ofNat r.own.toNat)
    have l6 := UInt8.toNat_lt (UInt8.ofNat (r.own.toNat / 256))
    generalize ((UInt8.ofNat r.num.toNat).toNat : Nat) = b1 at *
    generalize ((UInt8.ofNat (r.num.toNat / 256)).toNat : Nat) = b2 at *
    generalize ((UInt8.ofNat r.gen.toNat).toNat : Nat) = b3 at *
    generalize ((UInt8.ofNat (r.gen.toNat / 256)).toNat : Nat) = b4 at *
    generalize ((UInt8.ofNat r.own.toNat).toNat : Nat) = b5 at *
    generalize ((UInt8.ofNat (r.own.toNat / 256)).toNat : Nat) = b6 at *
    have e1 : IntKind.u16.wrap (b1 : Int) = (b1 : Int) := by rw [IntKind.wrap_u16]; omega
    have e2 : IntKind.u16.wrap (b2 : Int) = (b2 : Int) := by rw [IntKind.wrap_u16]; omega
    have e3 : IntKind.u16.wrap (b3 : Int) = (b3 : Int) := by rw [IntKind.wrap_u16]; omega
    have e4 : IntKind.u16.wrap (b4 : Int) = (b4 : Int) := by rw [IntKind.wrap_u16]; omega
    have e5 : IntKind.u16.wrap (b5 : Int) = (b5 : Int) := by rw [IntKind.wrap_u16]; omega
    have e6 : IntKind.u16.wrap (b6 : Int) = (b6 : Int) := by rw [IntKind.wrap_u16]; omega
    have f2 : IntKind.u16.wrap ((b2 : Int) * 256) = (b2 : Int) * 256 := by rw [IntKind.wrap_u16]; omega
    have f4 : IntKind.u16.wrap ((b4 : Int) * 256) = (b4 : Int) * 256 := by rw [IntKind.wrap_u16]; omega
    have f6 : IntKind.u16.wrap ((b6 : Int) * 256) = (b6 : Int) * 256 := by rw [IntKind.wrap_u16]; omega
    clear hcc l1 l2 l3 l4 l5 l6
    refine wp_region_text [0, 0, 0, 0, 0, 0, 0, 0, 0, 0, 0, 0, 0, 0, 0, 0, 0, 0, 0, 0, 0, 0, 0, 0, 0, 0, 0, 0, 0, 0, 0, 0, 0, 0, 0, 1, 1] (fun W => Below w1.heap.size w1 W) (by kernel_rfl) (by kernel_rfl) (Below.refl _ _).drew ?_
    iterate 12 (refine wpOrd_q (v := ?_) (by rfl) (fun W hW => ?_) ?_; rotate_left; (focus ((obtain ⟨hWc, hWf⟩ := bcell hW; go_simp); try with_reducible rfl)); try simp only [Act.put, List.setIfInBounds_toArray, List.set_cons_zero, List.set_cons_succ])
    refine wpOrd_q (v := .int .u16 (r.num.toNat : Int)) (by rfl) (fun W hW => by go_simp; try exact o1) ?_
    try simp only [Act.put, List.setIfInBounds_toArray, List.set_cons_zero, List.set_cons_succ]
    iterate 9 (refine wpOrd_q (v := ?_) (by rfl) (fun W hW => ?_) ?_; rotate_left; (focus ((obtain ⟨hWc, hWf⟩ := bcell hW; go_simp); try with_reducible rfl)); try simp only [Act.put, List.setIfInBounds_toArray, List.set_cons_zero, List.set_cons_succ])
    refine wpOrd_q (v := .int .u16 (r.gen.toNat : Int)) (by rfl) (fun W hW => by go_simp; try exact o2) ?_
    try simp only [Act.put, List.setIfInBounds_toArray, List.set_cons_zero, List.set_cons_succ]
    refine wpOrd_q (v := .agg #[.int .u8 (r.lab.toNat : Int), .int .u16 (r.num.toNat : Int), .int .u16 (r.gen.toNat : Int)]) (by rfl) (fun W hW => exec_build 152 #[(0, .tmp 17), (1, .tmp 27), (2, .tmp 37)] rfl #[(0, .int .u8 (r.lab.toNat : Int)), (1, .int .u16 (r.num.toNat : Int)), (2, .int .u16 (r.gen.toNat : Int))] (by simp only [List.map_toArray, List.map_cons, List.map_nil]; rfl) _ (build_ino _ _ _ _)) ?_
    try simp only [Act.put, List.setIfInBounds_toArray, List.set_cons_zero, List.set_cons_succ]
    iterate 9 (refine wpOrd_q (v := ?_) (by rfl) (fun W hW => ?_) ?_; rotate_left; (focus ((obtain ⟨hWc, hWf⟩ := bcell hW; go_simp); try with_reducible rfl)); try simp only [Act.put, List.setIfInBounds_toArray, List.set_cons_zero, List.set_cons_succ])
    refine wpOrd_q (v := .int .u16 (r.own.toNat : Int)) (by rfl) (fun W hW => by go_simp; try exact o3) ?_
    try simp only [Act.put, List.setIfInBounds_toArray, List.set_cons_zero, List.set_cons_succ]
    refine wpOrd_q (v := .agg r.cells.toArray) (by rfl) (fun W hW => exec_build 244 #[(0, .tmp 38), (1, .tmp 48)] rfl #[(0, .agg #[.int .u8 (r.lab.toNat : Int), .int .u16 (r.num.toNat : Int), .int .u16 (r.gen.toNat : Int)]), (1, .int .u16 (r.own.toNat : Int))] (by simp only [List.map_toArray, List.map_cons, List.map_nil]; rfl) _ (build_inr _ _ _ _ _)) ?_
    try simp only [Act.put, List.setIfInBounds_toArray, List.set_cons_zero, List.set_cons_succ]
    refine wpOrd_x (by rfl) (fun KK hKK => ?_)
    refine wp_alloc_as 244 rfl _ (zero_inr' _) ?_
    have hb2 : Below w1.heap.size w1 (w1.drew.alloc (.cells InR.zero.cells.toArray 244)) := (Below.refl _ _).drew.alloc (Nat.le_refl _) _
    refine hKK _ _ _ (fun _ h => h) hb2 ?_
    clear hKK KK
    try simp only [Act.put, List.setIfInBounds_toArray, List.set_cons_zero, List.set_cons_succ]
    refine wpOrd_x (by rfl) (fun KK hKK => ?_)
    refine wp_store_blk 244 (.tmp 4) (.tmp 49) rfl w1.heap.size 244 _ _ (by rfl) (by rfl) (Blk.new _ _ _) (size_inrc r) rfl (inr_one r) (fun hG => ?_)
    have hb3 := below_setRow hb2 (Nat.le_refl _) r.cells.toArray
    refine hKK _ _ _ (fun _ h => h) hb3 ?_
    clear hKK KK
    try simp only [Act.put, List.setIfInBounds_toArray, List.set_cons_zero, List.set_cons_succ]
    refine wpOrd_nil ?_
    refine at_world (fun W => ∃ q, q = w1.heap.size ∧ Below w.heap.size w W ∧ Blk W p 244 InR.zero.cells.toArray ∧ Blk W q 244 r.cells.toArray ∧ W.cell? ⟨ba, oa + 1, none⟩ = some (.int .u8 1) ∧ ba < W.heap.size) ⟨_, rfl, HB.out.trans (hb3.mono HB.out.size), HP.out.below hb3 HP.out.lt, hG, (World.cell?_of_block (w := w1) (a := ⟨ba, oa + 1, none⟩) (hb3.block ba bal)).trans c1, Nat.lt_of_lt_of_le bal hb3.size⟩ (fun w3 h3 => ?_)
    obtain ⟨q, hq, hb3', hP3, hQ3, c1', bal'⟩ := h3
    rw [show w1.drew.heap.size = w1.heap.size from rfl, ← hq]
    have HB3 := hide hb3'
    have HP3 := hide hP3
    have HQ3 := hide hQ3
    have HPQ := hide (show p ≠ q from fun e => by have := HP.out.lt; omega)
    have q1 : w3.cell? ⟨q, 1, none⟩ = some (.int .u16 (r.num.toNat : Int)) := hQ3.cell 1
    have q3 : w3.cell? ⟨q, 3, none⟩ = some (.int .u16 (r.own.toNat : Int)) := hQ3.cell 3
    have ql := hQ3.lt
    have g1 : decide ((3 : Int) < (r.own.toNat : Int)) = true := by have := HGO.out.2; simp; omega
    have g1' : (3 : Int) < (r.own.toNat : Int) := by have := HGO.out.2; omega
    have hn0 : r.num.toNat ≠ 0 := fun h0 => HGO.out.1 (UInt16.toNat_inj.1 h0)
    have g2 : decide ((0 : Int) < (r.num.toNat : Int)) = true := by simp; omega
    have g2' : (0 : Int) < (r.num.toNat : Int) := by omega
    clear hq hb3 hG hb2 hb3' hP3 hQ3 c0 c1 c2 c3 c4 c5 c6 c7 o1 o2 o3 e1 e2 e3 e4 e5 e6 f2 f4 f6 bal hn0
    go_upto_region 6 with (fail)
    have g3 : decide (0 < r.num.toNat) = true := by simp; omega
    have hS3 : Blk w3 q 244 r.cells.toArray ∧ w3.cell? ⟨ba, oa + 1, none⟩ = some (.int .u8 1) ∧ ba < w3.heap.size := ⟨HQ3.out, c1', bal'⟩
    have HS3 := hide hS3
    have hbp : ba ≠ p := fun e => by have := HBA.out; have := HPW.out; omega
    have HBP := hide hbp
    clear q1 q3 ql c1' bal' hS3 hbp
    refine wp_region_text [0, 0, 0, 0, 0, 0, 0, 0, 0, 0, 0, 0, 0, 0, 0, 0, 1, 0] (fun W => Blk W q 244 r.cells.toArray ∧ W.cell? ⟨ba, oa + 1, none⟩ = some (.int .u8 1) ∧ ba < W.heap.size) (by kernel_rfl) (by kernel_rfl) ⟨HS3.out.1.drew, HS3.out.2.1, HS3.out.2.2⟩ ?_
    refine wpOrd_q (v := .agg r.cells.toArray) (by rfl) (fun W hW => exec_load_blk 244 (.tmp 4) rfl q _ r.cells.toArray _ rfl hW.1 Tryz.underlying244 rfl (size_inrc r)) ?_
    try simp only [Act.put, List.setIfInBounds_toArray, List.set_cons_zero, List.set_cons_succ]
    iterate 15 (refine wpOrd_q (v := ?_) (by rfl) (fun W hW => ?_) ?_; rotate_left; (focus (have q1 : W.cell? ⟨q, 1, none⟩ = some (.int .u16 (r.num.toNat : Int)) := hW.1.cell 1; have q3 : W.cell? ⟨q, 3, none⟩ = some (.int .u16 (r.own.toNat : Int)) := hW.1.cell 3; have ql := hW.1.lt; have c1' := hW.2.1; have bal' := hW.2.2; go_simp; try with_reducible rfl)); try simp only [Act.put, List.setIfInBounds_toArray, List.set_cons_zero, List.set_cons_succ])
    refine wpOrd_x (by rfl) (fun KK hKK => ?_)
    refine wp_store_blk 244 (.tmp 2) (.tmp 50) rfl p 244 _ _ (by rfl) (by rfl) HP3.out.drew (size_inrc r) rfl (inr_one r) (fun hG => ?_)
    refine hKK _ _ _ (fun _ h => h) ⟨HS3.out.1.drew.setRow_far HPQ.out.symm _, (World.cell?_of_block (w := w3.drew) (a := ⟨ba, oa + 1, none⟩) (setRow_other _ _ _ _ HBP.out)).trans HS3.out.2.1, by simpa using HS3.out.2.2⟩ ?_
    clear hKK KK
    try simp only [Act.put, List.setIfInBounds_toArray, List.set_cons_zero, List.set_cons_succ]
    iterate 1 (refine wpOrd_q (v := ?_) (by rfl) (fun W hW => ?_) ?_; rotate_left; (focus (go_simp; try with_reducible rfl)); try simp only [Act.put, List.setIfInBounds_toArray, List.set_cons_zero, List.set_cons_succ])
    refine wpOrd_nil ?_
    go_wp2_with (first | ((with_reducible refine at_end ?_); refine bodyPost_ret (v := .tuple #[.agg r.cells.toArray, .bool true]) (results_run2 rfl (ResV.row rfl hG Tryz.underlying244 rfl (size_inrc r)) rfl) rfl ⟨rfl, below_setRow HB3.out.drew HPW.out _⟩) | fail)
end
end Go.Proofs.YthmkgohfeahdhaaGreat
namespace Go.Proofs.YthmkgohfeahdhaaGreat
open Go.RowKit
set_option linter.unusedSimpArgs false
set_option linter.unusedVariables false

def flatI (l : List InR) : List Value := l.flatMap InR.cells
/-- a table's bytes -/
def pls (l : List InR) : List UInt8 := l.flatMap placeR
theorem pls_length : ∀ l : List InR, (pls l).length = 8 * l.length
  | [] => rfl
  | e :: l => by
    have := pls_length l
    unfold pls at this ⊢
    rw [List.flatMap_cons, List.length_append, this, placeR_length, List.length_cons]
    omega
theorem pls_piece : ∀ {l : List InR} {k : Nat} {e : InR}, l[k]? = some e → ((pls l).drop (8 * k)).take 8 = placeR e
  | [], k, e, h => by simp at h
  | a :: l, 0, e, h => by
    obtain rfl : a = e := by simpa using h
    unfold pls
    rw [List.flatMap_cons, Nat.mul_zero, List.drop_zero, ← placeR_length a, List.take_left']
    rw [placeR_length]
  | a :: l, k + 1, e, h => by
    have h1 := pls_piece (l := l) (k := k) (e := e) (by simpa using h)
    unfold pls at h1 ⊢
    rw [List.flatMap_cons, show 8 * (k + 1) = (placeR a).length + 8 * k from by rw [placeR_length]; omega, List.drop_append, List.drop_eq_nil_of_le (by omega), List.nil_append, Nat.add_sub_cancel_left, h1]
/-- a group's table lies in its second node -/
structure TabN (G : GS) (g : GeoN) (l : List InR) (κ : Nat → Nat) : Prop where
  kind : (G.nd 2).kind = 1
  links : (G.nd 2).links ≠ 0
  size : (G.nd 2).size.toNat = 8 * l.length
  file : FileAt G g.blocks (G.nd 2) (blks (8 * l.length)) κ (8 * l.length) (fun j => (pls l).getD j 0)
  len : l.length ≤ 2048
  good : ∀ e ∈ l, e.Good
theorem info_inr : ∃ i, Tryz.prog.info? 244 = some i ∧ i.zero = some (.agg InR.zero.cells.toArray) ∧ i.size = 4 ∧ i.bytes = 8 := by
  have h : (Tryz.prog.info? 244).map (fun i => (i.zero, i.size, i.bytes)) = some (some (.agg InR.zero.cells.toArray), 4, 8) := by kernel_rfl
  cases hi : Tryz.prog.info? 244 with
  | none => rw [hi] at h; cases h
  | some i =>
    rw [hi] at h
    simp only [Option.map_some, Option.some.injEq, Prod.mk.injEq] at h
    exact ⟨i, rfl, h.1, h.2.1, h.2.2⟩
section
variable {w w' : World} {i : Ids} {s : Sto} {gg : Nat} {g : GeoN} {lab : Int} {G : GS}
set_option maxRecDepth 100000 in
set_option maxHeartbeats 4000000 in
theorem inopen_ok {l : List InR} {κ : Nat → Nat} (h : GAt w i s gg g lab G) (h2 : 2 ≤ g.nodes) (ht : TabN G g l κ) :
    Calls Tryz.prog 125 #[.pointer (some ⟨gg, 0, none⟩)] w fun e w' => ∃ A c, e = .returned (.tuple #[.slice A l.length c, .int .i64 0]) ∧ w'.ownsRow w.heap.size 244 4 (.slice A l.length c) l.length (flatI l) ∧ GAt w' i s gg g lab G ∧ Tch w.heap.size i.own w w' := by
  have hdir := h.gok.dir 2
  have hnd := gs_node' (num := 2) h (by omega) h2
  obtain ⟨n0, hn0⟩ : ∃ n0, G.nd 2 = n0 := ⟨_, rfl⟩
  rw [hn0, show ((2 : Nat) : Int) = 2 from rfl] at hnd
  rw [hn0] at hdir
  obtain ⟨sz, hsz0⟩ : ∃ sz, 8 * l.length = sz := ⟨_, rfl⟩
  have H := hide h
  have HND := hide hnd
  have HN0 := hide hn0
  have HD := hide hdir
  have HK := hide (And.intro h2 (And.intro ht hsz0))
  have hL : sz ≤ 16384 := by have := ht.len; omega
  have HL := hide hL
  clear h hnd hn0 hdir h2 ht hsz0
  go_enter Tryz.func125, Tryz.ntmps125
  go_wp2_with fail
  refine HND.out.mono ?_
  rintro e w1 ⟨rfl, ha1, ht1⟩
  have HA1 := hide ha1
  have HT1 := hide ht1
  clear ha1 ht1 HND
  go_upto_region 2 with (first | ((with_reducible refine at_alloc 130 ?_); refine wpList_alloc_as rfl 130 rfl _ (zero_node _) ?_) | ((with_reducible refine at_store 130 (.tmp 4) (.tmp 14) ?_); refine wpList_store_blk rfl 130 (.tmp 4) (.tmp 14) rfl w1.heap.size _ _ _ (by rfl) (by rfl) (Blk.new _ _ _) (size_nodeOf HD.out) (by rw [List.size_toArray, List.size_toArray, NodeV.cells_length HD.out]; rfl) (NodeV.cells_one _) (fun _ => ?_)) | fail)
  refine at_world (fun W => ∃ q, q = w1.heap.size ∧ Below w1.heap.size w1 W ∧ Blk W q 130 n0.cells.toArray) ⟨_, rfl, below_setRow ((Below.refl _ _).alloc (Nat.le_refl _) _) (Nat.le_refl _) _, (Blk.new _ _ _).setRow_same _⟩ (fun w2 hw2 => ?_)
  obtain ⟨q, hq, hb2, hQ2⟩ := hw2
  rw [← hq]
  have HA2 := hide (HA1.out.below hb2)
  have HT2 := hide (HT1.out.trans ((Tch.of_below hb2).mono HT1.out.size fun _ _ h => h))
  have q3 := (hQ2.cell 3).trans (node_cells_at n0).2.2.2
  have ql := hQ2.lt
  have hsz2 : n0.size.toNat = sz := by rw [← HN0.out, HK.out.2.1.size]; exact HK.out.2.2
  rw [hsz2] at q3
  have e1 : IntKind.i64.wrap (sz : Int) = (sz : Int) := IntWalk.i64_in _ (by omega)
  have hf := HK.out.2.1.file
  rw [HK.out.2.2] at hf
  have hrd := read_file (num := 2) (off := 0) (many := sz) (en := sz) (c := blks sz) (sz := sz) (κ := κ) (f := fun j => (pls l).getD j 0) HA2.out (by omega) HK.out.1 (by rw [HK.out.2.1.kind]; decide) (by rw [HK.out.2.1.size]; exact HK.out.2.2) hf (by omega) (by omega) HL.out (by have := HL.out; omega)
  have hmap : (List.range sz).map (fun k => (pls l).getD (0 + k) 0) = pls l := by
    have hlen := (pls_length l).trans HK.out.2.2
    apply List.ext_getElem?
    intro j
    rw [List.getElem?_map]
    by_cases hj : j < sz
    · rw [List.getElem?_range hj, List.getElem?_eq_getElem (by rw [hlen]; exact hj), Option.map_some, List.getD_eq_getElem?_getD, Nat.zero_add, List.getElem?_eq_getElem (by rw [hlen]; exact hj)]
      rfl
    · rw [List.getElem?_eq_none (by simpa using hj), List.getElem?_eq_none (by rw [hlen]; omega)]
      rfl
  rw [Nat.sub_zero, hmap, show ((0 : Nat) : Int) = 0 from rfl, show ((2 : Nat) : Int) = 2 from rfl] at hrd
  have HRD := hide hrd
  clear hq hb2 hQ2 hsz2 hmap hrd hL HA1 HT1 hf
  go_wp2_with fail
  refine HRD.out.mono ?_
  rintro e w3 ⟨A3, c3, rfl, hr3, ha3, ht3, -, hc3, hown3⟩
  have HBT3 := hide (BT.of_own hown3)
  have HA3 := hide ha3
  have HT3 := hide (HT2.out.trans (ht3.mono HT2.out.size fun _ _ h => h))
  have HR3 := hide (And.intro hr3 hc3)
  clear hr3 ha3 ht3 hc3 hown3 HRD HA2 HT2 q3 ql e1
  obtain ⟨N, hN⟩ : ∃ N, l.length = N := ⟨_, rfl⟩
  have hszN : sz = 8 * N := by rw [← hN]; exact HK.out.2.2.symm
  have HN := hide hN
  have HSZ := hide hszN
  clear hN hszN
  go_wp2_with fail
  go_loopg [7, 8, 9, 10] N (fun gh x7 x8 x9 x10 wr => ∃ (k : Nat) (Ao : Option Addr) (co : Nat), k ≤ N ∧ gh = N - k ∧ x7 = .slice Ao k co ∧ x8 = .int .i64 ((8 * k : Nat) : Int) ∧ Hid (GAt wr i s gg g lab G) ∧ Hid (Tch w.heap.size i.own w wr) ∧ Hid (Rd wr wr.heap.size 1 A3 sz (bvs (pls l)) ∧ sz ≤ c3) ∧ Hid (BT wr A3) ∧ Hid (wr.ownsRow w.heap.size 244 4 (.slice Ao k co) k (flatI (l.take k))))
  case atStart => exact ⟨0, none, 0, Nat.zero_le _, rfl, rfl, rfl, HA3, HT3, HR3, HBT3, hide (World.ownsRow_nil _ _ _ _)⟩
  case round =>
    clear HA3 HT3 HR3 HBT3
    obtain ⟨k, Ao, co, hk, hgh, rfl, rfl, HA, HT, HB, HBT, HO⟩ := hrel
    have HGH := hide hgh
    have hLL := HL.out
    clear hgh
    obtain ⟨y, hy⟩ : ∃ y : Nat, 8 * k = y := ⟨_, rfl⟩
    rw [hy]
    rcases Nat.lt_or_ge k N with hkl | hkl
    · obtain ⟨e, he⟩ : ∃ e, l[k]? = some e := ⟨_, List.getElem?_eq_getElem (by rw [HN.out]; exact hkl)⟩
      have hysz : y + 8 ≤ sz := by have := HSZ.out; omega
      obtain ⟨ba, oa, rfl, hba, -⟩ := HB.out.1.byte (i := 0) (by omega)
      have hc3 := HB.out.2
      have hrd : Rd wr wr.heap.size 1 (some ⟨ba, oa + y, none⟩) 8 (bvs (placeR e)) := by
        have h0 := HB.out.1.part HB.out.2 (lo := y) (hi := y + 8) (by omega) hysz
        rw [Nat.add_sub_cancel_left, ← hy, pls_piece he, hy] at h0
        unfold slA at h0
        rw [if_neg (by omega)] at h0
        simpa [Addr.add_mid] using h0
      have hup := inunpack_ok e (HK.out.2.1.good e (List.mem_of_getElem? he)) (c := c3 - y) (by omega) hrd
      have HUP := hide hup
      have HE := hide he
      have t1 : decide ((y : Int) < (sz : Int)) = true := by simp; omega
      have t1' : (y : Int) < (sz : Int) := by omega
      have e64 : IntKind.i64.wrap ((y : Int) + 8) = (y : Int) + 8 := IntWalk.i64_in _ (by omega)
      have hmin : min ((y : Int) + 8) (sz : Int) = (y : Int) + 8 := by omega
      have m1 : (y : Int) + 8 ≤ (sz : Int) := by omega
      have m2 : ¬ (sz : Int) < (y : Int) + 8 := by omega
      have m3 : (y : Int) + 8 ≤ (c3 : Int) := by omega
      have m4 : y < c3 := by omega
      have m5 : ¬ y = c3 := by omega
      have m6 : ¬ c3 = y := by omega
      clear hup hrd he hba
      have m7 : ((y : Int) + 8).toNat - y = 8 := by omega
      go_wp2_with fail
      refine HUP.out.mono ?_
      rintro _ w4 ⟨rfl, hb4⟩
      have HA4 := hide (HA.out.below hb4)
      have HT4 := hide (HT.out.trans ((Tch.of_below hb4).mono HT.out.size fun _ _ h => h))
      have HO4 := hide (own_below HO.out hb4)
      have HB4 := hide (And.intro ((HB.out.1.below hb4).more hb4.size) HB.out.2)
      have HBT4 := hide (HBT.out.below hb4)
      have hce : e.cells.toArray = #[.int .u8 (e.lab.toNat : Int), .int .u16 (e.num.toNat : Int), .int .u16 (e.gen.toNat : Int), .int .u16 (e.own.toNat : Int)] := rfl
      rw [hce]
      clear hb4 hce HUP HA HT HO HB HBT t1 t1' hmin m1 m2 m3 m4 m5 m6 m7
      go_upto_region 12 with (first | ((with_reducible refine at_alloc 244 ?_); refine wpList_alloc_as rfl 244 rfl _ (zero_inr' _) ?_) | ((with_reducible refine at_store 244 (.tmp 9) (.tmp 46) ?_); refine wpList_store_blk rfl 244 (.tmp 9) (.tmp 46) rfl w4.heap.size _ _ _ (by rfl) (by rfl) (Blk.new _ _ _) (size_inrc e) rfl (inr_one e) (fun _ => ?_)) | fail)
      refine at_world (fun W => ∃ z, z = w4.heap.size ∧ Below w4.heap.size w4 W ∧ Blk W z 244 #[.int .u8 (e.lab.toNat : Int), .int .u16 (e.num.toNat : Int), .int .u16 (e.gen.toNat : Int), .int .u16 (e.own.toNat : Int)]) ⟨_, rfl, below_setRow ((Below.refl _ _).alloc (Nat.le_refl _) _) (Nat.le_refl _) _, (Blk.new _ _ _).setRow_same _⟩ (fun w5 h5 => ?_)
      obtain ⟨z, hz, hb5, hZ5⟩ := h5
      rw [← hz]
      have HZB := hide hZ5
      have HA5 := hide (HA4.out.below hb5)
      have HT5 := hide (HT4.out.trans ((Tch.of_below hb5).mono HT4.out.size fun _ _ h => h))
      have HO5 := hide (own_below HO4.out hb5)
      have HB5 := hide (And.intro ((HB4.out.1.below hb5).more hb5.size) HB4.out.2)
      have HBT5 := hide (HBT4.out.below hb5)
      clear hz hb5 hZ5 HA4 HT4 HO4 HB4 HBT4
      obtain ⟨j0, hj0, j1, j2, j3⟩ := info_inr
      have HJ := hide (And.intro hj0 (And.intro j1 (And.intro j2 j3)))
      have hone : ∀ u ∈ ([.int .u8 (e.lab.toNat : Int), .int .u16 (e.num.toNat : Int), .int .u16 (e.gen.toNat : Int), .int .u16 (e.own.toNat : Int)] : List Value), u.oneCell' = true := by simp [Value.oneCell']
      have HONE := hide hone
      have hk6 : k ≤ 1000000 := by have := HSZ.out; omega
      have hs5 := HT5.out.size
      clear hj0 j1 j2 j3 hone
      go_wp2_with (first | ((with_reducible refine at_load 244 (.tmp 9) ?_); refine wpList_load_blk rfl 244 (.tmp 9) rfl z _ _ _ (by rfl) HZB.out Tryz.underlying244 rfl (size_inrc e) ?_) | (at_builtin; refine wpList_append_one rfl (.tmp 50) (.tmp 52) 240 rfl w.heap.size 244 j0 (.agg InR.zero.cells.toArray) 4 8 Tryz.underlying240 HJ.out.1 HJ.out.2.1 HJ.out.2.2.1 HJ.out.2.2.2 rfl (by decide) Ao co k (flatI (l.take k)) [.int .u8 (e.lab.toNat : Int), .int .u16 (e.num.toNat : Int), .int .u16 (e.gen.toNat : Int), .int .u16 (e.own.toNat : Int)] w5 rfl HO5.out rfl rfl rfl HONE.out hk6 (by decide) hs5 ?_; intro A9 c9 w6 hown9 hg9 hb9 hat9) | fail)
      have htg : Tch w5.heap.size (fun g => (Value.slice Ao k co).ownBlock = some g) w5 w6 := Tch.grown hg9 (Nat.le_refl _) (fun g hg _ => hg)
      have hown_ge : ∀ g, (Value.slice Ao k co).ownBlock = some g → w.heap.size ≤ g := fun g hg => (own_block_ge HO5.out hg).1
      have hav : ∀ (t : TypeId) g cur, t ≠ 244 → Blk w5 g t cur → ¬ (Value.slice Ao k co).ownBlock = some g := fun t g cur ht hB => row_not_blk HO5.out hB ht
      have hll := H.out.tx.log.log.lt
      have hgg := H.out.gp.lt
      have HA6 := hide (HA5.out.apart htg (fun g hg => ⟨fun ho => H.out.tx.other_new (hown_ge g hg) ho, by have := hown_ge g hg; omega, by have := hown_ge g hg; omega⟩))
      have HT6 := hide (HT5.out.trans (htg.mono HT5.out.size (fun g hk hg => by have := hown_ge g hg; omega)))
      have HB6 := hide (And.intro (HB5.out.1.keepT HBT5.out htg (fun g cur hB => hav _ g cur (by decide) hB)) HB5.out.2)
      have HBT6 := hide (HBT5.out.tch htg (fun g cur hB => hav _ g cur (by decide) hB))
      have hfl : flatI (l.take k) ++ [.int .u8 (e.lab.toNat : Int), .int .u16 (e.num.toNat : Int), .int .u16 (e.gen.toNat : Int), .int .u16 (e.own.toNat : Int)] = flatI (l.take (k + 1)) := by
        rw [List.take_add_one, HE.out]
        simp [flatI, InR.cells]
      rw [hfl] at hown9
      have HO6 := hide hown9
      clear hown9 hg9 hb9 hat9 htg hown_ge hav hll hgg hfl HA5 HT5 HO5 HB5 HBT5
      go_roundg (N - (k + 1))
      case rel => exact ⟨k + 1, A9, c9, by omega, rfl, rfl, by rw [Nat.mul_add, hy]; first | rfl | go_num, HA6, HT6, HB6, HBT6, HO6⟩
      case measure => have := HGH.out; omega
    · have hkN : k = N := by omega
      have t1 : decide ((y : Int) < (sz : Int)) = false := by have := HSZ.out; simp; omega
      have t1' : ¬ (y : Int) < (sz : Int) := by have := HSZ.out; omega
      have HKN := hide hkN
      clear hkl hk hkN hLL
      go_wp2
      go_returns
      refine ⟨Ao, co, ?_, ?_, HA.out, HT.out⟩
      · have e1 := HN.out
        have e2 := HKN.out
        simp [e1, e2]
      · have h0 := HO.out
        rw [HKN.out, List.take_of_length_le (by rw [HN.out]; exact Nat.le_refl _)] at h0
        rw [HN.out]
        exact h0
end
end Go.Proofs.YthmkgohfeahdhaaGreat
namespace Go.Proofs.YthmkgohfeahdhaaGreat
open Go.RowKit
set_option linter.unusedSimpArgs false
set_option linter.unusedVariables false

def InR.lits (r : InR) : List Lit := [.int .u8 (r.lab.toNat : Int), .int .u16 (r.num.toNat : Int), .int .u16 (r.gen.toNat : Int), .int .u16 (r.own.toNat : Int)]
section
variable {w w' : World} {i : Ids} {s : Sto} {gg : Nat} {g : GeoN} {lab : Int} {G : GS}
end
end Go.Proofs.YthmkgohfeahdhaaGreat
namespace Go.Proofs.YthmkgohfeahdhaaGreat
open Go.RowKit
set_option linter.unusedSimpArgs false
set_option linter.unusedVariables false

theorem spread0 (w : World) : Calls Tryz.prog 96 #[.int .i64 0] w fun e w' => e = .returned (.tuple #[.int .i64 0, .int .i64 0]) ∧ w = w' := by
  go_enter Tryz.func96, Tryz.ntmps96
  go_wp2
  go_returns
  exact ⟨rfl, rfl⟩
set_option maxRecDepth 100000 in
set_option maxHeartbeats 2000000 in
theorem blocks_zero (w : World) (p : Option Addr) {n : NodeV} (hs : n.size = 0) : Calls Tryz.prog 106 #[.pointer p, n.val] w fun e w' => e = .returned (.tuple #[.slice none 0 0, .slice none 0 0, .int .i64 0]) ∧ Below w.heap.size w w' := by
  have hs0 : n.size.toNat = 0 := by rw [hs]; rfl
  have hc3 := (node_cells_at n).2.2.2
  rw [hs0] at hc3
  have hv : n.val = .agg n.cells.toArray := rfl
  rw [hv]
  obtain ⟨cs, hcs⟩ : ∃ cs, n.cells.toArray = cs := ⟨_, rfl⟩
  have hc : cs[3]? = some (.int .u32 0) := by rw [← hcs]; exact hc3
  rw [hcs]
  clear hs hs0 hc3 hv hcs
  go_enter Tryz.func106, Tryz.ntmps106
  go_upto_region 1 with (fail)
  refine at_world (fun W => ∃ p, p = w.heap.size ∧ Below w.heap.size w W ∧ Blk W p 130 cs) ⟨_, rfl, (Below.refl _ _).alloc (Nat.le_refl _) _, Blk.new _ _ _⟩ (fun w1 hw1 => ?_)
  obtain ⟨q, hq, hb1, hP⟩ := hw1
  rw [← hq]
  have HB1 := hide hb1
  have y3 := (hP.cell 3).trans hc
  have yl := hP.lt
  clear hq hb1 hP
  go_wp2_with fail
  refine (spread0 w1).mono ?_
  rintro e w_ ⟨rfl, hw_⟩
  subst hw_
  clear y3 yl
  have hmm := @run_makeMap Tryz.prog
  go_upto_region 3 with (fail)
  refine at_world (fun W => Below w.heap.size w W) (HB1.out.alloc HB1.out.size _) (fun w2 h2 => ?_)
  have HB2 := hide h2
  clear h2 hmm HB1
  go_wp2_with fail
  go_loopg [4, 5, 26] 0 (fun gh x4 x5 x26 wr => x4 = .slice none 0 0 ∧ x5 = .slice none 0 0 ∧ x26 = .int .i64 0 ∧ Hid (w2 = wr))
  case atStart => exact ⟨rfl, rfl, rfl, hide rfl⟩
  case round =>
    obtain ⟨rfl, rfl, rfl, HW⟩ := hrel
    have hww := HW.out
    subst hww
    go_wp2
    go_returns
    exact ⟨rfl, HB2.out⟩
end Go.Proofs.YthmkgohfeahdhaaGreat
namespace Go.Proofs.YthmkgohfeahdhaaGreat
open Go.RowKit
set_option linter.unusedSimpArgs false
set_option linter.unusedVariables false

def ckCells (i : Ids) (cc gg : Nat) (u : GeoN) (lab : Int) (A : Option Addr) (n c m1 m2 m3 m4 : Nat) : Array Value :=
  #[.pointer (some ⟨i.tt, 0, none⟩), .pointer (some ⟨cc, 0, none⟩), .pointer (some ⟨gg, 0, none⟩), .int .i64 (u.base : Int), .int .i64 (u.bitmap : Int), .int .i64 (u.table : Int), .int .i64 (u.data : Int), .int .i64 (u.blocks : Int), .int .i64 (u.nodes : Int), .int .i64 lab, .slice A n c, .map (some m1), .map (some m2), .map (some m3), .map (some m4)]
/-- a group that is gone through -/
structure CkW (w0 w : World) (i : Ids) (s : Sto) (gg : Nat) (u : GeoN) (lab : Int) (G : GS) (kb cc : Nat) (A : Option Addr) (n c m1 m2 m3 m4 : Nat) (L1 L2 : List (NKey × Value)) : Prop where
  ga : GAt w i s gg u lab G
  ht : Tch w0.heap.size i.own w0 w
  blk : Blk w kb 233 (ckCells i cc gg u lab A n c m1 m2 m3 m4)
  nod : MapR nkv w m1 L1
  nam : MapR nkv w m2 L2
  use : MapR u16k w m3 []
  abv : MapR nkv w m4 []
  row : ∃ xs, w.ownsRow w0.heap.size 117 3 (.slice A n c) n xs ∧ ∀ x ∈ xs, x.oneCell' = true
  hi : w0.heap.size ≤ kb ∧ w0.heap.size ≤ m1 ∧ w0.heap.size ≤ m2 ∧ w0.heap.size ≤ m3 ∧ w0.heap.size ≤ m4
  dis : m1 ≠ m2 ∧ m1 ≠ m3 ∧ m1 ≠ m4 ∧ m2 ≠ m3 ∧ m2 ≠ m4
  old : (∀ k, i.own k → k < w0.heap.size) ∧ i.ll < w0.heap.size ∧ gg < w0.heap.size
section
variable {w0 w w' : World} {i : Ids} {s : Sto} {gg : Nat} {u : GeoN} {lab : Int} {G : GS} {kb cc : Nat} {A : Option Addr} {n c m1 m2 m3 m4 : Nat} {L1 L2 : List (NKey × Value)}
theorem CkW.step (h : CkW w0 w i s gg u lab G kb cc A n c m1 m2 m3 m4 L1 L2) (ha : GAt w' i s gg u lab G) (ht : Tch w.heap.size i.own w w') : CkW w0 w' i s gg u lab G kb cc A n c m1 m2 m3 m4 L1 L2 := by
  have hno : ∀ x, w0.heap.size ≤ x → ¬ i.own x := fun x hx ho => by have := h.old.1 x ho; omega
  obtain ⟨xs, hr, hon⟩ := h.row
  exact ⟨ha, h.ht.trans (ht.mono h.ht.size fun _ _ k => k), h.blk.tch ht h.blk.lt (hno _ h.hi.1), h.nod.keep (ht.block _ h.nod.lt (hno _ h.hi.2.1)), h.nam.keep (ht.block _ h.nam.lt (hno _ h.hi.2.2.1)), h.use.keep (ht.block _ h.use.lt (hno _ h.hi.2.2.2.1)), h.abv.keep (ht.block _ h.abv.lt (hno _ h.hi.2.2.2.2)), ⟨xs, own_tch hr ht hno, hon⟩, h.hi, h.dis, h.old⟩
theorem CkW.below (h : CkW w0 w i s gg u lab G kb cc A n c m1 m2 m3 m4 L1 L2) (hb : Below w.heap.size w w') : CkW w0 w' i s gg u lab G kb cc A n c m1 m2 m3 m4 L1 L2 := h.step (h.ga.below hb) (Tch.of_below hb)
theorem CkW.avoid (h : CkW w0 w i s gg u lab G kb cc A n c m1 m2 m3 m4 L1 L2) {x : Nat} (hx : w0.heap.size ≤ x) : ¬ i.own x ∧ x ≠ i.ll ∧ x ≠ gg :=
  ⟨fun ho => by have := h.old.1 x ho; omega, by have := h.old.2.1; omega, by have := h.old.2.2; omega⟩
/-- the nodes' map is written -/
theorem CkW.upd1 {L1' : List (NKey × Value)} (h : CkW w0 w i s gg u lab G kb cc A n c m1 m2 m3 m4 L1 L2) (hm : MapR nkv w' m1 L1') (ho : OnlyMap w w' m1) : CkW w0 w' i s gg u lab G kb cc A n c m1 m2 m3 m4 L1' L2 := by
  have ht : Tch w.heap.size (· = m1) w w' := Tch.of_only ho (Nat.le_refl _)
  obtain ⟨xs, hr, hon⟩ := h.row
  exact ⟨h.ga.apart ht (fun k hk => by subst hk; exact h.avoid h.hi.2.1), h.ht.trans (ht.mono h.ht.size fun k hk e => by have := h.hi.2.1; omega), h.blk.tch ht h.blk.lt (fun e => blk_not_map h.blk h.nod.is e), hm, h.nam.keep (ht.block _ h.nam.lt (fun e => h.dis.1 e.symm)), h.use.keep (ht.block _ h.use.lt (fun e => h.dis.2.1 e.symm)), h.abv.keep (ht.block _ h.abv.lt (fun e => h.dis.2.2.1 e.symm)),
    ⟨xs, own_keep hr fun g hg => ht.block g (own_block_ge hr hg).2 (fun e => by subst e; exact h.nod.is.not_own hr hg), hon⟩, h.hi, h.dis, h.old⟩
/-- the names' map is written -/
theorem CkW.upd2 {L2' : List (NKey × Value)} (h : CkW w0 w i s gg u lab G kb cc A n c m1 m2 m3 m4 L1 L2) (hm : MapR nkv w' m2 L2') (ho : OnlyMap w w' m2) : CkW w0 w' i s gg u lab G kb cc A n c m1 m2 m3 m4 L1 L2' := by
  have ht : Tch w.heap.size (· = m2) w w' := Tch.of_only ho (Nat.le_refl _)
  obtain ⟨xs, hr, hon⟩ := h.row
  exact ⟨h.ga.apart ht (fun k hk => by subst hk; exact h.avoid h.hi.2.2.1), h.ht.trans (ht.mono h.ht.size fun k hk e => by have := h.hi.2.2.1; omega), h.blk.tch ht h.blk.lt (fun e => blk_not_map h.blk h.nam.is e), h.nod.keep (ht.block _ h.nod.lt h.dis.1), hm, h.use.keep (ht.block _ h.use.lt (fun e => h.dis.2.2.2.1 e.symm)), h.abv.keep (ht.block _ h.abv.lt (fun e => h.dis.2.2.2.2 e.symm)),
    ⟨xs, own_keep hr fun g hg => ht.block g (own_block_ge hr hg).2 (fun e => by subst e; exact h.nam.is.not_own hr hg), hon⟩, h.hi, h.dis, h.old⟩
/-- the cells that are read -/
theorem CkW.cells (h : CkW w0 w i s gg u lab G kb cc A n c m1 m2 m3 m4 L1 L2) : kb < w.heap.size ∧ w.cell? ⟨kb, 0, none⟩ = some (.pointer (some ⟨i.tt, 0, none⟩)) ∧ w.cell? ⟨kb, 1, none⟩ = some (.pointer (some ⟨cc, 0, none⟩)) ∧ w.cell? ⟨kb, 2, none⟩ = some (.pointer (some ⟨gg, 0, none⟩)) ∧ w.cell? ⟨kb, 3, none⟩ = some (.int .i64 (u.base : Int)) ∧ w.cell? ⟨kb, 4, none⟩ = some (.int .i64 (u.bitmap : Int)) ∧ w.cell? ⟨kb, 7, none⟩ = some (.int .i64 (u.blocks : Int)) ∧ w.cell? ⟨kb, 8, none⟩ = some (.int .i64 (u.nodes : Int)) ∧
    w.cell? ⟨kb, 9, none⟩ = some (.int .i64 lab) ∧ w.cell? ⟨kb, 10, none⟩ = some (.slice A n c) ∧ w.cell? ⟨kb, 11, none⟩ = some (.map (some m1)) ∧ w.cell? ⟨kb, 12, none⟩ = some (.map (some m2)) ∧ w.cell? ⟨kb, 13, none⟩ = some (.map (some m3)) ∧ w.cell? ⟨kb, 14, none⟩ = some (.map (some m4)) :=
  ⟨h.blk.lt, h.blk.cell 0, h.blk.cell 1, h.blk.cell 2, h.blk.cell 3, h.blk.cell 4, h.blk.cell 7, h.blk.cell 8, h.blk.cell 9, h.blk.cell 10, h.blk.cell 11, h.blk.cell 12, h.blk.cell 13, h.blk.cell 14⟩
theorem info_fault : ∃ i, Tryz.prog.info? 117 = some i ∧ i.zero = some (.agg #[.int .i64 0, .int .i64 0, .int .i64 0]) ∧ i.size = 3 ∧ i.bytes = 24 := by
  have h : (Tryz.prog.info? 117).map (fun i => (i.zero, i.size, i.bytes)) = some (some (.agg #[.int .i64 0, .int .i64 0, .int .i64 0]), 3, 24) := by kernel_rfl
  cases hi : Tryz.prog.info? 117 with
  | none => rw [hi] at h; cases h
  | some i =>
    rw [hi] at h
    simp only [Option.map_some, Option.some.injEq, Prod.mk.injEq] at h
    exact ⟨i, rfl, h.1, h.2.1, h.2.2⟩
theorem build_fault (w : World) (a b d : Int) : (Instr.build 117 #[(0, .int .i64 a), (1, .int .i64 b), (2, .int .i64 d)]).run Tryz.prog w = .ok (.agg #[.int .i64 a, .int .i64 b, .int .i64 d]) w := by kernel_rfl
set_option maxRecDepth 100000 in
set_option maxHeartbeats 4000000 in
theorem fault_ok (h : CkW w0 w i s gg u lab G kb cc A n c m1 m2 m3 m4 L1 L2) (hn : n ≤ 1000) (num e : Int) :
    Calls Tryz.prog 156 #[.pointer (some ⟨kb, 0, none⟩), .int .i64 num, .int .i64 e] w fun r w' => r = .returned (.tuple #[]) ∧ ∃ A' c', CkW w0 w' i s gg u lab G kb cc A' (n + 1) c' m1 m2 m3 m4 L1 L2 := by
  have H := hide h
  have HNN := hide hn
  obtain ⟨xs, hrow, hon⟩ := h.row
  have HROW := hide hrow
  have HON := hide hon
  obtain ⟨kl, -, -, -, -, -, -, -, k9, k10, -⟩ := h.cells
  obtain ⟨j0, hj0, j1, j2, j3⟩ := info_fault
  have HJ := hide (And.intro hj0 (And.intro j1 (And.intro j2 j3)))
  have HSB := hide (show ∀ W, Below w.heap.size w W → kb < W.heap.size ∧ W.cell? ⟨kb, 9, none⟩ = some (.int .i64 lab) ∧ W.cell? ⟨kb, 10, none⟩ = some (.slice A n c) from fun W hb => ⟨Nat.lt_of_lt_of_le kl hb.size, (hb.cell (p := ⟨kb, 9, none⟩) kl).trans k9, (hb.cell (p := ⟨kb, 10, none⟩) kl).trans k10⟩)
  have HNB := hide (show ∀ g, (Value.slice A n c).ownBlock = some g → g ≠ kb from fun g hg e => by subst e; exact row_not_blk hrow h.blk (by decide) hg)
  clear h hn hrow hon kl k9 k10 hj0 j1 j2 j3
  go_enter Tryz.func156, Tryz.ntmps156
  go_upto_region 0 with (fail)
  refine wp_region_text [0, 0, 0, 0, 0, 0, 0, 0, 0, 0, 0, 0, 1, 1, 0, 0, 2] (fun W => kb < W.heap.size ∧ W.cell? ⟨kb, 9, none⟩ = some (.int .i64 lab) ∧ W.cell? ⟨kb, 10, none⟩ = some (.slice A n c)) (by kernel_rfl) (by kernel_rfl) (HSB.out _ (Below.refl _ _).drew) ?_
  iterate 11 (refine wpOrd_q (v := ?_) (by rfl) (fun W hW => ?_) ?_; rotate_left; (focus ((obtain ⟨z1, z2, z3⟩ := hW; go_simp); try with_reducible rfl)); try simp only [Act.put, List.setIfInBounds_toArray, List.set_cons_zero, List.set_cons_succ])
  refine wpOrd_q (v := .agg #[.int .i64 lab, .int .i64 num, .int .i64 e]) (by rfl) (fun W hW => exec_build 117 #[(0, .tmp 14), (1, .tmp 15), (2, .tmp 16)] rfl #[(0, .int .i64 lab), (1, .int .i64 num), (2, .int .i64 e)] (by simp only [List.map_toArray, List.map_cons, List.map_nil]; rfl) _ (build_fault _ _ _ _)) ?_
  try simp only [Act.put, List.setIfInBounds_toArray, List.set_cons_zero, List.set_cons_succ]
  refine wpOrd_x (by rfl) (fun K hK => ?_)
  go_simp
  refine hK _ _ _ (fun _ h => h) (HSB.out _ ((Below.refl _ _).drew.alloc (Nat.le_refl _) _)) ?_
  clear hK K
  try simp only [Act.put, List.setIfInBounds_toArray, List.set_cons_zero, List.set_cons_succ]
  refine at_world (fun W => ∃ lb, lb = w.heap.size ∧ Below w.heap.size w W ∧ W.ownsRow 0 117 3 (.slice (some ⟨lb, 0, none⟩) 1 1) 1 [.int .i64 lab, .int .i64 num, .int .i64 e]) ⟨_, rfl, (Below.refl _ _).drew.alloc (Nat.le_refl _) _, own_lit (w := w.drew) rfl rfl (Nat.zero_le _) (by simp [maxLen]) rfl⟩ (fun w2 h2 => ?_)
  obtain ⟨lb, hlb, hb2, hl2⟩ := h2
  try rw [show w.drew.heap.size = w.heap.size from rfl]
  rw [← hlb]
  have HB2 := hide hb2
  have HL2 := hide hl2
  have HONE := hide (show ∀ u ∈ ([.int .i64 lab, .int .i64 num, .int .i64 e] : List Value), u.oneCell' = true by simp [Value.oneCell'])
  have H2 := hide (H.out.below hb2)
  clear hlb hb2 hl2
  refine wpOrd_x (by rfl) (fun K hK => ?_)
  refine wp_append_rd w2 (.tmp 10) (.tmp 18) 112 (by rfl) w0.heap.size 117 j0 (.agg #[.int .i64 0, .int .i64 0, .int .i64 0]) 3 24 Tryz.underlying112 HJ.out.1 HJ.out.2.1 HJ.out.2.2.1 HJ.out.2.2.2 rfl (by decide) (.slice A n c) n xs (by first | rfl | simp [Act.eval]) (own_below HROW.out HB2.out) w2.heap.size (some ⟨lb, 0, none⟩) 1 1 [.int .i64 lab, .int .i64 num, .int .i64 e] (by first | rfl | simp [Act.eval]) (Rd.of_own HL2.out) HONE.out (by have := HNN.out; simp only [maxLen]; omega) (by have := HNN.out; omega) (Nat.le_trans H.out.ht.size HB2.out.size) ?_
  intro v6 w6 hown6 hg6 _ hat6
  obtain ⟨A6, c6, rfl, _, _, _⟩ := own_form hown6
  have ht6 : Tch w2.heap.size (fun g => (Value.slice A n c).ownBlock = some g) w2 w6 := Tch.grown hg6 (Nat.le_refl _) (fun g hg _ => hg)
  have hge : ∀ g, (Value.slice A n c).ownBlock = some g → w0.heap.size ≤ g := fun g hg => (own_block_ge HROW.out hg).1
  have hk2 := H2.out.blk
  have hB6 : Blk w6 kb 233 (ckCells i cc gg u lab A n c m1 m2 m3 m4) := hk2.tch ht6 hk2.lt (fun e => HNB.out kb e rfl)
  have kl6 := hB6.lt
  have k96 : w6.cell? ⟨kb, 9, none⟩ = some (.int .i64 lab) := hB6.cell 9
  have k106 : w6.cell? ⟨kb, 10, none⟩ = some (.slice A n c) := hB6.cell 10
  have f106 := hB6.frozen 10
  refine hK _ _ _ (fun _ h => h) ⟨kl6, k96, k106⟩ ?_
  clear hK K
  try simp only [Act.put, List.setIfInBounds_toArray, List.set_cons_zero, List.set_cons_succ]
  iterate 2 (refine wpOrd_q (v := ?_) (by rfl) (fun W hW => ?_) ?_; rotate_left; (focus ((obtain ⟨z1, z2, z3⟩ := hW; go_simp); try with_reducible rfl)); try simp only [Act.put, List.setIfInBounds_toArray, List.set_cons_zero, List.set_cons_succ])
  refine wpOrd_b (by rfl) (fun K hK => ?_)
  go_simp
  refine hK (fun _ => True) _ _ trivial (wpOrd_nil ?_)
  clear hK K
  have h2 := H2.out
  have ht7 : Tch w6.heap.size (· = kb) w6 (w6.setCell ⟨kb, 10, none⟩ (.slice A6 (n + 1) c6)) := Tch.setCell fun _ => rfl
  have keepM : ∀ {κ : Type} {kv : κ → Value} {m : Nat} {L : List (κ × Value)}, MapR kv w2 m L → MapR kv (w6.setCell ⟨kb, 10, none⟩ (.slice A6 (n + 1) c6)) m L := fun {κ kv m L} hm => by
    have h1 : MapR kv w6 m L := hm.keep (ht6.block m hm.lt (fun e => hm.is.not_own (own_below HROW.out HB2.out) e))
    exact h1.keep (ht7.block m h1.lt (fun e => blk_not_map hB6 h1.is e.symm))
  have hfin : CkW w0 (w6.setCell ⟨kb, 10, none⟩ (.slice A6 (n + 1) c6)) i s gg u lab G kb cc A6 (n + 1) c6 m1 m2 m3 m4 L1 L2 := by
    refine ⟨(h2.ga.apart ht6 (fun k hk => h2.avoid (hge k hk))).apart ht7 (fun k hk => by subst hk; exact h2.avoid h2.hi.1), h2.ht.trans ((ht6.mono h2.ht.size (fun k hk e => by have := hge k e; omega)).trans (ht7.mono (Nat.le_trans h2.ht.size ht6.size) (fun k hk e => by have := h2.hi.1; omega))), hB6.set_ 10 _, keepM h2.nod, keepM h2.nam, keepM h2.use, keepM h2.abv, ⟨_, own_keep hown6 fun g hg => Below.heap_setCell _ _ _ _ (fun e => ?_), fun x hx => (List.mem_append.1 hx).elim (HON.out x) (HONE.out x)⟩, h2.hi, h2.dis, h2.old⟩
    exact row_not_blk hown6 hB6 (by decide) (by rw [hg]; exact congrArg some e)
  have HFIN := hide hfin
  clear hown6 hg6 hat6 ht6 hge hk2 hB6 k96 k106 f106 kl6 h2 ht7 keepM hfin
  go_wp2
  go_returns
  exact ⟨rfl, A6, c6, HFIN.out⟩
end
end Go.Proofs.YthmkgohfeahdhaaGreat
namespace Go.Proofs.YthmkgohfeahdhaaGreat
open Go.RowKit
set_option linter.unusedSimpArgs false
set_option linter.unusedVariables false

/-- the nodes that are there, up to one -/
def NodL (L : List (NKey × Value)) (G : GS) (m : Nat) : Prop := ∀ k, k < 65536 → mget L (nk k) = if 1 ≤ k ∧ k < m ∧ (G.nd k).kind ≠ 0 then some (G.nd k).val else none
theorem NodL.nil (G : GS) : NodL [] G 1 := fun k _ => by
  rw [if_neg (by omega)]
  rfl
theorem NodL.skip {L : List (NKey × Value)} {G : GS} {m : Nat} (h : NodL L G m) (h0 : (G.nd m).kind = 0) : NodL L G (m + 1) := fun k hk => by
  rw [h k hk]
  by_cases e : k = m
  · subst e
    rw [if_neg (by omega), if_neg (fun ⟨_, _, h3⟩ => h3 h0)]
  · have : (1 ≤ k ∧ k < m ∧ (G.nd k).kind ≠ 0) = (1 ≤ k ∧ k < m + 1 ∧ (G.nd k).kind ≠ 0) := by
      rw [eq_iff_iff]
      constructor
      · rintro ⟨a, b, c⟩; exact ⟨a, by omega, c⟩
      · rintro ⟨a, b, c⟩; exact ⟨a, by omega, c⟩
    simp only [this]
theorem NodL.next {L : List (NKey × Value)} {G : GS} {m : Nat} (h : NodL L G m) (hm : 1 ≤ m) (hm2 : m < 65536) (h0 : (G.nd m).kind ≠ 0) : NodL (mput L (nk m) (G.nd m).val) G (m + 1) := fun k hk => by
  rw [mget_put]
  by_cases e : k = m
  · subst e
    rw [if_pos rfl, if_pos ⟨hm, by omega, h0⟩]
  · rw [if_neg (fun x => e (nk_inj hm2 hk x).symm), h k hk]
    have : (1 ≤ k ∧ k < m ∧ (G.nd k).kind ≠ 0) = (1 ≤ k ∧ k < m + 1 ∧ (G.nd k).kind ≠ 0) := by
      rw [eq_iff_iff]
      constructor
      · rintro ⟨a, b, c⟩; exact ⟨a, by omega, c⟩
      · rintro ⟨a, b, c⟩; exact ⟨a, by omega, c⟩
    simp only [this]
section
variable {w0 w w' : World} {i : Ids} {s : Sto} {gg : Nat} {u : GeoN} {lab : Int} {G : GS} {kb cc : Nat} {A : Option Addr} {n c m1 m2 m3 m4 : Nat} {L1 L2 : List (NKey × Value)}
set_option maxRecDepth 100000 in
set_option maxHeartbeats 4000000 in
theorem ckread_ok (h : CkW w0 w i s gg u lab G kb cc A n c m1 m2 m3 m4 [] L2) (hun : u.nodes ≤ 128) :
    Calls Tryz.prog 113 #[.pointer (some ⟨kb, 0, none⟩)] w fun r w' => r = .returned (.tuple #[]) ∧ ∃ L1', CkW w0 w' i s gg u lab G kb cc A n c m1 m2 m3 m4 L1' L2 ∧ NodL L1' G (u.nodes + 1) := by
  have H := hide h
  obtain ⟨kl, k0, k1, k2, k3, k4, k7, k8, -⟩ := h.cells
  have HUN := hide hun
  obtain ⟨U, hU⟩ : ∃ U, u.nodes = U := ⟨_, rfl⟩
  rw [hU] at k8 hun
  have HU := hide hU
  clear h hU k0 k1 k2 k3 k4 k7
  go_enter Tryz.func113, Tryz.ntmps113
  go_wp2_with fail
  clear k8 kl
  go_loopg [2] U (fun gh x2 wr => ∃ (m : Nat) (L1 : List (NKey × Value)), 1 ≤ m ∧ m ≤ U + 1 ∧ gh = U + 1 - m ∧ x2 = .int .i64 (m : Int) ∧ Hid (CkW w0 wr i s gg u lab G kb cc A n c m1 m2 m3 m4 L1 L2) ∧ Hid (NodL L1 G m))
  case atStart => exact ⟨1, [], Nat.le_refl _, by omega, by omega, rfl, H, hide (NodL.nil G)⟩
  case round =>
    clear H
    obtain ⟨m, L1, h1, hm, hgh, rfl, H, HN⟩ := hrel
    have HGH := hide hgh
    clear hgh
    obtain ⟨kl, k0, k1, k2, k3, k4, k7, k8, -⟩ := H.out.cells
    rw [HU.out] at k8
    clear k0 k1 k3 k4 k7
    rcases Nat.lt_or_ge U m with hgt | hle
    · have t1 : decide ((m : Int) ≤ (U : Int)) = false := by simp; omega
      have t1' : ¬ (m : Int) ≤ (U : Int) := by omega
      have hm2 : m = U + 1 := by omega
      have HF := hide (show NodL L1 G (u.nodes + 1) from by rw [HU.out, ← hm2]; exact HN.out)
      clear hgt hm hm2 h1
      go_wp2
      go_returns
      exact ⟨rfl, L1, H.out, HF.out⟩
    · have t1 : decide ((m : Int) ≤ (U : Int)) = true := by simp; omega
      have t1' : (m : Int) ≤ (U : Int) := by omega
      have e64 : IntKind.i64.wrap ((m : Int) + 1) = (m : Int) + 1 := IntWalk.i64_in _ (by omega)
      have hnd := gs_node' (num := m) H.out.ga h1 (by rw [HU.out]; exact hle)
      have hdir : (G.nd m).dir.length = 6 := H.out.ga.gok.dir m
      obtain ⟨nd, hn⟩ : ∃ nd, G.nd m = nd := ⟨_, rfl⟩
      rw [hn] at hnd hdir
      have HND := hide hnd
      have HDI := hide hdir
      have HNV := hide hn
      have HLM := hide (And.intro h1 (And.intro hle hun))
      clear hnd hdir hn hle hm h1
      go_wp2_with fail
      refine HND.out.mono ?_
      rintro e w2 ⟨rfl, ha2, ht2⟩
      have H2 := hide (H.out.step ha2 ht2)
      clear ha2 ht2 HND H kl k2 k8
      go_upto_region 4 with (first | ((with_reducible refine at_alloc 130 ?_); refine wpList_alloc_as rfl 130 rfl _ (zero_node _) ?_) | ((with_reducible refine at_store 130 (.tmp 3) (.tmp 21) ?_); refine wpList_store_blk rfl 130 (.tmp 3) (.tmp 21) rfl w2.heap.size _ _ _ (by rfl) (by rfl) (Blk.new _ _ _) (size_nodeOf HDI.out) (by rw [List.size_toArray, List.size_toArray, NodeV.cells_length HDI.out]; rfl) (NodeV.cells_one _) (fun _ => ?_)) | fail)
      refine at_world (fun W => ∃ q, q = w2.heap.size ∧ Below w2.heap.size w2 W ∧ Blk W q 130 nd.cells.toArray) ⟨_, rfl, below_setRow ((Below.refl _ _).alloc (Nat.le_refl _) _) (Nat.le_refl _) _, (Blk.new _ _ _).setRow_same _⟩ (fun w3 h3 => ?_)
      obtain ⟨q, hq, hb3, hQ3⟩ := h3
      rw [← hq]
      have H3 := hide (H2.out.below hb3)
      have HQ3 := hide hQ3
      have c0 := (hQ3.cell 0).trans (node_cells_at nd).1
      have ql := hQ3.lt
      obtain ⟨kl, k0, k1, k2, k3, k4, k7, k8, k9, k10, k11, -⟩ := H3.out.cells
      clear hq hb3 hQ3 H2 k0 k1 k2 k3 k4 k7 k8 k9 k10
      by_cases hz : nd.kind = 0
      · have t2 : ((nd.kind.toNat : Int) == 0) = true := by rw [hz]; rfl
        have HS := hide (HN.out.skip (by rw [HNV.out]; exact hz))
        clear hz
        go_wp2
        go_roundg (U + 1 - (m + 1))
        case rel => exact ⟨m + 1, L1, by omega, by have := HLM.out; omega, rfl, by first | rfl | go_num, H3, HS⟩
        case measure => have := HGH.out; have := HLM.out; omega
      · have hn0 : nd.kind.toNat ≠ 0 := fun h0 => hz (UInt8.toNat_inj.1 h0)
        have t2 : ((nd.kind.toNat : Int) == 0) = false := by rw [beq_eq_false_iff_ne]; omega
        have hnx := HN.out.next HLM.out.1 (by have := HLM.out; omega) (by rw [HNV.out]; exact hz)
        rw [HNV.out] at hnx
        have HX := hide hnx
        have HKV := hide (show (.int .i64 (m : Int) : Value) = nkv (nk m) from (nkv_nk (by have := HLM.out; omega)).symm)
        clear hz hn0 hnx
        go_upto_region 7 with (fail)
        refine wp_region_text [0, 0, 0, 0, 0, 0, 2] (· = w3.drew) (by kernel_rfl) (by kernel_rfl) rfl ?_
        iterate 5 (refine wpOrd_q (v := ?_) (by rfl) (fun W hW => ?_) ?_; rotate_left; (focus ((cases hW; go_simp); try with_reducible rfl)); try simp only [Act.put, List.setIfInBounds_toArray, List.set_cons_zero, List.set_cons_succ])
        refine wpOrd_q (v := .agg nd.cells.toArray) (by rfl) (fun W hW => by cases hW; exact exec_load_blk 130 (.tmp 3) rfl q _ nd.cells.toArray _ rfl HQ3.out.drew Tryz.underlying130 rfl (size_nodeOf HDI.out)) ?_
        try simp only [Act.put, List.setIfInBounds_toArray, List.set_cons_zero, List.set_cons_succ]
        refine wpOrd_b (by rfl) (fun K hK => ?_)
        refine wp_update_map 229 (.tmp 37) (.tmp 38) (.tmp 39) rfl (nk m) nd.val (by rfl) HKV.out (by rfl) (H3.out.nod.keep rfl) nEnc Tryz.underlying229 (fun w4 hm4 ho4 => ?_)
        refine hK (fun _ => True) _ _ trivial (wpOrd_nil ?_)
        have H4 := hide ((H3.out.below (Below.refl _ _).drew).upd1 hm4 ho4)
        clear hm4 ho4 hK K c0 ql kl k11
        go_wp2
        go_roundg (U + 1 - (m + 1))
        case rel => exact ⟨m + 1, _, by omega, by have := HLM.out; omega, rfl, by first | rfl | go_num, H4, HX⟩
        case measure => have := HGH.out; have := HLM.out; omega
end
end Go.Proofs.YthmkgohfeahdhaaGreat
namespace Go.Proofs.YthmkgohfeahdhaaGreat
open Go.RowKit
set_option linter.unusedSimpArgs false
set_option linter.unusedVariables false

/-- all nodes that are there have no bytes -/
def Plain (G : GS) (u : GeoN) : Prop := ∀ k, 1 ≤ k → k ≤ u.nodes → (G.nd k).kind = 0 ∨ ∃ kk : UInt8, G.nd k = freshN kk ∧ kk ≠ 0
def freshCs (kk : UInt8) : Array Value := #[.int .u8 (kk.toNat : Int), .int .u8 1, .int .u16 1, .int .u32 0, .int .u16 0, .int .u16 0, .int .u16 0, .int .u16 0, .int .u16 0, .int .u16 0, .int .u16 0, .int .u16 0]
theorem freshCs_val (kk : UInt8) : (freshN kk).val = .agg (freshCs kk) := rfl
section
variable {w0 w w' : World} {i : Ids} {s : Sto} {gg : Nat} {u : GeoN} {lab : Int} {G : GS} {kb cc : Nat} {A : Option Addr} {n c m1 m2 m3 m4 : Nat} {L1 L2 : List (NKey × Value)}
set_option maxRecDepth 100000 in
theorem rest_zero (w : World) (kb : Nat) (x : Int) : Calls Tryz.prog 171 #[.pointer (some ⟨kb, 0, none⟩), .int .u16 0, .int .i64 x] w fun e w' => e = .returned (.bool true) ∧ w = w' := by
  go_enter Tryz.func171, Tryz.ntmps171
  go_wp2
  go_returns
  exact ⟨rfl, rfl⟩
set_option maxRecDepth 100000 in
theorem tree_zero (w : World) (kb : Nat) (x : Int) : Calls Tryz.prog 172 #[.pointer (some ⟨kb, 0, none⟩), .int .u16 0, .int .i64 x] w fun e w' => e = .returned (.bool true) ∧ w = w' := by
  go_enter Tryz.func172, Tryz.ntmps172
  go_wp2
  go_returns
  exact ⟨rfl, rfl⟩
theorem size_fresh (kk : UInt8) : (Tryz.prog.info? 130).map (·.size) = some (freshCs kk).size := by rw [size_node]; rfl
set_option maxRecDepth 100000 in
set_option maxHeartbeats 2000000 in
theorem bare_zero (w : World) (kb : Nat) (kk : UInt8) : Calls Tryz.prog 157 #[.pointer (some ⟨kb, 0, none⟩), .agg (freshCs kk), .int .i64 0] w fun e w' => e = .returned (.bool true) ∧ Below w.heap.size w w' := by
  go_enter Tryz.func157, Tryz.ntmps157
  go_upto_region 1 with (fail)
  refine at_world (fun W => ∃ q, q = w.heap.size ∧ Below w.heap.size w W ∧ Blk W q 130 (freshCs kk)) ⟨_, rfl, (Below.refl _ _).alloc (Nat.le_refl _) _, Blk.new _ _ _⟩ (fun w1 h1 => ?_)
  obtain ⟨q, hq, hb1, hQ1⟩ := h1
  rw [← hq]
  have HB1 := hide hb1
  have y4 : w1.cell? ⟨q, 4, none⟩ = some (.int .u16 0) := hQ1.cell 4
  have y5 : w1.cell? ⟨q, 5, none⟩ = some (.int .u16 0) := hQ1.cell 5
  have y6 : w1.cell? ⟨q, 6, none⟩ = some (.int .u16 0) := hQ1.cell 6
  have y7 : w1.cell? ⟨q, 7, none⟩ = some (.int .u16 0) := hQ1.cell 7
  have y8 : w1.cell? ⟨q, 8, none⟩ = some (.int .u16 0) := hQ1.cell 8
  have y9 : w1.cell? ⟨q, 9, none⟩ = some (.int .u16 0) := hQ1.cell 9
  have y10 : w1.cell? ⟨q, 10, none⟩ = some (.int .u16 0) := hQ1.cell 10
  have y11 : w1.cell? ⟨q, 11, none⟩ = some (.int .u16 0) := hQ1.cell 11
  have yl := hQ1.lt
  clear hq hb1 hQ1
  go_wp2_with fail
  go_loopg [11] 6 (fun gh x11 wr => ∃ j : Nat, j ≤ 6 ∧ gh = 6 - j ∧ x11 = .int .i64 (j : Int) ∧ Hid (w1 = wr))
  case atStart => exact ⟨0, by omega, rfl, rfl, hide rfl⟩
  case round =>
    obtain ⟨j, hj, hgh, rfl, HW⟩ := hrel
    have hww := HW.out
    subst hww
    have HGH := hide hgh
    clear hgh
    rcases Nat.lt_or_ge j 6 with hlt | hge
    · have t1 : decide ((j : Int) < 6) = true := by simp; omega
      have t1' : (j : Int) < 6 := by omega
      have e64 : IntKind.i64.wrap ((j : Int) + 1) = (j : Int) + 1 := IntWalk.i64_in _ (by omega)
      have t2 : decide ((0 : Int) ≤ (j : Int)) = true := by simp
      have hv : (#[.int .u16 0, .int .u16 0, .int .u16 0, .int .u16 0, .int .u16 0, .int .u16 0] : Array Value)[j]? = some (.int .u16 0) := by
        obtain rfl | rfl | rfl | rfl | rfl | rfl : j = 0 ∨ j = 1 ∨ j = 2 ∨ j = 3 ∨ j = 4 ∨ j = 5 := by omega
        all_goals rfl
      have HV := hide hv
      have HJ := hide hlt
      clear hv hlt hj
      go_wp2_with (first | ((with_reducible refine at_index 128 (.tmp 10) (.tmp 11) ?_); refine wpList_index_arr rfl 128 37 (.tmp 10) (.tmp 11) rfl 6 j .i64 .u16 _ _ (by rfl) (by rfl) HJ.out HV.out Tryz.underlying128 Tryz.underlying37 (by kernel_rfl) ?_) | fail)
      go_roundg (6 - (j + 1))
      case rel => exact ⟨j + 1, by have := HJ.out; omega, rfl, by first | rfl | go_num, hide rfl⟩
      case measure => have := HGH.out; have := HJ.out; omega
    · have t1 : decide ((j : Int) < 6) = false := by simp; omega
      have t1' : ¬ (j : Int) < 6 := by omega
      clear hge hj
      go_wp2_with fail
      refine (rest_zero w1 kb _).mono ?_
      rintro e w_ ⟨rfl, hw_⟩
      subst hw_
      go_wp2_with fail
      refine (tree_zero w1 kb _).mono ?_
      rintro e w_ ⟨rfl, hw_⟩
      subst hw_
      go_wp2
      go_returns
      exact ⟨rfl, HB1.out⟩
set_option maxRecDepth 100000 in
set_option maxHeartbeats 2000000 in
theorem tail_zero (w : World) (kb : Nat) (num : Int) (kk : UInt8) (A : Option Addr) (n c : Nat) : Calls Tryz.prog 158 #[.pointer (some ⟨kb, 0, none⟩), .int .i64 num, .agg (freshCs kk), .slice A n c] w fun e w' => e = .returned (.tuple #[]) ∧ Below w.heap.size w w' := by
  go_enter Tryz.func158, Tryz.ntmps158
  go_upto_region 1 with (fail)
  refine at_world (fun W => ∃ q, q = w.heap.size ∧ Below w.heap.size w W ∧ Blk W q 130 (freshCs kk)) ⟨_, rfl, (Below.refl _ _).alloc (Nat.le_refl _) _, Blk.new _ _ _⟩ (fun w1 h1 => ?_)
  obtain ⟨q, hq, hb1, hQ1⟩ := h1
  rw [← hq]
  have HB1 := hide hb1
  have y3 : w1.cell? ⟨q, 3, none⟩ = some (.int .u32 0) := hQ1.cell 3
  have yl := hQ1.lt
  clear hq hb1 hQ1
  go_wp2
  go_returns
  exact ⟨rfl, HB1.out⟩
end
end Go.Proofs.YthmkgohfeahdhaaGreat
namespace Go.Proofs.YthmkgohfeahdhaaGreat
open Go.RowKit
set_option linter.unusedSimpArgs false
set_option linter.unusedVariables false

section
variable {w0 w w' : World} {i : Ids} {s : Sto} {gg : Nat} {u : GeoN} {lab : Int} {G : GS} {kb cc : Nat} {A : Option Addr} {n c m1 m2 m3 m4 : Nat} {L1 L2 : List (NKey × Value)}
/-- what a node's number is looked up as -/
theorem NodL.look {L : List (NKey × Value)} (h : NodL L G (u.nodes + 1)) {k : Nat} (h1 : 1 ≤ k) (h2 : k ≤ u.nodes) (h3 : u.nodes ≤ 128) : mget L (nk k) = if (G.nd k).kind = 0 then none else some (G.nd k).val := by
  rw [h k (by omega)]
  by_cases h0 : (G.nd k).kind = 0
  · rw [if_pos h0, if_neg (fun x => x.2.2 h0)]
  · rw [if_neg h0, if_pos ⟨h1, by omega, h0⟩]
set_option maxRecDepth 100000 in
set_option maxHeartbeats 6000000 in
theorem ckblocks_ok (h : CkW w0 w i s gg u lab G kb cc A n c m1 m2 m3 m4 L1 L2) (hN : NodL L1 G (u.nodes + 1)) (hP : Plain G u) (hun : u.nodes ≤ 128) :
    Calls Tryz.prog 114 #[.pointer (some ⟨kb, 0, none⟩)] w fun r w' => r = .returned (.tuple #[]) ∧ CkW w0 w' i s gg u lab G kb cc A n c m1 m2 m3 m4 L1 L2 := by
  have H := hide h
  have HN := hide hN
  have HP := hide hP
  obtain ⟨kl, k0, k1, k2, k3, k4, k7, k8, -⟩ := h.cells
  have HUN := hide hun
  obtain ⟨U, hU⟩ : ∃ U, u.nodes = U := ⟨_, rfl⟩
  rw [hU] at k8 hun
  have HU := hide hU
  obtain ⟨i0, hi0, i1, i2, i3⟩ := info_u16
  have HI := hide (And.intro hi0 (And.intro i1 (And.intro i2 i3)))
  clear h hU k0 k1 k2 k3 k4 k7 hN hP hi0 i1 i2 i3
  go_enter Tryz.func114, Tryz.ntmps114
  go_wp2_with fail
  clear k8 kl
  go_loopg [2] U (fun gh x2 wr => ∃ m : Nat, 1 ≤ m ∧ m ≤ U + 1 ∧ gh = U + 1 - m ∧ x2 = .int .i64 (m : Int) ∧ Hid (CkW w0 wr i s gg u lab G kb cc A n c m1 m2 m3 m4 L1 L2))
  case atStart => exact ⟨1, Nat.le_refl _, by omega, by omega, rfl, H⟩
  case round =>
    clear H
    obtain ⟨m, h1, hm, hgh, rfl, H⟩ := hrel
    have HGH := hide hgh
    clear hgh
    obtain ⟨kl, k0, k1, k2, k3, k4, k7, k8, k9, k10, k11, -⟩ := H.out.cells
    rw [HU.out] at k8
    clear k0 k1 k2 k3 k4 k7 k9 k10
    rcases Nat.lt_or_ge U m with hgt | hle
    · have t1 : decide ((m : Int) ≤ (U : Int)) = false := by simp; omega
      have t1' : ¬ (m : Int) ≤ (U : Int) := by omega
      clear hgt hm h1
      go_wp2
      go_returns
      exact ⟨rfl, H.out⟩
    · have t1 : decide ((m : Int) ≤ (U : Int)) = true := by simp; omega
      have t1' : (m : Int) ≤ (U : Int) := by omega
      have e64 : IntKind.i64.wrap ((m : Int) + 1) = (m : Int) + 1 := IntWalk.i64_in _ (by omega)
      have hlk := HN.out.look h1 (by rw [HU.out]; exact hle) HUN.out
      have hpl := HP.out m h1 (by rw [HU.out]; exact hle)
      have HKV := hide (show (.int .i64 (m : Int) : Value) = nkv (nk m) from (nkv_nk (by omega)).symm)
      have HLM := hide (And.intro h1 hle)
      have hnod := H.out.nod.is
      have HNOD := hide hnod
      clear hle hm h1 hnod
      by_cases hz : (G.nd m).kind = 0
      · rw [if_pos hz] at hlk
        have HV := hide (show (if true = true then .tuple #[(mget L1 (nk m)).getD NodeV.zero.val, .bool (mget L1 (nk m)).isSome] else (mget L1 (nk m)).getD NodeV.zero.val) = Value.tuple #[NodeV.zero.val, .bool false] from by rw [hlk]; rfl)
        clear hlk hpl hz
        go_upto_region 4 with (first | ((with_reducible refine at_look 229 (.tmp 23) (.tmp 24) true ?_); refine wpList_lookup_map rfl 229 (.tmp 23) (.tmp 24) true rfl (nk m) (by rfl) HKV.out HNOD.out nEnc Tryz.underlying229 (zero_node _) _ HV.out ?_) | ((with_reducible refine at_alloc 130 ?_); refine wpList_alloc_as rfl 130 rfl _ (zero_node _) ?_) | ((with_reducible refine at_store 130 (.tmp 3) (.tmp 26) ?_); refine wpList_store_blk rfl 130 (.tmp 3) (.tmp 26) rfl wr.heap.size _ _ _ (by rfl) (by rfl) (Blk.new _ _ _) (size_nodeOf (n := NodeV.zero) rfl) rfl (NodeV.cells_one _) (fun _ => ?_)) | fail)
        refine at_world (fun W => Below wr.heap.size wr W) (below_setRow ((Below.refl _ _).alloc (Nat.le_refl _) _) (Nat.le_refl _) _) (fun w3 h3 => ?_)
        have H3 := hide (H.out.below h3)
        clear h3 kl k8 k11 H HNOD
        go_wp2
        go_roundg (U + 1 - (m + 1))
        case rel => exact ⟨m + 1, by omega, by have := HLM.out; omega, rfl, by first | rfl | go_num, H3⟩
        case measure => have := HGH.out; have := HLM.out; omega
      · rw [if_neg hz] at hlk
        rcases hpl with hpl | ⟨kk, hpl, hk0⟩
        · exact absurd hpl hz
        rw [hpl, freshCs_val] at hlk
        have HV := hide (show (if true = true then .tuple #[(mget L1 (nk m)).getD NodeV.zero.val, .bool (mget L1 (nk m)).isSome] else (mget L1 (nk m)).getD NodeV.zero.val) = Value.tuple #[.agg (freshCs kk), .bool true] from by rw [hlk]; rfl)
        clear hlk hpl hz hk0
        go_upto_region 4 with (first | ((with_reducible refine at_look 229 (.tmp 23) (.tmp 24) true ?_); refine wpList_lookup_map rfl 229 (.tmp 23) (.tmp 24) true rfl (nk m) (by rfl) HKV.out HNOD.out nEnc Tryz.underlying229 (zero_node _) _ HV.out ?_) | ((with_reducible refine at_alloc 130 ?_); refine wpList_alloc_as rfl 130 rfl _ (zero_node _) ?_) | ((with_reducible refine at_store 130 (.tmp 3) (.tmp 26) ?_); refine wpList_store_blk rfl 130 (.tmp 3) (.tmp 26) rfl wr.heap.size _ _ _ (by rfl) (by rfl) (Blk.new _ _ _) (size_fresh kk) rfl (NodeV.cells_one (freshN kk)) (fun _ => ?_)) | fail)
        refine at_world (fun W => ∃ q, q = wr.heap.size ∧ Below wr.heap.size wr W ∧ Blk W q 130 (freshCs kk)) ⟨_, rfl, below_setRow ((Below.refl _ _).alloc (Nat.le_refl _) _) (Nat.le_refl _) _, (Blk.new _ _ _).setRow_same _⟩ (fun w3 h3 => ?_)
        obtain ⟨q, hq, hb3, hQ3⟩ := h3
        rw [← hq]
        have H3 := hide (H.out.below hb3)
        have HQ3 := hide hQ3
        have HSB := hide (show ∀ W, Below w3.heap.size w3 W → (kb < W.heap.size ∧ W.cell? ⟨kb, 2, none⟩ = some (.pointer (some ⟨gg, 0, none⟩))) ∧ Blk W q 130 (freshCs kk) from fun W hb => ⟨⟨(H3.out.below hb).cells.1, (H3.out.below hb).cells.2.2.2.1⟩, HQ3.out.below hb HQ3.out.lt⟩)
        clear hq hb3 hQ3 kl k8 k11 H HNOD
        go_upto_region 5 with (fail)
        refine wp_region_text [0, 0, 0, 0, 0, 1, 0, 0, 0, 0, 0, 0, 0] (fun W => (kb < W.heap.size ∧ W.cell? ⟨kb, 2, none⟩ = some (.pointer (some ⟨gg, 0, none⟩))) ∧ Blk W q 130 (freshCs kk)) (by kernel_rfl) (by kernel_rfl) (HSB.out _ (Below.refl _ _).drew) ?_
        iterate 4 (refine wpOrd_q (v := ?_) (by rfl) (fun W hW => ?_) ?_; rotate_left; (focus ((obtain ⟨⟨z1, z2⟩, -⟩ := hW; go_simp); try with_reducible rfl)); try simp only [Act.put, List.setIfInBounds_toArray, List.set_cons_zero, List.set_cons_succ])
        refine wpOrd_q (v := .agg (freshCs kk)) (by rfl) (fun W hW => exec_load_blk 130 (.tmp 3) rfl q _ _ _ rfl hW.2 Tryz.underlying130 rfl (size_fresh kk)) ?_
        try simp only [Act.put, List.setIfInBounds_toArray, List.set_cons_zero, List.set_cons_succ]
        refine wpOrd_x (by rfl) (fun K hK => ?_)
        go_simp
        refine (blocks_zero _ (some ⟨gg, 0, none⟩) (n := freshN kk) rfl).mono ?_
        rintro e w4 ⟨rfl, hb4⟩
        have hb34 : Below w3.heap.size w3 w4 := (Below.refl _ _).drew.trans hb4
        refine hK _ _ _ (fun _ h => h) (HSB.out _ hb34) ?_
        have H4 := hide (H3.out.below hb34)
        have HQ4 := hide (HQ3.out.below hb34 HQ3.out.lt)
        clear hK K hb4 hb34 HSB H3 HQ3
        try simp only [Act.put, List.setIfInBounds_toArray, List.set_cons_zero, List.set_cons_succ]
        iterate 7 (refine wpOrd_q (v := ?_) (by rfl) (fun W hW => ?_) ?_; rotate_left; (focus (go_simp; try with_reducible rfl)); try simp only [Act.put, List.setIfInBounds_toArray, List.set_cons_zero, List.set_cons_succ])
        refine wpOrd_nil ?_
        go_upto_region 8 with (fail)
        go_upto_region 9 with (first | (at_builtin; refine wpList_append_rd _ rfl (.tmp 46) (.tmp 47) 72 rfl w4.heap.size 37 i0 (.int .u16 0) 1 2 Tryz.underlying72 HI.out.1 HI.out.2.1 HI.out.2.2.1 HI.out.2.2.2 rfl (by decide) (.slice (some ⟨w4.heap.size, 0, none⟩) 0 0) 0 _ rfl (own_lit rfl (by simp) (by simp) (by simp [maxLen]) rfl) w4.heap.size none 0 0 [] rfl (Rd.nil _ _ _ _) (by simp) (by simp [maxLen]) (by omega) (by simp) ?_; intro v5 w5 hown5 hg5 hnil5 hat5; obtain ⟨A5, c5, rfl, hnc5, _, _⟩ := own_form hown5; have hb5 : Below w4.heap.size w4 w5 := (((Below.refl _ _).alloc (Nat.le_refl _) _).grown hg5 (by simp) (by simp [Value.ownBlock])); rw [Nat.zero_add, List.nil_append] at hown5; clear hg5 hnil5 hat5) |
          (at_builtin; refine wpList_append_rd _ rfl (.tmp 48) (.tmp 49) 72 rfl w4.heap.size 37 i0 (.int .u16 0) 1 2 Tryz.underlying72 HI.out.1 HI.out.2.1 HI.out.2.2.1 HI.out.2.2.2 rfl (by decide) (.slice A5 0 c5) 0 _ (by first | rfl | simp [Act.eval]) hown5 w5.heap.size none 0 0 [] (by first | rfl | simp [Act.eval]) (Rd.nil _ _ _ _) (by simp) (by simp [maxLen]) (by omega) hb5.size ?_; intro v6 w6 hown6 hg6 hnil6 hat6; obtain ⟨A6, c6, rfl, hnc6, _, _⟩ := own_form hown6; have hb6 : Below w4.heap.size w4 w6 := hb5.grown hg6 hb5.size (fun k hk => (hown5.lt k hk).1); rw [Nat.zero_add] at hown6; clear hg6 hnil6 hat6) | fail)
        have H6 := hide (H4.out.below hb6)
        have HQ6 := hide (HQ4.out.below hb6 HQ4.out.lt)
        clear hown5 hown6 hb5 hb6 hnc5 hnc6 H4 HQ4
        try simp only [Nat.add_zero]
        go_loopg [52] 0 (fun gh x52 wq => x52 = .int .i64 0 ∧ Hid (w6 = wq))
        case atStart => exact ⟨rfl, hide rfl⟩
        case round =>
          obtain ⟨rfl, HW⟩ := hrel
          have hww := HW.out
          subst hww
          go_wp2_with (first | ((with_reducible refine at_load 130 (.tmp 3) ?_); refine wpList_load_blk rfl 130 (.tmp 3) rfl q _ _ _ (by rfl) HQ6.out Tryz.underlying130 rfl (size_fresh kk) ?_) | fail)
          refine (bare_zero w6 kb kk).mono ?_
          rintro e w7 ⟨rfl, hb7⟩
          have H7 := hide (H6.out.below hb7)
          have HQ7 := hide (HQ6.out.below hb7 HQ6.out.lt)
          clear hb7 H6 HQ6
          go_wp2_with (first | ((with_reducible refine at_load 130 (.tmp 3) ?_); refine wpList_load_blk rfl 130 (.tmp 3) rfl q _ _ _ (by rfl) HQ7.out Tryz.underlying130 rfl (size_fresh kk) ?_) | fail)
          refine (tail_zero w7 kb _ kk _ _ _).mono ?_
          rintro e w8 ⟨rfl, hb8⟩
          have H8 := hide (H7.out.below hb8)
          clear hb8 H7 HQ7
          go_wp2
          go_roundg (U + 1 - (m + 1))
          case rel => exact ⟨m + 1, by omega, by have := HLM.out; omega, rfl, by first | rfl | go_num, H8⟩
          case measure => have := HGH.out; have := HLM.out; omega
end
end Go.Proofs.YthmkgohfeahdhaaGreat
namespace Go.Proofs.YthmkgohfeahdhaaGreat
open Go.RowKit
set_option linter.unusedSimpArgs false
set_option linter.unusedVariables false

section
variable {w0 w w' : World} {i : Ids} {s : Sto} {gg : Nat} {u : GeoN} {lab : Int} {G : GS} {kb cc : Nat} {A : Option Addr} {n c m1 m2 m3 m4 : Nat} {L1 L2 : List (NKey × Value)}
set_option maxRecDepth 100000 in
set_option maxHeartbeats 2000000 in
/-- the table's node is free -/
theorem inopen_gone (h : GAt w i s gg u lab G) (h2 : 2 ≤ u.nodes) (hz : G.nd 2 = NodeV.zero) :
    Calls Tryz.prog 125 #[.pointer (some ⟨gg, 0, none⟩)] w fun e w' => e = .returned (.tuple #[.slice none 0 0, .int .i64 14]) ∧ GAt w' i s gg u lab G ∧ Tch w.heap.size i.own w w' := by
  have hnd := gs_node' (num := 2) h (by omega) h2
  rw [hz, show ((2 : Nat) : Int) = 2 from rfl] at hnd
  have HH := hide (And.intro h2 hz)
  have HND := hide hnd
  clear h hnd h2 hz
  go_enter Tryz.func125, Tryz.ntmps125
  go_wp2_with fail
  refine HND.out.mono ?_
  rintro e w1 ⟨rfl, ha1, ht1⟩
  have HA1 := hide ha1
  have HT1 := hide ht1
  clear ha1 ht1 HND
  go_upto_region 2 with (first | ((with_reducible refine at_alloc 130 ?_); refine wpList_alloc_as rfl 130 rfl _ (zero_node _) ?_) | ((with_reducible refine at_store 130 (.tmp 4) (.tmp 14) ?_); refine wpList_store_blk rfl 130 (.tmp 4) (.tmp 14) rfl w1.heap.size _ _ _ (by rfl) (by rfl) (Blk.new _ _ _) (size_nodeOf (n := NodeV.zero) rfl) rfl (NodeV.cells_one _) (fun _ => ?_)) | fail)
  refine at_world (fun W => ∃ q, q = w1.heap.size ∧ Below w1.heap.size w1 W ∧ Blk W q 130 NodeV.zero.cells.toArray) ⟨_, rfl, below_setRow ((Below.refl _ _).alloc (Nat.le_refl _) _) (Nat.le_refl _) _, (Blk.new _ _ _).setRow_same _⟩ (fun w2 hw2 => ?_)
  obtain ⟨q, hq, hb2, hQ2⟩ := hw2
  rw [← hq]
  have HA2 := hide (HA1.out.below hb2)
  have HT2 := hide (HT1.out.trans ((Tch.of_below hb2).mono HT1.out.size fun _ _ h => h))
  have q3 : w2.cell? ⟨q, 3, none⟩ = some (.int .u32 0) := hQ2.cell 3
  have ql := hQ2.lt
  have hnd2 := gs_node' (num := 2) HA2.out (by omega) HH.out.1
  rw [HH.out.2, show ((2 : Nat) : Int) = 2 from rfl] at hnd2
  have hrg := read_gone (A := .pointer (some ⟨gg, 0, none⟩)) (num := 2) (n := NodeV.zero) (r := 0) (r' := 14) (P := fun W => GAt W i s gg u lab G ∧ Tch w2.heap.size i.own w2 W) 0 0 rfl (.inr ⟨rfl, rfl, rfl⟩) (fun a b ha hb => ⟨ha.1.below hb, ha.2.trans ((Tch.of_below hb).mono ha.2.size fun _ _ h => h)⟩) hnd2
  have HRG := hide hrg
  clear hq hb2 hQ2 HA1 HT1 HA2 hnd2 hrg
  go_wp2_with fail
  refine HRG.out.mono ?_
  rintro e w3 ⟨rfl, ha3, ht3⟩
  have HF := hide (And.intro ha3 (HT2.out.trans (ht3.mono HT2.out.size fun _ _ h => h)))
  clear ha3 ht3 HRG q3 ql HT2
  go_wp2
  go_returns
  exact ⟨rfl, HF.out⟩
set_option maxRecDepth 100000 in
set_option maxHeartbeats 2000000 in
/-- a table without records is listed -/
theorem inlist_none {x : Int} (h : GAt w i s gg u lab G) (hop : ∀ W, GAt W i s gg u lab G → Calls Tryz.prog 125 #[.pointer (some ⟨gg, 0, none⟩)] W fun e w' => ∃ A c, e = .returned (.tuple #[.slice A 0 c, .int .i64 x]) ∧ GAt w' i s gg u lab G ∧ Tch W.heap.size i.own W w') :
    Calls Tryz.prog 159 #[.pointer (some ⟨gg, 0, none⟩)] w fun e w' => e = .returned (.tuple #[.slice none 0 0, .int .i64 x]) ∧ GAt w' i s gg u lab G ∧ Tch w.heap.size i.own w w' := by
  have HOP := hide (hop w h)
  clear h hop
  go_enter Tryz.func159, Tryz.ntmps159
  go_wp2_with fail
  refine HOP.out.mono ?_
  rintro e w1 ⟨A, c, rfl, ha1, ht1⟩
  have HF := hide (And.intro ha1 ht1)
  clear ha1 ht1 HOP
  go_wp2_with fail
  go_loopg [6, 16] 0 (fun gh x6 x16 wr => x6 = .slice none 0 0 ∧ x16 = .int .i64 0 ∧ Hid (w1 = wr))
  case atStart => exact ⟨rfl, rfl, hide rfl⟩
  case round =>
    obtain ⟨rfl, rfl, HW⟩ := hrel
    have hww := HW.out
    subst hww
    go_wp2
    go_returns
    exact ⟨rfl, HF.out⟩
theorem inlist_fresh (h : GAt w i s gg u lab G) (h2 : 2 ≤ u.nodes) {κ : Nat → Nat} (ht : TabN G u [] κ) :
    Calls Tryz.prog 159 #[.pointer (some ⟨gg, 0, none⟩)] w fun e w' => e = .returned (.tuple #[.slice none 0 0, .int .i64 0]) ∧ GAt w' i s gg u lab G ∧ Tch w.heap.size i.own w w' :=
  inlist_none h fun W hW => (inopen_ok hW h2 ht).mono fun e w' ⟨A, c, h1, _, h3, h4⟩ => ⟨A, c, h1, h3, h4⟩
theorem inlist_gone (h : GAt w i s gg u lab G) (h2 : 2 ≤ u.nodes) (hz : G.nd 2 = NodeV.zero) :
    Calls Tryz.prog 159 #[.pointer (some ⟨gg, 0, none⟩)] w fun e w' => e = .returned (.tuple #[.slice none 0 0, .int .i64 14]) ∧ GAt w' i s gg u lab G ∧ Tch w.heap.size i.own w w' :=
  inlist_none h fun W hW => (inopen_gone hW h2 hz).mono fun e w' ⟨h1, h3, h4⟩ => ⟨none, 0, h1, h3, h4⟩
/-- how often the own nodes have been named -/
def namesTo : Nat → List (NKey × Value)
  | 0 => []
  | j + 1 => mput (namesTo j) (nk (j + 1)) (.int .i64 1)
theorem namesTo_get : ∀ (j k : Nat), j ≤ 3 → k < 65536 → mget (namesTo j) (nk k) = if 1 ≤ k ∧ k ≤ j then some (.int .i64 1) else none
  | 0, k, _, _ => by rw [if_neg (by omega)]; rfl
  | j + 1, k, hj, hk => by
    rw [namesTo, mget_put]
    by_cases e : k = j + 1
    · subst e
      rw [if_pos rfl, if_pos (by omega)]
    · rw [if_neg (fun x => e (nk_inj (by omega) hk x).symm), namesTo_get j k (by omega) hk]
      have : (1 ≤ k ∧ k ≤ j) = (1 ≤ k ∧ k ≤ j + 1) := by rw [eq_iff_iff]; omega
      simp only [this]
theorem zero_int (w : World) : (zeroValue 3).run Tryz.prog w = .ok (.int .i64 0) w := by kernel_rfl
set_option maxRecDepth 100000 in
set_option maxHeartbeats 6000000 in
theorem ckown_two (h : CkW w0 w i s gg u lab G kb cc none 0 0 m1 m2 m3 m4 L1 []) (hN : NodL L1 G (u.nodes + 1)) (hun : 4 ≤ u.nodes ∧ u.nodes ≤ 128) (hg1 : G.nd 1 = freshN 2) (hg2 : G.nd 2 = freshN 1) (hg3 : G.nd 3 = freshN 1) {κ : Nat → Nat} (ht : TabN G u [] κ) :
    Calls Tryz.prog 115 #[.pointer (some ⟨kb, 0, none⟩)] w fun r w' => r = .returned (.tuple #[]) ∧ ∃ A c, CkW w0 w' i s gg u lab G kb cc A 0 c m1 m2 m3 m4 L1 (namesTo 3) := by
  have H := hide h
  have HN := hide hN
  have HUN := hide hun
  have HG1 := hide hg1
  have HG2 := hide hg2
  have HG3 := hide hg3
  have HT := hide ht
  clear h hN hun hg1 hg2 hg3 ht
  go_enter Tryz.func115, Tryz.ntmps115
  go_wp2_with fail
  go_loopg [11] 3 (fun gh x11 wr => ∃ (j : Nat) (A' : Option Addr) (c' : Nat), j ≤ 3 ∧ gh = 3 - j ∧ x11 = .int .i64 (j : Int) ∧ Hid (CkW w0 wr i s gg u lab G kb cc A' 0 c' m1 m2 m3 m4 L1 (namesTo j)))
  case atStart => exact ⟨0, none, 0, by omega, rfl, rfl, H⟩
  case round =>
    clear H
    obtain ⟨j, A', c', hj, hgh, rfl, H⟩ := hrel
    have HGH := hide hgh
    clear hgh
    obtain ⟨kl, k0, k1, k2, k3, k4, k7, k8, k9, k10, k11, k12, -⟩ := H.out.cells
    clear k0 k1 k3 k4 k7 k8 k9 k10
    obtain rfl | rfl | rfl | rfl : j = 0 ∨ j = 1 ∨ j = 2 ∨ j = 3 := by omega
    · have H : Hid (CkW w0 wr i s gg u lab G kb cc A' 0 c' m1 m2 m3 m4 L1 (namesTo 0)) := H
      have hlk := HN.out.look (k := 1) (by omega) (by have := HUN.out; omega) (by have := HUN.out; omega)
      rw [HG1.out] at hlk
      have HV := hide (show (if false = true then .tuple #[(mget L1 (nk 1)).getD NodeV.zero.val, .bool (mget L1 (nk 1)).isSome] else (mget L1 (nk 1)).getD NodeV.zero.val) = Value.agg #[.int .u8 2, .int .u8 1, .int .u16 1, .int .u32 0, .int .u16 0, .int .u16 0, .int .u16 0, .int .u16 0, .int .u16 0, .int .u16 0, .int .u16 0, .int .u16 0] from by rw [hlk]; rfl)
      have hm2 := namesTo_get 0 1 (by omega) (by omega)
      have HV2 := hide (show (if false = true then .tuple #[(mget (namesTo 0) (nk 1)).getD (.int .i64 0), .bool (mget (namesTo 0) (nk 1)).isSome] else (mget (namesTo 0) (nk 1)).getD (.int .i64 0)) = Value.int .i64 0 from by rw [hm2]; rfl)
      have HKV := hide (show (.int .i64 1 : Value) = nkv (nk 1) from (nkv_nk (n := 1) (by omega)).symm)
      have hnod := H.out.nod.is
      have hnam := H.out.nam.is
      have HNOD := hide hnod
      have HNAM := hide hnam
      have hmr := H.out.nam
      have HMR := hide hmr
      have hfl : ∀ W, (Instr.field 130 (.agg #[.int .u8 2, .int .u8 1, .int .u16 1, .int .u32 0, .int .u16 0, .int .u16 0, .int .u16 0, .int .u16 0, .int .u16 0, .int .u16 0, .int .u16 0, .int .u16 0]) 0).run Tryz.prog W = .ok (.int .u8 2) W := fun W => by kernel_rfl
      clear hlk hm2 hnod hnam hmr
      go_upto_region 5 with (first | ((with_reducible refine at_index 293 (.tmp 10) (.tmp 11) ?_); refine wpList_index_arr rfl 293 59 (.tmp 10) (.tmp 11) rfl 3 0 .i64 .u8 _ _ (by rfl) (by rfl) (by omega) rfl Tryz.underlying293 Tryz.underlying59 (by kernel_rfl) ?_) | ((with_reducible refine at_look 229 (.tmp 18) (.tmp 20) false ?_); refine wpList_lookup_map rfl 229 (.tmp 18) (.tmp 20) false rfl (nk 1) (by rfl) HKV.out HNOD.out nEnc Tryz.underlying229 (zero_node _) _ HV.out ?_) | fail)
      go_wp2_with (first | ((with_reducible refine at_look 230 (.tmp 32) (.tmp 34) false ?_); refine wpList_lookup_map rfl 230 (.tmp 32) (.tmp 34) false rfl (nk 1) (by rfl) HKV.out HNAM.out nEnc Tryz.underlying230 (zero_int _) _ HV2.out ?_) | (refine wpList_plain rfl (fun K' hK' => ?_); refine wp_update_map 230 (.tmp 32) (.tmp 34) (.tmp 36) rfl (nk 1) (.int .i64 1) (by rfl) HKV.out (by rfl) HMR.out nEnc Tryz.underlying230 (fun w9 hm9 ho9 => ?_); refine hK' _ _ ?_) | fail)
      have H9 := hide (H.out.upd2 hm9 ho9)
      clear hm9 ho9
      go_roundg 2
      case rel => exact ⟨1, A', c', by omega, rfl, rfl, H9⟩
      case measure => have := HGH.out; omega
    · have H : Hid (CkW w0 wr i s gg u lab G kb cc A' 0 c' m1 m2 m3 m4 L1 (namesTo 1)) := H
      have hlk := HN.out.look (k := 2) (by omega) (by have := HUN.out; omega) (by have := HUN.out; omega)
      rw [HG2.out] at hlk
      have HV := hide (show (if false = true then .tuple #[(mget L1 (nk 2)).getD NodeV.zero.val, .bool (mget L1 (nk 2)).isSome] else (mget L1 (nk 2)).getD NodeV.zero.val) = Value.agg #[.int .u8 1, .int .u8 1, .int .u16 1, .int .u32 0, .int .u16 0, .int .u16 0, .int .u16 0, .int .u16 0, .int .u16 0, .int .u16 0, .int .u16 0, .int .u16 0] from by rw [hlk]; rfl)
      have hm2 := namesTo_get 1 2 (by omega) (by omega)
      have HV2 := hide (show (if false = true then .tuple #[(mget (namesTo 1) (nk 2)).getD (.int .i64 0), .bool (mget (namesTo 1) (nk 2)).isSome] else (mget (namesTo 1) (nk 2)).getD (.int .i64 0)) = Value.int .i64 0 from by rw [hm2]; rfl)
      have HKV := hide (show (.int .i64 2 : Value) = nkv (nk 2) from (nkv_nk (n := 2) (by omega)).symm)
      have hnod := H.out.nod.is
      have hnam := H.out.nam.is
      have HNOD := hide hnod
      have HNAM := hide hnam
      have hmr := H.out.nam
      have HMR := hide hmr
      have hfl : ∀ W, (Instr.field 130 (.agg #[.int .u8 1, .int .u8 1, .int .u16 1, .int .u32 0, .int .u16 0, .int .u16 0, .int .u16 0, .int .u16 0, .int .u16 0, .int .u16 0, .int .u16 0, .int .u16 0]) 0).run Tryz.prog W = .ok (.int .u8 1) W := fun W => by kernel_rfl
      clear hlk hm2 hnod hnam hmr
      go_upto_region 5 with (first | ((with_reducible refine at_index 293 (.tmp 10) (.tmp 11) ?_); refine wpList_index_arr rfl 293 59 (.tmp 10) (.tmp 11) rfl 3 1 .i64 .u8 _ _ (by rfl) (by rfl) (by omega) rfl Tryz.underlying293 Tryz.underlying59 (by kernel_rfl) ?_) | ((with_reducible refine at_look 229 (.tmp 18) (.tmp 20) false ?_); refine wpList_lookup_map rfl 229 (.tmp 18) (.tmp 20) false rfl (nk 2) (by rfl) HKV.out HNOD.out nEnc Tryz.underlying229 (zero_node _) _ HV.out ?_) | fail)
      go_wp2_with (first | ((with_reducible refine at_look 230 (.tmp 32) (.tmp 34) false ?_); refine wpList_lookup_map rfl 230 (.tmp 32) (.tmp 34) false rfl (nk 2) (by rfl) HKV.out HNAM.out nEnc Tryz.underlying230 (zero_int _) _ HV2.out ?_) | (refine wpList_plain rfl (fun K' hK' => ?_); refine wp_update_map 230 (.tmp 32) (.tmp 34) (.tmp 36) rfl (nk 2) (.int .i64 1) (by rfl) HKV.out (by rfl) HMR.out nEnc Tryz.underlying230 (fun w9 hm9 ho9 => ?_); refine hK' _ _ ?_) | fail)
      have H9 := hide (H.out.upd2 hm9 ho9)
      clear hm9 ho9
      go_roundg 1
      case rel => exact ⟨2, A', c', by omega, rfl, rfl, H9⟩
      case measure => have := HGH.out; omega
    · have H : Hid (CkW w0 wr i s gg u lab G kb cc A' 0 c' m1 m2 m3 m4 L1 (namesTo 2)) := H
      have hlk := HN.out.look (k := 3) (by omega) (by have := HUN.out; omega) (by have := HUN.out; omega)
      rw [HG3.out] at hlk
      have HV := hide (show (if false = true then .tuple #[(mget L1 (nk 3)).getD NodeV.zero.val, .bool (mget L1 (nk 3)).isSome] else (mget L1 (nk 3)).getD NodeV.zero.val) = Value.agg #[.int .u8 1, .int .u8 1, .int .u16 1, .int .u32 0, .int .u16 0, .int .u16 0, .int .u16 0, .int .u16 0, .int .u16 0, .int .u16 0, .int .u16 0, .int .u16 0] from by rw [hlk]; rfl)
      have hm2 := namesTo_get 2 3 (by omega) (by omega)
      have HV2 := hide (show (if false = true then .tuple #[(mget (namesTo 2) (nk 3)).getD (.int .i64 0), .bool (mget (namesTo 2) (nk 3)).isSome] else (mget (namesTo 2) (nk 3)).getD (.int .i64 0)) = Value.int .i64 0 from by rw [hm2]; rfl)
      have HKV := hide (show (.int .i64 3 : Value) = nkv (nk 3) from (nkv_nk (n := 3) (by omega)).symm)
      have hnod := H.out.nod.is
      have hnam := H.out.nam.is
      have HNOD := hide hnod
      have HNAM := hide hnam
      have hmr := H.out.nam
      have HMR := hide hmr
      have hfl : ∀ W, (Instr.field 130 (.agg #[.int .u8 1, .int .u8 1, .int .u16 1, .int .u32 0, .int .u16 0, .int .u16 0, .int .u16 0, .int .u16 0, .int .u16 0, .int .u16 0, .int .u16 0, .int .u16 0]) 0).run Tryz.prog W = .ok (.int .u8 1) W := fun W => by kernel_rfl
      clear hlk hm2 hnod hnam hmr
      go_upto_region 5 with (first | ((with_reducible refine at_index 293 (.tmp 10) (.tmp 11) ?_); refine wpList_index_arr rfl 293 59 (.tmp 10) (.tmp 11) rfl 3 2 .i64 .u8 _ _ (by rfl) (by rfl) (by omega) rfl Tryz.underlying293 Tryz.underlying59 (by kernel_rfl) ?_) | ((with_reducible refine at_look 229 (.tmp 18) (.tmp 20) false ?_); refine wpList_lookup_map rfl 229 (.tmp 18) (.tmp 20) false rfl (nk 3) (by rfl) HKV.out HNOD.out nEnc Tryz.underlying229 (zero_node _) _ HV.out ?_) | fail)
      go_wp2_with (first | ((with_reducible refine at_look 230 (.tmp 32) (.tmp 34) false ?_); refine wpList_lookup_map rfl 230 (.tmp 32) (.tmp 34) false rfl (nk 3) (by rfl) HKV.out HNAM.out nEnc Tryz.underlying230 (zero_int _) _ HV2.out ?_) | (refine wpList_plain rfl (fun K' hK' => ?_); refine wp_update_map 230 (.tmp 32) (.tmp 34) (.tmp 36) rfl (nk 3) (.int .i64 1) (by rfl) HKV.out (by rfl) HMR.out nEnc Tryz.underlying230 (fun w9 hm9 ho9 => ?_); refine hK' _ _ ?_) | fail)
      have H9 := hide (H.out.upd2 hm9 ho9)
      clear hm9 ho9
      go_roundg 0
      case rel => exact ⟨3, A', c', by omega, rfl, rfl, H9⟩
      case measure => have := HGH.out; omega
    · have HL : Hid (CkW w0 wr i s gg u lab G kb cc A' 0 c' m1 m2 m3 m4 L1 (namesTo 3)) := H
      clear H
      have hl := inlist_fresh (κ := κ) HL.out.ga (by have := HUN.out; omega) HT.out
      have HLL := hide hl
      clear hl
      go_wp2_with fail
      refine HLL.out.mono ?_
      rintro e w5 ⟨rfl, ha5, ht5⟩
      have H5 := hide (HL.out.step ha5 ht5)
      clear ha5 ht5 HLL HL
      have hmm := @run_makeMap Tryz.prog
      go_upto_region 11 with (fail)
      refine at_world (fun W => Below w5.heap.size w5 W) ((Below.refl _ _).alloc (Nat.le_refl _) _) (fun w6 h6 => ?_)
      have H6 := hide (H5.out.below h6)
      clear h6 hmm H5
      go_wp2_with fail
      go_loopg [54] 0 (fun gh x54 wq => x54 = .int .i64 0 ∧ Hid (w6 = wq))
      case atStart => exact ⟨rfl, hide rfl⟩
      case round =>
        obtain ⟨rfl, HW⟩ := hrel
        have hww := HW.out
        subst hww
        go_wp2
        go_returns
        exact ⟨rfl, A', c', H6.out⟩
set_option maxRecDepth 100000 in
set_option maxHeartbeats 6000000 in
theorem ckown_gone (h : CkW w0 w i s gg u lab G kb cc none 0 0 m1 m2 m3 m4 L1 []) (hN : NodL L1 G (u.nodes + 1)) (hun : 4 ≤ u.nodes ∧ u.nodes ≤ 128) (hg1 : G.nd 1 = freshN 2) (hg2 : G.nd 2 = NodeV.zero) (hg3 : G.nd 3 = freshN 1) :
    Calls Tryz.prog 115 #[.pointer (some ⟨kb, 0, none⟩)] w fun r w' => r = .returned (.tuple #[]) ∧ ∃ A c, CkW w0 w' i s gg u lab G kb cc A 2 c m1 m2 m3 m4 L1 (namesTo 3) := by
  have H := hide h
  have HN := hide hN
  have HUN := hide hun
  have HG1 := hide hg1
  have HG2 := hide hg2
  have HG3 := hide hg3
  clear h hN hun hg1 hg2 hg3
  go_enter Tryz.func115, Tryz.ntmps115
  go_wp2_with fail
  go_loopg [11] 3 (fun gh x11 wr => ∃ (j : Nat) (A' : Option Addr) (c' : Nat), j ≤ 3 ∧ gh = 3 - j ∧ x11 = .int .i64 (j : Int) ∧ Hid (CkW w0 wr i s gg u lab G kb cc A' (if 2 ≤ j then 1 else 0) c' m1 m2 m3 m4 L1 (namesTo j)))
  case atStart => exact ⟨0, none, 0, by omega, rfl, rfl, H⟩
  case round =>
    clear H
    obtain ⟨j, A', c', hj, hgh, rfl, H⟩ := hrel
    have HGH := hide hgh
    clear hgh
    obtain ⟨kl, k0, k1, k2, k3, k4, k7, k8, k9, k10, k11, k12, -⟩ := H.out.cells
    clear k0 k1 k3 k4 k7 k8 k9 k10
    obtain rfl | rfl | rfl | rfl : j = 0 ∨ j = 1 ∨ j = 2 ∨ j = 3 := by omega
    · have H : Hid (CkW w0 wr i s gg u lab G kb cc A' 0 c' m1 m2 m3 m4 L1 (namesTo 0)) := H
      have hlk := HN.out.look (k := 1) (by omega) (by have := HUN.out; omega) (by have := HUN.out; omega)
      rw [HG1.out] at hlk
      have HV := hide (show (if false = true then .tuple #[(mget L1 (nk 1)).getD NodeV.zero.val, .bool (mget L1 (nk 1)).isSome] else (mget L1 (nk 1)).getD NodeV.zero.val) = Value.agg #[.int .u8 2, .int .u8 1, .int .u16 1, .int .u32 0, .int .u16 0, .int .u16 0, .int .u16 0, .int .u16 0, .int .u16 0, .int .u16 0, .int .u16 0, .int .u16 0] from by rw [hlk]; rfl)
      have hm2 := namesTo_get 0 1 (by omega) (by omega)
      have HV2 := hide (show (if false = true then .tuple #[(mget (namesTo 0) (nk 1)).getD (.int .i64 0), .bool (mget (namesTo 0) (nk 1)).isSome] else (mget (namesTo 0) (nk 1)).getD (.int .i64 0)) = Value.int .i64 0 from by rw [hm2]; rfl)
      have HKV := hide (show (.int .i64 1 : Value) = nkv (nk 1) from (nkv_nk (n := 1) (by omega)).symm)
      have hnod := H.out.nod.is
      have hnam := H.out.nam.is
      have HNOD := hide hnod
      have HNAM := hide hnam
      have hmr := H.out.nam
      have HMR := hide hmr
      have hfl : ∀ W, (Instr.field 130 (.agg #[.int .u8 2, .int .u8 1, .int .u16 1, .int .u32 0, .int .u16 0, .int .u16 0, .int .u16 0, .int .u16 0, .int .u16 0, .int .u16 0, .int .u16 0, .int .u16 0]) 0).run Tryz.prog W = .ok (.int .u8 2) W := fun W => by kernel_rfl
      clear hlk hm2 hnod hnam hmr
      go_upto_region 5 with (first | ((with_reducible refine at_index 293 (.tmp 10) (.tmp 11) ?_); refine wpList_index_arr rfl 293 59 (.tmp 10) (.tmp 11) rfl 3 0 .i64 .u8 _ _ (by rfl) (by rfl) (by omega) rfl Tryz.underlying293 Tryz.underlying59 (by kernel_rfl) ?_) | ((with_reducible refine at_look 229 (.tmp 18) (.tmp 20) false ?_); refine wpList_lookup_map rfl 229 (.tmp 18) (.tmp 20) false rfl (nk 1) (by rfl) HKV.out HNOD.out nEnc Tryz.underlying229 (zero_node _) _ HV.out ?_) | fail)
      go_wp2_with (first | ((with_reducible refine at_look 230 (.tmp 32) (.tmp 34) false ?_); refine wpList_lookup_map rfl 230 (.tmp 32) (.tmp 34) false rfl (nk 1) (by rfl) HKV.out HNAM.out nEnc Tryz.underlying230 (zero_int _) _ HV2.out ?_) | (refine wpList_plain rfl (fun K' hK' => ?_); refine wp_update_map 230 (.tmp 32) (.tmp 34) (.tmp 36) rfl (nk 1) (.int .i64 1) (by rfl) HKV.out (by rfl) HMR.out nEnc Tryz.underlying230 (fun w9 hm9 ho9 => ?_); refine hK' _ _ ?_) | fail)
      have H9 := hide (H.out.upd2 hm9 ho9)
      clear hm9 ho9
      go_roundg 2
      case rel => exact ⟨1, A', c', by omega, rfl, rfl, H9⟩
      case measure => have := HGH.out; omega
    · have H : Hid (CkW w0 wr i s gg u lab G kb cc A' 0 c' m1 m2 m3 m4 L1 (namesTo 1)) := H
      have hlk := HN.out.look (k := 2) (by omega) (by have := HUN.out; omega) (by have := HUN.out; omega)
      rw [HG2.out] at hlk
      have HV := hide (show (if false = true then .tuple #[(mget L1 (nk 2)).getD NodeV.zero.val, .bool (mget L1 (nk 2)).isSome] else (mget L1 (nk 2)).getD NodeV.zero.val) = Value.agg #[.int .u8 0, .int .u8 0, .int .u16 0, .int .u32 0, .int .u16 0, .int .u16 0, .int .u16 0, .int .u16 0, .int .u16 0, .int .u16 0, .int .u16 0, .int .u16 0] from by rw [hlk]; rfl)
      have hm2 := namesTo_get 1 2 (by omega) (by omega)
      have HV2 := hide (show (if false = true then .tuple #[(mget (namesTo 1) (nk 2)).getD (.int .i64 0), .bool (mget (namesTo 1) (nk 2)).isSome] else (mget (namesTo 1) (nk 2)).getD (.int .i64 0)) = Value.int .i64 0 from by rw [hm2]; rfl)
      have HKV := hide (show (.int .i64 2 : Value) = nkv (nk 2) from (nkv_nk (n := 2) (by omega)).symm)
      have hnod := H.out.nod.is
      have hnam := H.out.nam.is
      have HNOD := hide hnod
      have HNAM := hide hnam
      have hmr := H.out.nam
      have HMR := hide hmr
      have hfl : ∀ W, (Instr.field 130 (.agg #[.int .u8 0, .int .u8 0, .int .u16 0, .int .u32 0, .int .u16 0, .int .u16 0, .int .u16 0, .int .u16 0, .int .u16 0, .int .u16 0, .int .u16 0, .int .u16 0]) 0).run Tryz.prog W = .ok (.int .u8 0) W := fun W => by kernel_rfl
      clear hlk hm2 hnod hnam hmr
      go_wp2_with (first | ((with_reducible refine at_index 293 (.tmp 10) (.tmp 11) ?_); refine wpList_index_arr rfl 293 59 (.tmp 10) (.tmp 11) rfl 3 1 .i64 .u8 _ _ (by rfl) (by rfl) (by omega) rfl Tryz.underlying293 Tryz.underlying59 (by kernel_rfl) ?_) | ((with_reducible refine at_look 229 (.tmp 18) (.tmp 20) false ?_); refine wpList_lookup_map rfl 229 (.tmp 18) (.tmp 20) false rfl (nk 2) (by rfl) HKV.out HNOD.out nEnc Tryz.underlying229 (zero_node _) _ HV.out ?_) | fail)
      refine (fault_ok H.out (by omega) _ _).mono ?_
      rintro e w8 ⟨rfl, A8, c8, h8⟩
      have H8 := hide h8
      obtain ⟨kl, k0, k1, k2, k3, k4, k7, k8, k9, k10, k11, k12, -⟩ := h8.cells
      have hnam := h8.nam.is
      have HNAM := hide hnam
      have hmr := h8.nam
      have HMR := hide hmr
      clear h8 hnam hmr k0 k1 k2 k3 k4 k7 k8 k9 k10 H
      go_upto_region 5 with (first | fail)
      go_wp2_with (first | ((with_reducible refine at_look 230 (.tmp 32) (.tmp 34) false ?_); refine wpList_lookup_map rfl 230 (.tmp 32) (.tmp 34) false rfl (nk 2) (by rfl) HKV.out HNAM.out nEnc Tryz.underlying230 (zero_int _) _ HV2.out ?_) | (refine wpList_plain rfl (fun K' hK' => ?_); refine wp_update_map 230 (.tmp 32) (.tmp 34) (.tmp 36) rfl (nk 2) (.int .i64 1) (by rfl) HKV.out (by rfl) HMR.out nEnc Tryz.underlying230 (fun w9 hm9 ho9 => ?_); refine hK' _ _ ?_) | fail)
      have H9 := hide (H8.out.upd2 hm9 ho9)
      clear hm9 ho9
      go_roundg 1
      case rel => exact ⟨2, A8, c8, by omega, rfl, rfl, H9⟩
      case measure => have := HGH.out; omega
    · have H : Hid (CkW w0 wr i s gg u lab G kb cc A' 1 c' m1 m2 m3 m4 L1 (namesTo 2)) := H
      have hlk := HN.out.look (k := 3) (by omega) (by have := HUN.out; omega) (by have := HUN.out; omega)
      rw [HG3.out] at hlk
      have HV := hide (show (if false = true then .tuple #[(mget L1 (nk 3)).getD NodeV.zero.val, .bool (mget L1 (nk 3)).isSome] else (mget L1 (nk 3)).getD NodeV.zero.val) = Value.agg #[.int .u8 1, .int .u8 1, .int .u16 1, .int .u32 0, .int .u16 0, .int .u16 0, .int .u16 0, .int .u16 0, .int .u16 0, .int .u16 0, .int .u16 0, .int .u16 0] from by rw [hlk]; rfl)
      have hm2 := namesTo_get 2 3 (by omega) (by omega)
      have HV2 := hide (show (if false = true then .tuple #[(mget (namesTo 2) (nk 3)).getD (.int .i64 0), .bool (mget (namesTo 2) (nk 3)).isSome] else (mget (namesTo 2) (nk 3)).getD (.int .i64 0)) = Value.int .i64 0 from by rw [hm2]; rfl)
      have HKV := hide (show (.int .i64 3 : Value) = nkv (nk 3) from (nkv_nk (n := 3) (by omega)).symm)
      have hnod := H.out.nod.is
      have hnam := H.out.nam.is
      have HNOD := hide hnod
      have HNAM := hide hnam
      have hmr := H.out.nam
      have HMR := hide hmr
      have hfl : ∀ W, (Instr.field 130 (.agg #[.int .u8 1, .int .u8 1, .int .u16 1, .int .u32 0, .int .u16 0, .int .u16 0, .int .u16 0, .int .u16 0, .int .u16 0, .int .u16 0, .int .u16 0, .int .u16 0]) 0).run Tryz.prog W = .ok (.int .u8 1) W := fun W => by kernel_rfl
      clear hlk hm2 hnod hnam hmr
      go_upto_region 5 with (first | ((with_reducible refine at_index 293 (.tmp 10) (.tmp 11) ?_); refine wpList_index_arr rfl 293 59 (.tmp 10) (.tmp 11) rfl 3 2 .i64 .u8 _ _ (by rfl) (by rfl) (by omega) rfl Tryz.underlying293 Tryz.underlying59 (by kernel_rfl) ?_) | ((with_reducible refine at_look 229 (.tmp 18) (.tmp 20) false ?_); refine wpList_lookup_map rfl 229 (.tmp 18) (.tmp 20) false rfl (nk 3) (by rfl) HKV.out HNOD.out nEnc Tryz.underlying229 (zero_node _) _ HV.out ?_) | fail)
      go_wp2_with (first | ((with_reducible refine at_look 230 (.tmp 32) (.tmp 34) false ?_); refine wpList_lookup_map rfl 230 (.tmp 32) (.tmp 34) false rfl (nk 3) (by rfl) HKV.out HNAM.out nEnc Tryz.underlying230 (zero_int _) _ HV2.out ?_) | (refine wpList_plain rfl (fun K' hK' => ?_); refine wp_update_map 230 (.tmp 32) (.tmp 34) (.tmp 36) rfl (nk 3) (.int .i64 1) (by rfl) HKV.out (by rfl) HMR.out nEnc Tryz.underlying230 (fun w9 hm9 ho9 => ?_); refine hK' _ _ ?_) | fail)
      have H9 := hide (H.out.upd2 hm9 ho9)
      clear hm9 ho9
      go_roundg 0
      case rel => exact ⟨3, A', c', by omega, rfl, rfl, H9⟩
      case measure => have := HGH.out; omega
    · have HL : Hid (CkW w0 wr i s gg u lab G kb cc A' 1 c' m1 m2 m3 m4 L1 (namesTo 3)) := H
      clear H
      have hl := inlist_gone HL.out.ga (by have := HUN.out; omega) HG2.out
      have HLL := hide hl
      clear hl
      go_wp2_with fail
      refine HLL.out.mono ?_
      rintro e w5 ⟨rfl, ha5, ht5⟩
      have H5 := hide (HL.out.step ha5 ht5)
      clear ha5 ht5 HLL HL
      go_wp2_with fail
      refine (fault_ok H5.out (by omega) _ _).mono ?_
      rintro e w8 ⟨rfl, A8, c8, h8⟩
      have H8 := hide h8
      clear h8 H5
      go_wp2
      go_returns
      exact ⟨rfl, A8, c8, H8.out⟩
end
end Go.Proofs.YthmkgohfeahdhaaGreat
namespace Go.Proofs.YthmkgohfeahdhaaGreat
open Go.RowKit
set_option linter.unusedSimpArgs false
set_option linter.unusedVariables false

/-- a group whose own nodes alone are there, the second one perhaps not -/
structure Own3 (G : GS) (u : GeoN) (two : Bool) : Prop where
  n1 : G.nd 1 = freshN 2
  n2 : G.nd 2 = if two then freshN 1 else NodeV.zero
  n3 : G.nd 3 = freshN 1
  more : ∀ k, 4 ≤ k → k ≤ u.nodes → (G.nd k).kind = 0
theorem Own3.cases {G : GS} {u : GeoN} {two : Bool} (h : Own3 G u two) {k : Nat} (h1 : 1 ≤ k) (h2 : k ≤ u.nodes) : (k = 1 ∧ G.nd k = freshN 2) ∨ (k ≠ 1 ∧ (G.nd k).kind = 0) ∨ (k ≠ 1 ∧ k ≤ 3 ∧ G.nd k = freshN 1) := by
  by_cases e1 : k = 1
  · subst e1; exact .inl ⟨rfl, h.n1⟩
  by_cases e2 : k = 2
  · subst e2
    cases two with
    | true => exact .inr (.inr ⟨e1, by omega, h.n2⟩)
    | false => exact .inr (.inl ⟨e1, by rw [h.n2]; rfl⟩)
  by_cases e3 : k = 3
  · subst e3; exact .inr (.inr ⟨e1, by omega, h.n3⟩)
  exact .inr (.inl ⟨e1, h.more k (by omega) h2⟩)
theorem Own3.plain {G : GS} {u : GeoN} {two : Bool} (h : Own3 G u two) : Plain G u := fun k h1 h2 => by
  rcases h.cases h1 h2 with ⟨_, e⟩ | ⟨_, e⟩ | ⟨_, _, e⟩
  · exact .inr ⟨2, e, by decide⟩
  · exact .inl e
  · exact .inr ⟨1, e, by decide⟩
section
variable {P : Program} {a : Act} {o : Oper}
theorem exec_look {κ : Type} [DecidableEq κ] {kv : κ → Value} {K E : TypeId} {m : Nat} {L : List (κ × Value)} {z : Value} {W : World} (t : TypeId) (x y : Operand) (ok : Bool) (ho : o.op = .lookup t x y ok) (k : κ)
    (hm : a.eval x = .map (some m)) (hy : a.eval y = kv k) (h : MapIs kv W m L) (he : KeyEnc P K kv) (ht : P.underlying t = some (.map K E)) (hz : (zeroValue E).run P W = .ok z W) (v : Value)
    (hv : (if ok then .tuple #[(mget L k).getD z, .bool (mget L k).isSome] else (mget L k).getD z) = v) : (execOp a.eval o).run P W = .ok (.value v) W := by
  have hrun := h.lookup he ht hz k ok
  rw [hv] at hrun
  simp only [execOp, ho, hm, hy, Sem.run_bind, hrun, Result.andThen_ok]
  rfl
end
section
variable {w0 w w' : World} {i : Ids} {s : Sto} {gg : Nat} {u : GeoN} {lab : Int} {G : GS} {kb cc : Nat} {A : Option Addr} {n c m1 m2 m3 m4 : Nat} {L1 L2 : List (NKey × Value)}
set_option maxRecDepth 100000 in
set_option maxHeartbeats 6000000 in
theorem ckdirs_ok {two : Bool} {κ : Nat → Nat} (h : CkW w0 w i s gg u lab G kb cc A n c m1 m2 m3 m4 L1 L2) (hN : NodL L1 G (u.nodes + 1)) (hO : Own3 G u two) (hD : DirN G u 1 [] κ) (hun : u.nodes ≤ 128) :
    Calls Tryz.prog 116 #[.pointer (some ⟨kb, 0, none⟩)] w fun r w' => r = .returned (.tuple #[]) ∧ CkW w0 w' i s gg u lab G kb cc A n c m1 m2 m3 m4 L1 L2 := by
  have H := hide h
  have HN := hide hN
  have HO := hide hO
  obtain ⟨kl, k0, k1, k2, k3, k4, k7, k8, -⟩ := h.cells
  have HUN := hide hun
  obtain ⟨U, hU⟩ : ∃ U, u.nodes = U := ⟨_, rfl⟩
  rw [hU] at k8 hun
  have HU := hide hU
  have HD := hide hD
  clear h hU k0 k1 k2 k3 k4 k7 hN hO hD
  go_enter Tryz.func116, Tryz.ntmps116
  go_wp2_with fail
  clear k8 kl
  go_loopg [2] U (fun gh x2 wr => ∃ m : Nat, 1 ≤ m ∧ m ≤ U + 1 ∧ gh = U + 1 - m ∧ x2 = .int .i64 (m : Int) ∧ Hid (CkW w0 wr i s gg u lab G kb cc A n c m1 m2 m3 m4 L1 L2))
  case atStart => exact ⟨1, Nat.le_refl _, by omega, by omega, rfl, H⟩
  case round =>
    clear H
    obtain ⟨m, h1, hm, hgh, rfl, H⟩ := hrel
    have HGH := hide hgh
    clear hgh
    obtain ⟨kl, k0, k1, k2, k3, k4, k7, k8, k9, k10, k11, k12, k13, k14⟩ := H.out.cells
    rw [HU.out] at k8
    clear k0 k1 k3 k4 k7 k9 k10 k13
    rcases Nat.lt_or_ge U m with hgt | hle
    · have t1 : decide ((m : Int) ≤ (U : Int)) = false := by simp; omega
      have t1' : ¬ (m : Int) ≤ (U : Int) := by omega
      clear hgt hm h1
      go_wp2
      go_returns
      exact ⟨rfl, H.out⟩
    have t1 : decide ((m : Int) ≤ (U : Int)) = true := by simp; omega
    have t1' : (m : Int) ≤ (U : Int) := by omega
    have e64 : IntKind.i64.wrap ((m : Int) + 1) = (m : Int) + 1 := IntWalk.i64_in _ (by omega)
    have hlk := HN.out.look h1 (by rw [HU.out]; exact hle) HUN.out
    have hcs := HO.out.cases h1 (by rw [HU.out]; exact hle)
    have HKV := hide (show (.int .i64 (m : Int) : Value) = nkv (nk m) from (nkv_nk (by omega)).symm)
    have HLM := hide (And.intro h1 hle)
    have HM128 := hide (show m ≤ 128 from by have := HUN.out; have := HU.out; omega)
    have hnod := H.out.nod.is
    have HNOD := hide hnod
    clear hle hm h1 hnod
    rcases hcs with ⟨hm1, hn1⟩ | ⟨hne, hn1⟩ | ⟨hne, hk3, hn1⟩
    · rw [hn1] at hlk
      have HV := hide (show (if false = true then .tuple #[(mget L1 (nk m)).getD NodeV.zero.val, .bool (mget L1 (nk m)).isSome] else (mget L1 (nk m)).getD NodeV.zero.val) = Value.agg #[.int .u8 2, .int .u8 1, .int .u16 1, .int .u32 0, .int .u16 0, .int .u16 0, .int .u16 0, .int .u16 0, .int .u16 0, .int .u16 0, .int .u16 0, .int .u16 0] from by rw [hlk]; rfl)
      have hfl : ∀ W, (Instr.field 130 (.agg #[.int .u8 2, .int .u8 1, .int .u16 1, .int .u32 0, .int .u16 0, .int .u16 0, .int .u16 0, .int .u16 0, .int .u16 0, .int .u16 0, .int .u16 0, .int .u16 0]) 0).run Tryz.prog W = .ok (.int .u8 2) W := fun W => by kernel_rfl
      clear hlk
      have HM1 := hide hm1
      clear hm1 hn1
      go_wp2_with (first | ((with_reducible refine at_look 229 (.tmp 21) (.tmp 22) false ?_); refine wpList_lookup_map rfl 229 (.tmp 21) (.tmp 22) false rfl (nk m) (by rfl) HKV.out HNOD.out nEnc Tryz.underlying229 (zero_node _) _ HV.out ?_) | fail)
      have hl := dlists HD.out (by omega) (by rw [HU.out]; have := HLM.out; omega) wr H.out.ga
      rw [show ((1 : Nat) : Int) = (m : Int) from by rw [HM1.out]] at hl
      have HL := hide hl
      clear hl
      refine HL.out.mono ?_
      rintro e w2 ⟨A2, c2, rfl, -, ha2, ht2⟩
      have H2 := hide (H.out.step ha2 ht2)
      clear ha2 ht2 HL H HNOD kl k2 k8 k11 k12 k14 hfl
      have hmm := @run_makeMap Tryz.prog
      go_upto_region 8 with (fail)
      refine at_world (fun W => Below w2.heap.size w2 W) ((Below.refl _ _).alloc (Nat.le_refl _) _) (fun w3 h3 => ?_)
      have HX := hide (H2.out.below h3)
      clear h3 hmm H2
      go_wp2_with fail
      go_loopg [44] 0 (fun gh x44 wq => x44 = .int .i64 0 ∧ Hid (w3 = wq))
      case atStart => exact ⟨rfl, hide rfl⟩
      case round =>
        obtain ⟨rfl, HW⟩ := hrel
        have hww := HW.out
        subst hww
        go_wp2
        go_roundg (U + 1 - (m + 1))
        case rel => exact ⟨m + 1, by omega, by have := HLM.out; omega, rfl, by first | rfl | go_num, HX⟩
        case measure => have := HGH.out; have := HLM.out; omega
    · rw [if_pos hn1] at hlk
      have HV := hide (show (if false = true then .tuple #[(mget L1 (nk m)).getD NodeV.zero.val, .bool (mget L1 (nk m)).isSome] else (mget L1 (nk m)).getD NodeV.zero.val) = Value.agg NodeV.zero.cells.toArray from by rw [hlk]; rfl)
      have hfl : ∀ W, (Instr.field 130 (.agg NodeV.zero.cells.toArray) 0).run Tryz.prog W = .ok (.int .u8 0) W := fun W => by kernel_rfl
      have HX := H
      clear hlk hn1 hne
      go_wp2_with (first | ((with_reducible refine at_look 229 (.tmp 21) (.tmp 22) false ?_); refine wpList_lookup_map rfl 229 (.tmp 21) (.tmp 22) false rfl (nk m) (by rfl) HKV.out HNOD.out nEnc Tryz.underlying229 (zero_node _) _ HV.out ?_) | fail)
      go_roundg (U + 1 - (m + 1))
      case rel => exact ⟨m + 1, by omega, by have := HLM.out; omega, rfl, by first | rfl | go_num, HX⟩
      case measure => have := HGH.out; have := HLM.out; omega
    · rw [hn1] at hlk
      have HV := hide (show (if false = true then .tuple #[(mget L1 (nk m)).getD NodeV.zero.val, .bool (mget L1 (nk m)).isSome] else (mget L1 (nk m)).getD NodeV.zero.val) = Value.agg #[.int .u8 1, .int .u8 1, .int .u16 1, .int .u32 0, .int .u16 0, .int .u16 0, .int .u16 0, .int .u16 0, .int .u16 0, .int .u16 0, .int .u16 0, .int .u16 0] from by rw [hlk]; rfl)
      have hfl : ∀ W, (Instr.field 130 (.agg #[.int .u8 1, .int .u8 1, .int .u16 1, .int .u32 0, .int .u16 0, .int .u16 0, .int .u16 0, .int .u16 0, .int .u16 0, .int .u16 0, .int .u16 0, .int .u16 0]) 0).run Tryz.prog W = .ok (.int .u8 1) W := fun W => by kernel_rfl
      have HX := H
      clear hlk hn1 hne hk3
      go_wp2_with (first | ((with_reducible refine at_look 229 (.tmp 21) (.tmp 22) false ?_); refine wpList_lookup_map rfl 229 (.tmp 21) (.tmp 22) false rfl (nk m) (by rfl) HKV.out HNOD.out nEnc Tryz.underlying229 (zero_node _) _ HV.out ?_) | fail)
      go_roundg (U + 1 - (m + 1))
      case rel => exact ⟨m + 1, by omega, by have := HLM.out; omega, rfl, by first | rfl | go_num, HX⟩
      case measure => have := HGH.out; have := HLM.out; omega
set_option maxRecDepth 100000 in
set_option maxHeartbeats 8000000 in
theorem cklinks_ok {two : Bool} (h : CkW w0 w i s gg u lab G kb cc A n c m1 m2 m3 m4 L1 (namesTo 3)) (hN : NodL L1 G (u.nodes + 1)) (hO : Own3 G u two) (hun : u.nodes ≤ 128) :
    Calls Tryz.prog 117 #[.pointer (some ⟨kb, 0, none⟩)] w fun r w' => r = .returned (.tuple #[]) ∧ CkW w0 w' i s gg u lab G kb cc A n c m1 m2 m3 m4 L1 (namesTo 3) := by
  have H := hide h
  have HN := hide hN
  have HO := hide hO
  obtain ⟨kl, k0, k1, k2, k3, k4, k7, k8, -⟩ := h.cells
  have HUN := hide hun
  obtain ⟨U, hU⟩ : ∃ U, u.nodes = U := ⟨_, rfl⟩
  rw [hU] at k8 hun
  have HU := hide hU
  clear h hU k0 k1 k2 k3 k4 k7 hN hO
  go_enter Tryz.func117, Tryz.ntmps117
  go_wp2_with fail
  clear k8 kl
  go_loopg [2] U (fun gh x2 wr => ∃ m : Nat, 1 ≤ m ∧ m ≤ U + 1 ∧ gh = U + 1 - m ∧ x2 = .int .i64 (m : Int) ∧ Hid (CkW w0 wr i s gg u lab G kb cc A n c m1 m2 m3 m4 L1 (namesTo 3)))
  case atStart => exact ⟨1, Nat.le_refl _, by omega, by omega, rfl, H⟩
  case round =>
    clear H
    obtain ⟨m, h1, hm, hgh, rfl, H⟩ := hrel
    have HGH := hide hgh
    clear hgh
    obtain ⟨kl, k0, k1, k2, k3, k4, k7, k8, k9, k10, k11, k12, k13, k14⟩ := H.out.cells
    rw [HU.out] at k8
    clear k0 k1 k3 k4 k7 k9 k10 k13
    rcases Nat.lt_or_ge U m with hgt | hle
    · have t1 : decide ((m : Int) ≤ (U : Int)) = false := by simp; omega
      have t1' : ¬ (m : Int) ≤ (U : Int) := by omega
      clear hgt hm h1
      go_wp2
      go_returns
      exact ⟨rfl, H.out⟩
    have t1 : decide ((m : Int) ≤ (U : Int)) = true := by simp; omega
    have t1' : (m : Int) ≤ (U : Int) := by omega
    have e64 : IntKind.i64.wrap ((m : Int) + 1) = (m : Int) + 1 := IntWalk.i64_in _ (by omega)
    have hlk := HN.out.look h1 (by rw [HU.out]; exact hle) HUN.out
    have hcs := HO.out.cases h1 (by rw [HU.out]; exact hle)
    have HKV := hide (show (.int .i64 (m : Int) : Value) = nkv (nk m) from (nkv_nk (by omega)).symm)
    have HLM := hide (And.intro h1 hle)
    have HM128 := hide (show m ≤ 128 from by have := HUN.out; have := HU.out; omega)
    have hnod := H.out.nod.is
    have HNOD := hide hnod
    clear hle hm h1 hnod
    rcases hcs with ⟨hm1, hn1⟩ | ⟨hne, hn1⟩ | ⟨hne, hk3, hn1⟩
    · have hk3 : m ≤ 3 := by omega
      clear hm1
      rw [hn1] at hlk
      have HV := hide (show (if true = true then .tuple #[(mget L1 (nk m)).getD NodeV.zero.val, .bool (mget L1 (nk m)).isSome] else (mget L1 (nk m)).getD NodeV.zero.val) = Value.tuple #[.agg #[.int .u8 2, .int .u8 1, .int .u16 1, .int .u32 0, .int .u16 0, .int .u16 0, .int .u16 0, .int .u16 0, .int .u16 0, .int .u16 0, .int .u16 0, .int .u16 0], .bool true] from by rw [hlk]; rfl)
      clear hlk
      go_upto_region 4 with (first | ((with_reducible refine at_look 229 (.tmp 21) (.tmp 22) true ?_); refine wpList_lookup_map rfl 229 (.tmp 21) (.tmp 22) true rfl (nk m) (by rfl) HKV.out HNOD.out nEnc Tryz.underlying229 (zero_node _) _ HV.out ?_) | ((with_reducible refine at_alloc 130 ?_); refine wpList_alloc_as rfl 130 rfl _ (zero_node _) ?_) | ((with_reducible refine at_store 130 (.tmp 3) (.tmp 24) ?_); refine wpList_store_blk rfl 130 (.tmp 3) (.tmp 24) rfl wr.heap.size _ _ _ (by rfl) (by rfl) (Blk.new _ _ _) (size_fresh 2) rfl (NodeV.cells_one (freshN 2)) (fun _ => ?_)) | fail)
      refine at_world (fun W => ∃ q, q = wr.heap.size ∧ Below wr.heap.size wr W ∧ Blk W q 130 (freshCs 2)) ⟨_, rfl, below_setRow ((Below.refl _ _).alloc (Nat.le_refl _) _) (Nat.le_refl _) _, (Blk.new _ _ _).setRow_same _⟩ (fun w3 h3 => ?_)
      obtain ⟨q, hq, hb3, hQ3⟩ := h3
      rw [← hq]
      have H3 := hide (H.out.below hb3)
      have y0 : w3.cell? ⟨q, 0, none⟩ = some (.int .u8 2) := hQ3.cell 0
      have y1 : w3.cell? ⟨q, 1, none⟩ = some (.int .u8 1) := hQ3.cell 1
      have ql := hQ3.lt
      have hm2 := namesTo_get 3 m (by omega) (by have := HM128.out; omega)
      rw [if_pos ⟨HLM.out.1, hk3⟩] at hm2
      have HV2 := hide (show (if false = true then .tuple #[(mget (namesTo 3) (nk m)).getD (.int .i64 0), .bool (mget (namesTo 3) (nk m)).isSome] else (mget (namesTo 3) (nk m)).getD (.int .i64 0)) = Value.int .i64 1 from by rw [hm2]; rfl)
      have hnam := H3.out.nam.is
      have HNAM := hide hnam
      have habv := H3.out.abv.is
      have HABV := hide habv
      have HV4 := hide (show (if false = true then .tuple #[(mget ([] : List (NKey × Value)) (nk m)).getD (.int .i64 0), .bool (mget ([] : List (NKey × Value)) (nk m)).isSome] else (mget ([] : List (NKey × Value)) (nk m)).getD (.int .i64 0)) = Value.int .i64 0 from rfl)
      obtain ⟨kl, k0, k1, k2, k3, k4, k7, k8, k9, k10, k11, k12, k13, k14⟩ := H3.out.cells
      rw [HU.out] at k8
      clear hq hb3 hQ3 hm2 hnam habv H HNOD k0 k1 k2 k3 k4 k7 k9 k10 k11 k13
      go_upto_region 6 with (fail)
      refine wp_region_text [0, 0, 0, 0, 0, 0, 0, 0, 0, 0, 0, 0, 0, 0, 0, 0, 0, 0] (· = w3.drew) (by kernel_rfl) (by kernel_rfl) rfl ?_
      iterate 5 (refine wpOrd_q (v := ?_) (by rfl) (fun W hW => ?_) ?_; rotate_left; (focus ((cases hW; go_simp); try with_reducible rfl)); try simp only [Act.put, List.setIfInBounds_toArray, List.set_cons_zero, List.set_cons_succ])
      refine wpOrd_q (v := .int .i64 1) (by rfl) (fun W hW => by cases hW; refine exec_look (kv := nkv) (K := 3) (E := 3) (m := m2) (L := namesTo 3) (z := .int .i64 0) 230 (.tmp 39) (.tmp 40) false ?_ (nk m) ?_ ?_ ?_ ?_ ?_ ?_ _ ?_; all_goals first | with_reducible rfl | exact HKV.out | exact HNAM.out.keep rfl | exact nEnc | exact Tryz.underlying230 | exact zero_int _ | exact HV2.out | rfl) ?_
      try simp only [Act.put, List.setIfInBounds_toArray, List.set_cons_zero, List.set_cons_succ]
      iterate 5 (refine wpOrd_q (v := ?_) (by rfl) (fun W hW => ?_) ?_; rotate_left; (focus ((cases hW; go_simp); try with_reducible rfl)); try simp only [Act.put, List.setIfInBounds_toArray, List.set_cons_zero, List.set_cons_succ])
      iterate 7 (refine wpOrd_q (v := ?_) (by rfl) (fun W hW => ?_) ?_; rotate_left; (focus ((cases hW; go_simp); try with_reducible rfl)); try simp only [Act.put, List.setIfInBounds_toArray, List.set_cons_zero, List.set_cons_succ])
      refine wpOrd_nil ?_
      refine at_world (fun W => Below w3.heap.size w3 W) (Below.refl _ _).drew (fun w4 h4 => ?_)
      have HX := hide (H3.out.below h4)
      have HABV4 := hide (HABV.out.keep (h4.block m4 HABV.out.lt))
      clear h4 kl k8 k12 k14 y0 y1 ql H3 HNAM HABV
      obtain ⟨kl, k0, k1, k2, k3, k4, k7, k8, k9, k10, k11, k12, k13, k14⟩ := HX.out.cells
      rw [HU.out] at k8
      clear k0 k1 k2 k3 k4 k7 k9 k10 k11 k12 k13
      have t8 : decide ((U : Int) < 0) = false := by simp
      have t8' : ¬ (U : Int) < 0 := by omega
      go_upto_region 9 with (fail)
      go_loopg [6, 7] 0 (fun gh x6 x7 wq => x6 = .int .i64 (m : Int) ∧ x7 = .int .i64 0 ∧ Hid (w4 = wq))
      case atStart => exact ⟨rfl, rfl, hide rfl⟩
      case round =>
        obtain ⟨rfl, rfl, HW⟩ := hrel
        have hww := HW.out
        subst hww
        go_wp2_with (first | ((with_reducible refine at_look 230 (.tmp 61) (.tmp 62) false ?_); refine wpList_lookup_map rfl 230 (.tmp 61) (.tmp 62) false rfl (nk m) (by rfl) HKV.out HABV4.out nEnc Tryz.underlying230 (zero_int _) _ HV4.out ?_) | fail)
        go_roundg (U + 1 - (m + 1))
        case rel => exact ⟨m + 1, by omega, by have := HLM.out; omega, rfl, by first | rfl | go_num, HX⟩
        case measure => have := HGH.out; have := HLM.out; omega
    · rw [if_pos hn1] at hlk
      have HV := hide (show (if true = true then .tuple #[(mget L1 (nk m)).getD NodeV.zero.val, .bool (mget L1 (nk m)).isSome] else (mget L1 (nk m)).getD NodeV.zero.val) = Value.tuple #[.agg NodeV.zero.cells.toArray, .bool false] from by rw [hlk]; rfl)
      clear hlk hn1 hne
      go_upto_region 4 with (first | ((with_reducible refine at_look 229 (.tmp 21) (.tmp 22) true ?_); refine wpList_lookup_map rfl 229 (.tmp 21) (.tmp 22) true rfl (nk m) (by rfl) HKV.out HNOD.out nEnc Tryz.underlying229 (zero_node _) _ HV.out ?_) | ((with_reducible refine at_alloc 130 ?_); refine wpList_alloc_as rfl 130 rfl _ (zero_node _) ?_) | ((with_reducible refine at_store 130 (.tmp 3) (.tmp 24) ?_); refine wpList_store_blk rfl 130 (.tmp 3) (.tmp 24) rfl wr.heap.size _ _ _ (by rfl) (by rfl) (Blk.new _ _ _) (size_nodeOf (n := NodeV.zero) rfl) rfl (NodeV.cells_one _) (fun _ => ?_)) | fail)
      refine at_world (fun W => Below wr.heap.size wr W) (below_setRow ((Below.refl _ _).alloc (Nat.le_refl _) _) (Nat.le_refl _) _) (fun w3 h3 => ?_)
      have HX := hide (H.out.below h3)
      clear h3 kl k8 k11 H HNOD
      go_wp2
      go_roundg (U + 1 - (m + 1))
      case rel => exact ⟨m + 1, by omega, by have := HLM.out; omega, rfl, by first | rfl | go_num, HX⟩
      case measure => have := HGH.out; have := HLM.out; omega
    · clear hne
      rw [hn1] at hlk
      have HV := hide (show (if true = true then .tuple #[(mget L1 (nk m)).getD NodeV.zero.val, .bool (mget L1 (nk m)).isSome] else (mget L1 (nk m)).getD NodeV.zero.val) = Value.tuple #[.agg #[.int .u8 1, .int .u8 1, .int .u16 1, .int .u32 0, .int .u16 0, .int .u16 0, .int .u16 0, .int .u16 0, .int .u16 0, .int .u16 0, .int .u16 0, .int .u16 0], .bool true] from by rw [hlk]; rfl)
      clear hlk
      go_upto_region 4 with (first | ((with_reducible refine at_look 229 (.tmp 21) (.tmp 22) true ?_); refine wpList_lookup_map rfl 229 (.tmp 21) (.tmp 22) true rfl (nk m) (by rfl) HKV.out HNOD.out nEnc Tryz.underlying229 (zero_node _) _ HV.out ?_) | ((with_reducible refine at_alloc 130 ?_); refine wpList_alloc_as rfl 130 rfl _ (zero_node _) ?_) | ((with_reducible refine at_store 130 (.tmp 3) (.tmp 24) ?_); refine wpList_store_blk rfl 130 (.tmp 3) (.tmp 24) rfl wr.heap.size _ _ _ (by rfl) (by rfl) (Blk.new _ _ _) (size_fresh 1) rfl (NodeV.cells_one (freshN 1)) (fun _ => ?_)) | fail)
      refine at_world (fun W => ∃ q, q = wr.heap.size ∧ Below wr.heap.size wr W ∧ Blk W q 130 (freshCs 1)) ⟨_, rfl, below_setRow ((Below.refl _ _).alloc (Nat.le_refl _) _) (Nat.le_refl _) _, (Blk.new _ _ _).setRow_same _⟩ (fun w3 h3 => ?_)
      obtain ⟨q, hq, hb3, hQ3⟩ := h3
      rw [← hq]
      have H3 := hide (H.out.below hb3)
      have y0 : w3.cell? ⟨q, 0, none⟩ = some (.int .u8 1) := hQ3.cell 0
      have y1 : w3.cell? ⟨q, 1, none⟩ = some (.int .u8 1) := hQ3.cell 1
      have ql := hQ3.lt
      have hm2 := namesTo_get 3 m (by omega) (by have := HM128.out; omega)
      rw [if_pos ⟨HLM.out.1, hk3⟩] at hm2
      have HV2 := hide (show (if false = true then .tuple #[(mget (namesTo 3) (nk m)).getD (.int .i64 0), .bool (mget (namesTo 3) (nk m)).isSome] else (mget (namesTo 3) (nk m)).getD (.int .i64 0)) = Value.int .i64 1 from by rw [hm2]; rfl)
      have hnam := H3.out.nam.is
      have HNAM := hide hnam
      have habv := H3.out.abv.is
      have HABV := hide habv
      have HV4 := hide (show (if false = true then .tuple #[(mget ([] : List (NKey × Value)) (nk m)).getD (.int .i64 0), .bool (mget ([] : List (NKey × Value)) (nk m)).isSome] else (mget ([] : List (NKey × Value)) (nk m)).getD (.int .i64 0)) = Value.int .i64 0 from rfl)
      obtain ⟨kl, k0, k1, k2, k3, k4, k7, k8, k9, k10, k11, k12, k13, k14⟩ := H3.out.cells
      rw [HU.out] at k8
      clear hq hb3 hQ3 hm2 hnam habv H HNOD k0 k1 k2 k3 k4 k7 k9 k10 k11 k13
      go_upto_region 6 with (fail)
      refine wp_region_text [0, 0, 0, 0, 0, 0, 0, 0, 0, 0, 0, 0, 0, 0, 0, 0, 0, 0] (· = w3.drew) (by kernel_rfl) (by kernel_rfl) rfl ?_
      iterate 5 (refine wpOrd_q (v := ?_) (by rfl) (fun W hW => ?_) ?_; rotate_left; (focus ((cases hW; go_simp); try with_reducible rfl)); try simp only [Act.put, List.setIfInBounds_toArray, List.set_cons_zero, List.set_cons_succ])
      refine wpOrd_q (v := .int .i64 1) (by rfl) (fun W hW => by cases hW; refine exec_look (kv := nkv) (K := 3) (E := 3) (m := m2) (L := namesTo 3) (z := .int .i64 0) 230 (.tmp 39) (.tmp 40) false ?_ (nk m) ?_ ?_ ?_ ?_ ?_ ?_ _ ?_; all_goals first | with_reducible rfl | exact HKV.out | exact HNAM.out.keep rfl | exact nEnc | exact Tryz.underlying230 | exact zero_int _ | exact HV2.out | rfl) ?_
      try simp only [Act.put, List.setIfInBounds_toArray, List.set_cons_zero, List.set_cons_succ]
      iterate 5 (refine wpOrd_q (v := ?_) (by rfl) (fun W hW => ?_) ?_; rotate_left; (focus ((cases hW; go_simp); try with_reducible rfl)); try simp only [Act.put, List.setIfInBounds_toArray, List.set_cons_zero, List.set_cons_succ])
      iterate 2 (refine wpOrd_q (v := ?_) (by rfl) (fun W hW => ?_) ?_; rotate_left; (focus ((cases hW; go_simp); try with_reducible rfl)); try simp only [Act.put, List.setIfInBounds_toArray, List.set_cons_zero, List.set_cons_succ])
      iterate 3 (refine wpOrd_n (by rfl) ?_; try simp only [Act.put, List.setIfInBounds_toArray, List.set_cons_zero, List.set_cons_succ])
      iterate 2 (refine wpOrd_q (v := ?_) (by rfl) (fun W hW => ?_) ?_; rotate_left; (focus ((cases hW; go_simp); try with_reducible rfl)); try simp only [Act.put, List.setIfInBounds_toArray, List.set_cons_zero, List.set_cons_succ])
      refine wpOrd_nil ?_
      refine at_world (fun W => Below w3.heap.size w3 W) (Below.refl _ _).drew (fun w4 h4 => ?_)
      have HX := hide (H3.out.below h4)
      have HABV4 := hide (HABV.out.keep (h4.block m4 HABV.out.lt))
      clear h4 kl k8 k12 k14 y0 y1 ql H3 HNAM HABV
      obtain ⟨kl, k0, k1, k2, k3, k4, k7, k8, k9, k10, k11, k12, k13, k14⟩ := HX.out.cells
      rw [HU.out] at k8
      clear k0 k1 k2 k3 k4 k7 k9 k10 k11 k12 k13
      have t8 : decide ((U : Int) < 0) = false := by simp
      have t8' : ¬ (U : Int) < 0 := by omega
      go_upto_region 9 with (fail)
      go_loopg [6, 7] 0 (fun gh x6 x7 wq => x6 = .int .i64 (m : Int) ∧ x7 = .int .i64 0 ∧ Hid (w4 = wq))
      case atStart => exact ⟨rfl, rfl, hide rfl⟩
      case round =>
        obtain ⟨rfl, rfl, HW⟩ := hrel
        have hww := HW.out
        subst hww
        go_wp2_with (first | ((with_reducible refine at_look 230 (.tmp 61) (.tmp 62) false ?_); refine wpList_lookup_map rfl 230 (.tmp 61) (.tmp 62) false rfl (nk m) (by rfl) HKV.out HABV4.out nEnc Tryz.underlying230 (zero_int _) _ HV4.out ?_) | fail)
        go_roundg (U + 1 - (m + 1))
        case rel => exact ⟨m + 1, by omega, by have := HLM.out; omega, rfl, by first | rfl | go_num, HX⟩
        case measure => have := HGH.out; have := HLM.out; omega
end
end Go.Proofs.YthmkgohfeahdhaaGreat

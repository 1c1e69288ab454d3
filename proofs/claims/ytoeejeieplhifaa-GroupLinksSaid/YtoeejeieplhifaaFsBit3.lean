/- Bits in blocks, walked: Count. -/
import Derived.Test.YtoeejeieplhifaaFsBit2
namespace Go.Proofs.Ytoeejeieplhifaa
open Go.RowKit
set_option linter.unusedSimpArgs false
set_option linter.unusedVariables false

/-- how many bits are set -/
def Sto.cntBit (s : Sto) (f m : Nat) : Nat := ((List.range m).filter (s.bit f)).length
theorem cnt_succ (s : Sto) (f k : Nat) : s.cntBit f (k + 1) = s.cntBit f k + if s.bit f k then 1 else 0 := by
  unfold Sto.cntBit
  rw [List.range_succ, List.filter_append, List.length_append]
  cases h : s.bit f k <;> simp [h]
def bytec (v l : Nat) : Nat := ((List.range l).filter (fun j => v.testBit j)).length
theorem bytec_succ (v l : Nat) : bytec v (l + 1) = bytec v l + if v.testBit l then 1 else 0 := by
  unfold bytec
  rw [List.range_succ, List.filter_append, List.length_append]
  cases h : v.testBit l <;> simp [h]
theorem byte_cnt : ∀ x : Fin 256, ∀ l : Fin 9, Lib.onesCount (x.val % 2 ^ l.val) = bytec x.val l.val := by decide +kernel
theorem cnt_byte {s : Sto} {f k v : Nat} : ∀ l, (∀ j, j < l → s.bit f (k + j) = v.testBit j) → s.cntBit f (k + l) = s.cntBit f k + bytec v l
  | 0, _ => by simp [bytec]
  | l + 1, h => by
    rw [← Nat.add_assoc, cnt_succ, cnt_byte l (fun j hj => h j (by omega)), bytec_succ, h l (by omega), Nat.add_assoc]
theorem cnt_le (s : Sto) (f m : Nat) : s.cntBit f m ≤ m := by
  unfold Sto.cntBit
  have := List.length_filter_le (s.bit f) (List.range m)
  simpa using this
theorem bytec_le (v l : Nat) : bytec v l ≤ l := by
  unfold bytec
  have := List.length_filter_le (fun j => v.testBit j) (List.range l)
  simpa using this
theorem mask8 {v l : Nat} (hv : v < 256) (hl : l ≤ 8) : bits BinOp.and IntKind.u8 (v : Int) (((2 : Int) ^ l - 1) % 256) = ((v % 2 ^ l : Nat) : Int) := by
  have h : ∀ l : Fin 9, ((2 : Int) ^ l.val - 1) % 256 = ((2 ^ l.val - 1 : Nat) : Int) := by decide
  rw [h ⟨l, by omega⟩, and8 hv (by have := Nat.pow_le_pow_right (n := 2) (by decide) hl; simp only; omega), Nat.and_two_pow_sub_one_eq_mod]

section
variable {w w' : World} {i : Ids} {s : Sto}
set_option maxRecDepth 100000 in
set_option maxHeartbeats 1600000 in
theorem count_ok {bm f m : Nat} (h : TxAt w i s) (hB : BitsAt w bm i.tt f m) (hf : f ≤ 65536) (hm : m ≤ 65536) (hc : ∀ n, n * 512 < m → f + n < s.D.length) :
    Calls Try.prog 59 #[.pointer (some ⟨bm, 0, none⟩)] w fun e w' => e = .returned (.tuple #[.int .i64 (s.cntBit f m : Int), .int .i64 0]) ∧ TxAt w' i s ∧ Tch w.heap.size i.own w w' := by
  have HOWN := hide (hB.not_own h)
  have hbl := hB.lt
  have H := hide h
  have HC := hide hc
  have HB := hide hB
  clear h hc hB
  go_enter Try.func59, Try.ntmps59
  go_wp2_with fail
  go_loopg [4, 5] (m + 1) (fun gh x4 x5 wr => ∃ n : Nat, gh = m + 1 - n ∧ n ≤ m ∧ x4 = .int .i64 (s.cntBit f (min m (n * 512)) : Int) ∧ x5 = .int .i64 (n : Int) ∧ Hid (TxAt wr i s) ∧ Hid (BitsAt wr bm i.tt f m) ∧ Hid (Tch w.heap.size i.own w wr))
  case atStart => exact ⟨0, rfl, Nat.zero_le _, by simp [Sto.cntBit], rfl, H, HB, hide (Tch.refl _ _ _)⟩
  case round =>
    obtain ⟨n, hg, hnm, rfl, rfl, HX, HBM, HT⟩ := hrel
    have HG := hide hg
    clear hg
    have c0 := HBM.out.cell 0
    have c1 := HBM.out.cell 1
    have c2 := HBM.out.cell 2
    have cl := HBM.out.lt
    rcases Nat.lt_or_ge (n * 512) m with hn | hn
    · have e1 : IntKind.i64.wrap ((f : Int) + (n : Int)) = ((f + n : Nat) : Int) := by rw [IntWalk.i64_in _ (by omega)]; omega
      have hn2 : f + n < s.D.length := HC.out n hn
      obtain ⟨x, hx⟩ : ∃ x, s.at_ (f + n) = x := ⟨_, rfl⟩
      have hx64 : x.length = 64 := by rw [← hx]; exact Sto.at_length H.out.ok _
      have hget := fun (W : World) (hW : TxAt W i s) => get_ok hW hn2
      rw [hx] at hget
      have HBIT := hide (fun a j (ha : a < 64) (hj : j < 8) => bit_byte (s := s) (f := f) (n := n) ha hj)
      have HXB : Hid (∀ a j, a < 64 → j < 8 → s.bit f (n * 512 + a * 8 + j) = (x.getD a 0).toNat.testBit j) := hide (by rw [← hx]; exact HBIT.out)
      generalize f + n = fn at e1 hn2 hget
      have HGET := hide hget
      have HX64 := hide hx64
      clear hx hx64 hget HBIT hn2
      go_upto_region 7 with (fail)
      go_cut [6, 7] from 14 to 38 (fun x6 x7 wc => ∃ g, x6 = .pointer (some ⟨g, 0, none⟩) ∧ x7 = .int .i64 0 ∧ Hid (TxAt wc i s) ∧ Hid (BitsAt wc bm i.tt f m) ∧ Hid (Tch w.heap.size i.own w wc) ∧ Hid (Blk wc g 67 (bvs x).toArray))
      case first =>
        refine wp_region_tree (.q 0 (.q 1 (.q 2 (.q 3 (.q 4 (.q 5 (.q 6 (.q 7 (.q 8 (.q 9 (.q 10 (.q 11 (.br 12 (.q 13 (.q 14 (.q 15 (.x 16 (.x 17 (.q 18 .nil)))))) 16 (.x 12 (.q 13 (.q 14 (.q 15 (.x 17 (.q 18 .nil))))))))))))))))))) (fun W => BitsAt W bm i.tt f m ∧ TxAt W i s ∧ Tch w.heap.size i.own w W) (by kernel_rfl) (by kernel_rfl) ⟨HBM.out.drew, HX.out.below (Below.refl _ _).drew, HT.out.drew⟩ ?_
        iterate 12 (refine wpT_q (v := ?_) (by simp only [List.getElem?_toArray, List.getElem?_cons_succ, List.getElem?_cons_zero]; try rfl) (by rfl) (fun W hW => ?_) ?_; rotate_left; (focus ((have hc0 := hW.1.cell 0; have hc1 := hW.1.cell 1; go_simp); try with_reducible rfl)); try simp only [Act.put, List.setIfInBounds_toArray, List.set_cons_zero, List.set_cons_succ])
        refine wpT_br ?_ ?_
        · refine wpT_x (by simp only [List.getElem?_toArray, List.getElem?_cons_succ, List.getElem?_cons_zero]; try rfl) (by rfl) (fun K hK => ?_)
          go_simp
          simp only [meth_get]
          go_simp
          refine (HGET.out _ (HX.out.below (Below.refl _ _).drew)).mono ?_
          rintro e w2 ⟨rfl, hx2, ht2⟩
          have hdd : ¬ bm = i.dd := fun e => HOWN.out (.inr (.inr (.inl e)))
          have hB2 : BitsAt w2 bm i.tt f m := Blk.tch (w := wr.drew) HBM.out.drew ht2 HBM.out.lt hdd
          have hT2 : Tch w.heap.size i.own w w2 := HT.out.drew.trans ((ht2.own_dd).mono (by have := HT.out.size; exact this) fun _ _ h => h)
          refine hK _ _ _ (fun _ h => h) ⟨hB2, hx2, hT2⟩ ?_
          clear hK K
          try simp only [Act.put, List.setIfInBounds_toArray, List.set_cons_zero, List.set_cons_succ]
          iterate 3 (refine wpT_q (v := ?_) (by simp only [List.getElem?_toArray, List.getElem?_cons_succ, List.getElem?_cons_zero]; try rfl) (by rfl) (fun W hW => ?_) ?_; rotate_left; (focus ((go_simp); try with_reducible rfl)); try simp only [Act.put, List.setIfInBounds_toArray, List.set_cons_zero, List.set_cons_succ])
          refine wpT_x (by simp only [List.getElem?_toArray, List.getElem?_cons_succ, List.getElem?_cons_zero]; try rfl) (by rfl) (fun K hK => ?_)
          refine wp_alloc_as 67 rfl _ (zero_block _) ?_
          have hbl : Below w2.heap.size w2 (w2.alloc (.cells (bvs zeroB).toArray 67)) := (Below.refl _ _).alloc (Nat.le_refl _) _
          refine hK _ _ _ (fun _ h => h) ⟨Blk.below hB2 hbl hB2.lt, hx2.below hbl, hT2.alloc (Nat.le_refl _) _⟩ ?_
          clear hK K
          try simp only [Act.put, List.setIfInBounds_toArray, List.set_cons_zero, List.set_cons_succ]
          refine wpT_x (by simp only [List.getElem?_toArray, List.getElem?_cons_succ, List.getElem?_cons_zero]; try rfl) (by rfl) (fun K hK => ?_)
          refine wp_store_blk 67 (.tmp 6) (.tmp 37) rfl w2.heap.size 67 _ _ (by rfl) (by rfl) (Blk.new _ _ _) (size_blockOf HX64.out) ((bvs_size zeroB_length).trans (bvs_size HX64.out).symm) (bvs_oneCell _) (fun hG => ?_)
          have hgw : ¬ w2.heap.size < w.heap.size := by have := hT2.size; omega
          have hfin : (BitsAt ((w2.alloc (.cells (bvs zeroB).toArray 67)).setRow w2.heap.size (bvs x).toArray) bm i.tt f m ∧ TxAt ((w2.alloc (.cells (bvs zeroB).toArray 67)).setRow w2.heap.size (bvs x).toArray) i s ∧ Tch w.heap.size i.own w ((w2.alloc (.cells (bvs zeroB).toArray 67)).setRow w2.heap.size (bvs x).toArray)) :=
            ⟨Blk.below hB2 (below_setRow hbl (Nat.le_refl _) _) hB2.lt, hx2.below (below_setRow hbl (Nat.le_refl _) _), hT2.trans ((Tch.of_below (below_setRow hbl (Nat.le_refl _) _)).mono hT2.size fun _ _ h => h)⟩
          refine hK _ _ _ (fun _ h => h) hfin ?_
          have HF := hide hfin
          have HG2 := hide hG
          clear hK K hfin hG hB2 hx2 hT2 ht2 hbl
          try simp only [Act.put, List.setIfInBounds_toArray, List.set_cons_zero, List.set_cons_succ]
          iterate 1 (refine wpT_q (v := ?_) (by simp only [List.getElem?_toArray, List.getElem?_cons_succ, List.getElem?_cons_zero]; try rfl) (by rfl) (fun W hW => ?_) ?_; rotate_left; (focus ((go_simp); try with_reducible rfl)); try simp only [Act.put, List.setIfInBounds_toArray, List.set_cons_zero, List.set_cons_succ])
          refine wpT_nil ?_
          go_wp2
          go_meet
          case rel => exact ⟨_, rfl, rfl, hide HF.out.2.1, hide HF.out.1, hide HF.out.2.2, HG2⟩
        · refine wpT_x (by simp only [List.getElem?_toArray, List.getElem?_cons_succ, List.getElem?_cons_zero]; try rfl) (by rfl) (fun K hK => ?_)
          refine wp_alloc_as 67 rfl _ (zero_block _) ?_
          have hbl : Below wr.heap.size wr (wr.drew.alloc (.cells (bvs zeroB).toArray 67)) := (Below.refl _ _).drew.alloc (Nat.le_refl _) _
          have hB1 : BitsAt (wr.drew.alloc (.cells (bvs zeroB).toArray 67)) bm i.tt f m := Blk.below HBM.out hbl HBM.out.lt
          have hx1 := HX.out.below hbl
          have hT1 : Tch w.heap.size i.own w (wr.drew.alloc (.cells (bvs zeroB).toArray 67)) := HT.out.trans ((Tch.of_below hbl).mono HT.out.size fun _ _ h => h)
          have hG1 := Blk.new wr.drew 67 (bvs zeroB).toArray
          refine hK _ _ _ (fun _ h => h) ⟨hB1, hx1, hT1⟩ ?_
          clear hK K
          try simp only [Act.put, List.setIfInBounds_toArray, List.set_cons_zero, List.set_cons_succ]
          refine wpT_x (by simp only [List.getElem?_toArray, List.getElem?_cons_succ, List.getElem?_cons_zero]; try rfl) (by rfl) (fun K hK => ?_)
          go_simp
          simp only [meth_get]
          go_simp
          refine (HGET.out _ hx1).mono ?_
          rintro e w2 ⟨rfl, hx2, ht2⟩
          have hdd : ¬ bm = i.dd := fun e => HOWN.out (.inr (.inr (.inl e)))
          have hB2 : BitsAt w2 bm i.tt f m := Blk.tch hB1 ht2 hB1.lt hdd
          have hT2 : Tch w.heap.size i.own w w2 := hT1.trans ((ht2.own_dd).mono hT1.size fun _ _ h => h)
          have hgd : wr.heap.size ≠ i.dd := by have := HX.out.log.disk.dlt; omega
          have hG2 := hG1.tch ht2 hG1.lt hgd
          refine hK _ _ _ (fun _ h => h) ⟨hB2, hx2, hT2⟩ ?_
          clear hK K
          try simp only [Act.put, List.setIfInBounds_toArray, List.set_cons_zero, List.set_cons_succ]
          iterate 3 (refine wpT_q (v := ?_) (by simp only [List.getElem?_toArray, List.getElem?_cons_succ, List.getElem?_cons_zero]; try rfl) (by rfl) (fun W hW => ?_) ?_; rotate_left; (focus ((go_simp); try with_reducible rfl)); try simp only [Act.put, List.setIfInBounds_toArray, List.set_cons_zero, List.set_cons_succ])
          refine wpT_x (by simp only [List.getElem?_toArray, List.getElem?_cons_succ, List.getElem?_cons_zero]; try rfl) (by rfl) (fun K hK => ?_)
          refine wp_store_blk 67 (.tmp 6) (.tmp 37) rfl wr.heap.size 67 _ _ (by rfl) (by rfl) hG2 (size_blockOf HX64.out) ((bvs_size zeroB_length).trans (bvs_size HX64.out).symm) (bvs_oneCell _) (fun hG => ?_)
          have hfin : BitsAt (w2.setRow wr.heap.size (bvs x).toArray) bm i.tt f m ∧ TxAt (w2.setRow wr.heap.size (bvs x).toArray) i s ∧ Tch w.heap.size i.own w (w2.setRow wr.heap.size (bvs x).toArray) :=
            ⟨Blk.setRow_far hB2 (by have := HBM.out.lt; omega) _, HX.out.setRow_new (Nat.le_refl _) hx2 _, hT2.trans (Tch.setRow fun hp => absurd hp (by have := HT.out.size; omega))⟩
          refine hK _ _ _ (fun _ h => h) hfin ?_
          have HF := hide hfin
          have HG2 := hide hG
          clear hK K hfin hG hB2 hx2 hT2 ht2 hbl hG2 hG1 hx1 hB1 hT1
          try simp only [Act.put, List.setIfInBounds_toArray, List.set_cons_zero, List.set_cons_succ]
          iterate 1 (refine wpT_q (v := ?_) (by simp only [List.getElem?_toArray, List.getElem?_cons_succ, List.getElem?_cons_zero]; try rfl) (by rfl) (fun W hW => ?_) ?_; rotate_left; (focus ((go_simp); try with_reducible rfl)); try simp only [Act.put, List.setIfInBounds_toArray, List.set_cons_zero, List.set_cons_succ])
          refine wpT_nil ?_
          go_wp2
          go_meet
          case rel => exact ⟨_, rfl, rfl, hide HF.out.2.1, hide HF.out.1, hide HF.out.2.2, HG2⟩
      case rest =>
        obtain ⟨g, rfl, rfl, HX2, HBM2, HT2, HG2⟩ := hcut
        clear c0 c1 c2 cl
        have HC0 := hide (HBM2.out.cell 0)
        have c2 := HBM2.out.cell 2
        have cl := HBM2.out.lt
        have hgl := HG2.out.lt
        obtain ⟨S0, hS0⟩ : ∃ S0, s.cntBit f (min m (n * 512)) = S0 := ⟨_, rfl⟩
        rw [hS0]
        have HS0 := hide hS0
        clear hS0
        go_wp2_with (first | ((with_reducible refine at_load 67 (.tmp 6) ?_); refine wpList_load_blk rfl 67 (.tmp 6) rfl g 67 _ _ (by rfl) HG2.out Try.underlying67 rfl (size_blockOf HX64.out) ?_) | fail)
        go_loopg [4, 43] 64 (fun gh x4 x43 wr2 => ∃ (a cn : Nat), gh = 64 - a ∧ a ≤ 64 ∧ wr2 = wc ∧ x43 = .int .i64 (a : Int) ∧ x4 = .int .i64 (cn : Int) ∧ Hid (s.cntBit f (min m (n * 512 + a * 8)) = cn))
        case atStart => exact ⟨0, S0, rfl, Nat.zero_le _, rfl, rfl, rfl, hide (by simpa using HS0.out)⟩
        case round =>
          obtain ⟨a, cn, hga, ha64, rfl, rfl, rfl, HCN⟩ := hrel
          have HGA := hide hga
          clear hga
          have hcn : cn ≤ 65536 := by rw [← HCN.out]; exact Nat.le_trans (cnt_le _ _ _) (by omega)
          rcases Nat.lt_or_ge a 64 with ha | ha
          · have haz : (a : Int) < 64 := by omega
            have hcell : (bvs x).toArray[a]? = some (.int .u8 ((x.getD a 0).toNat : Int)) := by
              rw [List.getElem?_toArray, bvs_get, List.getD_eq_getElem?_getD, List.getElem?_eq_getElem (by have := HX64.out; omega)]
              rfl
            have HCE := hide hcell
            have hb := fun j (hj : j < 8) => HXB.out a j ha hj
            have hv256 : (x.getD a 0).toNat < 256 := (x.getD a 0).toNat_lt
            clear hcell
            generalize (x.getD a 0).toNat = v at HCE hb hv256
            have w1 : IntKind.i64.wrap ((n : Int) * 512 + (a : Int) * 8) = (n : Int) * 512 + (a : Int) * 8 := IntWalk.i64_in _ (by omega)
            have w2 : IntKind.i64.wrap ((m : Int) - ((n : Int) * 512 + (a : Int) * 8)) = (m : Int) - ((n : Int) * 512 + (a : Int) * 8) := IntWalk.i64_in _ (by omega)
            -- how many of the byte's bits count
            obtain ⟨l, hl8, hl⟩ : ∃ l, l ≤ 8 ∧ l = min 8 (m - (n * 512 + a * 8)) := ⟨_, by omega, rfl⟩
            have hcl : s.cntBit f (min m (n * 512 + (a + 1) * 8)) = cn + bytec v l := by
              rcases Nat.lt_or_ge m (n * 512 + a * 8) with h9 | h9
              · have : l = 0 := by omega
                subst this
                rw [show min m (n * 512 + (a + 1) * 8) = min m (n * 512 + a * 8) from by omega, HCN.out]
                simp [bytec]
              · rw [show min m (n * 512 + (a + 1) * 8) = n * 512 + a * 8 + l from by omega, cnt_byte l (fun j hj => hb j (by omega))]
                have := HCN.out
                rw [show min m (n * 512 + a * 8) = n * 512 + a * 8 from by omega] at this
                rw [this]
            have hoc : Lib.onesCount (v % 2 ^ l) = bytec v l := byte_cnt ⟨v, hv256⟩ ⟨l, by omega⟩
            have hbl2 := bytec_le v l
            have HON := hide (fun (W : World) => Try.bits_OnesCount8 ((v % 2 ^ l : Nat) : Int) W (by omega) (by have := Nat.mod_le v (2 ^ l); omega))
            have hon := HON.out
            rw [show (((v % 2 ^ l : Nat) : Int)).toNat = v % 2 ^ l from by omega, hoc] at hon
            have hms := mask8 hv256 hl8
            generalize bytec v l = bc at hcl hon hbl2
            have hcw : IntKind.i64.wrap ((cn : Int) + (bc : Int)) = ((cn + bc : Nat) : Int) := by rw [IntWalk.i64_in _ (by omega)]; omega
            have HCL := hide hcl
            have HO2 := hide hon
            clear hb hcl hoc HON hon
            rcases Nat.lt_or_ge m (n * 512 + a * 8 + 8) with h8 | h8
            · have hd : decide ((m : Int) - ((n : Int) * 512 + (a : Int) * 8) < 8) = true := by simp; omega
              rcases Nat.lt_or_ge (n * 512 + a * 8) m with h7 | h7
              · have hlz : (m : Int) - ((n : Int) * 512 + (a : Int) * 8) = (l : Int) := by omega
                have hl0 : decide ((l : Int) < 0) = false := by simp
                have hl8d : decide ((l : Int) < 8) = true := by simp; omega
                have hmin : min l 8 = l := by omega
                rw [hlz] at w2 hd
                clear hl
                generalize v % 2 ^ l = y at hms HO2
                go_wp2_with (first | ((with_reducible refine at_index 67 (.tmp 42) (.tmp 43) ?_); refine wpList_index_arr rfl 67 5 (.tmp 42) (.tmp 43) rfl 64 a .i64 .u8 _ _ (by rfl) (by rfl) ha HCE.out Try.underlying67 Try.underlying5 (by kernel_rfl) ?_) | fail)
                refine (HO2.out _).mono ?_
                rintro e w5 ⟨rfl, rfl⟩
                go_wp2
                go_roundg (64 - (a + 1))
                case rel => exact ⟨a + 1, _, rfl, by omega, rfl, by go_num, rfl, HCL⟩
                case measure => have := HGA.out; omega
              · have hl2 : l = 0 := by omega
                subst hl2
                have hmx : (max ((m : Int) - ((n : Int) * 512 + (a : Int) * 8)) 0).toNat = 0 := by omega
                have hm0 : bits BinOp.and IntKind.u8 (v : Int) (((2 : Int) ^ (max ((m : Int) - ((n : Int) * 512 + (a : Int) * 8)) 0).toNat - 1) % 256) = ((v % 2 ^ 0 : Nat) : Int) := by rw [hmx]; exact hms
                generalize v % 2 ^ 0 = y at hm0 HO2
                clear hl hms hmx
                go_wp2_with (first | ((with_reducible refine at_index 67 (.tmp 42) (.tmp 43) ?_); refine wpList_index_arr rfl 67 5 (.tmp 42) (.tmp 43) rfl 64 a .i64 .u8 _ _ (by rfl) (by rfl) ha HCE.out Try.underlying67 Try.underlying5 (by kernel_rfl) ?_) | fail)
                refine (HO2.out _).mono ?_
                rintro e w5 ⟨rfl, rfl⟩
                go_wp2
                go_roundg (64 - (a + 1))
                case rel => exact ⟨a + 1, _, rfl, by omega, rfl, by go_num, rfl, HCL⟩
                case measure => have := HGA.out; omega
            · have hl2 : l = 8 := by omega
              subst hl2
              have hv8 : v % 2 ^ 8 = v := Nat.mod_eq_of_lt hv256
              rw [hv8] at HO2
              have hd : decide ((m : Int) - ((n : Int) * 512 + (a : Int) * 8) < 8) = false := by simp; omega
              clear hms hv8 hl
              go_wp2_with (first | ((with_reducible refine at_index 67 (.tmp 42) (.tmp 43) ?_); refine wpList_index_arr rfl 67 5 (.tmp 42) (.tmp 43) rfl 64 a .i64 .u8 _ _ (by rfl) (by rfl) ha HCE.out Try.underlying67 Try.underlying5 (by kernel_rfl) ?_) | fail)
              refine (HO2.out _).mono ?_
              rintro e w5 ⟨rfl, rfl⟩
              go_wp2
              go_roundg (64 - (a + 1))
              case rel => exact ⟨a + 1, _, rfl, by omega, rfl, by go_num, rfl, HCL⟩
              case measure => have := HGA.out; omega
          · have hA3 : a = 64 := by omega
            have haf : decide ((a : Int) < 64) = false := by simp; omega
            go_wp2
            go_roundg (m + 1 - (n + 1))
            case rel => exact ⟨n + 1, rfl, by omega, by have := HCN.out; rw [show n * 512 + a * 8 = (n + 1) * 512 from by omega] at this; rw [this], by go_num, HX2, HBM2, HT2⟩
            case measure => have := HG.out; omega
    · go_wp2
      go_returns
      refine ⟨?_, HX.out, HT.out⟩
      rw [show min m (n * 512) = m from by omega]
      rfl
end
end Go.Proofs.Ytoeejeieplhifaa

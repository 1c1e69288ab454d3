/- Bits in blocks, walked: Has, Free, Count. -/
import Derived.Test.YtoeejeieplhifaaFsBits
import Derived.Test.YtoeejeieplhifaaFsShelf
namespace Go.Proofs.Ytoeejeieplhifaa
open Go.RowKit
set_option linter.unusedSimpArgs false
set_option linter.unusedVariables false

/-- the first bit that isn't set -/
def Sto.freeBit (s : Sto) (f m : Nat) : Option Nat := (List.range m).find? fun k => !s.bit f k
def optI : Option Nat → Int
  | some k => (k : Int)
  | none => -1
theorem free_none {s : Sto} {f m : Nat} (h : ∀ k, k < m → s.bit f k = true) : s.freeBit f m = none := by
  unfold Sto.freeBit
  rw [List.find?_eq_none]
  intro k hk
  simp [h k (List.mem_range.1 hk)]
theorem free_some {s : Sto} {f m k : Nat} (hk : k < m) (h0 : s.bit f k = false) (h : ∀ j, j < k → s.bit f j = true) : s.freeBit f m = some k := by
  unfold Sto.freeBit
  rw [List.find?_eq_some_iff_append]
  refine ⟨by simp [h0], List.range k, (List.range (m - k - 1)).map (· + (k + 1)), ?_, ?_⟩
  · apply List.ext_getElem?
    intro j
    by_cases h1 : j < k
    · rw [List.getElem?_append_left (by simpa using h1)]
      simp [List.getElem?_range, h1, show j < m by omega]
    · by_cases h2 : j = k
      · subst h2
        simp [hk]
      · rw [List.getElem?_append_right (by simp; omega), List.length_range, show j - k = (j - k - 1) + 1 from by omega, List.getElem?_cons_succ]
        by_cases h3 : j < m
        · simp [List.getElem?_range, h3, show j - k - 1 < m - k - 1 by omega]; omega
        · simp [show ¬ j < m from h3, show ¬ j - k - 1 < m - k - 1 by omega]
  · intro j hj
    simp [h j (List.mem_range.1 hj)]
theorem byte_free : ∀ x : Fin 256, x.val ≠ 255 → Lib.trailingZeros8 (255 - x.val) < 8 ∧ x.val.testBit (Lib.trailingZeros8 (255 - x.val)) = false ∧ ∀ j, j < Lib.trailingZeros8 (255 - x.val) → x.val.testBit j = true := by
  have h : ∀ x : Fin 256, x.val ≠ 255 → Lib.trailingZeros8 (255 - x.val) < 8 ∧ x.val.testBit (Lib.trailingZeros8 (255 - x.val)) = false ∧ ∀ j : Fin 8, j.val < Lib.trailingZeros8 (255 - x.val) → x.val.testBit j.val = true := by decide +kernel
  intro x hx
  obtain ⟨h1, h2, h3⟩ := h x hx
  exact ⟨h1, h2, fun j hj => h3 ⟨j, by omega⟩ hj⟩
theorem byte_full {j : Nat} (hj : j < 8) : (255 : Nat).testBit j = true := by
  have : ∀ j : Fin 8, (255 : Nat).testBit j.val = true := by decide
  exact this ⟨j, hj⟩
theorem byte_not {v : Nat} (hv : v < 256) : bits BinOp.xor IntKind.u8 IntKind.u8.max (v : Int) = 255 - (v : Int) := by
  have h : ∀ x : Fin 256, 255 ^^^ x.val = 255 - x.val := by decide +kernel
  have := xor8 (a := 255) (b := v) (by decide) hv
  rw [show ((255 : Nat) : Int) = IntKind.u8.max from rfl] at this
  have h2 : 255 ^^^ v = 255 - v := h ⟨v, hv⟩
  rw [this, h2]
  omega
/-- the bits of one byte -/
theorem bit_byte {s : Sto} {f n a j : Nat} (ha : a < 64) (hj : j < 8) : s.bit f (n * 512 + a * 8 + j) = ((s.at_ (f + n)).getD a 0).toNat.testBit j := by
  unfold Sto.bit bitB
  rw [show (n * 512 + a * 8 + j) / 512 = n from by omega, show (n * 512 + a * 8 + j) % 512 / 8 = a from by omega, show (n * 512 + a * 8 + j) % 512 % 8 = j from by omega]

section
variable {w w' : World} {i : Ids} {s : Sto}
theorem BitsAt.not_own {bm f m : Nat} (h : TxAt w i s) (hB : BitsAt w bm i.tt f m) : ¬ i.own bm := h.other hB (by decide) (by decide) (by decide)

set_option maxRecDepth 100000 in
set_option maxHeartbeats 800000 in
theorem has_bit {bm f m k : Nat} (h : TxAt w i s) (hB : BitsAt w bm i.tt f m) (hf : f ≤ 65536) (hm : m ≤ 65536) (hk : k < m) (hc : f + k / 512 < s.D.length) :
    Calls Try.prog 65 #[.pointer (some ⟨bm, 0, none⟩), .int .i64 (k : Int)] w fun e w' => e = .returned (.tuple #[.bool (s.bit f k), .int .i64 0]) ∧ TxAt w' i s ∧ Tch w.heap.size i.own w w' := by
  have k0 : decide ((k : Int) < 0) = false := by simp
  have k1 : decide (m ≤ k) = false := by simpa using hk
  have c0 := hB.cell 0
  have c2 := hB.cell 2
  have cl := hB.lt
  go_enter Try.func65, Try.ntmps65
  have hp := place_ok hB hf (k := k) (by omega)
  obtain ⟨n, hn⟩ : ∃ n, f + k / 512 = n := ⟨_, rfl⟩
  obtain ⟨q, hq⟩ : ∃ q, k / 8 % 64 = q := ⟨_, rfl⟩
  obtain ⟨p, hpp⟩ : ∃ p, 2 ^ (k % 8) = p := ⟨_, rfl⟩
  rw [hn, hq, hpp] at hp
  rw [hn] at hc
  have hq64 : (q : Int) < 64 := by omega
  have hx64 : (s.at_ n).length = 64 := Sto.at_length h.ok n
  have hbit : s.bit f k = ((s.at_ n).getD q 0).toNat.testBit (k % 8) := by
    unfold Sto.bit bitB
    rw [hn, show k % 512 / 8 = q from by omega, show k % 512 % 8 = k % 8 from by omega]
  have hand : bits BinOp.and IntKind.u8 (((s.at_ n).getD q 0).toNat : Int) (p : Int) = if ((s.at_ n).getD q 0).toNat.testBit (k % 8) then (p : Int) else 0 := by
    rw [and8 ((s.at_ n).getD q 0).toNat_lt (by rw [← hpp]; exact pow8 (Nat.mod_lt _ (by decide))), ← hpp, and_pow _ (Nat.mod_lt _ (by decide))]
    split <;> rfl
  have hp0 : ((p : Int) == 0) = false := by
    have : 0 < p := by rw [← hpp]; exact Nat.two_pow_pos _
    simp; omega
  have hcell : (bvs (s.at_ n)).toArray[q]? = some (.int .u8 (((s.at_ n).getD q 0).toNat : Int)) := by
    rw [List.getElem?_toArray, bvs_get, List.getD_eq_getElem?_getD, List.getElem?_eq_getElem (by omega)]
    rfl
  generalize ((s.at_ n).getD q 0).toNat = av at hand hcell hbit
  generalize hxx : s.at_ n = x at *
  generalize av.testBit (k % 8) = bt at *
  have hon : ((if bt = true then (p : Int) else 0) == 0) = !bt := by cases bt <;> simp [hp0]
  have hne : ((if bt = true then (p : Int) else 0) != 0) = bt := by cases bt <;> simp [hp0, bne]
  generalize (if bt = true then (p : Int) else 0) = z at hand hon hne
  have HBIT := hide hbit
  clear hn hq hpp hbit
  have HC := hide hc
  have H := hide h
  have HX := hide hx64
  have HXX := hide hxx
  have HCE := hide hcell
  clear hc hx64 hxx hcell h
  go_wp2_with fail
  refine hp.mono ?_
  rintro e w1 ⟨rfl, hb1⟩
  have hB1 : BitsAt w1 bm i.tt f m := Blk.below hB hb1 hB.lt
  clear c0 c2 cl hp
  have c0 := hB1.cell 0
  have cl := hB1.lt
  have HB1 := hide (And.intro hb1 hB1)
  clear hb1 hB hB1
  go_wp2_with fail
  refine (get_ok (H.out.below HB1.out.1) HC.out).mono ?_
  rw [HXX.out]
  rintro e w2 ⟨rfl, hx2, ht2⟩
  have HT2 := hide (And.intro hx2 ((Tch.of_below (S := i.own) HB1.out.1).trans (ht2.own_dd.mono HB1.out.1.size fun _ _ h => h)))
  clear hx2 ht2 c0 cl
  go_upto_region 7 with (first | ((with_reducible refine at_alloc 67 ?_); refine wpList_alloc_as rfl 67 rfl _ (zero_block _) ?_) | ((with_reducible refine at_store 67 (.tmp 9) (.tmp 39) ?_); refine wpList_store_blk rfl 67 (.tmp 9) (.tmp 39) rfl w2.heap.size 67 _ _ (by rfl) (by rfl) (Blk.new _ _ _) (size_blockOf HX.out) ((bvs_size zeroB_length).trans (bvs_size HX.out).symm) (bvs_oneCell _) (fun _ => ?_)) | fail)
  refine at_world (fun W => ∃ g, g = w2.heap.size ∧ Below w2.heap.size w2 W ∧ Blk W g 67 (bvs x).toArray) ⟨_, rfl, below_setRow ((Below.refl _ _).alloc (Nat.le_refl _) _) (Nat.le_refl _) _, (Blk.new _ _ _).setRow_same _⟩ (fun w3 h3 => ?_)
  obtain ⟨g, hg, hb3, hG3⟩ := h3
  rw [← hg]
  have HB3 := hide hb3
  clear hg hb3
  have kq := (hG3.cell q).trans HCE.out
  have kl := hG3.lt
  clear hG3
  go_wp2
  go_returns
  refine ⟨by rw [HBIT.out]; rfl, HT2.out.1.below HB3.out, HT2.out.2.trans (Tch.of_below (HB3.out.mono HT2.out.2.size))⟩

theorem meth_get (n tt : Nat) (w : World) : (method (n + 1) 32 (.pointer (some ⟨tt, 0, none⟩)) "Get").run Try.prog w = .ok (66, .pointer (some ⟨tt, 0, none⟩)) w := by kernel_rfl
theorem meth_put (n tt : Nat) (w : World) : (method (n + 1) 32 (.pointer (some ⟨tt, 0, none⟩)) "Put").run Try.prog w = .ok (53, .pointer (some ⟨tt, 0, none⟩)) w := by kernel_rfl

set_option maxRecDepth 100000 in
set_option maxHeartbeats 1600000 in
theorem free_ok {bm f m : Nat} (h : TxAt w i s) (hB : BitsAt w bm i.tt f m) (hf : f ≤ 65536) (hm : m ≤ 65536) (hc : ∀ n, n * 512 < m → f + n < s.D.length) :
    Calls Try.prog 51 #[.pointer (some ⟨bm, 0, none⟩)] w fun e w' => e = .returned (.tuple #[.int .i64 (optI (s.freeBit f m)), .int .i64 0]) ∧ TxAt w' i s ∧ Tch w.heap.size i.own w w' := by
  have HOWN := hide (hB.not_own h)
  have hbl := hB.lt
  have H := hide h
  have HC := hide hc
  have HB := hide hB
  clear h hc hB
  go_enter Try.func51, Try.ntmps51
  go_wp2_with fail
  go_loopg [4] (m + 1) (fun gh x4 wr => ∃ n : Nat, gh = m + 1 - n ∧ n ≤ m ∧ x4 = .int .i64 (n : Int) ∧ Hid (TxAt wr i s) ∧ Hid (BitsAt wr bm i.tt f m) ∧ Hid (Tch w.heap.size i.own w wr) ∧ Hid (∀ k, k < n * 512 → s.bit f k = true))
  case atStart => exact ⟨0, rfl, Nat.zero_le _, rfl, H, HB, hide (Tch.refl _ _ _), hide (fun k hk => by omega)⟩
  case round =>
    obtain ⟨n, hg, hnm, rfl, HX, HBM, HT, HA⟩ := hrel
    have HG := hide hg
    clear hg
    have c0 := HBM.out.cell 0
    have c1 := HBM.out.cell 1
    have c2 := HBM.out.cell 2
    have cl := HBM.out.lt
    rcases Nat.lt_or_ge (n * 512) m with hn | hn
    · have e1 : IntKind.i64.wrap ((f : Int) + (n : Int)) = ((f + n : Nat) : Int) := by rw [IntWalk.i64_in _ (by omega)]; omega
      have hn2 : f + n < s.D.length := HC.out n hn
      obtain ⟨x, hx⟩ : ∃ x, s.at_ (f + n) = x := ⟨_, rfl⟩
      have hx64 : x.length = 64 := by rw [← hx]; exact Sto.at_length H.out.ok _
      have hget := fun (W : World) (hW : TxAt W i s) => get_ok hW hn2
      rw [hx] at hget
      have HBIT := hide (fun a j (ha : a < 64) (hj : j < 8) => bit_byte (s := s) (f := f) (n := n) ha hj)
      have HXB : Hid (∀ a j, a < 64 → j < 8 → s.bit f (n * 512 + a * 8 + j) = (x.getD a 0).toNat.testBit j) := hide (by rw [← hx]; exact HBIT.out)
      generalize f + n = fn at e1 hn2 hget
      have HGET := hide hget
      have HX64 := hide hx64
      clear hx hx64 hget HBIT hn2
      go_upto_region 6 with (fail)
      go_cut [5, 6] from 12 to 36 (fun x5 x6 wc => ∃ g, x5 = .pointer (some ⟨g, 0, none⟩) ∧ x6 = .int .i64 0 ∧ Hid (TxAt wc i s) ∧ Hid (BitsAt wc bm i.tt f m) ∧ Hid (Tch w.heap.size i.own w wc) ∧ Hid (Blk wc g 67 (bvs x).toArray))
      case first =>
        refine wp_region_tree (.q 0 (.q 1 (.q 2 (.q 3 (.q 4 (.q 5 (.q 6 (.q 7 (.q 8 (.q 9 (.q 10 (.q 11 (.br 12 (.q 13 (.q 14 (.q 15 (.x 16 (.x 17 (.q 18 .nil)))))) 16 (.x 12 (.q 13 (.q 14 (.q 15 (.x 17 (.q 18 .nil))))))))))))))))))) (fun W => BitsAt W bm i.tt f m ∧ TxAt W i s ∧ Tch w.heap.size i.own w W) (by kernel_rfl) (by kernel_rfl) ⟨HBM.out.drew, HX.out.below (Below.refl _ _).drew, HT.out.drew⟩ ?_
        iterate 12 (refine wpT_q (v := ?_) (by simp only [List.getElem?_toArray, List.getElem?_cons_succ, List.getElem?_cons_zero]; try rfl) (by rfl) (fun W hW => ?_) ?_; rotate_left; (focus ((have hc0 := hW.1.cell 0; have hc1 := hW.1.cell 1; go_simp); try with_reducible rfl)); try simp only [Act.put, List.setIfInBounds_toArray, List.set_cons_zero, List.set_cons_succ])
        refine wpT_br ?_ ?_
        · refine wpT_x (by simp only [List.getElem?_toArray, List.getElem?_cons_succ, List.getElem?_cons_zero]; try rfl) (by rfl) (fun K hK => ?_)
          go_simp
          simp only [meth_get]
          go_simp
          refine (HGET.out _ (HX.out.below (Below.refl _ _).drew)).mono ?_
          rintro e w2 ⟨rfl, hx2, ht2⟩
          have hdd : ¬ bm = i.dd := fun e => HOWN.out (.inr (.inr (.inl e)))
          have hB2 : BitsAt w2 bm i.tt f m := Blk.tch (w := wr.drew) HBM.out.drew ht2 HBM.out.lt hdd
          have hT2 : Tch w.heap.size i.own w w2 := HT.out.drew.trans ((ht2.own_dd).mono (by have := HT.out.size; exact this) fun _ _ h => h)
          refine hK _ _ _ (fun _ h => h) ⟨hB2, hx2, hT2⟩ ?_
          clear hK K
          try simp only [Act.put, List.setIfInBounds_toArray, List.set_cons_zero, List.set_cons_succ]
          iterate 3 (refine wpT_q (v := ?_) (by simp only [List.getElem?_toArray, List.getElem?_cons_succ, List.getElem?_cons_zero]; try rfl) (by rfl) (fun W hW => ?_) ?_; rotate_left; (focus ((go_simp); try with_reducible rfl)); try simp only [Act.put, List.setIfInBounds_toArray, List.set_cons_zero, List.set_cons_succ])
          refine wpT_x (by simp only [List.getElem?_toArray, List.getElem?_cons_succ, List.getElem?_cons_zero]; try rfl) (by rfl) (fun K hK => ?_)
          refine wp_alloc_as 67 rfl _ (zero_block _) ?_
          have hbl : Below w2.heap.size w2 (w2.alloc (.cells (bvs zeroB).toArray 67)) := (Below.refl _ _).alloc (Nat.le_refl _) _
          refine hK _ _ _ (fun _ h => h) ⟨Blk.below hB2 hbl hB2.lt, hx2.below hbl, hT2.alloc (Nat.le_refl _) _⟩ ?_
          clear hK K
          try simp only [Act.put, List.setIfInBounds_toArray, List.set_cons_zero, List.set_cons_succ]
          refine wpT_x (by simp only [List.getElem?_toArray, List.getElem?_cons_succ, List.getElem?_cons_zero]; try rfl) (by rfl) (fun K hK => ?_)
          refine wp_store_blk 67 (.tmp 5) (.tmp 35) rfl w2.heap.size 67 _ _ (by rfl) (by rfl) (Blk.new _ _ _) (size_blockOf HX64.out) ((bvs_size zeroB_length).trans (bvs_size HX64.out).symm) (bvs_oneCell _) (fun hG => ?_)
          have hgw : ¬ w2.heap.size < w.heap.size := by have := hT2.size; omega
          have hfin : (BitsAt ((w2.alloc (.cells (bvs zeroB).toArray 67)).setRow w2.heap.size (bvs x).toArray) bm i.tt f m ∧ TxAt ((w2.alloc (.cells (bvs zeroB).toArray 67)).setRow w2.heap.size (bvs x).toArray) i s ∧ Tch w.heap.size i.own w ((w2.alloc (.cells (bvs zeroB).toArray 67)).setRow w2.heap.size (bvs x).toArray)) :=
            ⟨Blk.below hB2 (below_setRow hbl (Nat.le_refl _) _) hB2.lt, hx2.below (below_setRow hbl (Nat.le_refl _) _), hT2.trans ((Tch.of_below (below_setRow hbl (Nat.le_refl _) _)).mono hT2.size fun _ _ h => h)⟩
          refine hK _ _ _ (fun _ h => h) hfin ?_
          have HF := hide hfin
          have HG2 := hide hG
          clear hK K hfin hG hB2 hx2 hT2 ht2 hbl
          try simp only [Act.put, List.setIfInBounds_toArray, List.set_cons_zero, List.set_cons_succ]
          iterate 1 (refine wpT_q (v := ?_) (by simp only [List.getElem?_toArray, List.getElem?_cons_succ, List.getElem?_cons_zero]; try rfl) (by rfl) (fun W hW => ?_) ?_; rotate_left; (focus ((go_simp); try with_reducible rfl)); try simp only [Act.put, List.setIfInBounds_toArray, List.set_cons_zero, List.set_cons_succ])
          refine wpT_nil ?_
          go_wp2
          go_meet
          case rel => exact ⟨_, rfl, rfl, hide HF.out.2.1, hide HF.out.1, hide HF.out.2.2, HG2⟩
        · refine wpT_x (by simp only [List.getElem?_toArray, List.getElem?_cons_succ, List.getElem?_cons_zero]; try rfl) (by rfl) (fun K hK => ?_)
          refine wp_alloc_as 67 rfl _ (zero_block _) ?_
          have hbl : Below wr.heap.size wr (wr.drew.alloc (.cells (bvs zeroB).toArray 67)) := (Below.refl _ _).drew.alloc (Nat.le_refl _) _
          have hB1 : BitsAt (wr.drew.alloc (.cells (bvs zeroB).toArray 67)) bm i.tt f m := Blk.below HBM.out hbl HBM.out.lt
          have hx1 := HX.out.below hbl
          have hT1 : Tch w.heap.size i.own w (wr.drew.alloc (.cells (bvs zeroB).toArray 67)) := HT.out.trans ((Tch.of_below hbl).mono HT.out.size fun _ _ h => h)
          have hG1 := Blk.new wr.drew 67 (bvs zeroB).toArray
          refine hK _ _ _ (fun _ h => h) ⟨hB1, hx1, hT1⟩ ?_
          clear hK K
          try simp only [Act.put, List.setIfInBounds_toArray, List.set_cons_zero, List.set_cons_succ]
          refine wpT_x (by simp only [List.getElem?_toArray, List.getElem?_cons_succ, List.getElem?_cons_zero]; try rfl) (by rfl) (fun K hK => ?_)
          go_simp
          simp only [meth_get]
          go_simp
          refine (HGET.out _ hx1).mono ?_
          rintro e w2 ⟨rfl, hx2, ht2⟩
          have hdd : ¬ bm = i.dd := fun e => HOWN.out (.inr (.inr (.inl e)))
          have hB2 : BitsAt w2 bm i.tt f m := Blk.tch hB1 ht2 hB1.lt hdd
          have hT2 : Tch w.heap.size i.own w w2 := hT1.trans ((ht2.own_dd).mono hT1.size fun _ _ h => h)
          have hgd : wr.heap.size ≠ i.dd := by have := HX.out.log.disk.dlt; omega
          have hG2 := hG1.tch ht2 hG1.lt hgd
          refine hK _ _ _ (fun _ h => h) ⟨hB2, hx2, hT2⟩ ?_
          clear hK K
          try simp only [Act.put, List.setIfInBounds_toArray, List.set_cons_zero, List.set_cons_succ]
          iterate 3 (refine wpT_q (v := ?_) (by simp only [List.getElem?_toArray, List.getElem?_cons_succ, List.getElem?_cons_zero]; try rfl) (by rfl) (fun W hW => ?_) ?_; rotate_left; (focus ((go_simp); try with_reducible rfl)); try simp only [Act.put, List.setIfInBounds_toArray, List.set_cons_zero, List.set_cons_succ])
          refine wpT_x (by simp only [List.getElem?_toArray, List.getElem?_cons_succ, List.getElem?_cons_zero]; try rfl) (by rfl) (fun K hK => ?_)
          refine wp_store_blk 67 (.tmp 5) (.tmp 35) rfl wr.heap.size 67 _ _ (by rfl) (by rfl) hG2 (size_blockOf HX64.out) ((bvs_size zeroB_length).trans (bvs_size HX64.out).symm) (bvs_oneCell _) (fun hG => ?_)
          have hfin : BitsAt (w2.setRow wr.heap.size (bvs x).toArray) bm i.tt f m ∧ TxAt (w2.setRow wr.heap.size (bvs x).toArray) i s ∧ Tch w.heap.size i.own w (w2.setRow wr.heap.size (bvs x).toArray) :=
            ⟨Blk.setRow_far hB2 (by have := HBM.out.lt; omega) _, HX.out.setRow_new (Nat.le_refl _) hx2 _, hT2.trans (Tch.setRow fun hp => absurd hp (by have := HT.out.size; omega))⟩
          refine hK _ _ _ (fun _ h => h) hfin ?_
          have HF := hide hfin
          have HG2 := hide hG
          clear hK K hfin hG hB2 hx2 hT2 ht2 hbl hG2 hG1 hx1 hB1 hT1
          try simp only [Act.put, List.setIfInBounds_toArray, List.set_cons_zero, List.set_cons_succ]
          iterate 1 (refine wpT_q (v := ?_) (by simp only [List.getElem?_toArray, List.getElem?_cons_succ, List.getElem?_cons_zero]; try rfl) (by rfl) (fun W hW => ?_) ?_; rotate_left; (focus ((go_simp); try with_reducible rfl)); try simp only [Act.put, List.setIfInBounds_toArray, List.set_cons_zero, List.set_cons_succ])
          refine wpT_nil ?_
          go_wp2
          go_meet
          case rel => exact ⟨_, rfl, rfl, hide HF.out.2.1, hide HF.out.1, hide HF.out.2.2, HG2⟩
      case rest =>
        obtain ⟨g, rfl, rfl, HX2, HBM2, HT2, HG2⟩ := hcut
        clear c0 c1 c2 cl
        have HC0 := hide (HBM2.out.cell 0)
        have c2 := HBM2.out.cell 2
        have cl := HBM2.out.lt
        have hgl := HG2.out.lt
        go_wp2_with (first | ((with_reducible refine at_load 67 (.tmp 5) ?_); refine wpList_load_blk rfl 67 (.tmp 5) rfl g 67 _ _ (by rfl) HG2.out Try.underlying67 rfl (size_blockOf HX64.out) ?_) | fail)
        go_loopg [41] 64 (fun gh x41 wr2 => ∃ a : Nat, gh = 64 - a ∧ a ≤ 64 ∧ wr2 = wc ∧ x41 = .int .i64 (a : Int) ∧ Hid (∀ k, k < n * 512 + a * 8 → s.bit f k = true))
        case atStart => exact ⟨0, rfl, Nat.zero_le _, rfl, rfl, hide (by simpa using HA.out)⟩
        case round =>
          obtain ⟨a, hga, ha64, rfl, rfl, HA2⟩ := hrel
          have HGA := hide hga
          clear hga
          rcases Nat.lt_or_ge a 64 with ha | ha
          · have haz : (a : Int) < 64 := by omega
            have hcell : (bvs x).toArray[a]? = some (.int .u8 ((x.getD a 0).toNat : Int)) := by
              rw [List.getElem?_toArray, bvs_get, List.getD_eq_getElem?_getD, List.getElem?_eq_getElem (by have := HX64.out; omega)]
              rfl
            have HCE := hide hcell
            have hb := fun j (hj : j < 8) => HXB.out a j ha hj
            have hv256 := (x.getD a 0).toNat_lt
            clear hcell
            generalize (x.getD a 0).toNat = v at HCE hb hv256
            have hbf := byte_free ⟨v, by simpa using hv256⟩
            simp only at hbf
            by_cases h255 : v = 255
            · have hv : ((v : Int) == 255) = true := by simp [h255]
              have HB8 := hide (And.intro hb h255)
              clear hb hbf h255 hv256
              go_wp2_with (first | ((with_reducible refine at_index 67 (.tmp 40) (.tmp 41) ?_); refine wpList_index_arr rfl 67 5 (.tmp 40) (.tmp 41) rfl 64 a .i64 .u8 _ _ (by rfl) (by rfl) ha HCE.out Try.underlying67 Try.underlying5 (by kernel_rfl) ?_) | fail)
              go_roundg (64 - (a + 1))
              case rel => exact ⟨a + 1, rfl, by omega, rfl, by go_num, hide (fun k hk => by
                rcases Nat.lt_or_ge k (n * 512 + a * 8) with h | h
                · exact HA2.out k h
                · have := HB8.out.1 (k - (n * 512 + a * 8)) (by omega)
                  rw [show n * 512 + a * 8 + (k - (n * 512 + a * 8)) = k from by omega, HB8.out.2] at this
                  rw [this]; exact byte_full (by omega))⟩
              case measure => have := HGA.out; omega
            · have hv : ((v : Int) == 255) = false := by simp; omega
              obtain ⟨ht8, htf, htt⟩ := hbf h255
              obtain ⟨tz, htz⟩ : ∃ tz, Lib.trailingZeros8 (255 - v) = tz := ⟨_, rfl⟩
              have htzc := fun (W : World) => Try.bits_TrailingZeros8 (255 - (v : Int)) W (by omega) (by omega)
              rw [show (255 - (v : Int)).toNat = 255 - v from by omega, htz] at htzc
              rw [htz] at ht8 htf htt
              have hxr := byte_not hv256
              have w1 : IntKind.i64.wrap ((n : Int) * 512 + (a : Int) * 8) = (n : Int) * 512 + (a : Int) * 8 := IntWalk.i64_in _ (by omega)
              have w2 : IntKind.i64.wrap ((n : Int) * 512 + (a : Int) * 8 + (tz : Int)) = (n : Int) * 512 + (a : Int) * 8 + (tz : Int) := IntWalk.i64_in _ (by omega)
              have hfree : s.bit f (n * 512 + a * 8 + tz) = false := by rw [hb tz ht8]; exact htf
              have hfull : ∀ k, k < n * 512 + a * 8 + tz → s.bit f k = true := fun k hk => by
                rcases Nat.lt_or_ge k (n * 512 + a * 8) with h | h
                · exact HA2.out k h
                · have := hb (k - (n * 512 + a * 8)) (by omega)
                  rw [show n * 512 + a * 8 + (k - (n * 512 + a * 8)) = k from by omega] at this
                  rw [this]; exact htt _ (by omega)
              have HF := hide (And.intro hfree hfull)
              have HTZ := hide htzc
              clear hb hbf h255 htf htt htz htzc hfree hfull
              go_wp2_with (first | ((with_reducible refine at_index 67 (.tmp 40) (.tmp 41) ?_); refine wpList_index_arr rfl 67 5 (.tmp 40) (.tmp 41) rfl 64 a .i64 .u8 _ _ (by rfl) (by rfl) ha HCE.out Try.underlying67 Try.underlying5 (by kernel_rfl) ?_) | fail)
              refine (HTZ.out _).mono ?_
              rintro e w5 ⟨rfl, rfl⟩
              by_cases him : n * 512 + a * 8 + tz < m
              · have hd : decide ((m : Int) ≤ (n : Int) * 512 + (a : Int) * 8 + (tz : Int)) = false := by simp; omega
                have hfm := free_some him HF.out.1 HF.out.2
                have HFM := hide hfm
                clear hfm
                go_wp2
                go_returns
                refine ⟨?_, HX2.out, HT2.out⟩
                rw [HFM.out]
                simp [optI]
              · have hd : decide ((m : Int) ≤ (n : Int) * 512 + (a : Int) * 8 + (tz : Int)) = true := by simp; omega
                have hfm := free_none (s := s) (f := f) (m := m) fun k hk => HF.out.2 k (by omega)
                have HFM := hide hfm
                clear hfm
                go_wp2
                go_returns
                refine ⟨?_, HX2.out, HT2.out⟩
                rw [HFM.out]
                rfl
          · have hA3 : a = 64 := by omega
            have haf : decide ((a : Int) < 64) = false := by simp; omega
            go_wp2
            go_roundg (m + 1 - (n + 1))
            case rel => exact ⟨n + 1, rfl, by omega, by go_num, HX2, HBM2, HT2, hide (fun k hk => HA2.out k (by omega))⟩
            case measure => have := HG.out; omega
    · go_wp2
      go_returns
      refine ⟨?_, HX.out, HT.out⟩
      rw [free_none fun k hk => HA.out k (by omega)]
      rfl
end
end Go.Proofs.Ytoeejeieplhifaa

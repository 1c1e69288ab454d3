/- Bits in blocks, walked. -/
import Derived.Test.YtoeejeieplhifaaFsTxn
namespace Go.Proofs.Ytoeejeieplhifaa
open Go.RowKit
set_option linter.unusedSimpArgs false
set_option linter.unusedVariables false

/-- a bit of a block -/
def bitB (b : BlkV) (j : Nat) : Bool := (b.getD (j / 8) 0).toNat.testBit (j % 8)
/-- that bit turned -/
def flipB (b : BlkV) (j : Nat) : BlkV := b.set (j / 8) (UInt8.ofNat ((b.getD (j / 8) 0).toNat ^^^ 2 ^ (j % 8)))
theorem flipB_length (b : BlkV) (j : Nat) : (flipB b j).length = b.length := by simp [flipB]
theorem xor_lt (x : UInt8) {j : Nat} (hj : j < 8) : x.toNat ^^^ 2 ^ j < 256 :=
  Nat.xor_lt_two_pow (n := 8) x.toNat_lt (Nat.pow_lt_pow_right (by decide) hj)
theorem bitB_flip {b : BlkV} (hb : b.length = 64) {j k : Nat} (hj : j < 512) : bitB (flipB b j) k = if j = k then !bitB b j else bitB b k := by
  have hl : j / 8 < b.length := by omega
  unfold bitB flipB
  by_cases h8 : j / 8 = k / 8
  · rw [← h8]
    have e : (b.set (j / 8) (UInt8.ofNat ((b.getD (j / 8) 0).toNat ^^^ 2 ^ (j % 8)))).getD (j / 8) 0 = UInt8.ofNat ((b.getD (j / 8) 0).toNat ^^^ 2 ^ (j % 8)) := by
      simp [List.getD_eq_getElem?_getD, List.getElem?_set, hl]
    have hx := xor_lt (b.getD (j / 8) 0) (j := j % 8) (Nat.mod_lt _ (by decide))
    rw [e, UInt8.toNat_ofNat', Nat.mod_eq_of_lt (by simpa using hx), Nat.testBit_xor, Nat.testBit_two_pow]
    by_cases h : j = k
    · subst h; simp
    · rw [if_neg h]
      have : j % 8 ≠ k % 8 := by omega
      simp [this]
  · have e : (b.set (j / 8) (UInt8.ofNat ((b.getD (j / 8) 0).toNat ^^^ 2 ^ (j % 8)))).getD (k / 8) 0 = b.getD (k / 8) 0 := by
      simp only [List.getD_eq_getElem?_getD, List.getElem?_set]
      rw [if_neg h8]
    rw [e, if_neg (fun e => h8 (by rw [e]))]
theorem and_pow (x : UInt8) {j : Nat} (hj : j < 8) : x.toNat &&& 2 ^ j = if x.toNat.testBit j then 2 ^ j else 0 := by
  have hn : 2 ^ j < 256 := Nat.pow_lt_pow_right (by decide) hj
  apply Nat.eq_of_testBit_eq
  intro k
  rw [Nat.testBit_and, Nat.testBit_two_pow]
  by_cases h : j = k
  · subst h
    cases hx : x.toNat.testBit j
    · simp
    · simp
  · cases hx : x.toNat.testBit j
    · simp [h]
    · simp [h]

/-- a bit of a map from block f on -/
def Sto.bit (s : Sto) (f k : Nat) : Bool := bitB (s.at_ (f + k / 512)) (k % 512)

theorem i64_small (n : Int) (h0 : 0 ≤ n) (h1 : n < 2 ^ 63) : IntKind.i64.wrap n = n := IntWalk.i64_in _ (by omega)
theorem and63 (k : Nat) (hk : k < 2 ^ 62) : bits BinOp.and IntKind.i64 ((k : Int) / 8) 63 = ((k / 8 % 64 : Nat) : Int) := by
  have := bits_mask .i64 63 (by decide) i64_small 6 (by decide) ((k : Int) / 8) (by omega) (by omega)
  rw [show ((2 : Int) ^ 6 - 1) = 63 from rfl, show ((2 : Int) ^ 6) = 64 from rfl] at this
  rw [this]; omega
theorem and7 (k : Nat) (hk : k < 2 ^ 62) : bits BinOp.and IntKind.i64 (k : Int) 7 = ((k % 8 : Nat) : Int) := by
  have := bits_mask .i64 63 (by decide) i64_small 3 (by decide) (k : Int) (by omega) (by omega)
  rw [show ((2 : Int) ^ 3 - 1) = 7 from rfl, show ((2 : Int) ^ 3) = 8 from rfl] at this
  rw [this]; omega
theorem shl1 {j : Nat} (hj : j < 8) : IntKind.u8.wrap ((2 : Int) ^ min j 8) = ((2 ^ j : Nat) : Int) := by
  have : ∀ j : Fin 8, IntKind.u8.wrap ((2 : Int) ^ min j.val 8) = ((2 ^ j.val : Nat) : Int) := by decide
  exact this ⟨j, hj⟩
theorem xor8 {a b : Nat} (ha : a < 256) (hb : b < 256) : bits BinOp.xor IntKind.u8 (a : Int) (b : Int) = ((a ^^^ b : Nat) : Int) := by
  have ha' : a % 2 ^ IntKind.u8.bits = a := Nat.mod_eq_of_lt ha
  have hb' : b % 2 ^ IntKind.u8.bits = b := Nat.mod_eq_of_lt hb
  simp only [bits, BitVec.ofInt_natCast, BitVec.toNat_xor, BitVec.toNat_ofNat, ha', hb']
  have h : a ^^^ b < 2 ^ 8 := Nat.xor_lt_two_pow (n := 8) ha hb
  exact wraps_u8 _ (by omega) (by exact_mod_cast h)
theorem and8 {a b : Nat} (ha : a < 256) (hb : b < 256) : bits BinOp.and IntKind.u8 (a : Int) (b : Int) = ((a &&& b : Nat) : Int) :=
  (bits_nat .u8 8 (by decide) (fun n h0 h1 => wraps_u8 n h0 h1) a b ha hb).1
theorem pow8 {j : Nat} (hj : j < 8) : 2 ^ j < 256 := Nat.pow_lt_pow_right (n := 8) (by decide) hj

section
variable {w w' : World} {i : Ids} {s : Sto}
/-- a map of bits over a transaction -/
def BitsAt (w : World) (bm tt f m : Nat) : Prop := Blk w bm 187 #[.iface 32 (.pointer (some ⟨tt, 0, none⟩)), .int .i64 (f : Int), .int .i64 (m : Int)]
theorem bits_new (tt : Nat) {f m : Nat} (hf : f ≤ 65536) (hm : m ≤ 65536) (w : World) :
    Calls Try.prog 83 #[.pointer (some ⟨tt, 0, none⟩), .int .i64 (f : Int), .int .i64 (m : Int)] w fun e w' => ∃ bm, e = .returned (.tuple #[.pointer (some ⟨bm, 0, none⟩), .int .i64 0]) ∧ w.heap.size ≤ bm ∧ BitsAt w' bm tt f m ∧ Below w.heap.size w w' := by
  have k0 : decide ((f : Int) < 0) = false := by simp
  have k1 : decide ((65536 : Int) < f) = false := by simp; omega
  have k2 : decide ((m : Int) < 0) = false := by simp
  have k3 : decide ((65536 : Int) < m) = false := by simp; omega
  go_enter Try.func83, Try.ntmps83
  go_wp2
  go_returns
  exact ⟨w.heap.size, rfl, Nat.le_refl _, Blk.new _ _ _, (Below.refl _ _).alloc (Nat.le_refl _) _⟩

theorem place_ok {bm tt f m k : Nat} (hB : BitsAt w bm tt f m) (hf : f ≤ 65536) (hk : k ≤ 65536) :
    Calls Try.prog 85 #[.pointer (some ⟨bm, 0, none⟩), .int .i64 (k : Int)] w fun e w' => e = .returned (.tuple #[.int .i64 ((f + k / 512 : Nat) : Int), .int .i64 ((k / 8 % 64 : Nat) : Int), .int .u8 ((2 ^ (k % 8) : Nat) : Int)]) ∧ Below w.heap.size w w' := by
  have e1 : IntKind.i64.wrap ((f : Int) + (k : Int) / 512) = ((f + k / 512 : Nat) : Int) := by rw [IntWalk.i64_in _ (by omega)]; omega
  have e2 := and63 k (by omega)
  have e3 := and7 k (by omega)
  have e4 := shl1 (j := k % 8) (Nat.mod_lt _ (by decide))
  generalize f + k / 512 = n1 at e1 ⊢
  generalize k / 8 % 64 = n2 at e2 ⊢
  generalize 2 ^ (k % 8) = n4 at e4 ⊢
  generalize k % 8 = n3 at e3 e4
  have c1 := hB.cell 1
  have cl := hB.lt
  go_enter Try.func85, Try.ntmps85
  go_wp2
  refine wp_region_text [0, 0, 0, 0, 0, 0, 0, 0, 0, 0, 0, 0, 0, 0, 0, 0] (· = w.drew) (by kernel_rfl) (by kernel_rfl) rfl ?_
  iterate 16 (refine wpOrd_q (v := ?_) (by rfl) (fun W hW => ?_) ?_; rotate_left; (focus ((cases hW; go_simp); try with_reducible rfl)); try simp only [Act.put, List.setIfInBounds_toArray, List.set_cons_zero, List.set_cons_succ])
  refine wpOrd_nil ?_
  go_wp2
  go_returns
  exact ⟨rfl, (Below.refl _ _).drew⟩

/-- what Set comes to -/
def Sto.setBit (s : Sto) (f k : Nat) (on : Bool) : Sto := if s.bit f k = on then s else s.put (f + k / 512) (flipB (s.at_ (f + k / 512)) (k % 512))
/-- may a block be changed? -/
structure Sto.Can (s : Sto) (n : Nat) : Prop where
  lt : n < s.D.length
  free : Sto.free n
  room : (mget s.M n).isSome = true ∨ s.M.length < 30

set_option maxRecDepth 100000 in
set_option maxHeartbeats 800000 in
theorem set_ok {bm f m k : Nat} {on : Bool} (h : TxAt w i s) (hB : BitsAt w bm i.tt f m) (hf : f ≤ 65536) (hm : m ≤ 65536) (hk : k < m) (hc : s.Can (f + k / 512)) :
    Calls Try.prog 52 #[.pointer (some ⟨bm, 0, none⟩), .int .i64 (k : Int), .bool on] w fun e w' => e = .returned (.int .i64 0) ∧ TxAt w' i (s.setBit f k on) ∧ Tch w.heap.size i.own w w' := by
  have k0 : decide ((k : Int) < 0) = false := by simp
  have k1 : decide (m ≤ k) = false := by simpa using hk
  have c0 := hB.cell 0
  have c2 := hB.cell 2
  have cl := hB.lt
  go_enter Try.func52, Try.ntmps52
  have hp := place_ok hB hf (k := k) (by omega)
  obtain ⟨n, hn⟩ : ∃ n, f + k / 512 = n := ⟨_, rfl⟩
  obtain ⟨q, hq⟩ : ∃ q, k / 8 % 64 = q := ⟨_, rfl⟩
  obtain ⟨p, hpp⟩ : ∃ p, 2 ^ (k % 8) = p := ⟨_, rfl⟩
  rw [hn, hq, hpp] at hp
  rw [hn] at hc
  have hq64 : (q : Int) < 64 := by omega
  have hx64 : (s.at_ n).length = 64 := Sto.at_length h.ok n
  have hbit : s.bit f k = ((s.at_ n).getD q 0).toNat.testBit (k % 8) := by
    unfold Sto.bit bitB
    rw [hn, show k % 512 / 8 = q from by omega, show k % 512 % 8 = k % 8 from by omega]
  have hflip : flipB (s.at_ n) (k % 512) = (s.at_ n).set q (UInt8.ofNat (((s.at_ n).getD q 0).toNat ^^^ p)) := by
    unfold flipB
    rw [show k % 512 / 8 = q from by omega, show k % 512 % 8 = k % 8 from by omega, hpp]
  have hset : s.setBit f k on = if ((s.at_ n).getD q 0).toNat.testBit (k % 8) = on then s else s.put n ((s.at_ n).set q (UInt8.ofNat (((s.at_ n).getD q 0).toNat ^^^ p))) := by
    unfold Sto.setBit
    rw [hbit, hn, hflip]
  obtain ⟨s1, hs1⟩ : ∃ s1, s1 = s.setBit f k on := ⟨_, rfl⟩
  rw [← hs1]
  rw [hset] at hs1
  have hand : bits BinOp.and IntKind.u8 (((s.at_ n).getD q 0).toNat : Int) (p : Int) = if ((s.at_ n).getD q 0).toNat.testBit (k % 8) then (p : Int) else 0 := by
    rw [and8 ((s.at_ n).getD q 0).toNat_lt (by rw [← hpp]; exact pow8 (Nat.mod_lt _ (by decide))), ← hpp, and_pow _ (Nat.mod_lt _ (by decide))]
    split <;> rfl
  have hxor : bits BinOp.xor IntKind.u8 (((s.at_ n).getD q 0).toNat : Int) (p : Int) = (((((s.at_ n).getD q 0).toNat ^^^ p : Nat)) : Int) :=
    xor8 ((s.at_ n).getD q 0).toNat_lt (by rw [← hpp]; exact pow8 (Nat.mod_lt _ (by decide)))
  have hx256 : ((s.at_ n).getD q 0).toNat ^^^ p < 256 := by rw [← hpp]; exact xor_lt _ (Nat.mod_lt _ (by decide))
  have hp0 : ((p : Int) == 0) = false := by
    have : 0 < p := by rw [← hpp]; exact Nat.two_pow_pos _
    simp; omega
  have hcell : (bvs (s.at_ n)).toArray[q]? = some (.int .u8 (((s.at_ n).getD q 0).toNat : Int)) := by
    rw [List.getElem?_toArray, bvs_get, List.getD_eq_getElem?_getD, List.getElem?_eq_getElem (by omega)]
    rfl
  have HQL := hide (show q < (s.at_ n).length by omega)
  have HS := hide (show (s.at_ n).set q (UInt8.ofNat (((s.at_ n).getD q 0).toNat ^^^ p)) = (s.at_ n).set q (UInt8.ofNat (((s.at_ n).getD q 0).toNat ^^^ p)) from rfl)
  have hget := get_ok (w := w) (s := s) (i := i) h hc.lt
  generalize ((s.at_ n).getD q 0).toNat ^^^ p = xv at hxor hx256 hs1
  generalize ((s.at_ n).getD q 0).toNat = av at hand hxor hcell hs1
  generalize hxx : s.at_ n = x at *
  generalize av.testBit (k % 8) = bt at *
  have HS1 := hide hs1
  clear hs1
  clear hn hq hpp hbit hflip hset HS
  have HC := hide hc
  have H := hide h
  have HX := hide hx64
  have HXX := hide hxx
  have HCE := hide hcell
  clear hc hx64 hget hxx hcell h
  go_wp2_with fail
  refine hp.mono ?_
  rintro e w1 ⟨rfl, hb1⟩
  have hB1 : BitsAt w1 bm i.tt f m := Blk.below hB hb1 hB.lt
  clear c0 c2 cl hp
  have c0 := hB1.cell 0
  have cl := hB1.lt
  have HB1 := hide (And.intro hb1 hB1)
  clear hb1 hB hB1
  go_wp2_with fail
  refine (get_ok (H.out.below HB1.out.1) HC.out.lt).mono ?_
  rw [HXX.out]
  rintro e w2 ⟨rfl, hx2, ht2⟩
  have hB2 : BitsAt w2 bm i.tt f m := HB1.out.2.tch ht2 HB1.out.2.lt (by obtain ⟨_, _, hd⟩ := (H.out.below HB1.out.1).log.disk.disk; exact HB1.out.2.ne hd (by decide))
  have HT2 := hide (And.intro hx2 (And.intro ((Tch.of_below (S := i.own) HB1.out.1).trans (ht2.own_dd.mono HB1.out.1.size fun _ _ h => h)) hB2))
  clear hx2 ht2 hB2 c0 cl
  go_upto_region 7 with (first | ((with_reducible refine at_alloc 67 ?_); refine wpList_alloc_as rfl 67 rfl _ (zero_block _) ?_) | ((with_reducible refine at_store 67 (.tmp 10) (.tmp 40) ?_); refine wpList_store_blk rfl 67 (.tmp 10) (.tmp 40) rfl w2.heap.size 67 _ _ (by rfl) (by rfl) (Blk.new _ _ _) (size_blockOf HX.out) ((bvs_size zeroB_length).trans (bvs_size HX.out).symm) (bvs_oneCell _) (fun _ => ?_)) | fail)
  refine at_world (fun W => ∃ g, g = w2.heap.size ∧ Below w2.heap.size w2 W ∧ Blk W g 67 (bvs x).toArray) ⟨_, rfl, below_setRow ((Below.refl _ _).alloc (Nat.le_refl _) _) (Nat.le_refl _) _, (Blk.new _ _ _).setRow_same _⟩ (fun w3 h3 => ?_)
  obtain ⟨g, hg, hb3, hG3⟩ := h3
  rw [← hg]
  have hgw : w2.heap.size ≤ g := Nat.le_of_eq hg.symm
  have HB3 := hide hb3
  clear hg hb3
  have kq := (hG3.cell q).trans HCE.out
  have kl := hG3.lt
  have fq := hG3.frozen q
  have hbt : bt = on ∨ bt = !on := by cases bt <;> cases on <;> simp
  rcases hbt with rfl | rfl
  · have hon : ((if bt = true then (p : Int) else 0) == 0) = !bt := by cases bt <;> simp [hp0]
    have hne : ((if bt = true then (p : Int) else 0) != 0) = bt := by cases bt <;> simp [hp0, bne]
    generalize (if bt = true then (p : Int) else 0) = z at hand hon hne
    have HG3 := hide hG3
    clear hG3
    go_wp2
    go_returns
    refine ⟨rfl, ?_, ?_⟩
    · rw [HS1.out, if_pos (by trivial)]; exact HT2.out.1.below HB3.out
    · exact HT2.out.2.1.trans (Tch.of_below (HB3.out.mono HT2.out.2.1.size))
  · have hon : ((if (!on) = true then (p : Int) else 0) == 0) = on := by cases on <;> simp [hp0]
    have hne : ((if (!on) = true then (p : Int) else 0) != 0) = !on := by cases on <;> simp [hp0, bne]
    have hoo : ((!on) == on) = false := by cases on <;> rfl
    have hoo2 : decide ((!on) = on) = false := by cases on <;> rfl
    have hoo3 : ¬ ((!on) = on) := by cases on <;> simp
    generalize (if (!on) = true then (p : Int) else 0) = z at hand hon hne
    have HG3 := hide hG3
    clear hG3
    go_upto_region 12 with (fail)
    refine at_world (fun W => Below w2.heap.size w2 W ∧ Blk W g 67 (bvs (x.set q (UInt8.ofNat xv))).toArray) ⟨HB3.out.setCell hgw _, by rw [← bv_ofNat hx256, ← bvs_set]; exact HG3.out.set_ q _⟩ (fun w4 h4 => ?_)
    obtain ⟨hb4, hG4⟩ := h4
    have hx4l : (x.set q (UInt8.ofNat xv)).length = 64 := by rw [List.length_set]; exact HX.out
    have hs1 := HS1.out
    rw [if_neg hoo3] at hs1
    generalize x.set q (UInt8.ofNat xv) = x' at hG4 hx4l hs1
    have HS2 := hide hs1
    clear hs1
    have HX4 := hide hx4l
    obtain ⟨hx2, ht2, hB2⟩ := HT2.out
    have hB4 : BitsAt w4 bm i.tt f m := Blk.below hB2 hb4 hB2.lt
    have hx4 := hx2.below hb4
    have HF := hide (And.intro hx4 (ht2.trans (Tch.of_below (hb4.mono ht2.size))))
    clear hb4 hx4l HG3 kq fq kl hx2 ht2 hx4
    have c0 := hB4.cell 0
    have cl := hB4.lt
    refine wp_region_text [0, 0, 0, 0, 0, 0, 2, 0] (· = w4.drew) (by kernel_rfl) (by kernel_rfl) rfl ?_
    iterate 5 (refine wpOrd_q (v := ?_) (by rfl) (fun W hW => ?_) ?_; rotate_left; (focus ((cases hW; go_simp); try with_reducible rfl)); try simp only [Act.put, List.setIfInBounds_toArray, List.set_cons_zero, List.set_cons_succ])
    refine wpOrd_q (v := .agg (bvs x').toArray) (by rfl) (fun W hW => by cases hW; exact exec_load_blk 67 (.tmp 10) rfl g _ (bvs x').toArray _ rfl hG4.drew Try.underlying67 rfl (size_blockOf HX4.out)) ?_
    try simp only [Act.put, List.setIfInBounds_toArray, List.set_cons_zero, List.set_cons_succ]
    refine wpOrd_b (by rfl) (fun K hK => ?_)
    go_simp
    refine (put_ok (HF.out.1.below (Below.refl _ _).drew) (k := n) (b := x') HX4.out HC.out.lt HC.out.free HC.out.room).mono ?_
    rintro e w5 ⟨rfl, hx5, ht5⟩
    refine hK (fun _ => True) _ _ trivial ?_
    have HF5 := hide (And.intro hx5 (HF.out.2.drew.trans ((ht5.sub fun _ h => Ids.own_mm h).mono HF.out.2.size fun _ _ h => h)))
    clear hK K c0 cl hx5 ht5
    try simp only [Act.put, List.setIfInBounds_toArray, List.set_cons_zero, List.set_cons_succ]
    iterate 1 (refine wpOrd_q (v := ?_) (by rfl) (fun W hW => ?_) ?_; rotate_left; (focus (go_simp; try with_reducible rfl)); try simp only [Act.put, List.setIfInBounds_toArray, List.set_cons_zero, List.set_cons_succ])
    refine wpOrd_nil ?_
    go_wp2
    go_returns
    exact ⟨rfl, by rw [HS2.out]; exact HF5.out.1, HF5.out.2⟩
end
end Go.Proofs.Ytoeejeieplhifaa

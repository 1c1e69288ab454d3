/- Bits in blocks, walked. The library's contracts at this dump, laid by the kit's tools lay-shelf and lay-plain; remarks struck. Bits in blocks, walked: Has, Free, Count. Bits in blocks, walked: Count. Nodes as bytes. No program in sight. Numbers in a node's bytes, walked: put, get. Blocks and nodes, compared. Nodes, walked: Blank, Check. Nodes, walked: Encode. -/
import Derived.Test.YthmkgohfeahdhaaGreatDiPlaysLawP3
import Derived.Shelf.Small.Bits
import Derived.Shelf.Small.Wraps
import Derived.Shelf.Strconv.Itoa0
import Derived.Shelf.Sort.Plain
import Derived.Ground.Names2Prog
import Derived.Shelf.Slices.SearchI
import Derived.Shelf.Slices.In.SortNone
import Derived.Test.YthmkgohfeahdhaaGreatProg
import Derived.DeepKeys
import Derived.Great.FillDense
namespace Go.Proofs.YthmkgohfeahdhaaGreat
open Go.RowKit
set_option linter.unusedSimpArgs false
set_option linter.unusedVariables false

/-- a bit of a block -/
def bitB (b : BlkV) (j : Nat) : Bool := (b.getD (j / 8) 0).toNat.testBit (j % 8)
/-- that bit turned -/
def flipB (b : BlkV) (j : Nat) : BlkV := b.set (j / 8) (UInt8.ofNat ((b.getD (j / 8) 0).toNat ^^^ 2 ^ (j % 8)))
theorem xor_lt (x : UInt8) {j : Nat} (hj : j < 8) : x.toNat ^^^ 2 ^ j < 256 :=
  Nat.xor_lt_two_pow (n := 8) x.toNat_lt (Nat.pow_lt_pow_right (by decide) hj)
theorem bitB_flip {b : BlkV} (hb : b.length = 64) {j k : Nat} (hj : j < 512) : bitB (flipB b j) k = if j = k then !bitB b j else bitB b k := by
  have hl : j / 8 < b.length := by omega
  unfold bitB flipB
  by_cases h8 : j / 8 = k / 8
  · rw [← h8]
    have e : (b.set (j / 8) (UInt8.ofNat ((b.getD (j / 8) 0).toNat ^^^ 2 ^ (j % 8)))).getD (j / 8) 0 = UInt8.ofNat ((b.getD (j / 8) 0).toNat ^^^ 2 ^ (j % 8)) := by
      simp [List.getD_eq_getElem?_getD, List.getElem?_set, hl]
    have hx := xor_lt (b.getD (j / 8) 0) (j := j % 8) (Nat.mod_lt _ (by decide))
    rw [e, UInt8.toNat_ofNat', Nat.mod_eq_of_lt (by simpa using hx), Nat.testBit_xor, Nat.testBit_two_pow]
    by_cases h : j = k
    · subst h; simp
    · rw [if_neg h]
      have : j % 8 ≠ k % 8 := by omega
      simp [this]
  · have e : (b.set (j / 8) (UInt8.ofNat ((b.getD (j / 8) 0).toNat ^^^ 2 ^ (j % 8)))).getD (k / 8) 0 = b.getD (k / 8) 0 := by
      simp only [List.getD_eq_getElem?_getD, List.getElem?_set]
      rw [if_neg h8]
    rw [e, if_neg (fun e => h8 (by rw [e]))]
theorem and_pow (x : UInt8) {j : Nat} (hj : j < 8) : x.toNat &&& 2 ^ j = if x.toNat.testBit j then 2 ^ j else 0 := by
  have hn : 2 ^ j < 256 := Nat.pow_lt_pow_right (by decide) hj
  apply Nat.eq_of_testBit_eq
  intro k
  rw [Nat.testBit_and, Nat.testBit_two_pow]
  by_cases h : j = k
  · subst h
    cases hx : x.toNat.testBit j
    · simp
    · simp
  · cases hx : x.toNat.testBit j
    · simp [h]
    · simp [h]

/-- a bit of a map from block f on -/
def Sto.bit (s : Sto) (f k : Nat) : Bool := bitB (s.at_ (f + k / 512)) (k % 512)

theorem i64_small (n : Int) (h0 : 0 ≤ n) (h1 : n < 2 ^ 63) : IntKind.i64.wrap n = n := IntWalk.i64_in _ (by omega)
theorem and63 (k : Nat) (hk : k < 2 ^ 62) : bits BinOp.and IntKind.i64 ((k : Int) / 8) 63 = ((k / 8 % 64 : Nat) : Int) := by
  have := bits_mask .i64 63 (by decide) i64_small 6 (by decide) ((k : Int) / 8) (by omega) (by omega)
  rw [show ((2 : Int) ^ 6 - 1) = 63 from rfl, show ((2 : Int) ^ 6) = 64 from rfl] at this
  rw [this]; omega
theorem and7 (k : Nat) (hk : k < 2 ^ 62) : bits BinOp.and IntKind.i64 (k : Int) 7 = ((k % 8 : Nat) : Int) := by
  have := bits_mask .i64 63 (by decide) i64_small 3 (by decide) (k : Int) (by omega) (by omega)
  rw [show ((2 : Int) ^ 3 - 1) = 7 from rfl, show ((2 : Int) ^ 3) = 8 from rfl] at this
  rw [this]; omega
theorem shl1 {j : Nat} (hj : j < 8) : IntKind.u8.wrap ((2 : Int) ^ min j 8) = ((2 ^ j : Nat) : Int) := by
  have : ∀ j : Fin 8, IntKind.u8.wrap ((2 : Int) ^ min j.val 8) = ((2 ^ j.val : Nat) : Int) := by decide
  exact this ⟨j, hj⟩
theorem xor8 {a b : Nat} (ha : a < 256) (hb : b < 256) : bits BinOp.xor IntKind.u8 (a : Int) (b : Int) = ((a ^^^ b : Nat) : Int) := by
  have ha' : a % 2 ^ IntKind.u8.bits = a := Nat.mod_eq_of_lt ha
  have hb' : b % 2 ^ IntKind.u8.bits = b := Nat.mod_eq_of_lt hb
  simp only [bits, BitVec.ofInt_natCast, BitVec.toNat_xor, BitVec.toNat_ofNat, ha', hb']
  have h : a ^^^ b < 2 ^ 8 := Nat.xor_lt_two_pow (n := 8) ha hb
  exact wraps_u8 _ (by omega) (by exact_mod_cast h)
theorem and8 {a b : Nat} (ha : a < 256) (hb : b < 256) : bits BinOp.and IntKind.u8 (a : Int) (b : Int) = ((a &&& b : Nat) : Int) :=
  (bits_nat .u8 8 (by decide) (fun n h0 h1 => wraps_u8 n h0 h1) a b ha hb).1
theorem pow8 {j : Nat} (hj : j < 8) : 2 ^ j < 256 := Nat.pow_lt_pow_right (n := 8) (by decide) hj

section
variable {w w' : World} {i : Ids} {s : Sto}
/-- a map of bits over a transaction -/
def BitsAt (w : World) (bm tt f m : Nat) : Prop := Blk w bm 283 #[.iface 33 (.pointer (some ⟨tt, 0, none⟩)), .int .i64 (f : Int), .int .i64 (m : Int)]
theorem bits_new (tt : Nat) {f m : Nat} (hf : f ≤ 65536) (hm : m ≤ 65536) (w : World) :
    Calls Tryz.prog 150 #[.pointer (some ⟨tt, 0, none⟩), .int .i64 (f : Int), .int .i64 (m : Int)] w fun e w' => ∃ bm, e = .returned (.tuple #[.pointer (some ⟨bm, 0, none⟩), .int .i64 0]) ∧ w.heap.size ≤ bm ∧ BitsAt w' bm tt f m ∧ Below w.heap.size w w' := by
  have k0 : decide ((f : Int) < 0) = false := by simp
  have k1 : decide ((65536 : Int) < f) = false := by simp; omega
  have k2 : decide ((m : Int) < 0) = false := by simp
  have k3 : decide ((65536 : Int) < m) = false := by simp; omega
  go_enter Tryz.func150, Tryz.ntmps150
  go_wp2
  go_returns
  exact ⟨w.heap.size, rfl, Nat.le_refl _, Blk.new _ _ _, (Below.refl _ _).alloc (Nat.le_refl _) _⟩

theorem place_ok {bm tt f m k : Nat} (hB : BitsAt w bm tt f m) (hf : f ≤ 65536) (hk : k ≤ 65536) :
    Calls Tryz.prog 170 #[.pointer (some ⟨bm, 0, none⟩), .int .i64 (k : Int)] w fun e w' => e = .returned (.tuple #[.int .i64 ((f + k / 512 : Nat) : Int), .int .i64 ((k / 8 % 64 : Nat) : Int), .int .u8 ((2 ^ (k % 8) : Nat) : Int)]) ∧ Below w.heap.size w w' := by
  have e1 : IntKind.i64.wrap ((f : Int) + (k : Int) / 512) = ((f + k / 512 : Nat) : Int) := by rw [IntWalk.i64_in _ (by omega)]; omega
  have e2 := and63 k (by omega)
  have e3 := and7 k (by omega)
  have e4 := shl1 (j := k % 8) (Nat.mod_lt _ (by decide))
  generalize f + k / 512 = n1 at e1 ⊢
  generalize k / 8 % 64 = n2 at e2 ⊢
  generalize 2 ^ (k % 8) = n4 at e4 ⊢
  generalize k % 8 = n3 at e3 e4
  have c1 := hB.cell 1
  have cl := hB.lt
  go_enter Tryz.func170, Tryz.ntmps170
  go_wp2
  refine wp_region_text [0, 0, 0, 0, 0, 0, 0, 0, 0, 0, 0, 0, 0, 0, 0, 0] (· = w.drew) (by kernel_rfl) (by kernel_rfl) rfl ?_
  iterate 16 (refine wpOrd_q (v := ?_) (by rfl) (fun W hW => ?_) ?_; rotate_left; (focus ((cases hW; go_simp); try with_reducible rfl)); try simp only [Act.put, List.setIfInBounds_toArray, List.set_cons_zero, List.set_cons_succ])
  refine wpOrd_nil ?_
  go_wp2
  go_returns
  exact ⟨rfl, (Below.refl _ _).drew⟩

/-- what Set comes to -/
def Sto.setBit (s : Sto) (f k : Nat) (on : Bool) : Sto := if s.bit f k = on then s else s.put (f + k / 512) (flipB (s.at_ (f + k / 512)) (k % 512))
/-- may a block be changed? -/
structure Sto.Can (s : Sto) (n : Nat) : Prop where
  lt : n < s.D.length
  free : Sto.free n
  room : (mget s.M n).isSome = true ∨ s.M.length < 30

set_option maxRecDepth 100000 in
set_option maxHeartbeats 800000 in
theorem set_ok {bm f m k : Nat} {on : Bool} (h : TxAt w i s) (hB : BitsAt w bm i.tt f m) (hf : f ≤ 65536) (hm : m ≤ 65536) (hk : k < m) (hc : s.Can (f + k / 512)) :
    Calls Tryz.prog 153 #[.pointer (some ⟨bm, 0, none⟩), .int .i64 (k : Int), .bool on] w fun e w' => e = .returned (.int .i64 0) ∧ TxAt w' i (s.setBit f k on) ∧ Tch w.heap.size i.own w w' := by
  have k0 : decide ((k : Int) < 0) = false := by simp
  have k1 : decide (m ≤ k) = false := by simpa using hk
  have c0 := hB.cell 0
  have c2 := hB.cell 2
  have cl := hB.lt
  go_enter Tryz.func153, Tryz.ntmps153
  have hp := place_ok hB hf (k := k) (by omega)
  obtain ⟨n, hn⟩ : ∃ n, f + k / 512 = n := ⟨_, rfl⟩
  obtain ⟨q, hq⟩ : ∃ q, k / 8 % 64 = q := ⟨_, rfl⟩
  obtain ⟨p, hpp⟩ : ∃ p, 2 ^ (k % 8) = p := ⟨_, rfl⟩
  rw [hn, hq, hpp] at hp
  rw [hn] at hc
  have hq64 : (q : Int) < 64 := by omega
  have hx64 : (s.at_ n).length = 64 := Sto.at_length h.ok n
  have hbit : s.bit f k = ((s.at_ n).getD q 0).toNat.testBit (k % 8) := by
    unfold Sto.bit bitB
    rw [hn, show k % 512 / 8 = q from by omega, show k % 512 % 8 = k % 8 from by omega]
  have hflip : flipB (s.at_ n) (k % 512) = (s.at_ n).set q (UInt8.ofNat (((s.at_ n).getD q 0).toNat ^^^ p)) := by
    unfold flipB
    rw [show k % 512 / 8 = q from by omega, show k % 512 % 8 = k % 8 from by omega, hpp]
  have hset : s.setBit f k on = if ((s.at_ n).getD q 0).toNat.testBit (k % 8) = on then s else s.put n ((s.at_ n).set q (UInt8.ofNat (((s.at_ n).getD q 0).toNat ^^^ p))) := by
    unfold Sto.setBit
    rw [hbit, hn, hflip]
  obtain ⟨s1, hs1⟩ : ∃ s1, s1 = s.setBit f k on := ⟨_, rfl⟩
  rw [← hs1]
  rw [hset] at hs1
  have hand : bits BinOp.and IntKind.u8 (((s.at_ n).getD q 0).toNat : Int) (p : Int) = if ((s.at_ n).getD q 0).toNat.testBit (k % 8) then (p : Int) else 0 := by
    rw [and8 ((s.at_ n).getD q 0).toNat_lt (by rw [← hpp]; exact pow8 (Nat.mod_lt _ (by decide))), ← hpp, and_pow _ (Nat.mod_lt _ (by decide))]
    split <;> rfl
  have hxor : bits BinOp.xor IntKind.u8 (((s.at_ n).getD q 0).toNat : Int) (p : Int) = (((((s.at_ n).getD q 0).toNat ^^^ p : Nat)) : Int) :=
    xor8 ((s.at_ n).getD q 0).toNat_lt (by rw [← hpp]; exact pow8 (Nat.mod_lt _ (by decide)))
  have hx256 : ((s.at_ n).getD q 0).toNat ^^^ p < 256 := by rw [← hpp]; exact xor_lt _ (Nat.mod_lt _ (by decide))
  have hp0 : ((p : Int) == 0) = false := by
    have : 0 < p := by rw [← hpp]; exact Nat.two_pow_pos _
    simp; omega
  have hcell : (bvs (s.at_ n)).toArray[q]? = some (.int .u8 (((s.at_ n).getD q 0).toNat : Int)) := by
    rw [List.getElem?_toArray, bvs_get, List.getD_eq_getElem?_getD, List.getElem?_eq_getElem (by omega)]
    rfl
  have HQL := hide (show q < (s.at_ n).length by omega)
  have HS := hide (show (s.at_ n).set q (UInt8.ofNat (((s.at_ n).getD q 0).toNat ^^^ p)) = (s.at_ n).set q (UInt8.ofNat (((s.at_ n).getD q 0).toNat ^^^ p)) from rfl)
  have hget := get_ok (w := w) (s := s) (i := i) h hc.lt
  generalize ((s.at_ n).getD q 0).toNat ^^^ p = xv at hxor hx256 hs1
  generalize ((s.at_ n).getD q 0).toNat = av at hand hxor hcell hs1
  generalize hxx : s.at_ n = x at *
  generalize av.testBit (k % 8) = bt at *
  have HS1 := hide hs1
  clear hs1
  clear hn hq hpp hbit hflip hset HS
  have HC := hide hc
  have H := hide h
  have HX := hide hx64
  have HXX := hide hxx
  have HCE := hide hcell
  clear hc hx64 hget hxx hcell h
  go_wp2_with fail
  refine hp.mono ?_
  rintro e w1 ⟨rfl, hb1⟩
  have hB1 : BitsAt w1 bm i.tt f m := Blk.below hB hb1 hB.lt
  clear c0 c2 cl hp
  have c0 := hB1.cell 0
  have cl := hB1.lt
  have HB1 := hide (And.intro hb1 hB1)
  clear hb1 hB hB1
  go_wp2_with fail
  refine (get_ok (H.out.below HB1.out.1) HC.out.lt).mono ?_
  rw [HXX.out]
  rintro e w2 ⟨rfl, hx2, ht2⟩
  have hB2 : BitsAt w2 bm i.tt f m := HB1.out.2.tch ht2 HB1.out.2.lt (by obtain ⟨_, _, hd⟩ := (H.out.below HB1.out.1).log.disk.disk; exact HB1.out.2.ne hd (by decide))
  have HT2 := hide (And.intro hx2 (And.intro ((Tch.of_below (S := i.own) HB1.out.1).trans (ht2.own_dd.mono HB1.out.1.size fun _ _ h => h)) hB2))
  clear hx2 ht2 hB2 c0 cl
  go_upto_region 7 with (first | ((with_reducible refine at_alloc 106 ?_); refine wpList_alloc_as rfl 106 rfl _ (zero_block _) ?_) | ((with_reducible refine at_store 106 (.tmp 10) (.tmp 40) ?_); refine wpList_store_blk rfl 106 (.tmp 10) (.tmp 40) rfl w2.heap.size 106 _ _ (by rfl) (by rfl) (Blk.new _ _ _) (size_blockOf HX.out) ((bvs_size zeroB_length).trans (bvs_size HX.out).symm) (bvs_oneCell _) (fun _ => ?_)) | fail)
  refine at_world (fun W => ∃ g, g = w2.heap.size ∧ Below w2.heap.size w2 W ∧ Blk W g 106 (bvs x).toArray) ⟨_, rfl, below_setRow ((Below.refl _ _).alloc (Nat.le_refl _) _) (Nat.le_refl _) _, (Blk.new _ _ _).setRow_same _⟩ (fun w3 h3 => ?_)
  obtain ⟨g, hg, hb3, hG3⟩ := h3
  rw [← hg]
  have hgw : w2.heap.size ≤ g := Nat.le_of_eq hg.symm
  have HB3 := hide hb3
  clear hg hb3
  have kq := (hG3.cell q).trans HCE.out
  have kl := hG3.lt
  have fq := hG3.frozen q
  have hbt : bt = on ∨ bt = !on := by cases bt <;> cases on <;> simp
  rcases hbt with rfl | rfl
  · have hon : ((if bt = true then (p : Int) else 0) == 0) = !bt := by cases bt <;> simp [hp0]
    have hne : ((if bt = true then (p : Int) else 0) != 0) = bt := by cases bt <;> simp [hp0, bne]
    generalize (if bt = true then (p : Int) else 0) = z at hand hon hne
    have HG3 := hide hG3
    clear hG3
    go_wp2
    go_returns
    refine ⟨rfl, ?_, ?_⟩
    · rw [HS1.out, if_pos (by trivial)]; exact HT2.out.1.below HB3.out
    · exact HT2.out.2.1.trans (Tch.of_below (HB3.out.mono HT2.out.2.1.size))
  · have hon : ((if (!on) = true then (p : Int) else 0) == 0) = on := by cases on <;> simp [hp0]
    have hne : ((if (!on) = true then (p : Int) else 0) != 0) = !on := by cases on <;> simp [hp0, bne]
    have hoo : ((!on) == on) = false := by cases on <;> rfl
    have hoo2 : decide ((!on) = on) = false := by cases on <;> rfl
    have hoo3 : ¬ ((!on) = on) := by cases on <;> simp
    generalize (if (!on) = true then (p : Int) else 0) = z at hand hon hne
    have HG3 := hide hG3
    clear hG3
    go_upto_region 12 with (fail)
    refine at_world (fun W => Below w2.heap.size w2 W ∧ Blk W g 106 (bvs (x.set q (UInt8.ofNat xv))).toArray) ⟨HB3.out.setCell hgw _, by rw [← bv_ofNat hx256, ← bvs_set]; exact HG3.out.set_ q _⟩ (fun w4 h4 => ?_)
    obtain ⟨hb4, hG4⟩ := h4
    have hx4l : (x.set q (UInt8.ofNat xv)).length = 64 := by rw [List.length_set]; exact HX.out
    have hs1 := HS1.out
    rw [if_neg hoo3] at hs1
    generalize x.set q (UInt8.ofNat xv) = x' at hG4 hx4l hs1
    have HS2 := hide hs1
    clear hs1
    have HX4 := hide hx4l
    obtain ⟨hx2, ht2, hB2⟩ := HT2.out
    have hB4 : BitsAt w4 bm i.tt f m := Blk.below hB2 hb4 hB2.lt
    have hx4 := hx2.below hb4
    have HF := hide (And.intro hx4 (ht2.trans (Tch.of_below (hb4.mono ht2.size))))
    clear hb4 hx4l HG3 kq fq kl hx2 ht2 hx4
    have c0 := hB4.cell 0
    have cl := hB4.lt
    refine wp_region_text [0, 0, 0, 0, 0, 0, 2, 0] (· = w4.drew) (by kernel_rfl) (by kernel_rfl) rfl ?_
    iterate 5 (refine wpOrd_q (v := ?_) (by rfl) (fun W hW => ?_) ?_; rotate_left; (focus ((cases hW; go_simp); try with_reducible rfl)); try simp only [Act.put, List.setIfInBounds_toArray, List.set_cons_zero, List.set_cons_succ])
    refine wpOrd_q (v := .agg (bvs x').toArray) (by rfl) (fun W hW => by cases hW; exact exec_load_blk 106 (.tmp 10) rfl g _ (bvs x').toArray _ rfl hG4.drew Tryz.underlying106 rfl (size_blockOf HX4.out)) ?_
    try simp only [Act.put, List.setIfInBounds_toArray, List.set_cons_zero, List.set_cons_succ]
    refine wpOrd_b (by rfl) (fun K hK => ?_)
    go_simp
    refine (put_ok (HF.out.1.below (Below.refl _ _).drew) (k := n) (b := x') HX4.out HC.out.lt HC.out.free HC.out.room).mono ?_
    rintro e w5 ⟨rfl, hx5, ht5⟩
    refine hK (fun _ => True) _ _ trivial ?_
    have HF5 := hide (And.intro hx5 (HF.out.2.drew.trans ((ht5.sub fun _ h => Ids.own_mm h).mono HF.out.2.size fun _ _ h => h)))
    clear hK K c0 cl hx5 ht5
    try simp only [Act.put, List.setIfInBounds_toArray, List.set_cons_zero, List.set_cons_succ]
    iterate 1 (refine wpOrd_q (v := ?_) (by rfl) (fun W hW => ?_) ?_; rotate_left; (focus (go_simp; try with_reducible rfl)); try simp only [Act.put, List.setIfInBounds_toArray, List.set_cons_zero, List.set_cons_succ])
    refine wpOrd_nil ?_
    go_wp2
    go_returns
    exact ⟨rfl, by rw [HS2.out]; exact HF5.out.1, HF5.out.2⟩
end
end Go.Proofs.YthmkgohfeahdhaaGreat
namespace Go.Proofs
open Go.Shelf
def Tryz.lays136_ren : Go.Shelf.Ren := ⟨fun | 136 => 185 | n => n, fun | 5 => 5 | 3 => 3 | 9 => 9 | n => n, fun | n => n⟩
theorem Tryz.lays136 : Go.Proofs.Lays.n136 Tryz.prog Tryz.lays136_ren := {
  mixed := by kernel_rfl
  f136 := Tryz.func185.trans (congrArg some (by kernel_rfl))
  t3 := Tryz.underlying3
  a3 := Tryz.isAgg3
  z3 := Tryz.sizeOf3
  v3 := Tryz.zeroValue3
  t5 := Tryz.underlying5
  a5 := Tryz.isAgg5
  z5 := Tryz.sizeOf5
  v5 := Tryz.zeroValue5
  t9 := Tryz.underlying9
  a9 := Tryz.isAgg9
  z9 := Tryz.sizeOf9
  v9 := Tryz.zeroValue9 }
theorem Tryz.bits_TrailingZeros8 (x : Int) (w : World) (h0 : 0 ≤ x) (h1 : x ≤ 255) :
    Calls Tryz.prog 185 #[.int .u8 x] w fun e w' => e = .returned (.int .i64 (Lib.trailingZeros8 x.toNat)) ∧ w' = w := Any.bits_TrailingZeros8 Tryz.lays136 x w h0 h1
def Tryz.lays189_ren : Go.Shelf.Ren := ⟨fun | 189 => 135 | 125 => 168 | 257 => 167 | 128 => 183 | 129 => 184 | 294 => 174 | 295 => 175 | 296 => 176 | 297 => 177 | 298 => 178 | 299 => 179 | 216 => 180 | 300 => 181 | 301 => 182 | 328 => 186 | 329 => 187 | 330 => 188 | 331 => 189 | 332 => 190 | 215 => 191 | 343 => 192 | n => n, fun | 28 => 187 | 3 => 3 | 46 => 93 | 0 => 0 | 51 => 49 | 53 => 108 | 4 => 4 | 183 => 315 | 182 => 314 | 131 => 264 | 5 => 5 | 9 => 9 | 218 => 322 | 222 => 326 | 228 => 328 | 229 => 84 | n => n, fun | n => n⟩
theorem Tryz.lays189 : Go.Proofs.Lays.n189 Tryz.prog Tryz.lays189_ren := {
  mixed := by kernel_rfl
  f125 := Tryz.func168.trans (congrArg some (by kernel_rfl))
  f128 := Tryz.func183.trans (congrArg some (by kernel_rfl))
  f129 := Tryz.func184.trans (congrArg some (by kernel_rfl))
  f189 := Tryz.func135.trans (congrArg some (by kernel_rfl))
  f215 := Tryz.func191.trans (congrArg some (by kernel_rfl))
  f216 := Tryz.func180.trans (congrArg some (by kernel_rfl))
  f257 := Tryz.func167.trans (congrArg some (by kernel_rfl))
  f294 := Tryz.func174.trans (congrArg some (by kernel_rfl))
  f295 := Tryz.func175.trans (congrArg some (by kernel_rfl))
  f296 := Tryz.func176.trans (congrArg some (by kernel_rfl))
  f297 := Tryz.func177.trans (congrArg some (by kernel_rfl))
  f298 := Tryz.func178.trans (congrArg some (by kernel_rfl))
  f299 := Tryz.func179.trans (congrArg some (by kernel_rfl))
  f300 := Tryz.func181.trans (congrArg some (by kernel_rfl))
  f301 := Tryz.func182.trans (congrArg some (by kernel_rfl))
  f328 := Tryz.func186.trans (congrArg some (by kernel_rfl))
  f329 := Tryz.func187.trans (congrArg some (by kernel_rfl))
  f330 := Tryz.func188.trans (congrArg some (by kernel_rfl))
  f331 := Tryz.func189.trans (congrArg some (by kernel_rfl))
  f332 := Tryz.func190.trans (congrArg some (by kernel_rfl))
  f343 := Tryz.func192.trans (congrArg some (by kernel_rfl))
  t0 := Tryz.underlying0
  a0 := Tryz.isAgg0
  z0 := Tryz.sizeOf0
  v0 := Tryz.zeroValue0
  t3 := Tryz.underlying3
  a3 := Tryz.isAgg3
  z3 := Tryz.sizeOf3
  v3 := Tryz.zeroValue3
  t4 := Tryz.underlying4
  a4 := Tryz.isAgg4
  z4 := Tryz.sizeOf4
  v4 := Tryz.zeroValue4
  t5 := Tryz.underlying5
  a5 := Tryz.isAgg5
  z5 := Tryz.sizeOf5
  v5 := Tryz.zeroValue5
  t9 := Tryz.underlying9
  a9 := Tryz.isAgg9
  z9 := Tryz.sizeOf9
  v9 := Tryz.zeroValue9
  t28 := Tryz.underlying187
  a28 := Tryz.isAgg187
  z28 := Tryz.sizeOf187
  v28 := Tryz.zeroValue187
  t46 := Tryz.underlying93
  a46 := Tryz.isAgg93
  z46 := Tryz.sizeOf93
  v46 := Tryz.zeroValue93
  t51 := Tryz.underlying49
  a51 := Tryz.isAgg49
  z51 := Tryz.sizeOf49
  v51 := Tryz.zeroValue49
  t53 := Tryz.underlying108
  a53 := Tryz.isAgg108
  z53 := Tryz.sizeOf108
  v53 := Tryz.zeroValue108
  t131 := Tryz.underlying264
  a131 := Tryz.isAgg264
  z131 := Tryz.sizeOf264
  v131 := Tryz.zeroValue264
  t182 := Tryz.underlying314
  a182 := Tryz.isAgg314
  z182 := Tryz.sizeOf314
  v182 := Tryz.zeroValue314
  t183 := Tryz.underlying315
  a183 := Tryz.isAgg315
  z183 := Tryz.sizeOf315
  v183 := Tryz.zeroValue315
  t218 := Tryz.underlying322
  a218 := Tryz.isAgg322
  z218 := Tryz.sizeOf322
  v218 := Tryz.zeroValue322
  t222 := Tryz.underlying326
  a222 := Tryz.isAgg326
  z222 := Tryz.sizeOf326
  v222 := Tryz.zeroValue326
  t228 := Tryz.underlying328
  a228 := Tryz.isAgg328
  z228 := Tryz.sizeOf328
  v228 := Tryz.zeroValue328
  t229 := Tryz.underlying84
  a229 := Tryz.isAgg84
  z229 := Tryz.sizeOf84
  v229 := Tryz.zeroValue84 }
open Go.Sort Go.RowKit in
theorem Tryz.slices_Sort_int (blk off cap : Nat) (zs : List Int) (w : World) (hH : Holds (Value.int .i64) w blk off zs.toArray) (hblk : blk < w.heap.size) (hsz : zs.length < 4611686018427387904) :
    Calls Tryz.prog 135 #[.slice (some ⟨blk, off, none⟩) zs.length cap] w fun e w' =>
      e = .returned (.tuple #[]) ∧ ∃ n os, w' = grow (putRow (Value.int .i64) (Sort.ahead w n) blk off (zs.mergeSort fun x y => decide (x ≤ y)).toArray) os := Any.slices_Sort_int Tryz.lays189 blk off cap zs w hH hblk hsz
open Go.RowKit Go.Sort in
theorem Tryz.slices_Sort_int_none (p : Option Addr) (cap : Nat) (w : World) :
    Calls Tryz.prog 135 #[.slice p 0 cap] w fun e w' => e = .returned (.tuple #[]) ∧ w' = w := Any.slices_Sort_int_none Tryz.lays189 p cap w
end Go.Proofs
namespace Go.Proofs.YthmkgohfeahdhaaGreat
open Go.RowKit
set_option linter.unusedSimpArgs false
set_option linter.unusedVariables false

/-- the first bit that isn't set -/
def Sto.freeBit (s : Sto) (f m : Nat) : Option Nat := (List.range m).find? fun k => !s.bit f k
def optI : Option Nat → Int
  | some k => (k : Int)
  | none => -1
theorem free_none {s : Sto} {f m : Nat} (h : ∀ k, k < m → s.bit f k = true) : s.freeBit f m = none := by
  unfold Sto.freeBit
  rw [List.find?_eq_none]
  intro k hk
  simp [h k (List.mem_range.1 hk)]
theorem free_some {s : Sto} {f m k : Nat} (hk : k < m) (h0 : s.bit f k = false) (h : ∀ j, j < k → s.bit f j = true) : s.freeBit f m = some k := by
  unfold Sto.freeBit
  rw [List.find?_eq_some_iff_append]
  refine ⟨by simp [h0], List.range k, (List.range (m - k - 1)).map (· + (k + 1)), ?_, ?_⟩
  · apply List.ext_getElem?
    intro j
    by_cases h1 : j < k
    · rw [List.getElem?_append_left (by simpa using h1)]
      simp [List.getElem?_range, h1, show j < m by omega]
    · by_cases h2 : j = k
      · subst h2
        simp [hk]
      · rw [List.getElem?_append_right (by simp; omega), List.length_range, show j - k = (j - k - 1) + 1 from by omega, List.getElem?_cons_succ]
        by_cases h3 : j < m
        · simp [List.getElem?_range, h3, show j - k - 1 < m - k - 1 by omega]; omega
        · simp [show ¬ j < m from h3, show ¬ j - k - 1 < m - k - 1 by omega]
  · intro j hj
    simp [h j (List.mem_range.1 hj)]
theorem byte_free : ∀ x : Fin 256, x.val ≠ 255 → Lib.trailingZeros8 (255 - x.val) < 8 ∧ x.val.testBit (Lib.trailingZeros8 (255 - x.val)) = false ∧ ∀ j, j < Lib.trailingZeros8 (255 - x.val) → x.val.testBit j = true := by
  have h : ∀ x : Fin 256, x.val ≠ 255 → Lib.trailingZeros8 (255 - x.val) < 8 ∧ x.val.testBit (Lib.trailingZeros8 (255 - x.val)) = false ∧ ∀ j : Fin 8, j.val < Lib.trailingZeros8 (255 - x.val) → x.val.testBit j.val = true := by decide +kernel
  intro x hx
  obtain ⟨h1, h2, h3⟩ := h x hx
  exact ⟨h1, h2, fun j hj => h3 ⟨j, by omega⟩ hj⟩
theorem byte_full {j : Nat} (hj : j < 8) : (255 : Nat).testBit j = true := by
  have : ∀ j : Fin 8, (255 : Nat).testBit j.val = true := by decide
  exact this ⟨j, hj⟩
theorem byte_not {v : Nat} (hv : v < 256) : bits BinOp.xor IntKind.u8 IntKind.u8.max (v : Int) = 255 - (v : Int) := by
  have h : ∀ x : Fin 256, 255 ^^^ x.val = 255 - x.val := by decide +kernel
  have := xor8 (a := 255) (b := v) (by decide) hv
  rw [show ((255 : Nat) : Int) = IntKind.u8.max from rfl] at this
  have h2 : 255 ^^^ v = 255 - v := h ⟨v, hv⟩
  rw [this, h2]
  omega
/-- the bits of one byte -/
theorem bit_byte {s : Sto} {f n a j : Nat} (ha : a < 64) (hj : j < 8) : s.bit f (n * 512 + a * 8 + j) = ((s.at_ (f + n)).getD a 0).toNat.testBit j := by
  unfold Sto.bit bitB
  rw [show (n * 512 + a * 8 + j) / 512 = n from by omega, show (n * 512 + a * 8 + j) % 512 / 8 = a from by omega, show (n * 512 + a * 8 + j) % 512 % 8 = j from by omega]

section
variable {w w' : World} {i : Ids} {s : Sto}
theorem BitsAt.not_own {bm f m : Nat} (h : TxAt w i s) (hB : BitsAt w bm i.tt f m) : ¬ i.own bm := h.other hB (by decide) (by decide) (by decide)

set_option maxRecDepth 100000 in
set_option maxHeartbeats 800000 in
theorem has_bit {bm f m k : Nat} (h : TxAt w i s) (hB : BitsAt w bm i.tt f m) (hf : f ≤ 65536) (hm : m ≤ 65536) (hk : k < m) (hc : f + k / 512 < s.D.length) :
    Calls Tryz.prog 152 #[.pointer (some ⟨bm, 0, none⟩), .int .i64 (k : Int)] w fun e w' => e = .returned (.tuple #[.bool (s.bit f k), .int .i64 0]) ∧ TxAt w' i s ∧ Tch w.heap.size i.own w w' := by
  have k0 : decide ((k : Int) < 0) = false := by simp
  have k1 : decide (m ≤ k) = false := by simpa using hk
  have c0 := hB.cell 0
  have c2 := hB.cell 2
  have cl := hB.lt
  go_enter Tryz.func152, Tryz.ntmps152
  have hp := place_ok hB hf (k := k) (by omega)
  obtain ⟨n, hn⟩ : ∃ n, f + k / 512 = n := ⟨_, rfl⟩
  obtain ⟨q, hq⟩ : ∃ q, k / 8 % 64 = q := ⟨_, rfl⟩
  obtain ⟨p, hpp⟩ : ∃ p, 2 ^ (k % 8) = p := ⟨_, rfl⟩
  rw [hn, hq, hpp] at hp
  rw [hn] at hc
  have hq64 : (q : Int) < 64 := by omega
  have hx64 : (s.at_ n).length = 64 := Sto.at_length h.ok n
  have hbit : s.bit f k = ((s.at_ n).getD q 0).toNat.testBit (k % 8) := by
    unfold Sto.bit bitB
    rw [hn, show k % 512 / 8 = q from by omega, show k % 512 % 8 = k % 8 from by omega]
  have hand : bits BinOp.and IntKind.u8 (((s.at_ n).getD q 0).toNat : Int) (p : Int) = if ((s.at_ n).getD q 0).toNat.testBit (k % 8) then (p : Int) else 0 := by
    rw [and8 ((s.at_ n).getD q 0).toNat_lt (by rw [← hpp]; exact pow8 (Nat.mod_lt _ (by decide))), ← hpp, and_pow _ (Nat.mod_lt _ (by decide))]
    split <;> rfl
  have hp0 : ((p : Int) == 0) = false := by
    have : 0 < p := by rw [← hpp]; exact Nat.two_pow_pos _
    simp; omega
  have hcell : (bvs (s.at_ n)).toArray[q]? = some (.int .u8 (((s.at_ n).getD q 0).toNat : Int)) := by
    rw [List.getElem?_toArray, bvs_get, List.getD_eq_getElem?_getD, List.getElem?_eq_getElem (by omega)]
    rfl
  generalize ((s.at_ n).getD q 0).toNat = av at hand hcell hbit
  generalize hxx : s.at_ n = x at *
  generalize av.testBit (k % 8) = bt at *
  have hon : ((if bt = true then (p : Int) else 0) == 0) = !bt := by cases bt <;> simp [hp0]
  have hne : ((if bt = true then (p : Int) else 0) != 0) = bt := by cases bt <;> simp [hp0, bne]
  generalize (if bt = true then (p : Int) else 0) = z at hand hon hne
  have HBIT := hide hbit
  clear hn hq hpp hbit
  have HC := hide hc
  have H := hide h
  have HX := hide hx64
  have HXX := hide hxx
  have HCE := hide hcell
  clear hc hx64 hxx hcell h
  go_wp2_with fail
  refine hp.mono ?_
  rintro e w1 ⟨rfl, hb1⟩
  have hB1 : BitsAt w1 bm i.tt f m := Blk.below hB hb1 hB.lt
  clear c0 c2 cl hp
  have c0 := hB1.cell 0
  have cl := hB1.lt
  have HB1 := hide (And.intro hb1 hB1)
  clear hb1 hB hB1
  go_wp2_with fail
  refine (get_ok (H.out.below HB1.out.1) HC.out).mono ?_
  rw [HXX.out]
  rintro e w2 ⟨rfl, hx2, ht2⟩
  have HT2 := hide (And.intro hx2 ((Tch.of_below (S := i.own) HB1.out.1).trans (ht2.own_dd.mono HB1.out.1.size fun _ _ h => h)))
  clear hx2 ht2 c0 cl
  go_upto_region 7 with (first | ((with_reducible refine at_alloc 106 ?_); refine wpList_alloc_as rfl 106 rfl _ (zero_block _) ?_) | ((with_reducible refine at_store 106 (.tmp 9) (.tmp 39) ?_); refine wpList_store_blk rfl 106 (.tmp 9) (.tmp 39) rfl w2.heap.size 106 _ _ (by rfl) (by rfl) (Blk.new _ _ _) (size_blockOf HX.out) ((bvs_size zeroB_length).trans (bvs_size HX.out).symm) (bvs_oneCell _) (fun _ => ?_)) | fail)
  refine at_world (fun W => ∃ g, g = w2.heap.size ∧ Below w2.heap.size w2 W ∧ Blk W g 106 (bvs x).toArray) ⟨_, rfl, below_setRow ((Below.refl _ _).alloc (Nat.le_refl _) _) (Nat.le_refl _) _, (Blk.new _ _ _).setRow_same _⟩ (fun w3 h3 => ?_)
  obtain ⟨g, hg, hb3, hG3⟩ := h3
  rw [← hg]
  have HB3 := hide hb3
  clear hg hb3
  have kq := (hG3.cell q).trans HCE.out
  have kl := hG3.lt
  clear hG3
  go_wp2
  go_returns
  refine ⟨by rw [HBIT.out]; rfl, HT2.out.1.below HB3.out, HT2.out.2.trans (Tch.of_below (HB3.out.mono HT2.out.2.size))⟩

theorem meth_get (n tt : Nat) (w : World) : (method (n + 1) 33 (.pointer (some ⟨tt, 0, none⟩)) "Get").run Tryz.prog w = .ok (112, .pointer (some ⟨tt, 0, none⟩)) w := by kernel_rfl

set_option maxRecDepth 100000 in
set_option maxHeartbeats 1600000 in
theorem free_ok {bm f m : Nat} (h : TxAt w i s) (hB : BitsAt w bm i.tt f m) (hf : f ≤ 65536) (hm : m ≤ 65536) (hc : ∀ n, n * 512 < m → f + n < s.D.length) :
    Calls Tryz.prog 169 #[.pointer (some ⟨bm, 0, none⟩)] w fun e w' => e = .returned (.tuple #[.int .i64 (optI (s.freeBit f m)), .int .i64 0]) ∧ TxAt w' i s ∧ Tch w.heap.size i.own w w' := by
  have HOWN := hide (hB.not_own h)
  have hbl := hB.lt
  have H := hide h
  have HC := hide hc
  have HB := hide hB
  clear h hc hB
  go_enter Tryz.func169, Tryz.ntmps169
  go_wp2_with fail
  go_loopg [4] (m + 1) (fun gh x4 wr => ∃ n : Nat, gh = m + 1 - n ∧ n ≤ m ∧ x4 = .int .i64 (n : Int) ∧ Hid (TxAt wr i s) ∧ Hid (BitsAt wr bm i.tt f m) ∧ Hid (Tch w.heap.size i.own w wr) ∧ Hid (∀ k, k < n * 512 → s.bit f k = true))
  case atStart => exact ⟨0, rfl, Nat.zero_le _, rfl, H, HB, hide (Tch.refl _ _ _), hide (fun k hk => by omega)⟩
  case round =>
    obtain ⟨n, hg, hnm, rfl, HX, HBM, HT, HA⟩ := hrel
    have HG := hide hg
    clear hg
    have c0 := HBM.out.cell 0
    have c1 := HBM.out.cell 1
    have c2 := HBM.out.cell 2
    have cl := HBM.out.lt
    rcases Nat.lt_or_ge (n * 512) m with hn | hn
    · have e1 : IntKind.i64.wrap ((f : Int) + (n : Int)) = ((f + n : Nat) : Int) := by rw [IntWalk.i64_in _ (by omega)]; omega
      have hn2 : f + n < s.D.length := HC.out n hn
      obtain ⟨x, hx⟩ : ∃ x, s.at_ (f + n) = x := ⟨_, rfl⟩
      have hx64 : x.length = 64 := by rw [← hx]; exact Sto.at_length H.out.ok _
      have hget := fun (W : World) (hW : TxAt W i s) => get_ok hW hn2
      rw [hx] at hget
      have HBIT := hide (fun a j (ha : a < 64) (hj : j < 8) => bit_byte (s := s) (f := f) (n := n) ha hj)
      have HXB : Hid (∀ a j, a < 64 → j < 8 → s.bit f (n * 512 + a * 8 + j) = (x.getD a 0).toNat.testBit j) := hide (by rw [← hx]; exact HBIT.out)
      generalize f + n = fn at e1 hn2 hget
      have HGET := hide hget
      have HX64 := hide hx64
      clear hx hx64 hget HBIT hn2
      go_upto_region 6 with (fail)
      go_cut [5, 6] from 12 to 36 (fun x5 x6 wc => ∃ g, x5 = .pointer (some ⟨g, 0, none⟩) ∧ x6 = .int .i64 0 ∧ Hid (TxAt wc i s) ∧ Hid (BitsAt wc bm i.tt f m) ∧ Hid (Tch w.heap.size i.own w wc) ∧ Hid (Blk wc g 106 (bvs x).toArray))
      case first =>
        refine wp_region_tree (.q 0 (.q 1 (.q 2 (.q 3 (.q 4 (.q 5 (.q 6 (.q 7 (.q 8 (.q 9 (.q 10 (.q 11 (.br 12 (.q 13 (.q 14 (.q 15 (.x 16 (.x 17 (.q 18 .nil)))))) 16 (.x 12 (.q 13 (.q 14 (.q 15 (.x 17 (.q 18 .nil))))))))))))))))))) (fun W => BitsAt W bm i.tt f m ∧ TxAt W i s ∧ Tch w.heap.size i.own w W) (by kernel_rfl) (by kernel_rfl) ⟨HBM.out.drew, HX.out.below (Below.refl _ _).drew, HT.out.drew⟩ ?_
        iterate 12 (refine wpT_q (v := ?_) (by simp only [List.getElem?_toArray, List.getElem?_cons_succ, List.getElem?_cons_zero]; try rfl) (by rfl) (fun W hW => ?_) ?_; rotate_left; (focus ((have hc0 := hW.1.cell 0; have hc1 := hW.1.cell 1; go_simp); try with_reducible rfl)); try simp only [Act.put, List.setIfInBounds_toArray, List.set_cons_zero, List.set_cons_succ])
        refine wpT_br ?_ ?_
        · refine wpT_x (by simp only [List.getElem?_toArray, List.getElem?_cons_succ, List.getElem?_cons_zero]; try rfl) (by rfl) (fun K hK => ?_)
          go_simp
          simp only [meth_get]
          go_simp
          refine (HGET.out _ (HX.out.below (Below.refl _ _).drew)).mono ?_
          rintro e w2 ⟨rfl, hx2, ht2⟩
          have hdd : ¬ bm = i.dd := fun e => HOWN.out (.inr (.inr (.inl e)))
          have hB2 : BitsAt w2 bm i.tt f m := Blk.tch (w := wr.drew) HBM.out.drew ht2 HBM.out.lt hdd
          have hT2 : Tch w.heap.size i.own w w2 := HT.out.drew.trans ((ht2.own_dd).mono (by have := HT.out.size; exact this) fun _ _ h => h)
          refine hK _ _ _ (fun _ h => h) ⟨hB2, hx2, hT2⟩ ?_
          clear hK K
          try simp only [Act.put, List.setIfInBounds_toArray, List.set_cons_zero, List.set_cons_succ]
          iterate 3 (refine wpT_q (v := ?_) (by simp only [List.getElem?_toArray, List.getElem?_cons_succ, List.getElem?_cons_zero]; try rfl) (by rfl) (fun W hW => ?_) ?_; rotate_left; (focus ((go_simp); try with_reducible rfl)); try simp only [Act.put, List.setIfInBounds_toArray, List.set_cons_zero, List.set_cons_succ])
          refine wpT_x (by simp only [List.getElem?_toArray, List.getElem?_cons_succ, List.getElem?_cons_zero]; try rfl) (by rfl) (fun K hK => ?_)
          refine wp_alloc_as 106 rfl _ (zero_block _) ?_
          have hbl : Below w2.heap.size w2 (w2.alloc (.cells (bvs zeroB).toArray 106)) := (Below.refl _ _).alloc (Nat.le_refl _) _
          refine hK _ _ _ (fun _ h => h) ⟨Blk.below hB2 hbl hB2.lt, hx2.below hbl, hT2.alloc (Nat.le_refl _) _⟩ ?_
          clear hK K
          try simp only [Act.put, List.setIfInBounds_toArray, List.set_cons_zero, List.set_cons_succ]
          refine wpT_x (by simp only [List.getElem?_toArray, List.getElem?_cons_succ, List.getElem?_cons_zero]; try rfl) (by rfl) (fun K hK => ?_)
          refine wp_store_blk 106 (.tmp 5) (.tmp 35) rfl w2.heap.size 106 _ _ (by rfl) (by rfl) (Blk.new _ _ _) (size_blockOf HX64.out) ((bvs_size zeroB_length).trans (bvs_size HX64.out).symm) (bvs_oneCell _) (fun hG => ?_)
          have hgw : ¬ w2.heap.size < w.heap.size := by have := hT2.size; omega
          have hfin : (BitsAt ((w2.alloc (.cells (bvs zeroB).toArray 106)).setRow w2.heap.size (bvs x).toArray) bm i.tt f m ∧ TxAt ((w2.alloc (.cells (bvs zeroB).toArray 106)).setRow w2.heap.size (bvs x).toArray) i s ∧ Tch w.heap.size i.own w ((w2.alloc (.cells (bvs zeroB).toArray 106)).setRow w2.heap.size (bvs x).toArray)) :=
            ⟨Blk.below hB2 (below_setRow hbl (Nat.le_refl _) _) hB2.lt, hx2.below (below_setRow hbl (Nat.le_refl _) _), hT2.trans ((Tch.of_below (below_setRow hbl (Nat.le_refl _) _)).mono hT2.size fun _ _ h => h)⟩
          refine hK _ _ _ (fun _ h => h) hfin ?_
          have HF := hide hfin
          have HG2 := hide hG
          clear hK K hfin hG hB2 hx2 hT2 ht2 hbl
          try simp only [Act.put, List.setIfInBounds_toArray, List.set_cons_zero, List.set_cons_succ]
          iterate 1 (refine wpT_q (v := ?_) (by simp only [List.getElem?_toArray, List.getElem?_cons_succ, List.getElem?_cons_zero]; try rfl) (by rfl) (fun W hW => ?_) ?_; rotate_left; (focus ((go_simp); try with_reducible rfl)); try simp only [Act.put, List.setIfInBounds_toArray, List.set_cons_zero, List.set_cons_succ])
          refine wpT_nil ?_
          go_wp2
          go_meet
          case rel => exact ⟨_, rfl, rfl, hide HF.out.2.1, hide HF.out.1, hide HF.out.2.2, HG2⟩
        · refine wpT_x (by simp only [List.getElem?_toArray, List.getElem?_cons_succ, List.getElem?_cons_zero]; try rfl) (by rfl) (fun K hK => ?_)
          refine wp_alloc_as 106 rfl _ (zero_block _) ?_
          have hbl : Below wr.heap.size wr (wr.drew.alloc (.cells (bvs zeroB).toArray 106)) := (Below.refl _ _).drew.alloc (Nat.le_refl _) _
          have hB1 : BitsAt (wr.drew.alloc (.cells (bvs zeroB).toArray 106)) bm i.tt f m := Blk.below HBM.out hbl HBM.out.lt
          have hx1 := HX.out.below hbl
          have hT1 : Tch w.heap.size i.own w (wr.drew.alloc (.cells (bvs zeroB).toArray 106)) := HT.out.trans ((Tch.of_below hbl).mono HT.out.size fun _ _ h => h)
          have hG1 := Blk.new wr.drew 106 (bvs zeroB).toArray
          refine hK _ _ _ (fun _ h => h) ⟨hB1, hx1, hT1⟩ ?_
          clear hK K
          try simp only [Act.put, List.setIfInBounds_toArray, List.set_cons_zero, List.set_cons_succ]
          refine wpT_x (by simp only [List.getElem?_toArray, List.getElem?_cons_succ, List.getElem?_cons_zero]; try rfl) (by rfl) (fun K hK => ?_)
          go_simp
          simp only [meth_get]
          go_simp
          refine (HGET.out _ hx1).mono ?_
          rintro e w2 ⟨rfl, hx2, ht2⟩
          have hdd : ¬ bm = i.dd := fun e => HOWN.out (.inr (.inr (.inl e)))
          have hB2 : BitsAt w2 bm i.tt f m := Blk.tch hB1 ht2 hB1.lt hdd
          have hT2 : Tch w.heap.size i.own w w2 := hT1.trans ((ht2.own_dd).mono hT1.size fun _ _ h => h)
          have hgd : wr.heap.size ≠ i.dd := by have := HX.out.log.disk.dlt; omega
          have hG2 := hG1.tch ht2 hG1.lt hgd
          refine hK _ _ _ (fun _ h => h) ⟨hB2, hx2, hT2⟩ ?_
          clear hK K
          try simp only [Act.put, List.setIfInBounds_toArray, List.set_cons_zero, List.set_cons_succ]
          iterate 3 (refine wpT_q (v := ?_) (by simp only [List.getElem?_toArray, List.getElem?_cons_succ, List.getElem?_cons_zero]; try rfl) (by rfl) (fun W hW => ?_) ?_; rotate_left; (focus ((go_simp); try with_reducible rfl)); try simp only [Act.put, List.setIfInBounds_toArray, List.set_cons_zero, List.set_cons_succ])
          refine wpT_x (by simp only [List.getElem?_toArray, List.getElem?_cons_succ, List.getElem?_cons_zero]; try rfl) (by rfl) (fun K hK => ?_)
          refine wp_store_blk 106 (.tmp 5) (.tmp 35) rfl wr.heap.size 106 _ _ (by rfl) (by rfl) hG2 (size_blockOf HX64.out) ((bvs_size zeroB_length).trans (bvs_size HX64.out).symm) (bvs_oneCell _) (fun hG => ?_)
          have hfin : BitsAt (w2.setRow wr.heap.size (bvs x).toArray) bm i.tt f m ∧ TxAt (w2.setRow wr.heap.size (bvs x).toArray) i s ∧ Tch w.heap.size i.own w (w2.setRow wr.heap.size (bvs x).toArray) :=
            ⟨Blk.setRow_far hB2 (by have := HBM.out.lt; omega) _, HX.out.setRow_new (Nat.le_refl _) hx2 _, hT2.trans (Tch.setRow fun hp => absurd hp (by have := HT.out.size; omega))⟩
          refine hK _ _ _ (fun _ h => h) hfin ?_
          have HF := hide hfin
          have HG2 := hide hG
          clear hK K hfin hG hB2 hx2 hT2 ht2 hbl hG2 hG1 hx1 hB1 hT1
          try simp only [Act.put, List.setIfInBounds_toArray, List.set_cons_zero, List.set_cons_succ]
          iterate 1 (refine wpT_q (v := ?_) (by simp only [List.getElem?_toArray, List.getElem?_cons_succ, List.getElem?_cons_zero]; try rfl) (by rfl) (fun W hW => ?_) ?_; rotate_left; (focus ((go_simp); try with_reducible rfl)); try simp only [Act.put, List.setIfInBounds_toArray, List.set_cons_zero, List.set_cons_succ])
          refine wpT_nil ?_
          go_wp2
          go_meet
          case rel => exact ⟨_, rfl, rfl, hide HF.out.2.1, hide HF.out.1, hide HF.out.2.2, HG2⟩
      case rest =>
        obtain ⟨g, rfl, rfl, HX2, HBM2, HT2, HG2⟩ := hcut
        clear c0 c1 c2 cl
        have HC0 := hide (HBM2.out.cell 0)
        have c2 := HBM2.out.cell 2
        have cl := HBM2.out.lt
        have hgl := HG2.out.lt
        go_wp2_with (first | ((with_reducible refine at_load 106 (.tmp 5) ?_); refine wpList_load_blk rfl 106 (.tmp 5) rfl g 106 _ _ (by rfl) HG2.out Tryz.underlying106 rfl (size_blockOf HX64.out) ?_) | fail)
        go_loopg [41] 64 (fun gh x41 wr2 => ∃ a : Nat, gh = 64 - a ∧ a ≤ 64 ∧ wr2 = wc ∧ x41 = .int .i64 (a : Int) ∧ Hid (∀ k, k < n * 512 + a * 8 → s.bit f k = true))
        case atStart => exact ⟨0, rfl, Nat.zero_le _, rfl, rfl, hide (by simpa using HA.out)⟩
        case round =>
          obtain ⟨a, hga, ha64, rfl, rfl, HA2⟩ := hrel
          have HGA := hide hga
          clear hga
          rcases Nat.lt_or_ge a 64 with ha | ha
          · have haz : (a : Int) < 64 := by omega
            have hcell : (bvs x).toArray[a]? = some (.int .u8 ((x.getD a 0).toNat : Int)) := by
              rw [List.getElem?_toArray, bvs_get, List.getD_eq_getElem?_getD, List.getElem?_eq_getElem (by have := HX64.out; omega)]
              rfl
            have HCE := hide hcell
            have hb := fun j (hj : j < 8) => HXB.out a j ha hj
            have hv256 := (x.getD a 0).toNat_lt
            clear hcell
            generalize (x.getD a 0).toNat = v at HCE hb hv256
            have hbf := byte_free ⟨v, by simpa using hv256⟩
            simp only at hbf
            by_cases h255 : v = 255
            · have hv : ((v : Int) == 255) = true := by simp [h255]
              have HB8 := hide (And.intro hb h255)
              clear hb hbf h255 hv256
              go_wp2_with (first | ((with_reducible refine at_index 106 (.tmp 40) (.tmp 41) ?_); refine wpList_index_arr rfl 106 5 (.tmp 40) (.tmp 41) rfl 64 a .i64 .u8 _ _ (by rfl) (by rfl) ha HCE.out Tryz.underlying106 Tryz.underlying5 (by kernel_rfl) ?_) | fail)
              go_roundg (64 - (a + 1))
              case rel => exact ⟨a + 1, rfl, by omega, rfl, by go_num, hide (fun k hk => by
                rcases Nat.lt_or_ge k (n * 512 + a * 8) with h | h
                · exact HA2.out k h
                · have := HB8.out.1 (k - (n * 512 + a * 8)) (by omega)
                  rw [show n * 512 + a * 8 + (k - (n * 512 + a * 8)) = k from by omega, HB8.out.2] at this
                  rw [this]; exact byte_full (by omega))⟩
              case measure => have := HGA.out; omega
            · have hv : ((v : Int) == 255) = false := by simp; omega
              obtain ⟨ht8, htf, htt⟩ := hbf h255
              obtain ⟨tz, htz⟩ : ∃ tz, Lib.trailingZeros8 (255 - v) = tz := ⟨_, rfl⟩
              have htzc := fun (W : World) => Tryz.bits_TrailingZeros8 (255 - (v : Int)) W (by omega) (by omega)
              rw [show (255 - (v : Int)).toNat = 255 - v from by omega, htz] at htzc
              rw [htz] at ht8 htf htt
              have hxr := byte_not hv256
              have w1 : IntKind.i64.wrap ((n : Int) * 512 + (a : Int) * 8) = (n : Int) * 512 + (a : Int) * 8 := IntWalk.i64_in _ (by omega)
              have w2 : IntKind.i64.wrap ((n : Int) * 512 + (a : Int) * 8 + (tz : Int)) = (n : Int) * 512 + (a : Int) * 8 + (tz : Int) := IntWalk.i64_in _ (by omega)
              have hfree : s.bit f (n * 512 + a * 8 + tz) = false := by rw [hb tz ht8]; exact htf
              have hfull : ∀ k, k < n * 512 + a * 8 + tz → s.bit f k = true := fun k hk => by
                rcases Nat.lt_or_ge k (n * 512 + a * 8) with h | h
                · exact HA2.out k h
                · have := hb (k - (n * 512 + a * 8)) (by omega)
                  rw [show n * 512 + a * 8 + (k - (n * 512 + a * 8)) = k from by omega] at this
                  rw [this]; exact htt _ (by omega)
              have HF := hide (And.intro hfree hfull)
              have HTZ := hide htzc
              clear hb hbf h255 htf htt htz htzc hfree hfull
              go_wp2_with (first | ((with_reducible refine at_index 106 (.tmp 40) (.tmp 41) ?_); refine wpList_index_arr rfl 106 5 (.tmp 40) (.tmp 41) rfl 64 a .i64 .u8 _ _ (by rfl) (by rfl) ha HCE.out Tryz.underlying106 Tryz.underlying5 (by kernel_rfl) ?_) | fail)
              refine (HTZ.out _).mono ?_
              rintro e w5 ⟨rfl, rfl⟩
              by_cases him : n * 512 + a * 8 + tz < m
              · have hd : decide ((m : Int) ≤ (n : Int) * 512 + (a : Int) * 8 + (tz : Int)) = false := by simp; omega
                have hfm := free_some him HF.out.1 HF.out.2
                have HFM := hide hfm
                clear hfm
                go_wp2
                go_returns
                refine ⟨?_, HX2.out, HT2.out⟩
                rw [HFM.out]
                simp [optI]
              · have hd : decide ((m : Int) ≤ (n : Int) * 512 + (a : Int) * 8 + (tz : Int)) = true := by simp; omega
                have hfm := free_none (s := s) (f := f) (m := m) fun k hk => HF.out.2 k (by omega)
                have HFM := hide hfm
                clear hfm
                go_wp2
                go_returns
                refine ⟨?_, HX2.out, HT2.out⟩
                rw [HFM.out]
                rfl
          · have hA3 : a = 64 := by omega
            have haf : decide ((a : Int) < 64) = false := by simp; omega
            go_wp2
            go_roundg (m + 1 - (n + 1))
            case rel => exact ⟨n + 1, rfl, by omega, by go_num, HX2, HBM2, HT2, hide (fun k hk => HA2.out k (by omega))⟩
            case measure => have := HG.out; omega
    · go_wp2
      go_returns
      refine ⟨?_, HX.out, HT.out⟩
      rw [free_none fun k hk => HA.out k (by omega)]
      rfl
end
end Go.Proofs.YthmkgohfeahdhaaGreat
namespace Go.Proofs.YthmkgohfeahdhaaGreat
open Go.RowKit
set_option linter.unusedSimpArgs false
set_option linter.unusedVariables false

/-- how many bits are set -/
def Sto.cntBit (s : Sto) (f m : Nat) : Nat := ((List.range m).filter (s.bit f)).length

section
variable {w w' : World} {i : Ids} {s : Sto}
end
end Go.Proofs.YthmkgohfeahdhaaGreat
namespace Go.Proofs.YthmkgohfeahdhaaGreat
open Go.RowKit
set_option linter.unusedSimpArgs false
set_option linter.unusedVariables false

abbrev u16v (x : UInt16) : Value := .int .u16 (x.toNat : Int)
/-- a node -/
structure NodeV where
  kind : UInt8
  links : UInt8
  gen : UInt16
  size : UInt32
  dir : List UInt16
  single : UInt16
  double : UInt16
deriving DecidableEq
def NodeV.zero : NodeV := ⟨0, 0, 0, 0, [0, 0, 0, 0, 0, 0], 0, 0⟩
def NodeV.cells (n : NodeV) : List Value := [.int .u8 (n.kind.toNat : Int), .int .u8 (n.links.toNat : Int), .int .u16 (n.gen.toNat : Int), .int .u32 (n.size.toNat : Int)] ++ n.dir.map u16v ++ [u16v n.single, u16v n.double]
def NodeV.val (n : NodeV) : Value := .agg n.cells.toArray
theorem NodeV.cells_length {n : NodeV} (h : n.dir.length = 6) : n.cells.length = 12 := by simp [NodeV.cells, h]
theorem NodeV.cells_one (n : NodeV) : n.cells.toArray.all (·.oneCell') = true := by
  rw [Array.all_eq_true_iff_forall_mem]
  intro x hx
  simp only [NodeV.cells, List.mem_toArray, List.mem_append, List.mem_cons, List.mem_map, List.not_mem_nil, or_false] at hx
  rcases hx with (((rfl | rfl | rfl | rfl) | ⟨y, _, rfl⟩) | (rfl | rfl)) <;> rfl

/-- is it free, but for its generation? -/
def blankN (n : NodeV) : Bool := decide (n = { NodeV.zero with gen := n.gen })
/-- may it be a node? -/
def checkN (n : NodeV) : Bool :=
  if n.kind = 0 then blankN n
  else if n.kind.toNat ≤ 5 then
    decide (n.links ≠ 0) && decide (n.size.toNat ≤ 16384) &&
      (if n.kind = 3 ∨ n.kind = 5 then decide (n.size = 0) else if n.kind = 4 then decide (1 ≤ n.size.toNat ∧ n.size.toNat ≤ 60) else if n.kind = 2 then decide (n.size.toNat % 16 = 0) else true)
  else false

/-! ### numbers, the lowest byte first -/
def byteN (n j : Nat) : UInt8 := UInt8.ofNat (n / 256 ^ j % 256)
def leB (n k : Nat) : List UInt8 := (List.range k).map (byteN n)
theorem leB_length (n k : Nat) : (leB n k).length = k := by simp [leB]
theorem leB_succ (n k : Nat) : leB n (k + 1) = leB n k ++ [byteN n k] := by simp [leB, List.range_succ]
theorem byteN_toNat (n j : Nat) : (byteN n j).toNat = n / 256 ^ j % 256 := by
  unfold byteN
  rw [UInt8.toNat_ofNat', Nat.mod_eq_of_lt]
  exact Nat.mod_lt _ (by decide)
def leN : List UInt8 → Nat
  | [] => 0
  | b :: r => b.toNat + 256 * leN r
theorem leN_snoc : ∀ (l : List UInt8) (b : UInt8), leN (l ++ [b]) = leN l + b.toNat * 256 ^ l.length
  | [], b => by simp [leN]
  | a :: r, b => by
    simp only [List.cons_append, leN, leN_snoc r b, List.length_cons, Nat.pow_succ]
    rw [Nat.mul_add, ← Nat.add_assoc, Nat.mul_comm (256 ^ r.length) 256, ← Nat.mul_assoc, ← Nat.mul_assoc, Nat.mul_comm 256 b.toNat]
theorem leN_lt : ∀ (l : List UInt8), leN l < 256 ^ l.length
  | [] => by simp [leN]
  | a :: r => by
    have := leN_lt r
    have ha := a.toNat_lt
    simp only [leN, List.length_cons, Nat.pow_succ]
    omega
theorem leN_leB (n : Nat) : ∀ k, leN (leB n k) = n % 256 ^ k
  | 0 => by simp [leB, leN, Nat.mod_one]
  | k + 1 => by
    rw [leB_succ, leN_snoc, leN_leB n k, leB_length, byteN_toNat]
    have h1 : n % 256 ^ (k + 1) = n % 256 ^ k + (n / 256 ^ k % 256) * 256 ^ k := by
      rw [Nat.pow_succ, Nat.mod_mul, Nat.mul_comm]
    omega

/-- bytes written into bytes -/
def wrB (bs : List UInt8) (a : Nat) (l : List UInt8) : List UInt8 := bs.take a ++ l ++ bs.drop (a + l.length)
theorem wrB_nil {bs : List UInt8} {a : Nat} : wrB bs a [] = bs := by simp [wrB]
theorem wrB_length {bs : List UInt8} {a : Nat} {l : List UInt8} (h : a + l.length ≤ bs.length) : (wrB bs a l).length = bs.length := by
  simp [wrB, Nat.min_eq_left (show a ≤ bs.length by omega)]
  omega
theorem wrB_snoc {bs : List UInt8} {a : Nat} {l : List UInt8} {b : UInt8} (h : a + l.length < bs.length) : wrB bs a (l ++ [b]) = (wrB bs a l).set (a + l.length) b := by
  have h1 : (bs.take a ++ l).length = a + l.length := by simp [Nat.min_eq_left (show a ≤ bs.length by omega)]
  unfold wrB
  rw [List.set_append_right _ _ (by omega), h1, Nat.sub_self, List.drop_eq_getElem_cons h, List.set_cons_zero, List.length_append, List.length_singleton, ← Nat.add_assoc]
  simp
theorem wrB_more {bs : List UInt8} {a : Nat} {l m : List UInt8} (h : a + l.length + m.length ≤ bs.length) : wrB (wrB bs a l) (a + l.length) m = wrB bs a (l ++ m) := by
  have h1 : (bs.take a ++ l).length = a + l.length := by simp [Nat.min_eq_left (show a ≤ bs.length by omega)]
  unfold wrB
  rw [List.take_append_of_le_length (by omega), List.take_of_length_le (by omega), List.drop_append, List.drop_of_length_le (by omega), h1, List.drop_drop, List.length_append, List.nil_append,
    show a + l.length + (a + l.length + m.length - (a + l.length)) = a + (l.length + m.length) from by omega]
  simp

/-- a node as bytes -/
def encHead (n : NodeV) : List UInt8 := leB n.kind.toNat 1 ++ leB n.links.toNat 1 ++ leB n.gen.toNat 2 ++ leB n.size.toNat 4
def encDir (l : List UInt16) : List UInt8 := (l.map fun d => leB d.toNat 2).flatten
def encN (n : NodeV) : List UInt8 := encHead n ++ encDir n.dir ++ leB n.single.toNat 2 ++ leB n.double.toNat 2 ++ List.replicate 8 0
theorem encHead_length (n : NodeV) : (encHead n).length = 8 := by simp [encHead, leB_length]
theorem encDir_length (l : List UInt16) : (encDir l).length = 2 * l.length := by
  induction l with
  | nil => rfl
  | cons a r ih =>
    simp only [encDir, List.map_cons, List.flatten_cons, List.length_append, leB_length, List.length_cons] at ih ⊢
    rw [ih]; omega
theorem encDir_snoc (l : List UInt16) (d : UInt16) : encDir (l ++ [d]) = encDir l ++ leB d.toNat 2 := by simp [encDir]
theorem encN_length {n : NodeV} (h : n.dir.length = 6) : (encN n).length = 32 := by
  simp [encN, encHead_length, encDir_length, leB_length, h]

/-- bytes as a node -/
def decDir (x : List UInt8) (k : Nat) : List UInt16 := (List.range k).map fun j => UInt16.ofNat (leN ((x.drop (8 + 2 * j)).take 2))
def decN (x : List UInt8) : NodeV :=
  ⟨UInt8.ofNat (leN (x.take 1)), UInt8.ofNat (leN ((x.drop 1).take 1)), UInt16.ofNat (leN ((x.drop 2).take 2)), UInt32.ofNat (leN ((x.drop 4).take 4)), decDir x 6, UInt16.ofNat (leN ((x.drop 20).take 2)), UInt16.ofNat (leN ((x.drop 22).take 2))⟩
/-- are they a node's? -/
def isN (x : List UInt8) : Bool := (x.drop 24).all (· == 0) && checkN (decN x)
theorem decDir_length (x : List UInt8) (k : Nat) : (decDir x k).length = k := by simp [decDir]
theorem decN_dir (x : List UInt8) : (decN x).dir.length = 6 := decDir_length x 6

theorem leN_leB_of {n k : Nat} (h : n < 256 ^ k) : leN (leB n k) = n := by rw [leN_leB, Nat.mod_eq_of_lt h]
theorem take_drop_at {α : Type} (a b c : List α) {i k : Nat} (ha : a.length = i) (hb : b.length = k) : ((a ++ (b ++ c)).drop i).take k = b := by
  subst ha; subst hb
  simp
theorem dec_enc {n : NodeV} (h : n.dir.length = 6) : decN (encN n) = n := by
  obtain ⟨k, l, g, s, dir, a, b⟩ := n
  simp only at h
  obtain ⟨d0, d1, d2, d3, d4, d5, rfl⟩ : ∃ d0 d1 d2 d3 d4 d5, dir = [d0, d1, d2, d3, d4, d5] := by
    match dir, h with
    | [d0, d1, d2, d3, d4, d5], _ => exact ⟨d0, d1, d2, d3, d4, d5, rfl⟩
  have e : encN ⟨k, l, g, s, [d0, d1, d2, d3, d4, d5], a, b⟩ = leB k.toNat 1 ++ (leB l.toNat 1 ++ (leB g.toNat 2 ++ (leB s.toNat 4 ++ (leB d0.toNat 2 ++ (leB d1.toNat 2 ++ (leB d2.toNat 2 ++ (leB d3.toNat 2 ++ (leB d4.toNat 2 ++ (leB d5.toNat 2 ++ (leB a.toNat 2 ++ (leB b.toNat 2 ++ List.replicate 8 0))))))))))) := by
    simp [encN, encHead, encDir]
  have h1 : ∀ x : UInt8, leN (leB x.toNat 1) = x.toNat := fun x => leN_leB_of (by have := x.toNat_lt; omega)
  have h2 : ∀ x : UInt16, leN (leB x.toNat 2) = x.toNat := fun x => leN_leB_of (by have := x.toNat_lt; omega)
  have h4 : leN (leB s.toNat 4) = s.toNat := leN_leB_of (by have := s.toNat_lt; omega)
  -- the pieces, one by one
  have p0 : (encN ⟨k, l, g, s, [d0, d1, d2, d3, d4, d5], a, b⟩).take 1 = leB k.toNat 1 := by
    rw [e]; exact take_drop_at [] _ _ rfl (leB_length _ _)
  have step : ∀ (pre : List UInt8) (i : Nat) (n k : Nat) (post : List UInt8), pre.length = i → (pre ++ (leB n k ++ post)).drop i = leB n k ++ post := fun pre i n k post h => by subst h; simp
  have p1 : ((encN ⟨k, l, g, s, [d0, d1, d2, d3, d4, d5], a, b⟩).drop 1).take 1 = leB l.toNat 1 := by
    rw [e]; exact take_drop_at (leB k.toNat 1) _ _ (leB_length _ _) (leB_length _ _)
  have tail : ∀ (x y : List UInt8) (i j : Nat), x.length = i → (x ++ y).drop (i + j) = y.drop j := fun x y i j h => by subst h; simp
  have q2 : ∀ j, (encN ⟨k, l, g, s, [d0, d1, d2, d3, d4, d5], a, b⟩).drop (2 + j) = (leB g.toNat 2 ++ (leB s.toNat 4 ++ (leB d0.toNat 2 ++ (leB d1.toNat 2 ++ (leB d2.toNat 2 ++ (leB d3.toNat 2 ++ (leB d4.toNat 2 ++ (leB d5.toNat 2 ++ (leB a.toNat 2 ++ (leB b.toNat 2 ++ List.replicate 8 0)))))))))).drop j := fun j => by
    rw [e, ← List.append_assoc]; exact tail _ _ 2 j (by simp [leB_length])
  have q8 : ∀ j, (encN ⟨k, l, g, s, [d0, d1, d2, d3, d4, d5], a, b⟩).drop (8 + j) = (leB d0.toNat 2 ++ (leB d1.toNat 2 ++ (leB d2.toNat 2 ++ (leB d3.toNat 2 ++ (leB d4.toNat 2 ++ (leB d5.toNat 2 ++ (leB a.toNat 2 ++ (leB b.toNat 2 ++ List.replicate 8 0)))))))).drop j := fun j => by
    rw [show 8 + j = 2 + (6 + j) from by omega, q2, ← List.append_assoc]; exact tail _ _ 6 j (by simp [leB_length])
  have q14 : ∀ j, (encN ⟨k, l, g, s, [d0, d1, d2, d3, d4, d5], a, b⟩).drop (14 + j) = (leB d3.toNat 2 ++ (leB d4.toNat 2 ++ (leB d5.toNat 2 ++ (leB a.toNat 2 ++ (leB b.toNat 2 ++ List.replicate 8 0))))).drop j := fun j => by
    rw [show 14 + j = 8 + (6 + j) from by omega, q8, ← List.append_assoc, ← List.append_assoc]; exact tail _ _ 6 j (by simp [leB_length])
  have q20 : ∀ j, (encN ⟨k, l, g, s, [d0, d1, d2, d3, d4, d5], a, b⟩).drop (20 + j) = (leB a.toNat 2 ++ (leB b.toNat 2 ++ List.replicate 8 0)).drop j := fun j => by
    rw [show 20 + j = 14 + (6 + j) from by omega, q14, ← List.append_assoc, ← List.append_assoc]; exact tail _ _ 6 j (by simp [leB_length])
  have t2 : ∀ (n : Nat) (y : List UInt8), ((leB n 2 ++ y).drop 0).take 2 = leB n 2 := fun n y => take_drop_at [] _ _ rfl (leB_length _ _)
  have t22 : ∀ (m n : Nat) (y : List UInt8), ((leB m 2 ++ (leB n 2 ++ y)).drop 2).take 2 = leB n 2 := fun m n y => take_drop_at _ _ _ (leB_length _ _) (leB_length _ _)
  have t42 : ∀ (m m' n : Nat) (y : List UInt8), ((leB m 2 ++ (leB m' 2 ++ (leB n 2 ++ y))).drop 4).take 2 = leB n 2 := fun m m' n y => by
    rw [← List.append_assoc]; exact take_drop_at _ _ _ (by simp [leB_length]) (leB_length _ _)
  have p2 : ((encN ⟨k, l, g, s, [d0, d1, d2, d3, d4, d5], a, b⟩).drop 2).take 2 = leB g.toNat 2 := by rw [show 2 = 2 + 0 from rfl, q2]; exact t2 _ _
  have p4 : ((encN ⟨k, l, g, s, [d0, d1, d2, d3, d4, d5], a, b⟩).drop 4).take 4 = leB s.toNat 4 := by rw [show 4 = 2 + 2 from rfl, q2]; exact take_drop_at _ _ _ (leB_length _ _) (leB_length _ _)
  have p20 : ((encN ⟨k, l, g, s, [d0, d1, d2, d3, d4, d5], a, b⟩).drop 20).take 2 = leB a.toNat 2 := by rw [show 20 = 20 + 0 from rfl, q20]; exact t2 _ _
  have p22 : ((encN ⟨k, l, g, s, [d0, d1, d2, d3, d4, d5], a, b⟩).drop 22).take 2 = leB b.toNat 2 := by rw [show 22 = 20 + 2 from rfl, q20]; exact t22 _ _ _
  have r0 : ((encN ⟨k, l, g, s, [d0, d1, d2, d3, d4, d5], a, b⟩).drop 8).take 2 = leB d0.toNat 2 := by rw [show 8 = 8 + 0 from rfl, q8]; exact t2 _ _
  have r1 : ((encN ⟨k, l, g, s, [d0, d1, d2, d3, d4, d5], a, b⟩).drop 10).take 2 = leB d1.toNat 2 := by rw [show 10 = 8 + 2 from rfl, q8]; exact t22 _ _ _
  have r2 : ((encN ⟨k, l, g, s, [d0, d1, d2, d3, d4, d5], a, b⟩).drop 12).take 2 = leB d2.toNat 2 := by rw [show 12 = 8 + 4 from rfl, q8]; exact t42 _ _ _ _
  have r3 : ((encN ⟨k, l, g, s, [d0, d1, d2, d3, d4, d5], a, b⟩).drop 14).take 2 = leB d3.toNat 2 := by rw [show 14 = 14 + 0 from rfl, q14]; exact t2 _ _
  have r4 : ((encN ⟨k, l, g, s, [d0, d1, d2, d3, d4, d5], a, b⟩).drop 16).take 2 = leB d4.toNat 2 := by rw [show 16 = 14 + 2 from rfl, q14]; exact t22 _ _ _
  have r5 : ((encN ⟨k, l, g, s, [d0, d1, d2, d3, d4, d5], a, b⟩).drop 18).take 2 = leB d5.toNat 2 := by rw [show 18 = 14 + 4 from rfl, q14]; exact t42 _ _ _ _
  have hr : decDir (encN ⟨k, l, g, s, [d0, d1, d2, d3, d4, d5], a, b⟩) 6 = [d0, d1, d2, d3, d4, d5] := by
    have : List.range 6 = [0, 1, 2, 3, 4, 5] := rfl
    unfold decDir
    rw [this]
    simp only [List.map_cons, List.map_nil, Nat.mul_zero, Nat.mul_one, Nat.add_zero, Nat.reduceMul, Nat.reduceAdd, r0, r1, r2, r3, r4, r5, h2, UInt16.ofNat_toNat]
  unfold decN
  rw [p0, p1, p2, p4, p20, p22, hr, h1, h1, h2, h4, h2, h2]
  simp
theorem enc_tail {n : NodeV} (h : n.dir.length = 6) : ((encN n).drop 24).all (· == 0) = true := by
  have : (encN n).drop 24 = List.replicate 8 0 := by
    unfold encN
    rw [List.append_assoc (encHead n ++ encDir n.dir ++ leB n.single.toNat 2), List.append_assoc (encHead n ++ encDir n.dir), ← List.append_assoc, ← List.append_assoc]
    exact List.drop_left' (by simp [encHead_length, encDir_length, leB_length, h])
  rw [this]; rfl
theorem isN_enc {n : NodeV} (h : n.dir.length = 6) : isN (encN n) = checkN n := by
  unfold isN
  rw [enc_tail h, dec_enc h, Bool.true_and]
end Go.Proofs.YthmkgohfeahdhaaGreat
namespace Go.Proofs.YthmkgohfeahdhaaGreat
open Go.RowKit
set_option linter.unusedSimpArgs false
set_option linter.unusedVariables false

/-- a field of bytes, and a place in it -/
def fcells (bs : List UInt8) (a : Nat) : Array Value := (bvs bs ++ [Value.int .i64 (a : Int)]).toArray
theorem fcells_size {bs : List UInt8} (h : bs.length = 32) (a : Nat) : (fcells bs a).size = 33 := by simp [fcells, bvs_length, h]
theorem fcells_at {bs : List UInt8} (h : bs.length = 32) (a : Nat) : (fcells bs a)[32]? = some (.int .i64 (a : Int)) := by
  rw [fcells, List.getElem?_toArray, List.getElem?_append_right (by rw [bvs_length]; omega), bvs_length, h]
  rfl
theorem fcells_byte {bs : List UInt8} {a j : Nat} (hj : j < bs.length) : (fcells bs a)[j]? = some (bv (bs.getD j 0)) := by
  rw [fcells, List.getElem?_toArray, List.getElem?_append_left (by rw [bvs_length]; exact hj), bvs_get, List.getD_eq_getElem?_getD, List.getElem?_eq_getElem hj]
  rfl
theorem fcells_set {bs : List UInt8} {a j : Nat} (hj : j < bs.length) (x : UInt8) : (fcells bs a).setIfInBounds j (bv x) = fcells (bs.set j x) a := by
  simp only [fcells, List.setIfInBounds_toArray, bvs]
  rw [List.set_append_left _ _ (by simpa using hj), List.map_set]
theorem fcells_move {bs : List UInt8} (h : bs.length = 32) (a b : Nat) : (fcells bs a).setIfInBounds 32 (.int .i64 (b : Int)) = fcells bs b := by
  simp only [fcells, List.setIfInBounds_toArray]
  rw [List.set_append_right _ _ (by rw [bvs_length, h]; omega), bvs_length, h]
  rfl
theorem fcells_all (bs : List UInt8) (a : Nat) : (fcells bs a).all (·.oneCell') = true := by
  refine all_oneCell_toArray fun v hv => ?_
  rcases List.mem_append.1 hv with h | h
  · exact bvs_one bs v h
  · simp at h; subst h; rfl

section
variable {w w' : World} {g : Nat} {bs : List UInt8}
set_option maxRecDepth 100000 in
set_option maxHeartbeats 800000 in
theorem fput_ok {a n k : Nat} (hB : Blk w g 303 (fcells bs a)) (hbs : bs.length = 32) (hk : k ≤ 4) (ha : a + k ≤ 32) (hn : n < 4294967296) :
    Calls Tryz.prog 165 #[.pointer (some ⟨g, 0, none⟩), .int .u32 (n : Int), .int .i64 (k : Int)] w fun e w' => e = .returned (.tuple #[]) ∧ Blk w' g 303 (fcells (wrB bs a (leB n k)) (a + k)) ∧ Tch w.heap.size (· = g) w w' ∧ w'.heap.size = w.heap.size := by
  have hkz : (k : Int) ≤ 4 := by omega
  have H0 := hide hB
  have HBS := hide hbs
  clear hB hbs
  go_enter Tryz.func165, Tryz.ntmps165
  go_wp2_with fail
  go_loopg [1, 7] k (fun gh x1 x7 wr => ∃ j : Nat, gh = k - j ∧ j ≤ k ∧ x1 = .int .u32 ((n / 256 ^ j : Nat) : Int) ∧ x7 = .int .i64 (j : Int) ∧ Hid (Blk wr g 303 (fcells (wrB bs a (leB n j)) (a + j))) ∧ Hid (Tch w.heap.size (· = g) w wr ∧ wr.heap.size = w.heap.size))
  case atStart => exact ⟨0, rfl, Nat.zero_le _, by simp, rfl, by simpa [leB, wrB_nil] using H0, hide ⟨Tch.refl _ _ _, rfl⟩⟩
  case round =>
    obtain ⟨j, hg, hjk, rfl, rfl, HW, HT⟩ := hrel
    have HG := hide hg
    clear hg
    have hwl : (wrB bs a (leB n j)).length = 32 := by rw [wrB_length (by rw [leB_length, HBS.out]; omega)]; exact HBS.out
    rcases Nat.lt_or_ge j k with hj | hj
    · obtain ⟨b1, hb1⟩ : ∃ b1, wrB bs a (leB n j) = b1 := ⟨_, rfl⟩
      have hset : wrB bs a (leB n (j + 1)) = b1.set (a + j) (byteN n j) := by
        rw [leB_succ, wrB_snoc (by rw [leB_length, HBS.out]; omega), leB_length, hb1]
      have hq : n / 256 ^ (j + 1) = n / 256 ^ j / 256 := by rw [Nat.pow_succ, Nat.div_div_eq_div_mul]
      have hbn : byteN n j = UInt8.ofNat (n / 256 ^ j % 256) := rfl
      have hn1 : n / 256 ^ j < 4294967296 := Nat.lt_of_le_of_lt (Nat.div_le_self _ _) hn
      rw [hb1] at HW hwl
      obtain ⟨m, hm⟩ : ∃ m, n / 256 ^ j = m := ⟨_, rfl⟩
      rw [hm] at hq hbn hn1 ⊢
      have HS := hide (And.intro hset (And.intro hq hbn))
      obtain ⟨p, hp⟩ : ∃ p, a + j = p := ⟨_, rfl⟩
      rw [hp] at HW HS
      have HP := hide hp
      have hp32 : (p : Int) < 32 := by omega
      clear hp
      have hl := HW.out.lt
      have c32 := (HW.out.cell 32).trans (fcells_at hwl _)
      have f32 := HW.out.frozen 32
      have HWL := hide hwl
      have e1 : IntKind.u8.wrap (m : Int) = ((m % 256 : Nat) : Int) := by simp [IntKind.wrap, IntKind.signed, IntKind.bits]
      clear hset hq hbn hb1 hm hwl
      go_upto_region 2 with (fail)
      refine wp_region_text [0, 0, 0, 0, 0, 0, 0, 0, 0, 0, 2] (· = wr.drew) (by kernel_rfl) (by kernel_rfl) rfl ?_
      iterate 10 (refine wpOrd_q (v := ?_) (by rfl) (fun W hW => ?_) ?_; rotate_left; (focus ((cases hW; go_simp); try with_reducible rfl)); try simp only [Act.put, List.setIfInBounds_toArray, List.set_cons_zero, List.set_cons_succ])
      rw [show ((m : Int) % 256) = ((m % 256 : Nat) : Int) from by omega, ← bv_ofNat (k := m % 256) (by omega)]
      refine wpOrd_b (by rfl) (fun K hK => ?_)
      refine wp_store_cell 5 (.tmp 18) (.tmp 15) rfl g p _ _ _ (by rfl) (by rfl) HW.out.drew (by rw [fcells_size HWL.out]; omega) rfl (by kernel_rfl) ?_
      refine hK (fun _ => True) _ _ trivial (wpOrd_nil ?_)
      clear hK K
      have hB2 := HW.out.drew.set_ p (bv (UInt8.ofNat (m % 256)))
      rw [fcells_set (by rw [HWL.out]; omega), ← HS.out.2.2, ← HS.out.1] at hB2
      have hT2 : Tch w.heap.size (· = g) w (wr.drew.setCell ⟨g, p, none⟩ (bv (UInt8.ofNat (m % 256)))) := HT.out.1.drew.trans (Tch.setCell (p := ⟨g, p, none⟩) fun _ => rfl)
      have hS2 : (wr.drew.setCell ⟨g, p, none⟩ (bv (UInt8.ofNat (m % 256)))).heap.size = w.heap.size := by simpa using HT.out.2
      refine at_world (fun W => Blk W g 303 (fcells (wrB bs a (leB n (j + 1))) p) ∧ Tch w.heap.size (· = g) w W ∧ W.heap.size = w.heap.size) ⟨by rw [HS.out.2.2] at hB2; exact hB2, hT2, hS2⟩ (fun w2 h2 => ?_)
      clear hB2 hT2 hS2
      obtain ⟨hB2, hT2, hS2⟩ := h2
      have hwl2 : (wrB bs a (leB n (j + 1))).length = 32 := by rw [wrB_length (by rw [leB_length, HBS.out]; omega)]; exact HBS.out
      have H2 := hide (And.intro hB2 (And.intro hT2 hS2))
      have HWL2 := hide hwl2
      clear c32 f32 hl
      have c32 := (H2.out.1.cell 32).trans (fcells_at HWL2.out _)
      have f32 := H2.out.1.frozen 32
      have hl := H2.out.1.lt
      clear hB2 hT2 hS2 hwl2
      go_wp2
      go_roundg (k - (j + 1))
      case rel =>
        refine ⟨j + 1, rfl, by omega, ?_, by go_num, hide ?_, hide ⟨H2.out.2.1.trans (Tch.setCell (p := ⟨g, 32, none⟩) fun _ => rfl), by simpa using H2.out.2.2⟩⟩
        · rw [HS.out.2.1]; go_num
        · have := H2.out.1.set_ 32 (.int .i64 ((p + 1 : Nat) : Int))
          rw [fcells_move HWL2.out] at this
          rw [show a + (j + 1) = p + 1 from by rw [← HP.out]; omega]
          exact this
      case measure => have := HG.out; omega
    · have hjk2 : j = k := by omega
      have HJ := hide hjk2
      clear hjk2
      go_wp2
      go_returns
      have h1 := HJ.out
      subst h1
      exact ⟨rfl, HW.out, HT.out.1, HT.out.2⟩

theorem or_bytes {a b i : Nat} (ha : a < 256 ^ i) (hb : b < 256) (hi : i ≤ 3) : bits BinOp.or IntKind.u32 (a : Int) (((b * 256 ^ i : Nat)) : Int) = ((a + b * 256 ^ i : Nat) : Int) := by
  have hp : 256 ^ i ≤ 256 ^ 3 := Nat.pow_le_pow_right (by decide) hi
  have h4 : a < 4294967296 := by omega
  have h5 : b * 256 ^ i < 4294967296 := by
    have : b * 256 ^ i ≤ 255 * 256 ^ 3 := Nat.mul_le_mul (by omega) hp
    omega
  have h := (bits_nat .u32 32 (by decide) (fun n h0 h1 => by rw [IntKind.wrap_u32]; omega) a (b * 256 ^ i) h4 h5).2
  rw [h]
  have e : 256 ^ i = 2 ^ (8 * i) := by rw [show (256 : Nat) = 2 ^ 8 from rfl, ← Nat.pow_mul]
  rw [e] at ha ⊢
  rw [Nat.or_comm, Nat.add_comm, Nat.mul_comm b]
  rw [← Nat.two_pow_add_eq_or_of_lt ha]

set_option maxRecDepth 100000 in
set_option maxHeartbeats 800000 in
theorem fget_ok {a k : Nat} (hB : Blk w g 303 (fcells bs a)) (hbs : bs.length = 32) (hk : k ≤ 4) (ha : a + k ≤ 32) :
    Calls Tryz.prog 173 #[.pointer (some ⟨g, 0, none⟩), .int .i64 (k : Int)] w fun e w' => e = .returned (.int .u32 (leN ((bs.drop a).take k) : Int)) ∧ Blk w' g 303 (fcells bs (a + k)) ∧ Tch w.heap.size (· = g) w w' ∧ w'.heap.size = w.heap.size := by
  have hkz : (k : Int) ≤ 4 := by omega
  have H0 := hide hB
  have HBS := hide hbs
  clear hB hbs
  go_enter Tryz.func173, Tryz.ntmps173
  go_wp2_with fail
  go_loopg [5, 8] k (fun gh x5 x8 wr => ∃ (j q : Nat), gh = k - j ∧ j ≤ k ∧ x5 = .int .u32 (q : Int) ∧ x8 = .int .i64 (j : Int) ∧ Hid (leN ((bs.drop a).take j) = q) ∧ Hid (Blk wr g 303 (fcells bs (a + j))) ∧ Hid (Tch w.heap.size (· = g) w wr ∧ wr.heap.size = w.heap.size))
  case atStart => exact ⟨0, 0, rfl, Nat.zero_le _, rfl, rfl, hide (by simp [leN]), H0, hide ⟨Tch.refl _ _ _, rfl⟩⟩
  case round =>
    obtain ⟨j, q, hg, hjk, rfl, rfl, HQ, HW, HT⟩ := hrel
    have HG := hide hg
    clear hg
    rcases Nat.lt_or_ge j k with hj | hj
    · obtain ⟨p, hp⟩ : ∃ p, a + j = p := ⟨_, rfl⟩
      rw [hp] at HW
      have hp32 : (p : Int) < 32 := by omega
      have hpl : p < bs.length := by rw [HBS.out]; omega
      have hstep : leN ((bs.drop a).take (j + 1)) = q + (bs.getD p 0).toNat * 256 ^ j := by
        have hl : j < (bs.drop a).length := by rw [List.length_drop, HBS.out]; omega
        rw [List.take_succ_eq_append_getElem hl, leN_snoc, HQ.out, List.length_take, Nat.min_eq_left (by omega), List.getElem_drop]
        congr 2
        rw [List.getD_eq_getElem?_getD, List.getElem?_eq_getElem hpl]
        simp only [Option.getD_some]
        congr 2
      have hq : q < 256 ^ j := by
        have := leN_lt ((bs.drop a).take j)
        rw [HQ.out] at this
        exact Nat.lt_of_lt_of_le this (Nat.pow_le_pow_right (by decide) (by simp; omega))
      have hl := HW.out.lt
      have c32 := (HW.out.cell 32).trans (fcells_at HBS.out _)
      have cp := (HW.out.cell p).trans (fcells_byte (a := p) hpl)
      have f32 := HW.out.frozen 32
      have hv := (bs.getD p 0).toNat_lt
      have HST := hide hstep
      have HP := hide hp
      simp only [bv] at cp
      generalize (bs.getD p 0).toNat = v at cp HST hv
      clear hstep hp hpl
      have e1 : IntKind.u32.wrap (v : Int) = (v : Int) := by rw [IntKind.wrap_u32]; omega
      have e2 : IntKind.i64.wrap (8 * (j : Int)) = 8 * (j : Int) := IntWalk.i64_in _ (by omega)
      have e3 : IntKind.u32.wrap ((v : Int) * 2 ^ (8 * (j : Int)).toNat) = ((v * 256 ^ j : Nat) : Int) := by
        have h1 : (8 * (j : Int)).toNat = 8 * j := by omega
        have h2 : (256 : Nat) ^ j = 2 ^ (8 * j) := by rw [show (256 : Nat) = 2 ^ 8 from rfl, ← Nat.pow_mul]
        have h3 : 256 ^ j ≤ 256 ^ 3 := Nat.pow_le_pow_right (by decide) (by omega)
        have h4 : v * 256 ^ j ≤ 255 * 256 ^ 3 := Nat.mul_le_mul (by omega) h3
        have h5 : ((v * 256 ^ j : Nat) : Int) = (v : Int) * 2 ^ (8 * j) := by rw [h2]; simp
        rw [h1, ← h5, IntKind.wrap_u32]
        omega
      have e4 := or_bytes hq hv (by omega)
      obtain ⟨z, hz⟩ : ∃ z, v * 256 ^ j = z := ⟨_, rfl⟩
      rw [hz] at e3 e4 HST
      obtain ⟨r, hr⟩ : ∃ r, q + z = r := ⟨_, rfl⟩
      rw [hr] at e4 HST
      clear hz hr hq
      go_upto_region 5 with (fail)
      refine wp_region_text [0, 0, 0, 0, 0, 0, 0, 0, 0, 0, 0, 0, 0, 0, 0, 0] (· = wr.drew) (by kernel_rfl) (by kernel_rfl) rfl ?_
      iterate 16 (refine wpOrd_q (v := ?_) (by rfl) (fun W hW => ?_) ?_; rotate_left; (focus ((cases hW; go_simp); try with_reducible rfl)); try simp only [Act.put, List.setIfInBounds_toArray, List.set_cons_zero, List.set_cons_succ])
      refine wpOrd_nil ?_
      go_wp2
      go_roundg (k - (j + 1))
      case rel =>
        refine ⟨j + 1, _, rfl, by omega, rfl, by go_num, HST, hide ?_, hide ⟨HT.out.1.drew.trans (Tch.setCell (p := ⟨g, 32, none⟩) fun _ => rfl), by simpa using HT.out.2⟩⟩
        have := HW.out.drew.set_ 32 (.int .i64 ((p + 1 : Nat) : Int))
        rw [fcells_move HBS.out] at this
        rw [show a + (j + 1) = p + 1 from by rw [← HP.out]; omega]
        exact this
      case measure => have := HG.out; omega
    · have hjk2 : j = k := by omega
      have HJ := hide hjk2
      clear hjk2
      go_wp2
      go_returns
      have h1 := HJ.out
      subst h1
      exact ⟨by rw [HQ.out]; rfl, HW.out, HT.out.1, HT.out.2⟩
end
end Go.Proofs.YthmkgohfeahdhaaGreat
namespace Go.Proofs.YthmkgohfeahdhaaGreat
open Go.RowKit
set_option linter.unusedSimpArgs false
set_option linter.unusedVariables false

section
variable {P : Program} {ops : Array Oper} {rest : List Oper} {o : Oper} {a : Act} {w : World} {Q : Exit → Act → World → Prop}
theorem run_equal_lits (w : World) {m D : Nat} (hm : m ≤ 10000) {k : TypeId} (hk : P.keyTypeAt m k = true) {x y : Array Value} {lx ly : List Lit}
    (fx : (Value.agg x).formed P k = true) (fy : (Value.agg y).formed P k = true) (hx : P.keyLits D k x.toList = some lx) (hy : P.keyLits D k y.toList = some ly) :
    ∃ r : Bool, (Op.equalIn 10000 k (.agg x) (.agg y)).run P w = .ok r w ∧ (r = true ↔ lx = ly) := by
  have := run_equalIn_deep (10000 - m) m k hk w D D (.agg x) (.agg y) lx ly fx fy hx hy
  rwa [show 10000 - m + m = 10000 from by omega] at this
theorem lits_ints {t e : TypeId} {n d : Nat} {q : IntKind} (ht : P.underlying t = some (.array n e)) (he : P.underlying e = some (.int q)) (hct : P.cellsOf t = n) (hce : P.cellsOf e = 1)
    {xs : List Int} (hl : xs.length = n) (hw : ∀ x ∈ xs, (Lit.int q x).wf = true) : P.keyLits (d + 2) t (xs.map (Value.int q)) = some (xs.map (Lit.int q)) := by
  have h1 : ∀ i, i < n → P.keyLits (d + 1) e (((xs.map (Value.int q)).drop (i * 1)).take 1) = some [Lit.int q (xs.getD i 0)] := fun i hi => by
    have : ((xs.map (Value.int q)).drop (i * 1)).take 1 = [.int q (xs.getD i 0)] := by
      rw [Nat.mul_one, List.drop_eq_getElem_cons (by simpa using (by omega : i < xs.length)), List.take_succ_cons, List.take_zero, List.getElem_map, List.getD_eq_getElem?_getD, List.getElem?_eq_getElem (by omega)]
      rfl
    rw [this]
    unfold Program.keyLits
    rw [he]
    have hmem : xs.getD i 0 ∈ xs := by
      rw [List.getD_eq_getElem?_getD, List.getElem?_eq_getElem (by omega)]
      exact List.getElem_mem _
    have hw' := hw _ hmem
    simp only [List.getD_eq_getElem?_getD] at hw' ⊢
    simp [hw']
  have h2 : ((List.range n).mapM fun i => P.keyLits (d + 1) e (((xs.map (Value.int q)).drop (i * 1)).take 1)) = some ((List.range n).map fun i => [Lit.int q (xs.getD i 0)]) := by
    have : ∀ l : List Nat, (∀ i ∈ l, i < n) → (l.mapM fun i => P.keyLits (d + 1) e (((xs.map (Value.int q)).drop (i * 1)).take 1)) = some (l.map fun i => [Lit.int q (xs.getD i 0)]) := by
      intro l
      induction l with
      | nil => intro _; rfl
      | cons i r ih =>
        intro h
        rw [List.mapM_cons, h1 i (h i (by simp)), ih fun j hj => h j (by simp [hj])]
        rfl
    exact this _ fun i hi => List.mem_range.1 hi
  unfold Program.keyLits
  rw [ht]
  simp only [List.length_map, hl, hct, if_true, hce]
  rw [h2, Option.map_some]
  congr 1
  apply List.ext_getElem?
  intro j
  have : ((List.range n).map fun i => [Lit.int q (xs.getD i 0)]).flatten = (List.range n).map fun i => Lit.int q (xs.getD i 0) := by
    generalize List.range n = l
    induction l with
    | nil => rfl
    | cons i r ih => rw [List.map_cons, List.flatten_cons, ih]; rfl
  rw [this]
  simp only [List.getElem?_map]
  by_cases hj : j < n
  · rw [List.getElem?_range hj, List.getElem?_eq_getElem (by omega)]
    simp [List.getD_eq_getElem?_getD, List.getElem?_eq_getElem (show j < xs.length by omega)]
  · rw [List.getElem?_eq_none (by simpa using hj), List.getElem?_eq_none (by omega)]
    rfl
theorem at_binop (op : BinOp) (ty : TypeId) (x y : Operand) (t2 : TypeId) {d : Option Tmp} {k : TypeId} {p : String} {f : Array Edge} {g : Option (Nat × Bool)} (h : wpList P ops Q (⟨d, .binOp op ty x y t2, k, p, f, g⟩ :: rest) a w) : wpList P ops Q (⟨d, .binOp op ty x y t2, k, p, f, g⟩ :: rest) a w := h
theorem exec_eql_agg (ty : TypeId) (x y : Operand) (t2 : TypeId) (ho : o.op = .binOp .eql ty x y t2) (xs ys : Array Value) (hx : a.eval x = .agg xs) (hy : a.eval y = .agg ys) (hg : P.eqGuardType P.depth ty = false) (r : Bool)
    (hr : (Op.equalIn 10000 ty (.agg xs) (.agg ys)).run P w = .ok r w) : (execOp a.eval o).run P w = .ok (.value (.bool r)) w := by
  unfold execOp
  simp [ho, hx, hy, run_eqGuard_agg w _ _ _ _ _ _ hg, run_eql_struct, hr, Result.andThen]
theorem exec_neq_agg (ty : TypeId) (x y : Operand) (t2 : TypeId) (ho : o.op = .binOp .neq ty x y t2) (xs ys : Array Value) (hx : a.eval x = .agg xs) (hy : a.eval y = .agg ys) (hg : P.eqGuardType P.depth ty = false) (r : Bool)
    (hr : (Op.equalIn 10000 ty (.agg xs) (.agg ys)).run P w = .ok r w) : (execOp a.eval o).run P w = .ok (.value (.bool !r)) w := by
  unfold execOp
  simp [ho, hx, hy, run_eqGuard_agg w _ _ _ _ _ _ hg, run_neq_struct, hr, Result.andThen]
theorem exec_build (ty : TypeId) (parts : Array (Nat × Operand)) (ho : o.op = .build ty parts) (vs : Array (Nat × Value)) (hvs : (parts.map fun (i, x) => (i, a.eval x)) = vs) (v : Value) (hr : (Instr.build ty vs).run P w = .ok v w) : (execOp a.eval o).run P w = .ok (.value v) w := by
  unfold execOp
  simp only [ho, hvs, Sem.run_bind, hr, Result.andThen_ok, Sem.run_pure]
theorem wpList_run (hgd : o.guard = none) (v : Value) (hr : (execOp a.eval o).run P w = .ok (.value v) w) (h : wpList P ops Q rest (a.put o.dst v) w) : wpList P ops Q (o :: rest) a w := by
  refine wpList_plain hgd fun K hK => ?_
  unfold Oper.wp
  rw [hr, Oper.upon_value]
  exact hK _ _ h
end

theorem wf8 (b : UInt8) : (Lit.int .u8 (b.toNat : Int)).wf = true := by
  have := b.toNat_lt
  simp [Lit.wf, IntKind.min, IntKind.max, IntKind.signed, IntKind.bits]
  omega
theorem wf16 (b : UInt16) : (Lit.int .u16 (b.toNat : Int)).wf = true := by
  have := b.toNat_lt
  simp [Lit.wf, IntKind.min, IntKind.max, IntKind.signed, IntKind.bits]
  omega
theorem wf32 (b : UInt32) : (Lit.int .u32 (b.toNat : Int)).wf = true := by
  have := b.toNat_lt
  simp [Lit.wf, IntKind.min, IntKind.max, IntKind.signed, IntKind.bits]
  omega

/-- a node's numbers -/
def NodeV.lits (n : NodeV) : List Lit := [Lit.int .u8 (n.kind.toNat : Int), Lit.int .u8 (n.links.toNat : Int), Lit.int .u16 (n.gen.toNat : Int), Lit.int .u32 (n.size.toNat : Int)] ++ n.dir.map (fun x => Lit.int .u16 (x.toNat : Int)) ++ [Lit.int .u16 (n.single.toNat : Int), Lit.int .u16 (n.double.toNat : Int)]
theorem node_inj {a b : NodeV} (ha : a.dir.length = 6) (hb : b.dir.length = 6) : a.lits = b.lits ↔ a = b := by
  constructor
  · intro h
    obtain ⟨a1, a2, a3, a4, a5, a6, a7⟩ := a
    obtain ⟨b1, b2, b3, b4, b5, b6, b7⟩ := b
    simp only [NodeV.lits, List.cons_append, List.nil_append, List.append_assoc, List.cons.injEq, Lit.int.injEq, true_and] at h
    obtain ⟨h1, h2, h3, h4, h5⟩ := h
    have h6 := List.append_inj h5 (by simpa using ha.trans hb.symm)
    have h7 := (List.map_inj_right (f := fun x : UInt16 => Lit.int .u16 (x.toNat : Int)) (fun x y hxy => by simp at hxy; exact UInt16.toNat_inj.1 (by exact_mod_cast hxy))).1 h6.1
    simp at h1 h2 h3 h4 h6
    simp only [NodeV.mk.injEq]
    exact ⟨UInt8.toNat_inj.1 (by omega), UInt8.toNat_inj.1 (by omega), UInt16.toNat_inj.1 (by omega), UInt32.toNat_inj.1 (by omega), h7, UInt16.toNat_inj.1 (by omega), UInt16.toNat_inj.1 (by omega)⟩
  · rintro rfl; rfl
theorem node_lits (d : Nat) {n : NodeV} (hn : n.dir.length = 6) : Tryz.prog.keyLits (d + 3) 130 n.cells = some n.lits := by
  have h8 : ∀ (x : UInt8) j, Tryz.prog.keyLits (j + 1) 5 [.int .u8 (x.toNat : Int)] = some [.int .u8 (x.toNat : Int)] := fun x j => by unfold Program.keyLits; rw [Tryz.underlying5]; simp [wf8]
  have hk8 : ∀ (x : UInt8) j, Tryz.prog.keyLits (j + 1) 59 [.int .u8 (x.toNat : Int)] = some [.int .u8 (x.toNat : Int)] := fun x j => by unfold Program.keyLits; rw [Tryz.underlying59]; simp [wf8]
  have h16 : ∀ (x : UInt16) j, Tryz.prog.keyLits (j + 1) 37 [.int .u16 (x.toNat : Int)] = some [.int .u16 (x.toNat : Int)] := fun x j => by unfold Program.keyLits; rw [Tryz.underlying37]; simp [wf16]
  have h32 : ∀ (x : UInt32) j, Tryz.prog.keyLits (j + 1) 49 [.int .u32 (x.toNat : Int)] = some [.int .u32 (x.toNat : Int)] := fun x j => by unfold Program.keyLits; rw [Tryz.underlying49]; simp [wf32]
  have c1 : Tryz.prog.cellsOf 5 = 1 := by kernel_rfl
  have c2 : Tryz.prog.cellsOf 59 = 1 := by kernel_rfl
  have c3 : Tryz.prog.cellsOf 37 = 1 := by kernel_rfl
  have c4 : Tryz.prog.cellsOf 49 = 1 := by kernel_rfl
  have c5 : Tryz.prog.cellsOf 128 = 6 := by kernel_rfl
  have c6 : Tryz.prog.cellsOf 130 = 12 := by kernel_rfl
  obtain ⟨k, l, g, s, dir, a, b⟩ := n
  simp only at hn
  obtain ⟨d0, d1, d2, d3, d4, d5, rfl⟩ : ∃ d0 d1 d2 d3 d4 d5, dir = [d0, d1, d2, d3, d4, d5] := by
    match dir, hn with
    | [d0, d1, d2, d3, d4, d5], _ => exact ⟨d0, d1, d2, d3, d4, d5, rfl⟩
  have hd := fun d => lits_ints (P := Tryz.prog) (d := d) Tryz.underlying128 Tryz.underlying37 (by kernel_rfl) (by kernel_rfl) (xs := [d0, d1, d2, d3, d4, d5].map fun x : UInt16 => (x.toNat : Int)) rfl (fun x hx => by
    obtain ⟨y, _, rfl⟩ := List.mem_map.1 hx
    exact wf16 y)
  simp only [List.map_cons, List.map_nil] at hd
  unfold Program.keyLits
  rw [Tryz.underlying130]
  simp only [NodeV.cells, NodeV.lits, List.map_cons, List.map_nil, List.cons_append, List.nil_append]
  simp [c1, c2, c3, c4, c5, c6, h8, hk8, h16, h32, hd]
theorem node_eq (w : World) {a b : NodeV} (ha : a.dir.length = 6) (hb : b.dir.length = 6) : (Op.equalIn 10000 130 a.val b.val).run Tryz.prog w = .ok (decide (a = b)) w := by
  have hf : ∀ {n : NodeV}, n.dir.length = 6 → n.val.formed Tryz.prog 130 = true := fun {n} hn => by
    unfold Value.formed NodeV.val
    rw [Tryz.underlying130]
    simp only [beq_iff_eq, List.size_toArray, NodeV.cells_length hn]
    kernel_rfl
  obtain ⟨r, h1, h2⟩ := run_equal_lits (P := Tryz.prog) w (m := 3) (D := 3) (by decide) (k := 130) (by kernel_rfl) (hf ha) (hf hb) (node_lits 0 ha) (node_lits 0 hb)
  rw [node_inj ha hb] at h2
  unfold NodeV.val
  rw [h1, show r = decide (a = b) from by cases r <;> simp_all]
end Go.Proofs.YthmkgohfeahdhaaGreat
namespace Go.Proofs.YthmkgohfeahdhaaGreat
open Go.RowKit
set_option linter.unusedSimpArgs false
set_option linter.unusedVariables false

theorem node_cells_at (n : NodeV) : n.cells[0]? = some (.int .u8 (n.kind.toNat : Int)) ∧ n.cells[1]? = some (.int .u8 (n.links.toNat : Int)) ∧ n.cells[2]? = some (u16v n.gen) ∧ n.cells[3]? = some (.int .u32 (n.size.toNat : Int)) := ⟨rfl, rfl, rfl, rfl⟩
theorem size_node : (Tryz.prog.info? 130).map (·.size) = some 12 := by kernel_rfl
theorem size_nodeOf {n : NodeV} (h : n.dir.length = 6) : (Tryz.prog.info? 130).map (·.size) = some n.cells.toArray.size := by rw [size_node]; simp [NodeV.cells_length h]
theorem zero_node (w : World) : (zeroValue 130).run Tryz.prog w = .ok (.agg NodeV.zero.cells.toArray) w := by kernel_rfl
theorem build_node (w : World) : (Instr.build 130 #[]).run Tryz.prog w = .ok NodeV.zero.val w := by kernel_rfl
theorem build_gen (g : UInt16) (w : World) : (Instr.build 130 #[(2, .int .u16 (g.toNat : Int))]).run Tryz.prog w = .ok ({ NodeV.zero with gen := g } : NodeV).val w := by kernel_rfl

section
variable {w w' : World}
set_option maxRecDepth 100000 in
set_option maxHeartbeats 800000 in
theorem blank_ok (w : World) {n : NodeV} (hn : n.dir.length = 6) :
    Calls Tryz.prog 164 #[n.val] w fun e w' => e = .returned (.bool (blankN n)) ∧ Below w.heap.size w w' := by
  have HN := hide hn
  clear hn
  go_enter Tryz.func164, Tryz.ntmps164
  go_upto_region 1 with (fail)
  refine at_world (fun W => ∃ g, g = w.heap.size ∧ Below w.heap.size w W ∧ Blk W g 130 n.cells.toArray) ⟨_, rfl, (Below.refl _ _).alloc (Nat.le_refl _) _, Blk.new _ _ _⟩ (fun w1 h1 => ?_)
  obtain ⟨g, hg, hb1, hG⟩ := h1
  rw [← hg]
  have c2 := (hG.cell 2).trans (node_cells_at n).2.2.1
  have gl := hG.lt
  have HB := hide hb1
  clear hg hb1
  have HBL := hide (show decide (n = { NodeV.zero with gen := n.gen }) = blankN n from rfl)
  go_wp2_with (first | ((with_reducible refine at_load 130 (.tmp 1) ?_); refine wpList_load_blk rfl 130 (.tmp 1) rfl g _ _ _ (by rfl) hG Tryz.underlying130 rfl (size_nodeOf HN.out) ?_) | ((with_reducible refine at_build 130 #[(2, .tmp 5)] ?_); refine wpList_run rfl _ (exec_build 130 #[(2, .tmp 5)] rfl #[(2, .int .u16 (n.gen.toNat : Int))] (by simp only [List.map_toArray, List.map_cons, List.map_nil]; rfl) _ (build_gen n.gen _)) ?_) | ((with_reducible refine at_binop .eql 130 (.tmp 3) (.tmp 6) 130 ?_); refine wpList_run rfl _ (exec_eql_agg 130 (.tmp 3) (.tmp 6) 130 rfl _ _ rfl rfl (by kernel_rfl) _ (node_eq _ (a := n) (b := { NodeV.zero with gen := n.gen }) HN.out rfl)) ?_) | fail)
  go_returns
  exact ⟨rfl, HB.out⟩

def checkE (n : NodeV) : Int := if checkN n then 0 else 28
set_option maxRecDepth 100000 in
set_option maxHeartbeats 3200000 in
theorem check_ok (w : World) {n : NodeV} (hn : n.dir.length = 6) :
    Calls Tryz.prog 132 #[n.val] w fun e w' => e = .returned (.int .i64 (checkE n)) ∧ Below w.heap.size w w' := by
  have HN := hide hn
  have hL0 : n.links ≠ 0 ↔ n.links.toNat ≠ 0 := by
    constructor
    · intro h e; exact h (UInt8.toNat_inj.1 (by simpa using e))
    · intro h e; exact h (by rw [e]; rfl)
  have hS0 : n.size = 0 ↔ n.size.toNat = 0 := ⟨fun e => by rw [e]; rfl, fun e => UInt32.toNat_inj.1 (by simpa using e)⟩
  have hkk : ∀ k : UInt8, n.kind = k ↔ n.kind.toNat = k.toNat := fun k => ⟨fun e => by rw [e], fun e => UInt8.toNat_inj.1 e⟩
  have hC : 1 ≤ n.kind.toNat → n.kind.toNat ≤ 5 → (checkN n = true ↔ (n.links.toNat ≠ 0 ∧ n.size.toNat ≤ 16384 ∧ ((n.kind.toNat = 3 ∨ n.kind.toNat = 5) → n.size.toNat = 0) ∧ (n.kind.toNat = 4 → 1 ≤ n.size.toNat ∧ n.size.toNat ≤ 60) ∧ (n.kind.toNat = 2 → n.size.toNat % 16 = 0))) := fun h1 h5 => by
    unfold checkN
    have e0 : ¬ n.kind.toNat = 0 := by omega
    rw [if_neg (by rw [hkk]; exact e0), if_pos h5]
    have k3 := hkk 3
    have k4 := hkk 4
    have k5 := hkk 5
    have k2 := hkk 2
    simp only [show (3 : UInt8).toNat = 3 from rfl, show (4 : UInt8).toNat = 4 from rfl, show (5 : UInt8).toNat = 5 from rfl, show (2 : UInt8).toNat = 2 from rfl] at k2 k3 k4 k5
    simp only [k2, k3, k4, k5, Bool.and_eq_true, decide_eq_true_eq, hL0]
    generalize n.kind.toNat = K at *
    obtain rfl | rfl | rfl | rfl | rfl : K = 1 ∨ K = 2 ∨ K = 3 ∨ K = 4 ∨ K = 5 := by omega
    all_goals simp [hS0]
    all_goals omega
  have hsl := n.size.toNat_lt
  have hll := n.links.toNat_lt
  have hkl := n.kind.toNat_lt
  obtain ⟨r, hr⟩ : ∃ r, checkE n = r := ⟨_, rfl⟩
  rw [hr]
  clear hn hL0 hS0 hkk
  go_enter Tryz.func132, Tryz.ntmps132
  go_upto_region 1 with (fail)
  refine at_world (fun W => ∃ g, g = w.heap.size ∧ Below w.heap.size w W ∧ Blk W g 130 n.cells.toArray) ⟨_, rfl, (Below.refl _ _).alloc (Nat.le_refl _) _, Blk.new _ _ _⟩ (fun w1 h1 => ?_)
  obtain ⟨g, hg, hb1, hG⟩ := h1
  rw [← hg]
  have c0 := (hG.cell 0).trans (node_cells_at n).1
  have c1 := (hG.cell 1).trans (node_cells_at n).2.1
  have c3 := (hG.cell 3).trans (node_cells_at n).2.2.2
  have gl := hG.lt
  have HB := hide hb1
  clear hg hb1
  rcases Nat.lt_or_ge n.kind.toNat 1 with h | h1
  · have hK0 : n.kind.toNat = 0 := by omega
    have hck : checkN n = blankN n := by
      unfold checkN
      rw [if_pos (UInt8.toNat_inj.1 (by simpa using hK0))]
    rw [hK0] at c0
    cases hbk : blankN n with
    | true =>
      have HR := hide (show r = 0 by rw [← hr, checkE, hck, hbk]; rfl)
      have HBK := hide hbk
      clear hC hr hck hbk h hK0 c1 c3
      go_wp2_with (first | ((with_reducible refine at_load 130 (.tmp 1) ?_); refine wpList_load_blk rfl 130 (.tmp 1) rfl g _ _ _ (by rfl) hG Tryz.underlying130 rfl (size_nodeOf HN.out) ?_) | fail)
      refine (blank_ok w1 HN.out).mono ?_
      rw [HBK.out]
      rintro e w2 ⟨rfl, hb2⟩
      have HB2 := hide (HB.out.trans (hb2.mono HB.out.size))
      clear hb2
      go_wp2
      go_returns
      exact ⟨by first | (rw [HR.out]; rfl) | rfl, HB2.out⟩
    | false =>
      have HR := hide (show r = 28 by rw [← hr, checkE, hck, hbk]; rfl)
      have HBK := hide hbk
      clear hC hr hck hbk h hK0 c1 c3
      go_wp2_with (first | ((with_reducible refine at_load 130 (.tmp 1) ?_); refine wpList_load_blk rfl 130 (.tmp 1) rfl g _ _ _ (by rfl) hG Tryz.underlying130 rfl (size_nodeOf HN.out) ?_) | fail)
      refine (blank_ok w1 HN.out).mono ?_
      rw [HBK.out]
      rintro e w2 ⟨rfl, hb2⟩
      have HB2 := hide (HB.out.trans (hb2.mono HB.out.size))
      clear hb2
      go_wp2
      go_returns
      exact ⟨by first | (rw [HR.out]; rfl) | rfl, HB2.out⟩
  rcases Nat.lt_or_ge 5 n.kind.toNat with h | h5
  · have hck : checkN n = false := by
      unfold checkN
      rw [if_neg (fun e => by rw [e] at h; simp at h), if_neg (by omega)]
    have HR := hide (show r = 28 by rw [← hr, checkE, hck]; rfl)
    generalize n.kind.toNat = K at c0 h
    have t0 : ((K : Int) == 0) = false := by simp; omega
    have t1 : ((K : Int) == 1) = false := by simp; omega
    have t2 : ((K : Int) == 2) = false := by simp; omega
    have t3 : ((K : Int) == 3) = false := by simp; omega
    have t4 : ((K : Int) == 4) = false := by simp; omega
    have t5 : ((K : Int) == 5) = false := by simp; omega
    clear hC hr hck c1 c3
    go_wp2
    go_returns
    exact ⟨by first | (rw [HR.out]; rfl) | rfl, HB.out⟩
  have hC' := hC h1 h5
  generalize n.size.toNat = S at c3 hC' hsl
  generalize n.links.toNat = L at c1 hC' hll
  generalize hK : n.kind.toNat = K at c0 hC' h1 h5 hkl
  have hR0 : checkN n = true → r = 0 := fun h => by rw [← hr, checkE, if_pos h]
  have hR28 : ¬ checkN n = true → r = 28 := fun h => by rw [← hr, checkE, if_neg h]
  rw [hC'] at hR0 hR28
  clear hC hC' hK hr
  obtain rfl | rfl | rfl | rfl | rfl : K = 1 ∨ K = 2 ∨ K = 3 ∨ K = 4 ∨ K = 5 := by omega
  · by_cases a1 : L = 0
    · have b1 : ((L : Int) == 0) = true := by simp [a1]
      have hr2 : r = 28 := hR28 (by omega)
      have HR := hide hr2
      clear a1 hr2
      go_wp2
      go_returns
      exact ⟨by first | (rw [HR.out]; rfl) | rfl, HB.out⟩
    have b1 : ((L : Int) == 0) = false := by simp; omega
    by_cases a2 : S ≤ 16384
    rotate_left
    · have b2 : decide ((16384 : Int) < S) = true := by simp; omega
      have hr2 : r = 28 := hR28 (by omega)
      have HR := hide hr2
      clear hr2
      go_wp2
      go_returns
      exact ⟨by first | (rw [HR.out]; rfl) | rfl, HB.out⟩
    have b2 : decide ((16384 : Int) < S) = false := by simp; omega
    have hr2 : r = 0 := hR0 (by omega)
    have HR := hide hr2
    clear hr2
    go_wp2
    go_returns
    exact ⟨by first | (rw [HR.out]; rfl) | rfl, HB.out⟩
  · by_cases a1 : L = 0
    · have b1 : ((L : Int) == 0) = true := by simp [a1]
      have hr2 : r = 28 := hR28 (by omega)
      have HR := hide hr2
      clear a1 hr2
      go_wp2
      go_returns
      exact ⟨by first | (rw [HR.out]; rfl) | rfl, HB.out⟩
    have b1 : ((L : Int) == 0) = false := by simp; omega
    by_cases a2 : S ≤ 16384
    rotate_left
    · have b2 : decide ((16384 : Int) < S) = true := by simp; omega
      have hr2 : r = 28 := hR28 (by omega)
      have HR := hide hr2
      clear hr2
      go_wp2
      go_returns
      exact ⟨by first | (rw [HR.out]; rfl) | rfl, HB.out⟩
    have b2 : decide ((16384 : Int) < S) = false := by simp; omega
    by_cases a3 : S % 16 = 0
    · have b3 : ((S : Int) % 16 == 0) = true := by simp; omega
      have b4 : ((S : Int) % 16 != 0) = false := by simp; omega
      have hr2 : r = 0 := hR0 (by omega)
      have HR := hide hr2
      clear hr2
      go_wp2
      go_returns
      exact ⟨by first | (rw [HR.out]; rfl) | rfl, HB.out⟩
    · have b3 : ((S : Int) % 16 == 0) = false := by simp; omega
      have b4 : ((S : Int) % 16 != 0) = true := by simp; omega
      have hr2 : r = 28 := hR28 (by omega)
      have HR := hide hr2
      clear hr2
      go_wp2
      go_returns
      exact ⟨by first | (rw [HR.out]; rfl) | rfl, HB.out⟩
  · by_cases a3 : S = 0
    rotate_left
    · have b3 : ((S : Int) == 0) = false := by simp; omega
      have b4 : ((S : Int) != 0) = true := by simp; omega
      have hr2 : r = 28 := hR28 (by omega)
      have HR := hide hr2
      clear hr2
      go_wp2
      go_returns
      exact ⟨by first | (rw [HR.out]; rfl) | rfl, HB.out⟩
    have b3 : ((S : Int) == 0) = true := by simp [a3]
    have b4 : ((S : Int) != 0) = false := by simp [a3]
    have b2 : decide ((16384 : Int) < S) = false := by simp; omega
    by_cases a1 : L = 0
    · have b1 : ((L : Int) == 0) = true := by simp [a1]
      have hr2 : r = 28 := hR28 (by omega)
      have HR := hide hr2
      clear a1 a3 hr2
      go_wp2
      go_returns
      exact ⟨by first | (rw [HR.out]; rfl) | rfl, HB.out⟩
    have b1 : ((L : Int) == 0) = false := by simp; omega
    have hr2 : r = 0 := hR0 (by omega)
    have HR := hide hr2
    clear a3 hr2
    go_wp2
    go_returns
    exact ⟨by first | (rw [HR.out]; rfl) | rfl, HB.out⟩
  · by_cases a1 : L = 0
    · have b1 : ((L : Int) == 0) = true := by simp [a1]
      have hr2 : r = 28 := hR28 (by omega)
      have HR := hide hr2
      clear a1 hr2
      go_wp2
      go_returns
      exact ⟨by first | (rw [HR.out]; rfl) | rfl, HB.out⟩
    have b1 : ((L : Int) == 0) = false := by simp; omega
    by_cases a2 : S ≤ 16384
    rotate_left
    · have b2 : decide ((16384 : Int) < S) = true := by simp; omega
      have hr2 : r = 28 := hR28 (by omega)
      have HR := hide hr2
      clear hr2
      go_wp2
      go_returns
      exact ⟨by first | (rw [HR.out]; rfl) | rfl, HB.out⟩
    have b2 : decide ((16384 : Int) < S) = false := by simp; omega
    by_cases a3 : S = 0
    · have b3 : ((S : Int) == 0) = true := by simp [a3]
      have hr2 : r = 28 := hR28 (by omega)
      have HR := hide hr2
      clear hr2
      go_wp2
      go_returns
      exact ⟨by first | (rw [HR.out]; rfl) | rfl, HB.out⟩
    have b3 : ((S : Int) == 0) = false := by simp; omega
    by_cases a4 : S ≤ 60
    · have b4 : decide ((60 : Int) < S) = false := by simp; omega
      have hr2 : r = 0 := hR0 (by omega)
      have HR := hide hr2
      clear hr2
      go_wp2
      go_returns
      exact ⟨by first | (rw [HR.out]; rfl) | rfl, HB.out⟩
    · have b4 : decide ((60 : Int) < S) = true := by simp; omega
      have hr2 : r = 28 := hR28 (by omega)
      have HR := hide hr2
      clear hr2
      go_wp2
      go_returns
      exact ⟨by first | (rw [HR.out]; rfl) | rfl, HB.out⟩
  · by_cases a3 : S = 0
    rotate_left
    · have b3 : ((S : Int) == 0) = false := by simp; omega
      have b4 : ((S : Int) != 0) = true := by simp; omega
      have hr2 : r = 28 := hR28 (by omega)
      have HR := hide hr2
      clear hr2
      go_wp2
      go_returns
      exact ⟨by first | (rw [HR.out]; rfl) | rfl, HB.out⟩
    have b3 : ((S : Int) == 0) = true := by simp [a3]
    have b4 : ((S : Int) != 0) = false := by simp [a3]
    have b2 : decide ((16384 : Int) < S) = false := by simp; omega
    by_cases a1 : L = 0
    · have b1 : ((L : Int) == 0) = true := by simp [a1]
      have hr2 : r = 28 := hR28 (by omega)
      have HR := hide hr2
      clear a1 a3 hr2
      go_wp2
      go_returns
      exact ⟨by first | (rw [HR.out]; rfl) | rfl, HB.out⟩
    have b1 : ((L : Int) == 0) = false := by simp; omega
    have hr2 : r = 0 := hR0 (by omega)
    have HR := hide hr2
    clear a3 hr2
    go_wp2
    go_returns
    exact ⟨by first | (rw [HR.out]; rfl) | rfl, HB.out⟩
end
end Go.Proofs.YthmkgohfeahdhaaGreat
namespace Go.Proofs.YthmkgohfeahdhaaGreat
open Go.RowKit
set_option linter.unusedSimpArgs false
set_option linter.unusedVariables false

def z32 : List UInt8 := List.replicate 32 0
theorem z32_length : z32.length = 32 := by simp [z32]
theorem zero_arr (w : World) : (zeroValue 255).run Tryz.prog w = .ok (.agg (bvs z32).toArray) w := by kernel_rfl
theorem zero_field (w : World) : (zeroValue 303).run Tryz.prog w = .ok (.agg (fcells z32 0)) w := by kernel_rfl
theorem size_arr : (Tryz.prog.info? 255).map (·.size) = some 32 := by kernel_rfl
theorem size_arrOf {b : List UInt8} (h : b.length = 32) : (Tryz.prog.info? 255).map (·.size) = some (bvs b).toArray.size := by rw [size_arr]; simp [bvs, h]
theorem size_arrL {b : List UInt8} (h : b.length = 32) : (Tryz.prog.info? 255).map (·.size) = some (bvs b).length := by rw [size_arr, bvs_length, h]

section
variable {w w' : World}
/-- a number behind what was written -/
theorem fput_at {g n k : Nat} {pre : List UInt8} (hB : Blk w g 303 (fcells (wrB z32 0 pre) pre.length)) (hk : k ≤ 4) (ha : pre.length + k ≤ 32) (hn : n < 4294967296) :
    Calls Tryz.prog 165 #[.pointer (some ⟨g, 0, none⟩), .int .u32 (n : Int), .int .i64 (k : Int)] w fun e w' => e = .returned (.tuple #[]) ∧ Blk w' g 303 (fcells (wrB z32 0 (pre ++ leB n k)) (pre ++ leB n k).length) ∧ Tch w.heap.size (· = g) w w' ∧ w'.heap.size = w.heap.size := by
  refine (fput_ok hB (by rw [wrB_length (by rw [z32_length]; omega)]; exact z32_length) hk ha hn).mono ?_
  rintro e w' ⟨rfl, h1, h2, h3⟩
  refine ⟨rfl, ?_, h2, h3⟩
  have := wrB_more (bs := z32) (a := 0) (l := pre) (m := leB n k) (by rw [leB_length, z32_length]; omega)
  rw [Nat.zero_add] at this
  rw [this] at h1
  rw [List.length_append, leB_length]
  exact h1
theorem below_own {g : Nat} {w0 w1 w2 : World} (h : Below w0.heap.size w0 w1) (hg : w0.heap.size ≤ g) (ht : Tch w1.heap.size (· = g) w1 w2) : Below w0.heap.size w0 w2 :=
  h.trans ((ht.mono h.size (S' := fun _ => False) (fun k hk e => by omega)).below fun _ _ h => h)

theorem alloc3 (w : World) (A B C : Array Value) (ta tb tc : TypeId) :
    Blk (((w.alloc (.cells A ta)).alloc (.cells B tb)).alloc (.cells C tc)) (w.heap.size + 1 + 1) tc C ∧ Below w.heap.size w (((w.alloc (.cells A ta)).alloc (.cells B tb)).alloc (.cells C tc)) ∧
    Blk (((w.alloc (.cells A ta)).alloc (.cells B tb)).alloc (.cells C tc)) w.heap.size ta A ∧ Blk (((w.alloc (.cells A ta)).alloc (.cells B tb)).alloc (.cells C tc)) (w.heap.size + 1) tb B := by
  refine ⟨?_, (((Below.refl _ _).alloc (Nat.le_refl _) _).alloc (by simp) _).alloc (by simp; omega) _, ((Blk.new w ta A).alloc _).alloc _, ?_⟩
  · have := Blk.new ((w.alloc (.cells A ta)).alloc (.cells B tb)) tc C
    simpa using this
  · have := (Blk.new (w.alloc (.cells A ta)) tb B).alloc (.cells C tc)
    simpa using this

set_option maxRecDepth 100000 in
set_option maxHeartbeats 1600000 in
theorem encode_ok (w : World) {n : NodeV} (hn : n.dir.length = 6) :
    Calls Tryz.prog 133 #[n.val] w fun e w' => e = .returned (.agg (bvs (encN n)).toArray) ∧ Below w.heap.size w w' := by
  have HN := hide hn
  clear hn
  have hk := n.kind.toNat_lt
  have hl := n.links.toNat_lt
  have hg1 := n.gen.toNat_lt
  have hs := n.size.toNat_lt
  have ha := n.single.toNat_lt
  have hb := n.double.toNat_lt
  have w1 : IntKind.u32.wrap (n.kind.toNat : Int) = (n.kind.toNat : Int) := by rw [IntKind.wrap_u32]; omega
  have w2 : IntKind.u32.wrap (n.links.toNat : Int) = (n.links.toNat : Int) := by rw [IntKind.wrap_u32]; omega
  have w3 : IntKind.u32.wrap (n.gen.toNat : Int) = (n.gen.toNat : Int) := by rw [IntKind.wrap_u32]; omega
  have w5 : IntKind.u32.wrap (n.single.toNat : Int) = (n.single.toNat : Int) := by rw [IntKind.wrap_u32]; omega
  have w6 : IntKind.u32.wrap (n.double.toNat : Int) = (n.double.toNat : Int) := by rw [IntKind.wrap_u32]; omega
  go_enter Tryz.func133, Tryz.ntmps133
  go_upto_region 2 with (first | ((with_reducible refine at_alloc 255 ?_); refine wpList_alloc_as rfl 255 rfl _ (zero_arr _) ?_) | ((with_reducible refine at_alloc 303 ?_); refine wpList_alloc_as rfl 303 rfl _ (zero_field _) ?_) | fail)
  simp only [World.size_alloc] 
  refine at_world (fun W => ∃ g r f, g = w.heap.size ∧ r = w.heap.size + 1 ∧ f = w.heap.size + 1 + 1 ∧ Blk W f 303 (fcells (wrB z32 0 []) ([] : List UInt8).length) ∧ Below w.heap.size w W ∧ Blk W g 130 n.cells.toArray ∧ Blk W r 255 (bvs z32).toArray)
    ⟨w.heap.size, w.heap.size + 1, w.heap.size + 1 + 1, rfl, rfl, rfl, alloc3 w _ _ _ _ _ _⟩ (fun w1 h1 => ?_)
  obtain ⟨g, r, f, hg, hr, hf, h1⟩ := h1
  rw [← hf, ← hr, ← hg]
  have hwf : w.heap.size ≤ f := by omega
  have hgf : ¬ g = f := by omega
  have hrf : ¬ r = f := by omega
  have hwr : w.heap.size ≤ r := by omega
  have HF := hide h1
  clear hg hr hf h1
  have c0 := (HF.out.2.2.1.cell 0).trans (node_cells_at n).1
  have c1 := (HF.out.2.2.1.cell 1).trans (node_cells_at n).2.1
  have c2 := (HF.out.2.2.1.cell 2).trans (node_cells_at n).2.2.1
  have c3 := (HF.out.2.2.1.cell 3).trans (node_cells_at n).2.2.2
  have cl := HF.out.2.2.1.lt
  go_wp2_with fail
  refine (fput_at HF.out.1 (n := n.kind.toNat) (k := 1) (by omega) (by simp) (by omega)).mono ?_
  rintro e w_ ⟨rfl, hf, ht, -⟩
  have HF2 := hide (And.intro hf (And.intro (below_own HF.out.2.1 hwf ht) (And.intro (HF.out.2.2.1.tch ht HF.out.2.2.1.lt hgf) (HF.out.2.2.2.tch ht HF.out.2.2.2.lt hrf))))
  clear HF hf ht c0 c1 c2 c3 cl
  have HF := HF2
  clear HF2
  have c0 := (HF.out.2.2.1.cell 0).trans (node_cells_at n).1
  have c1 := (HF.out.2.2.1.cell 1).trans (node_cells_at n).2.1
  have c2 := (HF.out.2.2.1.cell 2).trans (node_cells_at n).2.2.1
  have c3 := (HF.out.2.2.1.cell 3).trans (node_cells_at n).2.2.2
  have cl := HF.out.2.2.1.lt
  go_wp2_with fail
  refine (fput_at HF.out.1 (n := n.links.toNat) (k := 1) (by omega) (by simp [leB_length]) (by omega)).mono ?_
  rintro e w_ ⟨rfl, hf, ht, -⟩
  have HF2 := hide (And.intro hf (And.intro (below_own HF.out.2.1 hwf ht) (And.intro (HF.out.2.2.1.tch ht HF.out.2.2.1.lt hgf) (HF.out.2.2.2.tch ht HF.out.2.2.2.lt hrf))))
  clear HF hf ht c0 c1 c2 c3 cl
  have HF := HF2
  clear HF2
  have c0 := (HF.out.2.2.1.cell 0).trans (node_cells_at n).1
  have c1 := (HF.out.2.2.1.cell 1).trans (node_cells_at n).2.1
  have c2 := (HF.out.2.2.1.cell 2).trans (node_cells_at n).2.2.1
  have c3 := (HF.out.2.2.1.cell 3).trans (node_cells_at n).2.2.2
  have cl := HF.out.2.2.1.lt
  go_wp2_with fail
  refine (fput_at HF.out.1 (n := n.gen.toNat) (k := 2) (by omega) (by simp [leB_length]) (by omega)).mono ?_
  rintro e w_ ⟨rfl, hf, ht, -⟩
  have HF2 := hide (And.intro hf (And.intro (below_own HF.out.2.1 hwf ht) (And.intro (HF.out.2.2.1.tch ht HF.out.2.2.1.lt hgf) (HF.out.2.2.2.tch ht HF.out.2.2.2.lt hrf))))
  clear HF hf ht c0 c1 c2 c3 cl
  have HF := HF2
  clear HF2
  have c0 := (HF.out.2.2.1.cell 0).trans (node_cells_at n).1
  have c1 := (HF.out.2.2.1.cell 1).trans (node_cells_at n).2.1
  have c2 := (HF.out.2.2.1.cell 2).trans (node_cells_at n).2.2.1
  have c3 := (HF.out.2.2.1.cell 3).trans (node_cells_at n).2.2.2
  have cl := HF.out.2.2.1.lt
  go_wp2_with fail
  refine (fput_at HF.out.1 (n := n.size.toNat) (k := 4) (by omega) (by simp [leB_length]) (by omega)).mono ?_
  rintro e w_ ⟨rfl, hf, ht, -⟩
  have HF2 := hide (And.intro hf (And.intro (below_own HF.out.2.1 hwf ht) (And.intro (HF.out.2.2.1.tch ht HF.out.2.2.1.lt hgf) (HF.out.2.2.2.tch ht HF.out.2.2.2.lt hrf))))
  clear HF hf ht c0 c1 c2 c3 cl
  have HF := HF2
  clear HF2
  have hpre : ([] ++ leB n.kind.toNat 1 ++ leB n.links.toNat 1 ++ leB n.gen.toNat 2 ++ leB n.size.toNat 4) = encHead n := by simp [encHead]
  rw [hpre] at HF
  clear hpre
  go_upto_region 6 with (fail)
  have HRD := hide (HF.out.2.2.1.range (o := 4) (xs := n.dir.map u16v) fun j v hj => by
    rw [NodeV.cells, List.getElem?_toArray, List.append_assoc, List.getElem?_append_right (by simp), List.getElem?_append_left (by have := (List.getElem?_eq_some_iff.1 hj).1; simpa using this)]
    simpa using hj)
  have hs48 : (Tryz.prog.info? 128).map (·.size) = some (n.dir.map u16v).length := by
    rw [List.length_map, HN.out]; kernel_rfl
  have HS48 := hide hs48
  clear hs48
  go_wp2_with (first | ((with_reducible refine at_load 128 (.tmp 21) ?_); refine wpList_load_mid rfl 128 (.tmp 21) rfl g 4 (by rfl) (n.dir.map u16v) _ HRD.out Tryz.underlying128 rfl HS48.out ?_) | fail)
  go_loopg [23] 6 (fun gh x23 wr => ∃ j : Nat, gh = 6 - j ∧ j ≤ 6 ∧ x23 = .int .i64 (j : Int) ∧ Hid (Blk wr f 303 (fcells (wrB z32 0 (encHead n ++ encDir (n.dir.take j))) (encHead n ++ encDir (n.dir.take j)).length) ∧ Below w.heap.size w wr ∧ Blk wr g 130 n.cells.toArray ∧ Blk wr r 255 (bvs z32).toArray))
  case atStart => exact ⟨0, rfl, Nat.zero_le _, rfl, hide (by simpa [encDir] using HF.out)⟩
  case round =>
    obtain ⟨j, hg, hj6, rfl, HW⟩ := hrel
    have HG := hide hg
    clear HF hg HRD
    rcases Nat.lt_or_ge j 6 with hj | hj
    · have hjz : (j : Int) < 6 := by omega
      have hjl : j < n.dir.length := by rw [HN.out]; exact hj
      obtain ⟨d, hd⟩ : ∃ d, n.dir[j]? = some d := ⟨_, List.getElem?_eq_getElem hjl⟩
      have hdl := d.toNat_lt
      have hw16 : IntKind.u32.wrap (d.toNat : Int) = (d.toNat : Int) := by rw [IntKind.wrap_u32]; omega
      have hcell : (n.dir.map u16v).toArray[j]? = some (.int .u16 (d.toNat : Int)) := by simp [hd]
      have hnext : encHead n ++ encDir (n.dir.take (j + 1)) = encHead n ++ encDir (n.dir.take j) ++ leB d.toNat 2 := by
        obtain ⟨h1, h2⟩ := List.getElem?_eq_some_iff.1 hd
        rw [List.take_succ_eq_append_getElem h1, h2, encDir_snoc, List.append_assoc]
      have hlen : (encHead n ++ encDir (n.dir.take j)).length = 8 + 2 * j := by
        rw [List.length_append, encHead_length, encDir_length, List.length_take, HN.out]; omega
      have HCE := hide hcell
      have HNX := hide hnext
      have HLN := hide hlen
      clear hd hcell hnext hlen
      go_wp2_with (first | ((with_reducible refine at_index 128 (.tmp 22) (.tmp 23) ?_); refine wpList_index_arr rfl 128 37 (.tmp 22) (.tmp 23) rfl 6 j .i64 .u16 _ _ (by rfl) (by rfl) hj HCE.out Tryz.underlying128 Tryz.underlying37 (by kernel_rfl) ?_) | fail)
      refine (fput_at HW.out.1 (n := d.toNat) (k := 2) (by omega) (by rw [HLN.out]; omega) (by omega)).mono ?_
      rintro e w_ ⟨rfl, hf, ht, -⟩
      rw [← HNX.out] at hf
      have HF2 := hide (And.intro hf (And.intro (below_own HW.out.2.1 hwf ht) (And.intro (HW.out.2.2.1.tch ht HW.out.2.2.1.lt hgf) (HW.out.2.2.2.tch ht HW.out.2.2.2.lt hrf))))
      clear HW hf ht
      go_wp2
      go_roundg (6 - (j + 1))
      case rel => exact ⟨j + 1, rfl, by omega, by go_num, HF2⟩
      case measure => have := HG.out; omega
    · have hj6' : j = 6 := by omega
      subst hj6'
      have hd6 : n.dir.take 6 = n.dir := List.take_of_length_le (by rw [HN.out]; omega)
      have HF := HW
      rw [hd6] at HF
      clear HW hd6
      have hl20 : (encHead n ++ encDir n.dir).length = 20 := by rw [List.length_append, encHead_length, encDir_length, HN.out]
      have hl22 : (encHead n ++ encDir n.dir ++ leB n.single.toNat 2).length = 22 := by rw [List.length_append, hl20, leB_length]
      have hl24 : (encHead n ++ encDir n.dir ++ leB n.single.toNat 2 ++ leB n.double.toNat 2).length = 24 := by rw [List.length_append, hl22, leB_length]
      have HL := hide (And.intro hl20 (And.intro hl22 hl24))
      have hc5 : n.cells[10]? = some (.int .u16 (n.single.toNat : Int)) ∧ n.cells[11]? = some (.int .u16 (n.double.toNat : Int)) := by
        have h10 : ([.int .u8 (n.kind.toNat : Int), .int .u8 (n.links.toNat : Int), .int .u16 (n.gen.toNat : Int), .int .u32 (n.size.toNat : Int)] ++ n.dir.map u16v : List Value).length = 10 := by simp [HN.out]
        unfold NodeV.cells
        constructor
        · rw [List.getElem?_append_right (by omega), h10]; rfl
        · rw [List.getElem?_append_right (by omega), h10]; rfl
      have HC5 := hide hc5
      clear hl20 hl22 hl24 hc5
      have c10 := (HF.out.2.2.1.cell 10).trans (show n.cells.toArray[10]? = some (.int .u16 (n.single.toNat : Int)) by rw [List.getElem?_toArray]; exact HC5.out.1)
      have cl := HF.out.2.2.1.lt
      go_wp2_with fail
      refine (fput_at HF.out.1 (n := n.single.toNat) (k := 2) (by omega) (by rw [HL.out.1]; omega) (by omega)).mono ?_
      rintro e w_ ⟨rfl, hf, ht, -⟩
      have HF2 := hide (And.intro hf (And.intro (below_own HF.out.2.1 hwf ht) (And.intro (HF.out.2.2.1.tch ht HF.out.2.2.1.lt hgf) (HF.out.2.2.2.tch ht HF.out.2.2.2.lt hrf))))
      clear HF hf ht
      have HF := HF2
      clear HF2
      clear c10 cl
      have c11 := (HF.out.2.2.1.cell 11).trans (show n.cells.toArray[11]? = some (.int .u16 (n.double.toNat : Int)) by rw [List.getElem?_toArray]; exact HC5.out.2)
      have cl := HF.out.2.2.1.lt
      go_wp2_with fail
      refine (fput_at HF.out.1 (n := n.double.toNat) (k := 2) (by omega) (by rw [HL.out.2.1]; omega) (by omega)).mono ?_
      rintro e w_ ⟨rfl, hf, ht, -⟩
      have HF2 := hide (And.intro hf (And.intro (below_own HF.out.2.1 hwf ht) (And.intro (HF.out.2.2.1.tch ht HF.out.2.2.1.lt hgf) (HF.out.2.2.2.tch ht HF.out.2.2.2.lt hrf))))
      clear HF hf ht
      have HF := HF2
      clear HF2
      clear c11 cl
      have hfin : wrB z32 0 (encHead n ++ encDir n.dir ++ leB n.single.toNat 2 ++ leB n.double.toNat 2) = encN n := by
        unfold wrB encN
        rw [Nat.zero_add, HL.out.2.2]
        rfl
      rw [hfin] at HF
      clear hfin
      have hel : (encN n).length = 32 := encN_length HN.out
      have HEL := hide hel
      clear hel
      have HRF := hide (HF.out.1.range (o := 0) (xs := bvs (encN n)) fun j v hj => by
        rw [Nat.zero_add, fcells, List.getElem?_toArray, List.getElem?_append_left (List.getElem?_eq_some_iff.1 hj).1]; exact hj)
      go_wp2_with (first | ((with_reducible refine at_load 255 (.tmp 38) ?_); refine wpList_load_mid rfl 255 (.tmp 38) rfl f 0 (by rfl) (bvs (encN n)) _ HRF.out Tryz.underlying255 rfl (size_arrL HEL.out) ?_) | ((with_reducible refine at_store 255 (.tmp 2) (.tmp 39) ?_); refine wpList_store_blk rfl 255 (.tmp 2) (.tmp 39) rfl r _ _ _ (by rfl) (by rfl) HF.out.2.2.2 (size_arrOf HEL.out) (by simp [bvs, z32_length, HEL.out]) (bvs_oneCell _) (fun hB3 => ?_)) | ((with_reducible refine at_end ?_); refine bodyPost_ret (v := .agg (bvs (encN n)).toArray) (results_run1 rfl (ResV.row rfl hB3 Tryz.underlying255 rfl (size_arrOf HEL.out))) rfl ⟨rfl, below_setRow HF.out.2.1 hwr _⟩) | fail)
end
end Go.Proofs.YthmkgohfeahdhaaGreat

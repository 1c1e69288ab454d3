/- Bits in blocks, walked: Has, Free, Count. Bits in blocks, walked: Count. Nodes as bytes. No program in sight. Numbers in a node's bytes, walked: put, get. Blocks and nodes, compared. Nodes, walked: Blank, Check. Nodes, walked: Encode. Nodes, walked: Decode. Nodes in blocks, walked: Place, Read, Write. Groups, walked: taken, has, Take, Give. Groups, walked: Give, Get, Put. Configurations in small numbers: the walks of a size. Configurations in small numbers: made. A group is opened; a disk is begun: walked. Bits, blocks and groups: plain laws of what the calls come to. Groups, walked: Node, Set. -/
import Derived.Test.YthmkgohfeahdhaaGreatCkSuperLawP2
import Derived.DeepKeys
import Derived.Great.FillDense
import Derived.Deep.LoopGhost
import Derived.Deep.Cut
import Derived.Deep.CutRange
import Derived.Deep.CutBlock
import Derived.Laws.Rows
namespace Go.Proofs.YthmkgohfeahdhaaGreat
open Go.RowKit
set_option linter.unusedSimpArgs false
set_option linter.unusedVariables false

/-- the first bit that isn't set -/
def Sto.freeBit (s : Sto) (f m : Nat) : Option Nat := (List.range m).find? fun k => !s.bit f k

section
variable {w w' : World} {i : Ids} {s : Sto}
theorem BitsAt.not_own {bm f m : Nat} (h : TxAt w i s) (hB : BitsAt w bm i.tt f m) : ¬ i.own bm := h.other hB (by decide) (by decide) (by decide)

set_option maxRecDepth 100000 in
set_option maxHeartbeats 800000 in
theorem has_bit {bm f m k : Nat} (h : TxAt w i s) (hB : BitsAt w bm i.tt f m) (hf : f ≤ 65536) (hm : m ≤ 65536) (hk : k < m) (hc : f + k / 512 < s.D.length) :
    Calls Tryz.prog 152 #[.pointer (some ⟨bm, 0, none⟩), .int .i64 (k : Int)] w fun e w' => e = .returned (.tuple #[.bool (s.bit f k), .int .i64 0]) ∧ TxAt w' i s ∧ Tch w.heap.size i.own w w' := by
  have k0 : decide ((k : Int) < 0) = false := by simp
  have k1 : decide (m ≤ k) = false := by simpa using hk
  have c0 := hB.cell 0
  have c2 := hB.cell 2
  have cl := hB.lt
  go_enter Tryz.func152, Tryz.ntmps152
  have hp := place_ok hB hf (k := k) (by omega)
  obtain ⟨n, hn⟩ : ∃ n, f + k / 512 = n := ⟨_, rfl⟩
  obtain ⟨q, hq⟩ : ∃ q, k / 8 % 64 = q := ⟨_, rfl⟩
  obtain ⟨p, hpp⟩ : ∃ p, 2 ^ (k % 8) = p := ⟨_, rfl⟩
  rw [hn, hq, hpp] at hp
  rw [hn] at hc
  have hq64 : (q : Int) < 64 := by omega
  have hx64 : (s.at_ n).length = 64 := Sto.at_length h.ok n
  have hbit : s.bit f k = ((s.at_ n).getD q 0).toNat.testBit (k % 8) := by
    unfold Sto.bit bitB
    rw [hn, show k % 512 / 8 = q from by omega, show k % 512 % 8 = k % 8 from by omega]
  have hand : bits BinOp.and IntKind.u8 (((s.at_ n).getD q 0).toNat : Int) (p : Int) = if ((s.at_ n).getD q 0).toNat.testBit (k % 8) then (p : Int) else 0 := by
    rw [and8 ((s.at_ n).getD q 0).toNat_lt (by rw [← hpp]; exact pow8 (Nat.mod_lt _ (by decide))), ← hpp, and_pow _ (Nat.mod_lt _ (by decide))]
    split <;> rfl
  have hp0 : ((p : Int) == 0) = false := by
    have : 0 < p := by rw [← hpp]; exact Nat.two_pow_pos _
    simp; omega
  have hcell : (bvs (s.at_ n)).toArray[q]? = some (.int .u8 (((s.at_ n).getD q 0).toNat : Int)) := by
    rw [List.getElem?_toArray, bvs_get, List.getD_eq_getElem?_getD, List.getElem?_eq_getElem (by omega)]
    rfl
  generalize ((s.at_ n).getD q 0).toNat = av at hand hcell hbit
  generalize hxx : s.at_ n = x at *
  generalize av.testBit (k % 8) = bt at *
  have hon : ((if bt = true then (p : Int) else 0) == 0) = !bt := by cases bt <;> simp [hp0]
  have hne : ((if bt = true then (p : Int) else 0) != 0) = bt := by cases bt <;> simp [hp0, bne]
  generalize (if bt = true then (p : Int) else 0) = z at hand hon hne
  have HBIT := hide hbit
  clear hn hq hpp hbit
  have HC := hide hc
  have H := hide h
  have HX := hide hx64
  have HXX := hide hxx
  have HCE := hide hcell
  clear hc hx64 hxx hcell h
  go_wp2_with fail
  refine hp.mono ?_
  rintro e w1 ⟨rfl, hb1⟩
  have hB1 : BitsAt w1 bm i.tt f m := Blk.below hB hb1 hB.lt
  clear c0 c2 cl hp
  have c0 := hB1.cell 0
  have cl := hB1.lt
  have HB1 := hide (And.intro hb1 hB1)
  clear hb1 hB hB1
  go_wp2_with fail
  refine (get_ok (H.out.below HB1.out.1) HC.out).mono ?_
  rw [HXX.out]
  rintro e w2 ⟨rfl, hx2, ht2⟩
  have HT2 := hide (And.intro hx2 ((Tch.of_below (S := i.own) HB1.out.1).trans (ht2.own_dd.mono HB1.out.1.size fun _ _ h => h)))
  clear hx2 ht2 c0 cl
  go_upto_region 7 with (first | ((with_reducible refine at_alloc 106 ?_); refine wpList_alloc_as rfl 106 rfl _ (zero_block _) ?_) | ((with_reducible refine at_store 106 (.tmp 9) (.tmp 39) ?_); refine wpList_store_blk rfl 106 (.tmp 9) (.tmp 39) rfl w2.heap.size 106 _ _ (by rfl) (by rfl) (Blk.new _ _ _) (size_blockOf HX.out) ((bvs_size zeroB_length).trans (bvs_size HX.out).symm) (bvs_oneCell _) (fun _ => ?_)) | fail)
  refine at_world (fun W => ∃ g, g = w2.heap.size ∧ Below w2.heap.size w2 W ∧ Blk W g 106 (bvs x).toArray) ⟨_, rfl, below_setRow ((Below.refl _ _).alloc (Nat.le_refl _) _) (Nat.le_refl _) _, (Blk.new _ _ _).setRow_same _⟩ (fun w3 h3 => ?_)
  obtain ⟨g, hg, hb3, hG3⟩ := h3
  rw [← hg]
  have HB3 := hide hb3
  clear hg hb3
  have kq := (hG3.cell q).trans HCE.out
  have kl := hG3.lt
  clear hG3
  go_wp2
  go_returns
  refine ⟨by rw [HBIT.out]; rfl, HT2.out.1.below HB3.out, HT2.out.2.trans (Tch.of_below (HB3.out.mono HT2.out.2.size))⟩


end
end Go.Proofs.YthmkgohfeahdhaaGreat
namespace Go.Proofs.YthmkgohfeahdhaaGreat
open Go.RowKit
set_option linter.unusedSimpArgs false
set_option linter.unusedVariables false

/-- how many bits are set -/
def Sto.cntBit (s : Sto) (f m : Nat) : Nat := ((List.range m).filter (s.bit f)).length

section
variable {w w' : World} {i : Ids} {s : Sto}
end
end Go.Proofs.YthmkgohfeahdhaaGreat
namespace Go.Proofs.YthmkgohfeahdhaaGreat
open Go.RowKit
set_option linter.unusedSimpArgs false
set_option linter.unusedVariables false

abbrev u16v (x : UInt16) : Value := .int .u16 (x.toNat : Int)
/-- a node -/
structure NodeV where
  kind : UInt8
  links : UInt8
  gen : UInt16
  size : UInt32
  dir : List UInt16
  single : UInt16
  double : UInt16
deriving DecidableEq
def NodeV.zero : NodeV := ⟨0, 0, 0, 0, [0, 0, 0, 0, 0, 0], 0, 0⟩
def NodeV.cells (n : NodeV) : List Value := [.int .u8 (n.kind.toNat : Int), .int .u8 (n.links.toNat : Int), .int .u16 (n.gen.toNat : Int), .int .u32 (n.size.toNat : Int)] ++ n.dir.map u16v ++ [u16v n.single, u16v n.double]
def NodeV.val (n : NodeV) : Value := .agg n.cells.toArray
theorem NodeV.cells_length {n : NodeV} (h : n.dir.length = 6) : n.cells.length = 12 := by simp [NodeV.cells, h]
theorem NodeV.cells_one (n : NodeV) : n.cells.toArray.all (·.oneCell') = true := by
  rw [Array.all_eq_true_iff_forall_mem]
  intro x hx
  simp only [NodeV.cells, List.mem_toArray, List.mem_append, List.mem_cons, List.mem_map, List.not_mem_nil, or_false] at hx
  rcases hx with (((rfl | rfl | rfl | rfl) | ⟨y, _, rfl⟩) | (rfl | rfl)) <;> rfl

/-- is it free, but for its generation? -/
def blankN (n : NodeV) : Bool := decide (n = { NodeV.zero with gen := n.gen })
/-- may it be a node? -/
def checkN (n : NodeV) : Bool :=
  if n.kind = 0 then blankN n
  else if n.kind.toNat ≤ 5 then
    decide (n.links ≠ 0) && decide (n.size.toNat ≤ 16384) &&
      (if n.kind = 3 ∨ n.kind = 5 then decide (n.size = 0) else if n.kind = 4 then decide (1 ≤ n.size.toNat ∧ n.size.toNat ≤ 60) else if n.kind = 2 then decide (n.size.toNat % 16 = 0) else true)
  else false

/-! ### numbers, the lowest byte first -/
def byteN (n j : Nat) : UInt8 := UInt8.ofNat (n / 256 ^ j % 256)
def leB (n k : Nat) : List UInt8 := (List.range k).map (byteN n)
theorem leB_length (n k : Nat) : (leB n k).length = k := by simp [leB]
theorem leB_succ (n k : Nat) : leB n (k + 1) = leB n k ++ [byteN n k] := by simp [leB, List.range_succ]
theorem byteN_toNat (n j : Nat) : (byteN n j).toNat = n / 256 ^ j % 256 := by
  unfold byteN
  rw [UInt8.toNat_ofNat', Nat.mod_eq_of_lt]
  exact Nat.mod_lt _ (by decide)
def leN : List UInt8 → Nat
  | [] => 0
  | b :: r => b.toNat + 256 * leN r
theorem leN_snoc : ∀ (l : List UInt8) (b : UInt8), leN (l ++ [b]) = leN l + b.toNat * 256 ^ l.length
  | [], b => by simp [leN]
  | a :: r, b => by
    simp only [List.cons_append, leN, leN_snoc r b, List.length_cons, Nat.pow_succ]
    rw [Nat.mul_add, ← Nat.add_assoc, Nat.mul_comm (256 ^ r.length) 256, ← Nat.mul_assoc, ← Nat.mul_assoc, Nat.mul_comm 256 b.toNat]
theorem leN_lt : ∀ (l : List UInt8), leN l < 256 ^ l.length
  | [] => by simp [leN]
  | a :: r => by
    have := leN_lt r
    have ha := a.toNat_lt
    simp only [leN, List.length_cons, Nat.pow_succ]
    omega
theorem leN_leB (n : Nat) : ∀ k, leN (leB n k) = n % 256 ^ k
  | 0 => by simp [leB, leN, Nat.mod_one]
  | k + 1 => by
    rw [leB_succ, leN_snoc, leN_leB n k, leB_length, byteN_toNat]
    have h1 : n % 256 ^ (k + 1) = n % 256 ^ k + (n / 256 ^ k % 256) * 256 ^ k := by
      rw [Nat.pow_succ, Nat.mod_mul, Nat.mul_comm]
    omega

/-- bytes written into bytes -/
def wrB (bs : List UInt8) (a : Nat) (l : List UInt8) : List UInt8 := bs.take a ++ l ++ bs.drop (a + l.length)
theorem wrB_nil {bs : List UInt8} {a : Nat} : wrB bs a [] = bs := by simp [wrB]
theorem wrB_length {bs : List UInt8} {a : Nat} {l : List UInt8} (h : a + l.length ≤ bs.length) : (wrB bs a l).length = bs.length := by
  simp [wrB, Nat.min_eq_left (show a ≤ bs.length by omega)]
  omega
theorem wrB_snoc {bs : List UInt8} {a : Nat} {l : List UInt8} {b : UInt8} (h : a + l.length < bs.length) : wrB bs a (l ++ [b]) = (wrB bs a l).set (a + l.length) b := by
  have h1 : (bs.take a ++ l).length = a + l.length := by simp [Nat.min_eq_left (show a ≤ bs.length by omega)]
  unfold wrB
  rw [List.set_append_right _ _ (by omega), h1, Nat.sub_self, List.drop_eq_getElem_cons h, List.set_cons_zero, List.length_append, List.length_singleton, ← Nat.add_assoc]
  simp
theorem wrB_more {bs : List UInt8} {a : Nat} {l m : List UInt8} (h : a + l.length + m.length ≤ bs.length) : wrB (wrB bs a l) (a + l.length) m = wrB bs a (l ++ m) := by
  have h1 : (bs.take a ++ l).length = a + l.length := by simp [Nat.min_eq_left (show a ≤ bs.length by omega)]
  unfold wrB
  rw [List.take_append_of_le_length (by omega), List.take_of_length_le (by omega), List.drop_append, List.drop_of_length_le (by omega), h1, List.drop_drop, List.length_append, List.nil_append,
    show a + l.length + (a + l.length + m.length - (a + l.length)) = a + (l.length + m.length) from by omega]
  simp

/-- a node as bytes -/
def encHead (n : NodeV) : List UInt8 := leB n.kind.toNat 1 ++ leB n.links.toNat 1 ++ leB n.gen.toNat 2 ++ leB n.size.toNat 4
def encDir (l : List UInt16) : List UInt8 := (l.map fun d => leB d.toNat 2).flatten
def encN (n : NodeV) : List UInt8 := encHead n ++ encDir n.dir ++ leB n.single.toNat 2 ++ leB n.double.toNat 2 ++ List.replicate 8 0
theorem encHead_length (n : NodeV) : (encHead n).length = 8 := by simp [encHead, leB_length]
theorem encDir_length (l : List UInt16) : (encDir l).length = 2 * l.length := by
  induction l with
  | nil => rfl
  | cons a r ih =>
    simp only [encDir, List.map_cons, List.flatten_cons, List.length_append, leB_length, List.length_cons] at ih ⊢
    rw [ih]; omega
theorem encDir_snoc (l : List UInt16) (d : UInt16) : encDir (l ++ [d]) = encDir l ++ leB d.toNat 2 := by simp [encDir]
theorem encN_length {n : NodeV} (h : n.dir.length = 6) : (encN n).length = 32 := by
  simp [encN, encHead_length, encDir_length, leB_length, h]

/-- bytes as a node -/
def decDir (x : List UInt8) (k : Nat) : List UInt16 := (List.range k).map fun j => UInt16.ofNat (leN ((x.drop (8 + 2 * j)).take 2))
def decN (x : List UInt8) : NodeV :=
  ⟨UInt8.ofNat (leN (x.take 1)), UInt8.ofNat (leN ((x.drop 1).take 1)), UInt16.ofNat (leN ((x.drop 2).take 2)), UInt32.ofNat (leN ((x.drop 4).take 4)), decDir x 6, UInt16.ofNat (leN ((x.drop 20).take 2)), UInt16.ofNat (leN ((x.drop 22).take 2))⟩
/-- are they a node's? -/
def isN (x : List UInt8) : Bool := (x.drop 24).all (· == 0) && checkN (decN x)
theorem decDir_length (x : List UInt8) (k : Nat) : (decDir x k).length = k := by simp [decDir]
theorem decN_dir (x : List UInt8) : (decN x).dir.length = 6 := decDir_length x 6

theorem leN_leB_of {n k : Nat} (h : n < 256 ^ k) : leN (leB n k) = n := by rw [leN_leB, Nat.mod_eq_of_lt h]
theorem take_drop_at {α : Type} (a b c : List α) {i k : Nat} (ha : a.length = i) (hb : b.length = k) : ((a ++ (b ++ c)).drop i).take k = b := by
  subst ha; subst hb
  simp
theorem dec_enc {n : NodeV} (h : n.dir.length = 6) : decN (encN n) = n := by
  obtain ⟨k, l, g, s, dir, a, b⟩ := n
  simp only at h
  obtain ⟨d0, d1, d2, d3, d4, d5, rfl⟩ : ∃ d0 d1 d2 d3 d4 d5, dir = [d0, d1, d2, d3, d4, d5] := by
    match dir, h with
    | [d0, d1, d2, d3, d4, d5], _ => exact ⟨d0, d1, d2, d3, d4, d5, rfl⟩
  have e : encN ⟨k, l, g, s, [d0, d1, d2, d3, d4, d5], a, b⟩ = leB k.toNat 1 ++ (leB l.toNat 1 ++ (leB g.toNat 2 ++ (leB s.toNat 4 ++ (leB d0.toNat 2 ++ (leB d1.toNat 2 ++ (leB d2.toNat 2 ++ (leB d3.toNat 2 ++ (leB d4.toNat 2 ++ (leB d5.toNat 2 ++ (leB a.toNat 2 ++ (leB b.toNat 2 ++ List.replicate 8 0))))))))))) := by
    simp [encN, encHead, encDir]
  have h1 : ∀ x : UInt8, leN (leB x.toNat 1) = x.toNat := fun x => leN_leB_of (by have := x.toNat_lt; omega)
  have h2 : ∀ x : UInt16, leN (leB x.toNat 2) = x.toNat := fun x => leN_leB_of (by have := x.toNat_lt; omega)
  have h4 : leN (leB s.toNat 4) = s.toNat := leN_leB_of (by have := s.toNat_lt; omega)
  -- the pieces, one by one
  have p0 : (encN ⟨k, l, g, s, [d0, d1, d2, d3, d4, d5], a, b⟩).take 1 = leB k.toNat 1 := by
    rw [e]; exact take_drop_at [] _ _ rfl (leB_length _ _)
  have step : ∀ (pre : List UInt8) (i : Nat) (n k : Nat) (post : List UInt8), pre.length = i → (pre ++ (leB n k ++ post)).drop i = leB n k ++ post := fun pre i n k post h => by subst h; simp
  have p1 : ((encN ⟨k, l, g, s, [d0, d1, d2, d3, d4, d5], a, b⟩).drop 1).take 1 = leB l.toNat 1 := by
    rw [e]; exact take_drop_at (leB k.toNat 1) _ _ (leB_length _ _) (leB_length _ _)
  have tail : ∀ (x y : List UInt8) (i j : Nat), x.length = i → (x ++ y).drop (i + j) = y.drop j := fun x y i j h => by subst h; simp
  have q2 : ∀ j, (encN ⟨k, l, g, s, [d0, d1, d2, d3, d4, d5], a, b⟩).drop (2 + j) = (leB g.toNat 2 ++ (leB s.toNat 4 ++ (leB d0.toNat 2 ++ (leB d1.toNat 2 ++ (leB d2.toNat 2 ++ (leB d3.toNat 2 ++ (leB d4.toNat 2 ++ (leB d5.toNat 2 ++ (leB a.toNat 2 ++ (leB b.toNat 2 ++ List.replicate 8 0)))))))))).drop j := fun j => by
    rw [e, ← List.append_assoc]; exact tail _ _ 2 j (by simp [leB_length])
  have q8 : ∀ j, (encN ⟨k, l, g, s, [d0, d1, d2, d3, d4, d5], a, b⟩).drop (8 + j) = (leB d0.toNat 2 ++ (leB d1.toNat 2 ++ (leB d2.toNat 2 ++ (leB d3.toNat 2 ++ (leB d4.toNat 2 ++ (leB d5.toNat 2 ++ (leB a.toNat 2 ++ (leB b.toNat 2 ++ List.replicate 8 0)))))))).drop j := fun j => by
    rw [show 8 + j = 2 + (6 + j) from by omega, q2, ← List.append_assoc]; exact tail _ _ 6 j (by simp [leB_length])
  have q14 : ∀ j, (encN ⟨k, l, g, s, [d0, d1, d2, d3, d4, d5], a, b⟩).drop (14 + j) = (leB d3.toNat 2 ++ (leB d4.toNat 2 ++ (leB d5.toNat 2 ++ (leB a.toNat 2 ++ (leB b.toNat 2 ++ List.replicate 8 0))))).drop j := fun j => by
    rw [show 14 + j = 8 + (6 + j) from by omega, q8, ← List.append_assoc, ← List.append_assoc]; exact tail _ _ 6 j (by simp [leB_length])
  have q20 : ∀ j, (encN ⟨k, l, g, s, [d0, d1, d2, d3, d4, d5], a, b⟩).drop (20 + j) = (leB a.toNat 2 ++ (leB b.toNat 2 ++ List.replicate 8 0)).drop j := fun j => by
    rw [show 20 + j = 14 + (6 + j) from by omega, q14, ← List.append_assoc, ← List.append_assoc]; exact tail _ _ 6 j (by simp [leB_length])
  have t2 : ∀ (n : Nat) (y : List UInt8), ((leB n 2 ++ y).drop 0).take 2 = leB n 2 := fun n y => take_drop_at [] _ _ rfl (leB_length _ _)
  have t22 : ∀ (m n : Nat) (y : List UInt8), ((leB m 2 ++ (leB n 2 ++ y)).drop 2).take 2 = leB n 2 := fun m n y => take_drop_at _ _ _ (leB_length _ _) (leB_length _ _)
  have t42 : ∀ (m m' n : Nat) (y : List UInt8), ((leB m 2 ++ (leB m' 2 ++ (leB n 2 ++ y))).drop 4).take 2 = leB n 2 := fun m m' n y => by
    rw [← List.append_assoc]; exact take_drop_at _ _ _ (by simp [leB_length]) (leB_length _ _)
  have p2 : ((encN ⟨k, l, g, s, [d0, d1, d2, d3, d4, d5], a, b⟩).drop 2).take 2 = leB g.toNat 2 := by rw [show 2 = 2 + 0 from rfl, q2]; exact t2 _ _
  have p4 : ((encN ⟨k, l, g, s, [d0, d1, d2, d3, d4, d5], a, b⟩).drop 4).take 4 = leB s.toNat 4 := by rw [show 4 = 2 + 2 from rfl, q2]; exact take_drop_at _ _ _ (leB_length _ _) (leB_length _ _)
  have p20 : ((encN ⟨k, l, g, s, [d0, d1, d2, d3, d4, d5], a, b⟩).drop 20).take 2 = leB a.toNat 2 := by rw [show 20 = 20 + 0 from rfl, q20]; exact t2 _ _
  have p22 : ((encN ⟨k, l, g, s, [d0, d1, d2, d3, d4, d5], a, b⟩).drop 22).take 2 = leB b.toNat 2 := by rw [show 22 = 20 + 2 from rfl, q20]; exact t22 _ _ _
  have r0 : ((encN ⟨k, l, g, s, [d0, d1, d2, d3, d4, d5], a, b⟩).drop 8).take 2 = leB d0.toNat 2 := by rw [show 8 = 8 + 0 from rfl, q8]; exact t2 _ _
  have r1 : ((encN ⟨k, l, g, s, [d0, d1, d2, d3, d4, d5], a, b⟩).drop 10).take 2 = leB d1.toNat 2 := by rw [show 10 = 8 + 2 from rfl, q8]; exact t22 _ _ _
  have r2 : ((encN ⟨k, l, g, s, [d0, d1, d2, d3, d4, d5], a, b⟩).drop 12).take 2 = leB d2.toNat 2 := by rw [show 12 = 8 + 4 from rfl, q8]; exact t42 _ _ _ _
  have r3 : ((encN ⟨k, l, g, s, [d0, d1, d2, d3, d4, d5], a, b⟩).drop 14).take 2 = leB d3.toNat 2 := by rw [show 14 = 14 + 0 from rfl, q14]; exact t2 _ _
  have r4 : ((encN ⟨k, l, g, s, [d0, d1, d2, d3, d4, d5], a, b⟩).drop 16).take 2 = leB d4.toNat 2 := by rw [show 16 = 14 + 2 from rfl, q14]; exact t22 _ _ _
  have r5 : ((encN ⟨k, l, g, s, [d0, d1, d2, d3, d4, d5], a, b⟩).drop 18).take 2 = leB d5.toNat 2 := by rw [show 18 = 14 + 4 from rfl, q14]; exact t42 _ _ _ _
  have hr : decDir (encN ⟨k, l, g, s, [d0, d1, d2, d3, d4, d5], a, b⟩) 6 = [d0, d1, d2, d3, d4, d5] := by
    have : List.range 6 = [0, 1, 2, 3, 4, 5] := rfl
    unfold decDir
    rw [this]
    simp only [List.map_cons, List.map_nil, Nat.mul_zero, Nat.mul_one, Nat.add_zero, Nat.reduceMul, Nat.reduceAdd, r0, r1, r2, r3, r4, r5, h2, UInt16.ofNat_toNat]
  unfold decN
  rw [p0, p1, p2, p4, p20, p22, hr, h1, h1, h2, h4, h2, h2]
  simp
theorem enc_tail {n : NodeV} (h : n.dir.length = 6) : ((encN n).drop 24).all (· == 0) = true := by
  have : (encN n).drop 24 = List.replicate 8 0 := by
    unfold encN
    rw [List.append_assoc (encHead n ++ encDir n.dir ++ leB n.single.toNat 2), List.append_assoc (encHead n ++ encDir n.dir), ← List.append_assoc, ← List.append_assoc]
    exact List.drop_left' (by simp [encHead_length, encDir_length, leB_length, h])
  rw [this]; rfl
theorem isN_enc {n : NodeV} (h : n.dir.length = 6) : isN (encN n) = checkN n := by
  unfold isN
  rw [enc_tail h, dec_enc h, Bool.true_and]
end Go.Proofs.YthmkgohfeahdhaaGreat
namespace Go.Proofs.YthmkgohfeahdhaaGreat
open Go.RowKit
set_option linter.unusedSimpArgs false
set_option linter.unusedVariables false

/-- a field of bytes, and a place in it -/
def fcells (bs : List UInt8) (a : Nat) : Array Value := (bvs bs ++ [Value.int .i64 (a : Int)]).toArray
theorem fcells_size {bs : List UInt8} (h : bs.length = 32) (a : Nat) : (fcells bs a).size = 33 := by simp [fcells, bvs_length, h]
theorem fcells_at {bs : List UInt8} (h : bs.length = 32) (a : Nat) : (fcells bs a)[32]? = some (.int .i64 (a : Int)) := by
  rw [fcells, List.getElem?_toArray, List.getElem?_append_right (by rw [bvs_length]; omega), bvs_length, h]
  rfl
theorem fcells_byte {bs : List UInt8} {a j : Nat} (hj : j < bs.length) : (fcells bs a)[j]? = some (bv (bs.getD j 0)) := by
  rw [fcells, List.getElem?_toArray, List.getElem?_append_left (by rw [bvs_length]; exact hj), bvs_get, List.getD_eq_getElem?_getD, List.getElem?_eq_getElem hj]
  rfl
theorem fcells_set {bs : List UInt8} {a j : Nat} (hj : j < bs.length) (x : UInt8) : (fcells bs a).setIfInBounds j (bv x) = fcells (bs.set j x) a := by
  simp only [fcells, List.setIfInBounds_toArray, bvs]
  rw [List.set_append_left _ _ (by simpa using hj), List.map_set]
theorem fcells_move {bs : List UInt8} (h : bs.length = 32) (a b : Nat) : (fcells bs a).setIfInBounds 32 (.int .i64 (b : Int)) = fcells bs b := by
  simp only [fcells, List.setIfInBounds_toArray]
  rw [List.set_append_right _ _ (by rw [bvs_length, h]; omega), bvs_length, h]
  rfl
theorem fcells_all (bs : List UInt8) (a : Nat) : (fcells bs a).all (·.oneCell') = true := by
  refine all_oneCell_toArray fun v hv => ?_
  rcases List.mem_append.1 hv with h | h
  · exact bvs_one bs v h
  · simp at h; subst h; rfl

section
variable {w w' : World} {g : Nat} {bs : List UInt8}
set_option maxRecDepth 100000 in
set_option maxHeartbeats 800000 in
theorem fput_ok {a n k : Nat} (hB : Blk w g 303 (fcells bs a)) (hbs : bs.length = 32) (hk : k ≤ 4) (ha : a + k ≤ 32) (hn : n < 4294967296) :
    Calls Tryz.prog 165 #[.pointer (some ⟨g, 0, none⟩), .int .u32 (n : Int), .int .i64 (k : Int)] w fun e w' => e = .returned (.tuple #[]) ∧ Blk w' g 303 (fcells (wrB bs a (leB n k)) (a + k)) ∧ Tch w.heap.size (· = g) w w' ∧ w'.heap.size = w.heap.size := by
  have hkz : (k : Int) ≤ 4 := by omega
  have H0 := hide hB
  have HBS := hide hbs
  clear hB hbs
  go_enter Tryz.func165, Tryz.ntmps165
  go_wp2_with fail
  go_loopg [1, 7] k (fun gh x1 x7 wr => ∃ j : Nat, gh = k - j ∧ j ≤ k ∧ x1 = .int .u32 ((n / 256 ^ j : Nat) : Int) ∧ x7 = .int .i64 (j : Int) ∧ Hid (Blk wr g 303 (fcells (wrB bs a (leB n j)) (a + j))) ∧ Hid (Tch w.heap.size (· = g) w wr ∧ wr.heap.size = w.heap.size))
  case atStart => exact ⟨0, rfl, Nat.zero_le _, by simp, rfl, by simpa [leB, wrB_nil] using H0, hide ⟨Tch.refl _ _ _, rfl⟩⟩
  case round =>
    obtain ⟨j, hg, hjk, rfl, rfl, HW, HT⟩ := hrel
    have HG := hide hg
    clear hg
    have hwl : (wrB bs a (leB n j)).length = 32 := by rw [wrB_length (by rw [leB_length, HBS.out]; omega)]; exact HBS.out
    rcases Nat.lt_or_ge j k with hj | hj
    · obtain ⟨b1, hb1⟩ : ∃ b1, wrB bs a (leB n j) = b1 := ⟨_, rfl⟩
      have hset : wrB bs a (leB n (j + 1)) = b1.set (a + j) (byteN n j) := by
        rw [leB_succ, wrB_snoc (by rw [leB_length, HBS.out]; omega), leB_length, hb1]
      have hq : n / 256 ^ (j + 1) = n / 256 ^ j / 256 := by rw [Nat.pow_succ, Nat.div_div_eq_div_mul]
      have hbn : byteN n j = UInt8.ofNat (n / 256 ^ j % 256) := rfl
      have hn1 : n / 256 ^ j < 4294967296 := Nat.lt_of_le_of_lt (Nat.div_le_self _ _) hn
      rw [hb1] at HW hwl
      obtain ⟨m, hm⟩ : ∃ m, n / 256 ^ j = m := ⟨_, rfl⟩
      rw [hm] at hq hbn hn1 ⊢
      have HS := hide (And.intro hset (And.intro hq hbn))
      obtain ⟨p, hp⟩ : ∃ p, a + j = p := ⟨_, rfl⟩
      rw [hp] at HW HS
      have HP := hide hp
      have hp32 : (p : Int) < 32 := by omega
      clear hp
      have hl := HW.out.lt
      have c32 := (HW.out.cell 32).trans (fcells_at hwl _)
      have f32 := HW.out.frozen 32
      have HWL := hide hwl
      have e1 : IntKind.u8.wrap (m : Int) = ((m % 256 : Nat) : Int) := by simp [IntKind.wrap, IntKind.signed, IntKind.bits]
      clear hset hq hbn hb1 hm hwl
      go_upto_region 2 with (fail)
      refine wp_region_text [0, 0, 0, 0, 0, 0, 0, 0, 0, 0, 2] (· = wr.drew) (by kernel_rfl) (by kernel_rfl) rfl ?_
      iterate 10 (refine wpOrd_q (v := ?_) (by rfl) (fun W hW => ?_) ?_; rotate_left; (focus ((cases hW; go_simp); try with_reducible rfl)); try simp only [Act.put, List.setIfInBounds_toArray, List.set_cons_zero, List.set_cons_succ])
      rw [show ((m : Int) % 256) = ((m % 256 : Nat) : Int) from by omega, ← bv_ofNat (k := m % 256) (by omega)]
      refine wpOrd_b (by rfl) (fun K hK => ?_)
      refine wp_store_cell 5 (.tmp 18) (.tmp 15) rfl g p _ _ _ (by rfl) (by rfl) HW.out.drew (by rw [fcells_size HWL.out]; omega) rfl (by kernel_rfl) ?_
      refine hK (fun _ => True) _ _ trivial (wpOrd_nil ?_)
      clear hK K
      have hB2 := HW.out.drew.set_ p (bv (UInt8.ofNat (m % 256)))
      rw [fcells_set (by rw [HWL.out]; omega), ← HS.out.2.2, ← HS.out.1] at hB2
      have hT2 : Tch w.heap.size (· = g) w (wr.drew.setCell ⟨g, p, none⟩ (bv (UInt8.ofNat (m % 256)))) := HT.out.1.drew.trans (Tch.setCell (p := ⟨g, p, none⟩) fun _ => rfl)
      have hS2 : (wr.drew.setCell ⟨g, p, none⟩ (bv (UInt8.ofNat (m % 256)))).heap.size = w.heap.size := by simpa using HT.out.2
      refine at_world (fun W => Blk W g 303 (fcells (wrB bs a (leB n (j + 1))) p) ∧ Tch w.heap.size (· = g) w W ∧ W.heap.size = w.heap.size) ⟨by rw [HS.out.2.2] at hB2; exact hB2, hT2, hS2⟩ (fun w2 h2 => ?_)
      clear hB2 hT2 hS2
      obtain ⟨hB2, hT2, hS2⟩ := h2
      have hwl2 : (wrB bs a (leB n (j + 1))).length = 32 := by rw [wrB_length (by rw [leB_length, HBS.out]; omega)]; exact HBS.out
      have H2 := hide (And.intro hB2 (And.intro hT2 hS2))
      have HWL2 := hide hwl2
      clear c32 f32 hl
      have c32 := (H2.out.1.cell 32).trans (fcells_at HWL2.out _)
      have f32 := H2.out.1.frozen 32
      have hl := H2.out.1.lt
      clear hB2 hT2 hS2 hwl2
      go_wp2
      go_roundg (k - (j + 1))
      case rel =>
        refine ⟨j + 1, rfl, by omega, ?_, by go_num, hide ?_, hide ⟨H2.out.2.1.trans (Tch.setCell (p := ⟨g, 32, none⟩) fun _ => rfl), by simpa using H2.out.2.2⟩⟩
        · rw [HS.out.2.1]; go_num
        · have := H2.out.1.set_ 32 (.int .i64 ((p + 1 : Nat) : Int))
          rw [fcells_move HWL2.out] at this
          rw [show a + (j + 1) = p + 1 from by rw [← HP.out]; omega]
          exact this
      case measure => have := HG.out; omega
    · have hjk2 : j = k := by omega
      have HJ := hide hjk2
      clear hjk2
      go_wp2
      go_returns
      have h1 := HJ.out
      subst h1
      exact ⟨rfl, HW.out, HT.out.1, HT.out.2⟩

theorem or_bytes {a b i : Nat} (ha : a < 256 ^ i) (hb : b < 256) (hi : i ≤ 3) : bits BinOp.or IntKind.u32 (a : Int) (((b * 256 ^ i : Nat)) : Int) = ((a + b * 256 ^ i : Nat) : Int) := by
  have hp : 256 ^ i ≤ 256 ^ 3 := Nat.pow_le_pow_right (by decide) hi
  have h4 : a < 4294967296 := by omega
  have h5 : b * 256 ^ i < 4294967296 := by
    have : b * 256 ^ i ≤ 255 * 256 ^ 3 := Nat.mul_le_mul (by omega) hp
    omega
  have h := (bits_nat .u32 32 (by decide) (fun n h0 h1 => by rw [IntKind.wrap_u32]; omega) a (b * 256 ^ i) h4 h5).2
  rw [h]
  have e : 256 ^ i = 2 ^ (8 * i) := by rw [show (256 : Nat) = 2 ^ 8 from rfl, ← Nat.pow_mul]
  rw [e] at ha ⊢
  rw [Nat.or_comm, Nat.add_comm, Nat.mul_comm b]
  rw [← Nat.two_pow_add_eq_or_of_lt ha]

set_option maxRecDepth 100000 in
set_option maxHeartbeats 800000 in
theorem fget_ok {a k : Nat} (hB : Blk w g 303 (fcells bs a)) (hbs : bs.length = 32) (hk : k ≤ 4) (ha : a + k ≤ 32) :
    Calls Tryz.prog 173 #[.pointer (some ⟨g, 0, none⟩), .int .i64 (k : Int)] w fun e w' => e = .returned (.int .u32 (leN ((bs.drop a).take k) : Int)) ∧ Blk w' g 303 (fcells bs (a + k)) ∧ Tch w.heap.size (· = g) w w' ∧ w'.heap.size = w.heap.size := by
  have hkz : (k : Int) ≤ 4 := by omega
  have H0 := hide hB
  have HBS := hide hbs
  clear hB hbs
  go_enter Tryz.func173, Tryz.ntmps173
  go_wp2_with fail
  go_loopg [5, 8] k (fun gh x5 x8 wr => ∃ (j q : Nat), gh = k - j ∧ j ≤ k ∧ x5 = .int .u32 (q : Int) ∧ x8 = .int .i64 (j : Int) ∧ Hid (leN ((bs.drop a).take j) = q) ∧ Hid (Blk wr g 303 (fcells bs (a + j))) ∧ Hid (Tch w.heap.size (· = g) w wr ∧ wr.heap.size = w.heap.size))
  case atStart => exact ⟨0, 0, rfl, Nat.zero_le _, rfl, rfl, hide (by simp [leN]), H0, hide ⟨Tch.refl _ _ _, rfl⟩⟩
  case round =>
    obtain ⟨j, q, hg, hjk, rfl, rfl, HQ, HW, HT⟩ := hrel
    have HG := hide hg
    clear hg
    rcases Nat.lt_or_ge j k with hj | hj
    · obtain ⟨p, hp⟩ : ∃ p, a + j = p := ⟨_, rfl⟩
      rw [hp] at HW
      have hp32 : (p : Int) < 32 := by omega
      have hpl : p < bs.length := by rw [HBS.out]; omega
      have hstep : leN ((bs.drop a).take (j + 1)) = q + (bs.getD p 0).toNat * 256 ^ j := by
        have hl : j < (bs.drop a).length := by rw [List.length_drop, HBS.out]; omega
        rw [List.take_succ_eq_append_getElem hl, leN_snoc, HQ.out, List.length_take, Nat.min_eq_left (by omega), List.getElem_drop]
        congr 2
        rw [List.getD_eq_getElem?_getD, List.getElem?_eq_getElem hpl]
        simp only [Option.getD_some]
        congr 2
      have hq : q < 256 ^ j := by
        have := leN_lt ((bs.drop a).take j)
        rw [HQ.out] at this
        exact Nat.lt_of_lt_of_le this (Nat.pow_le_pow_right (by decide) (by simp; omega))
      have hl := HW.out.lt
      have c32 := (HW.out.cell 32).trans (fcells_at HBS.out _)
      have cp := (HW.out.cell p).trans (fcells_byte (a := p) hpl)
      have f32 := HW.out.frozen 32
      have hv := (bs.getD p 0).toNat_lt
      have HST := hide hstep
      have HP := hide hp
      simp only [bv] at cp
      generalize (bs.getD p 0).toNat = v at cp HST hv
      clear hstep hp hpl
      have e1 : IntKind.u32.wrap (v : Int) = (v : Int) := by rw [IntKind.wrap_u32]; omega
      have e2 : IntKind.i64.wrap (8 * (j : Int)) = 8 * (j : Int) := IntWalk.i64_in _ (by omega)
      have e3 : IntKind.u32.wrap ((v : Int) * 2 ^ (8 * (j : Int)).toNat) = ((v * 256 ^ j : Nat) : Int) := by
        have h1 : (8 * (j : Int)).toNat = 8 * j := by omega
        have h2 : (256 : Nat) ^ j = 2 ^ (8 * j) := by rw [show (256 : Nat) = 2 ^ 8 from rfl, ← Nat.pow_mul]
        have h3 : 256 ^ j ≤ 256 ^ 3 := Nat.pow_le_pow_right (by decide) (by omega)
        have h4 : v * 256 ^ j ≤ 255 * 256 ^ 3 := Nat.mul_le_mul (by omega) h3
        have h5 : ((v * 256 ^ j : Nat) : Int) = (v : Int) * 2 ^ (8 * j) := by rw [h2]; simp
        rw [h1, ← h5, IntKind.wrap_u32]
        omega
      have e4 := or_bytes hq hv (by omega)
      obtain ⟨z, hz⟩ : ∃ z, v * 256 ^ j = z := ⟨_, rfl⟩
      rw [hz] at e3 e4 HST
      obtain ⟨r, hr⟩ : ∃ r, q + z = r := ⟨_, rfl⟩
      rw [hr] at e4 HST
      clear hz hr hq
      go_upto_region 5 with (fail)
      refine wp_region_text [0, 0, 0, 0, 0, 0, 0, 0, 0, 0, 0, 0, 0, 0, 0, 0] (· = wr.drew) (by kernel_rfl) (by kernel_rfl) rfl ?_
      iterate 16 (refine wpOrd_q (v := ?_) (by rfl) (fun W hW => ?_) ?_; rotate_left; (focus ((cases hW; go_simp); try with_reducible rfl)); try simp only [Act.put, List.setIfInBounds_toArray, List.set_cons_zero, List.set_cons_succ])
      refine wpOrd_nil ?_
      go_wp2
      go_roundg (k - (j + 1))
      case rel =>
        refine ⟨j + 1, _, rfl, by omega, rfl, by go_num, HST, hide ?_, hide ⟨HT.out.1.drew.trans (Tch.setCell (p := ⟨g, 32, none⟩) fun _ => rfl), by simpa using HT.out.2⟩⟩
        have := HW.out.drew.set_ 32 (.int .i64 ((p + 1 : Nat) : Int))
        rw [fcells_move HBS.out] at this
        rw [show a + (j + 1) = p + 1 from by rw [← HP.out]; omega]
        exact this
      case measure => have := HG.out; omega
    · have hjk2 : j = k := by omega
      have HJ := hide hjk2
      clear hjk2
      go_wp2
      go_returns
      have h1 := HJ.out
      subst h1
      exact ⟨by rw [HQ.out]; rfl, HW.out, HT.out.1, HT.out.2⟩
end
end Go.Proofs.YthmkgohfeahdhaaGreat
namespace Go.Proofs.YthmkgohfeahdhaaGreat
open Go.RowKit
set_option linter.unusedSimpArgs false
set_option linter.unusedVariables false

section
variable {P : Program} {ops : Array Oper} {rest : List Oper} {o : Oper} {a : Act} {w : World} {Q : Exit → Act → World → Prop}
theorem run_equal_lits (w : World) {m D : Nat} (hm : m ≤ 10000) {k : TypeId} (hk : P.keyTypeAt m k = true) {x y : Array Value} {lx ly : List Lit}
    (fx : (Value.agg x).formed P k = true) (fy : (Value.agg y).formed P k = true) (hx : P.keyLits D k x.toList = some lx) (hy : P.keyLits D k y.toList = some ly) :
    ∃ r : Bool, (Op.equalIn 10000 k (.agg x) (.agg y)).run P w = .ok r w ∧ (r = true ↔ lx = ly) := by
  have := run_equalIn_deep (10000 - m) m k hk w D D (.agg x) (.agg y) lx ly fx fy hx hy
  rwa [show 10000 - m + m = 10000 from by omega] at this
theorem lits_ints {t e : TypeId} {n d : Nat} {q : IntKind} (ht : P.underlying t = some (.array n e)) (he : P.underlying e = some (.int q)) (hct : P.cellsOf t = n) (hce : P.cellsOf e = 1)
    {xs : List Int} (hl : xs.length = n) (hw : ∀ x ∈ xs, (Lit.int q x).wf = true) : P.keyLits (d + 2) t (xs.map (Value.int q)) = some (xs.map (Lit.int q)) := by
  have h1 : ∀ i, i < n → P.keyLits (d + 1) e (((xs.map (Value.int q)).drop (i * 1)).take 1) = some [Lit.int q (xs.getD i 0)] := fun i hi => by
    have : ((xs.map (Value.int q)).drop (i * 1)).take 1 = [.int q (xs.getD i 0)] := by
      rw [Nat.mul_one, List.drop_eq_getElem_cons (by simpa using (by omega : i < xs.length)), List.take_succ_cons, List.take_zero, List.getElem_map, List.getD_eq_getElem?_getD, List.getElem?_eq_getElem (by omega)]
      rfl
    rw [this]
    unfold Program.keyLits
    rw [he]
    have hmem : xs.getD i 0 ∈ xs := by
      rw [List.getD_eq_getElem?_getD, List.getElem?_eq_getElem (by omega)]
      exact List.getElem_mem _
    have hw' := hw _ hmem
    simp only [List.getD_eq_getElem?_getD] at hw' ⊢
    simp [hw']
  have h2 : ((List.range n).mapM fun i => P.keyLits (d + 1) e (((xs.map (Value.int q)).drop (i * 1)).take 1)) = some ((List.range n).map fun i => [Lit.int q (xs.getD i 0)]) := by
    have : ∀ l : List Nat, (∀ i ∈ l, i < n) → (l.mapM fun i => P.keyLits (d + 1) e (((xs.map (Value.int q)).drop (i * 1)).take 1)) = some (l.map fun i => [Lit.int q (xs.getD i 0)]) := by
      intro l
      induction l with
      | nil => intro _; rfl
      | cons i r ih =>
        intro h
        rw [List.mapM_cons, h1 i (h i (by simp)), ih fun j hj => h j (by simp [hj])]
        rfl
    exact this _ fun i hi => List.mem_range.1 hi
  unfold Program.keyLits
  rw [ht]
  simp only [List.length_map, hl, hct, if_true, hce]
  rw [h2, Option.map_some]
  congr 1
  apply List.ext_getElem?
  intro j
  have : ((List.range n).map fun i => [Lit.int q (xs.getD i 0)]).flatten = (List.range n).map fun i => Lit.int q (xs.getD i 0) := by
    generalize List.range n = l
    induction l with
    | nil => rfl
    | cons i r ih => rw [List.map_cons, List.flatten_cons, ih]; rfl
  rw [this]
  simp only [List.getElem?_map]
  by_cases hj : j < n
  · rw [List.getElem?_range hj, List.getElem?_eq_getElem (by omega)]
    simp [List.getD_eq_getElem?_getD, List.getElem?_eq_getElem (show j < xs.length by omega)]
  · rw [List.getElem?_eq_none (by simpa using hj), List.getElem?_eq_none (by omega)]
    rfl
theorem at_binop (op : BinOp) (ty : TypeId) (x y : Operand) (t2 : TypeId) {d : Option Tmp} {k : TypeId} {p : String} {f : Array Edge} {g : Option (Nat × Bool)} (h : wpList P ops Q (⟨d, .binOp op ty x y t2, k, p, f, g⟩ :: rest) a w) : wpList P ops Q (⟨d, .binOp op ty x y t2, k, p, f, g⟩ :: rest) a w := h
theorem exec_eql_agg (ty : TypeId) (x y : Operand) (t2 : TypeId) (ho : o.op = .binOp .eql ty x y t2) (xs ys : Array Value) (hx : a.eval x = .agg xs) (hy : a.eval y = .agg ys) (hg : P.eqGuardType P.depth ty = false) (r : Bool)
    (hr : (Op.equalIn 10000 ty (.agg xs) (.agg ys)).run P w = .ok r w) : (execOp a.eval o).run P w = .ok (.value (.bool r)) w := by
  unfold execOp
  simp [ho, hx, hy, run_eqGuard_agg w _ _ _ _ _ _ hg, run_eql_struct, hr, Result.andThen]
theorem exec_neq_agg (ty : TypeId) (x y : Operand) (t2 : TypeId) (ho : o.op = .binOp .neq ty x y t2) (xs ys : Array Value) (hx : a.eval x = .agg xs) (hy : a.eval y = .agg ys) (hg : P.eqGuardType P.depth ty = false) (r : Bool)
    (hr : (Op.equalIn 10000 ty (.agg xs) (.agg ys)).run P w = .ok r w) : (execOp a.eval o).run P w = .ok (.value (.bool !r)) w := by
  unfold execOp
  simp [ho, hx, hy, run_eqGuard_agg w _ _ _ _ _ _ hg, run_neq_struct, hr, Result.andThen]
theorem exec_build (ty : TypeId) (parts : Array (Nat × Operand)) (ho : o.op = .build ty parts) (vs : Array (Nat × Value)) (hvs : (parts.map fun (i, x) => (i, a.eval x)) = vs) (v : Value) (hr : (Instr.build ty vs).run P w = .ok v w) : (execOp a.eval o).run P w = .ok (.value v) w := by
  unfold execOp
  simp only [ho, hvs, Sem.run_bind, hr, Result.andThen_ok, Sem.run_pure]
theorem wpList_run (hgd : o.guard = none) (v : Value) (hr : (execOp a.eval o).run P w = .ok (.value v) w) (h : wpList P ops Q rest (a.put o.dst v) w) : wpList P ops Q (o :: rest) a w := by
  refine wpList_plain hgd fun K hK => ?_
  unfold Oper.wp
  rw [hr, Oper.upon_value]
  exact hK _ _ h
end

theorem wf8 (b : UInt8) : (Lit.int .u8 (b.toNat : Int)).wf = true := by
  have := b.toNat_lt
  simp [Lit.wf, IntKind.min, IntKind.max, IntKind.signed, IntKind.bits]
  omega
theorem wf16 (b : UInt16) : (Lit.int .u16 (b.toNat : Int)).wf = true := by
  have := b.toNat_lt
  simp [Lit.wf, IntKind.min, IntKind.max, IntKind.signed, IntKind.bits]
  omega
theorem wf32 (b : UInt32) : (Lit.int .u32 (b.toNat : Int)).wf = true := by
  have := b.toNat_lt
  simp [Lit.wf, IntKind.min, IntKind.max, IntKind.signed, IntKind.bits]
  omega
theorem block_lits (d : Nat) {b : BlkV} (hb : b.length = 64) : Tryz.prog.keyLits (d + 2) 106 (bvs b) = some (b.map fun x => Lit.int .u8 (x.toNat : Int)) := by
  have := lits_ints (P := Tryz.prog) (d := d) Tryz.underlying106 Tryz.underlying5 (by kernel_rfl) (by kernel_rfl) (xs := b.map fun x => (x.toNat : Int)) (by simpa using hb) (fun x hx => by
    obtain ⟨y, _, rfl⟩ := List.mem_map.1 hx
    exact wf8 y)
  simpa [bvs, bv, List.map_map, Function.comp_def] using this
theorem lit_inj8 {a b : List UInt8} : (a.map fun x => Lit.int .u8 (x.toNat : Int)) = (b.map fun x => Lit.int .u8 (x.toNat : Int)) ↔ a = b := by
  constructor
  · intro h
    exact (List.map_inj_right (fun x y hxy => by simp at hxy; exact UInt8.toNat_inj.1 (by exact_mod_cast hxy))).1 h
  · rintro rfl; rfl
theorem block_eq (w : World) {a b : BlkV} (ha : a.length = 64) (hb : b.length = 64) : (Op.equalIn 10000 106 (bval a) (bval b)).run Tryz.prog w = .ok (decide (a = b)) w := by
  have hf : ∀ {b : BlkV}, b.length = 64 → (Value.agg (bvs b).toArray).formed Tryz.prog 106 = true := fun {b} hb => by
    unfold Value.formed
    rw [Tryz.underlying106]
    simp only [beq_iff_eq]
    rw [bvs_size hb]
    kernel_rfl
  obtain ⟨r, h1, h2⟩ := run_equal_lits (P := Tryz.prog) w (m := 2) (D := 2) (by decide) (k := 106) (by kernel_rfl) (hf ha) (hf hb) (block_lits 0 ha) (block_lits 0 hb)
  rw [lit_inj8] at h2
  unfold bval
  rw [h1, show r = decide (a = b) from by cases r <;> simp_all]

/-- a node's numbers -/
def NodeV.lits (n : NodeV) : List Lit := [Lit.int .u8 (n.kind.toNat : Int), Lit.int .u8 (n.links.toNat : Int), Lit.int .u16 (n.gen.toNat : Int), Lit.int .u32 (n.size.toNat : Int)] ++ n.dir.map (fun x => Lit.int .u16 (x.toNat : Int)) ++ [Lit.int .u16 (n.single.toNat : Int), Lit.int .u16 (n.double.toNat : Int)]
theorem node_inj {a b : NodeV} (ha : a.dir.length = 6) (hb : b.dir.length = 6) : a.lits = b.lits ↔ a = b := by
  constructor
  · intro h
    obtain ⟨a1, a2, a3, a4, a5, a6, a7⟩ := a
    obtain ⟨b1, b2, b3, b4, b5, b6, b7⟩ := b
    simp only [NodeV.lits, List.cons_append, List.nil_append, List.append_assoc, List.cons.injEq, Lit.int.injEq, true_and] at h
    obtain ⟨h1, h2, h3, h4, h5⟩ := h
    have h6 := List.append_inj h5 (by simpa using ha.trans hb.symm)
    have h7 := (List.map_inj_right (f := fun x : UInt16 => Lit.int .u16 (x.toNat : Int)) (fun x y hxy => by simp at hxy; exact UInt16.toNat_inj.1 (by exact_mod_cast hxy))).1 h6.1
    simp at h1 h2 h3 h4 h6
    simp only [NodeV.mk.injEq]
    exact ⟨UInt8.toNat_inj.1 (by omega), UInt8.toNat_inj.1 (by omega), UInt16.toNat_inj.1 (by omega), UInt32.toNat_inj.1 (by omega), h7, UInt16.toNat_inj.1 (by omega), UInt16.toNat_inj.1 (by omega)⟩
  · rintro rfl; rfl
theorem node_lits (d : Nat) {n : NodeV} (hn : n.dir.length = 6) : Tryz.prog.keyLits (d + 3) 130 n.cells = some n.lits := by
  have h8 : ∀ (x : UInt8) j, Tryz.prog.keyLits (j + 1) 5 [.int .u8 (x.toNat : Int)] = some [.int .u8 (x.toNat : Int)] := fun x j => by unfold Program.keyLits; rw [Tryz.underlying5]; simp [wf8]
  have hk8 : ∀ (x : UInt8) j, Tryz.prog.keyLits (j + 1) 59 [.int .u8 (x.toNat : Int)] = some [.int .u8 (x.toNat : Int)] := fun x j => by unfold Program.keyLits; rw [Tryz.underlying59]; simp [wf8]
  have h16 : ∀ (x : UInt16) j, Tryz.prog.keyLits (j + 1) 37 [.int .u16 (x.toNat : Int)] = some [.int .u16 (x.toNat : Int)] := fun x j => by unfold Program.keyLits; rw [Tryz.underlying37]; simp [wf16]
  have h32 : ∀ (x : UInt32) j, Tryz.prog.keyLits (j + 1) 49 [.int .u32 (x.toNat : Int)] = some [.int .u32 (x.toNat : Int)] := fun x j => by unfold Program.keyLits; rw [Tryz.underlying49]; simp [wf32]
  have c1 : Tryz.prog.cellsOf 5 = 1 := by kernel_rfl
  have c2 : Tryz.prog.cellsOf 59 = 1 := by kernel_rfl
  have c3 : Tryz.prog.cellsOf 37 = 1 := by kernel_rfl
  have c4 : Tryz.prog.cellsOf 49 = 1 := by kernel_rfl
  have c5 : Tryz.prog.cellsOf 128 = 6 := by kernel_rfl
  have c6 : Tryz.prog.cellsOf 130 = 12 := by kernel_rfl
  obtain ⟨k, l, g, s, dir, a, b⟩ := n
  simp only at hn
  obtain ⟨d0, d1, d2, d3, d4, d5, rfl⟩ : ∃ d0 d1 d2 d3 d4 d5, dir = [d0, d1, d2, d3, d4, d5] := by
    match dir, hn with
    | [d0, d1, d2, d3, d4, d5], _ => exact ⟨d0, d1, d2, d3, d4, d5, rfl⟩
  have hd := fun d => lits_ints (P := Tryz.prog) (d := d) Tryz.underlying128 Tryz.underlying37 (by kernel_rfl) (by kernel_rfl) (xs := [d0, d1, d2, d3, d4, d5].map fun x : UInt16 => (x.toNat : Int)) rfl (fun x hx => by
    obtain ⟨y, _, rfl⟩ := List.mem_map.1 hx
    exact wf16 y)
  simp only [List.map_cons, List.map_nil] at hd
  unfold Program.keyLits
  rw [Tryz.underlying130]
  simp only [NodeV.cells, NodeV.lits, List.map_cons, List.map_nil, List.cons_append, List.nil_append]
  simp [c1, c2, c3, c4, c5, c6, h8, hk8, h16, h32, hd]
theorem node_eq (w : World) {a b : NodeV} (ha : a.dir.length = 6) (hb : b.dir.length = 6) : (Op.equalIn 10000 130 a.val b.val).run Tryz.prog w = .ok (decide (a = b)) w := by
  have hf : ∀ {n : NodeV}, n.dir.length = 6 → n.val.formed Tryz.prog 130 = true := fun {n} hn => by
    unfold Value.formed NodeV.val
    rw [Tryz.underlying130]
    simp only [beq_iff_eq, List.size_toArray, NodeV.cells_length hn]
    kernel_rfl
  obtain ⟨r, h1, h2⟩ := run_equal_lits (P := Tryz.prog) w (m := 3) (D := 3) (by decide) (k := 130) (by kernel_rfl) (hf ha) (hf hb) (node_lits 0 ha) (node_lits 0 hb)
  rw [node_inj ha hb] at h2
  unfold NodeV.val
  rw [h1, show r = decide (a = b) from by cases r <;> simp_all]
end Go.Proofs.YthmkgohfeahdhaaGreat
namespace Go.Proofs.YthmkgohfeahdhaaGreat
open Go.RowKit
set_option linter.unusedSimpArgs false
set_option linter.unusedVariables false

theorem node_cells_at (n : NodeV) : n.cells[0]? = some (.int .u8 (n.kind.toNat : Int)) ∧ n.cells[1]? = some (.int .u8 (n.links.toNat : Int)) ∧ n.cells[2]? = some (u16v n.gen) ∧ n.cells[3]? = some (.int .u32 (n.size.toNat : Int)) := ⟨rfl, rfl, rfl, rfl⟩
theorem size_node : (Tryz.prog.info? 130).map (·.size) = some 12 := by kernel_rfl
theorem size_nodeOf {n : NodeV} (h : n.dir.length = 6) : (Tryz.prog.info? 130).map (·.size) = some n.cells.toArray.size := by rw [size_node]; simp [NodeV.cells_length h]
theorem zero_node (w : World) : (zeroValue 130).run Tryz.prog w = .ok (.agg NodeV.zero.cells.toArray) w := by kernel_rfl
theorem build_node (w : World) : (Instr.build 130 #[]).run Tryz.prog w = .ok NodeV.zero.val w := by kernel_rfl
theorem build_gen (g : UInt16) (w : World) : (Instr.build 130 #[(2, .int .u16 (g.toNat : Int))]).run Tryz.prog w = .ok ({ NodeV.zero with gen := g } : NodeV).val w := by kernel_rfl

section
variable {w w' : World}
set_option maxRecDepth 100000 in
set_option maxHeartbeats 800000 in
theorem blank_ok (w : World) {n : NodeV} (hn : n.dir.length = 6) :
    Calls Tryz.prog 164 #[n.val] w fun e w' => e = .returned (.bool (blankN n)) ∧ Below w.heap.size w w' := by
  have HN := hide hn
  clear hn
  go_enter Tryz.func164, Tryz.ntmps164
  go_upto_region 1 with (fail)
  refine at_world (fun W => ∃ g, g = w.heap.size ∧ Below w.heap.size w W ∧ Blk W g 130 n.cells.toArray) ⟨_, rfl, (Below.refl _ _).alloc (Nat.le_refl _) _, Blk.new _ _ _⟩ (fun w1 h1 => ?_)
  obtain ⟨g, hg, hb1, hG⟩ := h1
  rw [← hg]
  have c2 := (hG.cell 2).trans (node_cells_at n).2.2.1
  have gl := hG.lt
  have HB := hide hb1
  clear hg hb1
  have HBL := hide (show decide (n = { NodeV.zero with gen := n.gen }) = blankN n from rfl)
  go_wp2_with (first | ((with_reducible refine at_load 130 (.tmp 1) ?_); refine wpList_load_blk rfl 130 (.tmp 1) rfl g _ _ _ (by rfl) hG Tryz.underlying130 rfl (size_nodeOf HN.out) ?_) | ((with_reducible refine at_build 130 #[(2, .tmp 5)] ?_); refine wpList_run rfl _ (exec_build 130 #[(2, .tmp 5)] rfl #[(2, .int .u16 (n.gen.toNat : Int))] (by simp only [List.map_toArray, List.map_cons, List.map_nil]; rfl) _ (build_gen n.gen _)) ?_) | ((with_reducible refine at_binop .eql 130 (.tmp 3) (.tmp 6) 130 ?_); refine wpList_run rfl _ (exec_eql_agg 130 (.tmp 3) (.tmp 6) 130 rfl _ _ rfl rfl (by kernel_rfl) _ (node_eq _ (a := n) (b := { NodeV.zero with gen := n.gen }) HN.out rfl)) ?_) | fail)
  go_returns
  exact ⟨rfl, HB.out⟩

def checkE (n : NodeV) : Int := if checkN n then 0 else 28
set_option maxRecDepth 100000 in
set_option maxHeartbeats 3200000 in
theorem check_ok (w : World) {n : NodeV} (hn : n.dir.length = 6) :
    Calls Tryz.prog 132 #[n.val] w fun e w' => e = .returned (.int .i64 (checkE n)) ∧ Below w.heap.size w w' := by
  have HN := hide hn
  have hL0 : n.links ≠ 0 ↔ n.links.toNat ≠ 0 := by
    constructor
    · intro h e; exact h (UInt8.toNat_inj.1 (by simpa using e))
    · intro h e; exact h (by rw [e]; rfl)
  have hS0 : n.size = 0 ↔ n.size.toNat = 0 := ⟨fun e => by rw [e]; rfl, fun e => UInt32.toNat_inj.1 (by simpa using e)⟩
  have hkk : ∀ k : UInt8, n.kind = k ↔ n.kind.toNat = k.toNat := fun k => ⟨fun e => by rw [e], fun e => UInt8.toNat_inj.1 e⟩
  have hC : 1 ≤ n.kind.toNat → n.kind.toNat ≤ 5 → (checkN n = true ↔ (n.links.toNat ≠ 0 ∧ n.size.toNat ≤ 16384 ∧ ((n.kind.toNat = 3 ∨ n.kind.toNat = 5) → n.size.toNat = 0) ∧ (n.kind.toNat = 4 → 1 ≤ n.size.toNat ∧ n.size.toNat ≤ 60) ∧ (n.kind.toNat = 2 → n.size.toNat % 16 = 0))) := fun h1 h5 => by
    unfold checkN
    have e0 : ¬ n.kind.toNat = 0 := by omega
    rw [if_neg (by rw [hkk]; exact e0), if_pos h5]
    have k3 := hkk 3
    have k4 := hkk 4
    have k5 := hkk 5
    have k2 := hkk 2
    simp only [show (3 : UInt8).toNat = 3 from rfl, show (4 : UInt8).toNat = 4 from rfl, show (5 : UInt8).toNat = 5 from rfl, show (2 : UInt8).toNat = 2 from rfl] at k2 k3 k4 k5
    simp only [k2, k3, k4, k5, Bool.and_eq_true, decide_eq_true_eq, hL0]
    generalize n.kind.toNat = K at *
    obtain rfl | rfl | rfl | rfl | rfl : K = 1 ∨ K = 2 ∨ K = 3 ∨ K = 4 ∨ K = 5 := by omega
    all_goals simp [hS0]
    all_goals omega
  have hsl := n.size.toNat_lt
  have hll := n.links.toNat_lt
  have hkl := n.kind.toNat_lt
  obtain ⟨r, hr⟩ : ∃ r, checkE n = r := ⟨_, rfl⟩
  rw [hr]
  clear hn hL0 hS0 hkk
  go_enter Tryz.func132, Tryz.ntmps132
  go_upto_region 1 with (fail)
  refine at_world (fun W => ∃ g, g = w.heap.size ∧ Below w.heap.size w W ∧ Blk W g 130 n.cells.toArray) ⟨_, rfl, (Below.refl _ _).alloc (Nat.le_refl _) _, Blk.new _ _ _⟩ (fun w1 h1 => ?_)
  obtain ⟨g, hg, hb1, hG⟩ := h1
  rw [← hg]
  have c0 := (hG.cell 0).trans (node_cells_at n).1
  have c1 := (hG.cell 1).trans (node_cells_at n).2.1
  have c3 := (hG.cell 3).trans (node_cells_at n).2.2.2
  have gl := hG.lt
  have HB := hide hb1
  clear hg hb1
  rcases Nat.lt_or_ge n.kind.toNat 1 with h | h1
  · have hK0 : n.kind.toNat = 0 := by omega
    have hck : checkN n = blankN n := by
      unfold checkN
      rw [if_pos (UInt8.toNat_inj.1 (by simpa using hK0))]
    rw [hK0] at c0
    cases hbk : blankN n with
    | true =>
      have HR := hide (show r = 0 by rw [← hr, checkE, hck, hbk]; rfl)
      have HBK := hide hbk
      clear hC hr hck hbk h hK0 c1 c3
      go_wp2_with (first | ((with_reducible refine at_load 130 (.tmp 1) ?_); refine wpList_load_blk rfl 130 (.tmp 1) rfl g _ _ _ (by rfl) hG Tryz.underlying130 rfl (size_nodeOf HN.out) ?_) | fail)
      refine (blank_ok w1 HN.out).mono ?_
      rw [HBK.out]
      rintro e w2 ⟨rfl, hb2⟩
      have HB2 := hide (HB.out.trans (hb2.mono HB.out.size))
      clear hb2
      go_wp2
      go_returns
      exact ⟨by first | (rw [HR.out]; rfl) | rfl, HB2.out⟩
    | false =>
      have HR := hide (show r = 28 by rw [← hr, checkE, hck, hbk]; rfl)
      have HBK := hide hbk
      clear hC hr hck hbk h hK0 c1 c3
      go_wp2_with (first | ((with_reducible refine at_load 130 (.tmp 1) ?_); refine wpList_load_blk rfl 130 (.tmp 1) rfl g _ _ _ (by rfl) hG Tryz.underlying130 rfl (size_nodeOf HN.out) ?_) | fail)
      refine (blank_ok w1 HN.out).mono ?_
      rw [HBK.out]
      rintro e w2 ⟨rfl, hb2⟩
      have HB2 := hide (HB.out.trans (hb2.mono HB.out.size))
      clear hb2
      go_wp2
      go_returns
      exact ⟨by first | (rw [HR.out]; rfl) | rfl, HB2.out⟩
  rcases Nat.lt_or_ge 5 n.kind.toNat with h | h5
  · have hck : checkN n = false := by
      unfold checkN
      rw [if_neg (fun e => by rw [e] at h; simp at h), if_neg (by omega)]
    have HR := hide (show r = 28 by rw [← hr, checkE, hck]; rfl)
    generalize n.kind.toNat = K at c0 h
    have t0 : ((K : Int) == 0) = false := by simp; omega
    have t1 : ((K : Int) == 1) = false := by simp; omega
    have t2 : ((K : Int) == 2) = false := by simp; omega
    have t3 : ((K : Int) == 3) = false := by simp; omega
    have t4 : ((K : Int) == 4) = false := by simp; omega
    have t5 : ((K : Int) == 5) = false := by simp; omega
    clear hC hr hck c1 c3
    go_wp2
    go_returns
    exact ⟨by first | (rw [HR.out]; rfl) | rfl, HB.out⟩
  have hC' := hC h1 h5
  generalize n.size.toNat = S at c3 hC' hsl
  generalize n.links.toNat = L at c1 hC' hll
  generalize hK : n.kind.toNat = K at c0 hC' h1 h5 hkl
  have hR0 : checkN n = true → r = 0 := fun h => by rw [← hr, checkE, if_pos h]
  have hR28 : ¬ checkN n = true → r = 28 := fun h => by rw [← hr, checkE, if_neg h]
  rw [hC'] at hR0 hR28
  clear hC hC' hK hr
  obtain rfl | rfl | rfl | rfl | rfl : K = 1 ∨ K = 2 ∨ K = 3 ∨ K = 4 ∨ K = 5 := by omega
  · by_cases a1 : L = 0
    · have b1 : ((L : Int) == 0) = true := by simp [a1]
      have hr2 : r = 28 := hR28 (by omega)
      have HR := hide hr2
      clear a1 hr2
      go_wp2
      go_returns
      exact ⟨by first | (rw [HR.out]; rfl) | rfl, HB.out⟩
    have b1 : ((L : Int) == 0) = false := by simp; omega
    by_cases a2 : S ≤ 16384
    rotate_left
    · have b2 : decide ((16384 : Int) < S) = true := by simp; omega
      have hr2 : r = 28 := hR28 (by omega)
      have HR := hide hr2
      clear hr2
      go_wp2
      go_returns
      exact ⟨by first | (rw [HR.out]; rfl) | rfl, HB.out⟩
    have b2 : decide ((16384 : Int) < S) = false := by simp; omega
    have hr2 : r = 0 := hR0 (by omega)
    have HR := hide hr2
    clear hr2
    go_wp2
    go_returns
    exact ⟨by first | (rw [HR.out]; rfl) | rfl, HB.out⟩
  · by_cases a1 : L = 0
    · have b1 : ((L : Int) == 0) = true := by simp [a1]
      have hr2 : r = 28 := hR28 (by omega)
      have HR := hide hr2
      clear a1 hr2
      go_wp2
      go_returns
      exact ⟨by first | (rw [HR.out]; rfl) | rfl, HB.out⟩
    have b1 : ((L : Int) == 0) = false := by simp; omega
    by_cases a2 : S ≤ 16384
    rotate_left
    · have b2 : decide ((16384 : Int) < S) = true := by simp; omega
      have hr2 : r = 28 := hR28 (by omega)
      have HR := hide hr2
      clear hr2
      go_wp2
      go_returns
      exact ⟨by first | (rw [HR.out]; rfl) | rfl, HB.out⟩
    have b2 : decide ((16384 : Int) < S) = false := by simp; omega
    by_cases a3 : S % 16 = 0
    · have b3 : ((S : Int) % 16 == 0) = true := by simp; omega
      have b4 : ((S : Int) % 16 != 0) = false := by simp; omega
      have hr2 : r = 0 := hR0 (by omega)
      have HR := hide hr2
      clear hr2
      go_wp2
      go_returns
      exact ⟨by first | (rw [HR.out]; rfl) | rfl, HB.out⟩
    · have b3 : ((S : Int) % 16 == 0) = false := by simp; omega
      have b4 : ((S : Int) % 16 != 0) = true := by simp; omega
      have hr2 : r = 28 := hR28 (by omega)
      have HR := hide hr2
      clear hr2
      go_wp2
      go_returns
      exact ⟨by first | (rw [HR.out]; rfl) | rfl, HB.out⟩
  · by_cases a3 : S = 0
    rotate_left
    · have b3 : ((S : Int) == 0) = false := by simp; omega
      have b4 : ((S : Int) != 0) = true := by simp; omega
      have hr2 : r = 28 := hR28 (by omega)
      have HR := hide hr2
      clear hr2
      go_wp2
      go_returns
      exact ⟨by first | (rw [HR.out]; rfl) | rfl, HB.out⟩
    have b3 : ((S : Int) == 0) = true := by simp [a3]
    have b4 : ((S : Int) != 0) = false := by simp [a3]
    have b2 : decide ((16384 : Int) < S) = false := by simp; omega
    by_cases a1 : L = 0
    · have b1 : ((L : Int) == 0) = true := by simp [a1]
      have hr2 : r = 28 := hR28 (by omega)
      have HR := hide hr2
      clear a1 a3 hr2
      go_wp2
      go_returns
      exact ⟨by first | (rw [HR.out]; rfl) | rfl, HB.out⟩
    have b1 : ((L : Int) == 0) = false := by simp; omega
    have hr2 : r = 0 := hR0 (by omega)
    have HR := hide hr2
    clear a3 hr2
    go_wp2
    go_returns
    exact ⟨by first | (rw [HR.out]; rfl) | rfl, HB.out⟩
  · by_cases a1 : L = 0
    · have b1 : ((L : Int) == 0) = true := by simp [a1]
      have hr2 : r = 28 := hR28 (by omega)
      have HR := hide hr2
      clear a1 hr2
      go_wp2
      go_returns
      exact ⟨by first | (rw [HR.out]; rfl) | rfl, HB.out⟩
    have b1 : ((L : Int) == 0) = false := by simp; omega
    by_cases a2 : S ≤ 16384
    rotate_left
    · have b2 : decide ((16384 : Int) < S) = true := by simp; omega
      have hr2 : r = 28 := hR28 (by omega)
      have HR := hide hr2
      clear hr2
      go_wp2
      go_returns
      exact ⟨by first | (rw [HR.out]; rfl) | rfl, HB.out⟩
    have b2 : decide ((16384 : Int) < S) = false := by simp; omega
    by_cases a3 : S = 0
    · have b3 : ((S : Int) == 0) = true := by simp [a3]
      have hr2 : r = 28 := hR28 (by omega)
      have HR := hide hr2
      clear hr2
      go_wp2
      go_returns
      exact ⟨by first | (rw [HR.out]; rfl) | rfl, HB.out⟩
    have b3 : ((S : Int) == 0) = false := by simp; omega
    by_cases a4 : S ≤ 60
    · have b4 : decide ((60 : Int) < S) = false := by simp; omega
      have hr2 : r = 0 := hR0 (by omega)
      have HR := hide hr2
      clear hr2
      go_wp2
      go_returns
      exact ⟨by first | (rw [HR.out]; rfl) | rfl, HB.out⟩
    · have b4 : decide ((60 : Int) < S) = true := by simp; omega
      have hr2 : r = 28 := hR28 (by omega)
      have HR := hide hr2
      clear hr2
      go_wp2
      go_returns
      exact ⟨by first | (rw [HR.out]; rfl) | rfl, HB.out⟩
  · by_cases a3 : S = 0
    rotate_left
    · have b3 : ((S : Int) == 0) = false := by simp; omega
      have b4 : ((S : Int) != 0) = true := by simp; omega
      have hr2 : r = 28 := hR28 (by omega)
      have HR := hide hr2
      clear hr2
      go_wp2
      go_returns
      exact ⟨by first | (rw [HR.out]; rfl) | rfl, HB.out⟩
    have b3 : ((S : Int) == 0) = true := by simp [a3]
    have b4 : ((S : Int) != 0) = false := by simp [a3]
    have b2 : decide ((16384 : Int) < S) = false := by simp; omega
    by_cases a1 : L = 0
    · have b1 : ((L : Int) == 0) = true := by simp [a1]
      have hr2 : r = 28 := hR28 (by omega)
      have HR := hide hr2
      clear a1 a3 hr2
      go_wp2
      go_returns
      exact ⟨by first | (rw [HR.out]; rfl) | rfl, HB.out⟩
    have b1 : ((L : Int) == 0) = false := by simp; omega
    have hr2 : r = 0 := hR0 (by omega)
    have HR := hide hr2
    clear a3 hr2
    go_wp2
    go_returns
    exact ⟨by first | (rw [HR.out]; rfl) | rfl, HB.out⟩
end
end Go.Proofs.YthmkgohfeahdhaaGreat
namespace Go.Proofs.YthmkgohfeahdhaaGreat
open Go.RowKit
set_option linter.unusedSimpArgs false
set_option linter.unusedVariables false

def z32 : List UInt8 := List.replicate 32 0
theorem z32_length : z32.length = 32 := by simp [z32]
theorem zero_arr (w : World) : (zeroValue 255).run Tryz.prog w = .ok (.agg (bvs z32).toArray) w := by kernel_rfl
theorem zero_field (w : World) : (zeroValue 303).run Tryz.prog w = .ok (.agg (fcells z32 0)) w := by kernel_rfl
theorem size_arr : (Tryz.prog.info? 255).map (·.size) = some 32 := by kernel_rfl
theorem size_arrOf {b : List UInt8} (h : b.length = 32) : (Tryz.prog.info? 255).map (·.size) = some (bvs b).toArray.size := by rw [size_arr]; simp [bvs, h]
theorem size_arrL {b : List UInt8} (h : b.length = 32) : (Tryz.prog.info? 255).map (·.size) = some (bvs b).length := by rw [size_arr, bvs_length, h]

section
variable {w w' : World}
/-- a number behind what was written -/
theorem fput_at {g n k : Nat} {pre : List UInt8} (hB : Blk w g 303 (fcells (wrB z32 0 pre) pre.length)) (hk : k ≤ 4) (ha : pre.length + k ≤ 32) (hn : n < 4294967296) :
    Calls Tryz.prog 165 #[.pointer (some ⟨g, 0, none⟩), .int .u32 (n : Int), .int .i64 (k : Int)] w fun e w' => e = .returned (.tuple #[]) ∧ Blk w' g 303 (fcells (wrB z32 0 (pre ++ leB n k)) (pre ++ leB n k).length) ∧ Tch w.heap.size (· = g) w w' ∧ w'.heap.size = w.heap.size := by
  refine (fput_ok hB (by rw [wrB_length (by rw [z32_length]; omega)]; exact z32_length) hk ha hn).mono ?_
  rintro e w' ⟨rfl, h1, h2, h3⟩
  refine ⟨rfl, ?_, h2, h3⟩
  have := wrB_more (bs := z32) (a := 0) (l := pre) (m := leB n k) (by rw [leB_length, z32_length]; omega)
  rw [Nat.zero_add] at this
  rw [this] at h1
  rw [List.length_append, leB_length]
  exact h1
theorem below_own {g : Nat} {w0 w1 w2 : World} (h : Below w0.heap.size w0 w1) (hg : w0.heap.size ≤ g) (ht : Tch w1.heap.size (· = g) w1 w2) : Below w0.heap.size w0 w2 :=
  h.trans ((ht.mono h.size (S' := fun _ => False) (fun k hk e => by omega)).below fun _ _ h => h)

theorem alloc3 (w : World) (A B C : Array Value) (ta tb tc : TypeId) :
    Blk (((w.alloc (.cells A ta)).alloc (.cells B tb)).alloc (.cells C tc)) (w.heap.size + 1 + 1) tc C ∧ Below w.heap.size w (((w.alloc (.cells A ta)).alloc (.cells B tb)).alloc (.cells C tc)) ∧
    Blk (((w.alloc (.cells A ta)).alloc (.cells B tb)).alloc (.cells C tc)) w.heap.size ta A ∧ Blk (((w.alloc (.cells A ta)).alloc (.cells B tb)).alloc (.cells C tc)) (w.heap.size + 1) tb B := by
  refine ⟨?_, (((Below.refl _ _).alloc (Nat.le_refl _) _).alloc (by simp) _).alloc (by simp; omega) _, ((Blk.new w ta A).alloc _).alloc _, ?_⟩
  · have := Blk.new ((w.alloc (.cells A ta)).alloc (.cells B tb)) tc C
    simpa using this
  · have := (Blk.new (w.alloc (.cells A ta)) tb B).alloc (.cells C tc)
    simpa using this

set_option maxRecDepth 100000 in
set_option maxHeartbeats 1600000 in
theorem encode_ok (w : World) {n : NodeV} (hn : n.dir.length = 6) :
    Calls Tryz.prog 133 #[n.val] w fun e w' => e = .returned (.agg (bvs (encN n)).toArray) ∧ Below w.heap.size w w' := by
  have HN := hide hn
  clear hn
  have hk := n.kind.toNat_lt
  have hl := n.links.toNat_lt
  have hg1 := n.gen.toNat_lt
  have hs := n.size.toNat_lt
  have ha := n.single.toNat_lt
  have hb := n.double.toNat_lt
  have w1 : IntKind.u32.wrap (n.kind.toNat : Int) = (n.kind.toNat : Int) := by rw [IntKind.wrap_u32]; omega
  have w2 : IntKind.u32.wrap (n.links.toNat : Int) = (n.links.toNat : Int) := by rw [IntKind.wrap_u32]; omega
  have w3 : IntKind.u32.wrap (n.gen.toNat : Int) = (n.gen.toNat : Int) := by rw [IntKind.wrap_u32]; omega
  have w5 : IntKind.u32.wrap (n.single.toNat : Int) = (n.single.toNat : Int) := by rw [IntKind.wrap_u32]; omega
  have w6 : IntKind.u32.wrap (n.double.toNat : Int) = (n.double.toNat : Int) := by rw [IntKind.wrap_u32]; omega
  go_enter Tryz.func133, Tryz.ntmps133
  go_upto_region 2 with (first | ((with_reducible refine at_alloc 255 ?_); refine wpList_alloc_as rfl 255 rfl _ (zero_arr _) ?_) | ((with_reducible refine at_alloc 303 ?_); refine wpList_alloc_as rfl 303 rfl _ (zero_field _) ?_) | fail)
  simp only [World.size_alloc] 
  refine at_world (fun W => ∃ g r f, g = w.heap.size ∧ r = w.heap.size + 1 ∧ f = w.heap.size + 1 + 1 ∧ Blk W f 303 (fcells (wrB z32 0 []) ([] : List UInt8).length) ∧ Below w.heap.size w W ∧ Blk W g 130 n.cells.toArray ∧ Blk W r 255 (bvs z32).toArray)
    ⟨w.heap.size, w.heap.size + 1, w.heap.size + 1 + 1, rfl, rfl, rfl, alloc3 w _ _ _ _ _ _⟩ (fun w1 h1 => ?_)
  obtain ⟨g, r, f, hg, hr, hf, h1⟩ := h1
  rw [← hf, ← hr, ← hg]
  have hwf : w.heap.size ≤ f := by omega
  have hgf : ¬ g = f := by omega
  have hrf : ¬ r = f := by omega
  have hwr : w.heap.size ≤ r := by omega
  have HF := hide h1
  clear hg hr hf h1
  have c0 := (HF.out.2.2.1.cell 0).trans (node_cells_at n).1
  have c1 := (HF.out.2.2.1.cell 1).trans (node_cells_at n).2.1
  have c2 := (HF.out.2.2.1.cell 2).trans (node_cells_at n).2.2.1
  have c3 := (HF.out.2.2.1.cell 3).trans (node_cells_at n).2.2.2
  have cl := HF.out.2.2.1.lt
  go_wp2_with fail
  refine (fput_at HF.out.1 (n := n.kind.toNat) (k := 1) (by omega) (by simp) (by omega)).mono ?_
  rintro e w_ ⟨rfl, hf, ht, -⟩
  have HF2 := hide (And.intro hf (And.intro (below_own HF.out.2.1 hwf ht) (And.intro (HF.out.2.2.1.tch ht HF.out.2.2.1.lt hgf) (HF.out.2.2.2.tch ht HF.out.2.2.2.lt hrf))))
  clear HF hf ht c0 c1 c2 c3 cl
  have HF := HF2
  clear HF2
  have c0 := (HF.out.2.2.1.cell 0).trans (node_cells_at n).1
  have c1 := (HF.out.2.2.1.cell 1).trans (node_cells_at n).2.1
  have c2 := (HF.out.2.2.1.cell 2).trans (node_cells_at n).2.2.1
  have c3 := (HF.out.2.2.1.cell 3).trans (node_cells_at n).2.2.2
  have cl := HF.out.2.2.1.lt
  go_wp2_with fail
  refine (fput_at HF.out.1 (n := n.links.toNat) (k := 1) (by omega) (by simp [leB_length]) (by omega)).mono ?_
  rintro e w_ ⟨rfl, hf, ht, -⟩
  have HF2 := hide (And.intro hf (And.intro (below_own HF.out.2.1 hwf ht) (And.intro (HF.out.2.2.1.tch ht HF.out.2.2.1.lt hgf) (HF.out.2.2.2.tch ht HF.out.2.2.2.lt hrf))))
  clear HF hf ht c0 c1 c2 c3 cl
  have HF := HF2
  clear HF2
  have c0 := (HF.out.2.2.1.cell 0).trans (node_cells_at n).1
  have c1 := (HF.out.2.2.1.cell 1).trans (node_cells_at n).2.1
  have c2 := (HF.out.2.2.1.cell 2).trans (node_cells_at n).2.2.1
  have c3 := (HF.out.2.2.1.cell 3).trans (node_cells_at n).2.2.2
  have cl := HF.out.2.2.1.lt
  go_wp2_with fail
  refine (fput_at HF.out.1 (n := n.gen.toNat) (k := 2) (by omega) (by simp [leB_length]) (by omega)).mono ?_
  rintro e w_ ⟨rfl, hf, ht, -⟩
  have HF2 := hide (And.intro hf (And.intro (below_own HF.out.2.1 hwf ht) (And.intro (HF.out.2.2.1.tch ht HF.out.2.2.1.lt hgf) (HF.out.2.2.2.tch ht HF.out.2.2.2.lt hrf))))
  clear HF hf ht c0 c1 c2 c3 cl
  have HF := HF2
  clear HF2
  have c0 := (HF.out.2.2.1.cell 0).trans (node_cells_at n).1
  have c1 := (HF.out.2.2.1.cell 1).trans (node_cells_at n).2.1
  have c2 := (HF.out.2.2.1.cell 2).trans (node_cells_at n).2.2.1
  have c3 := (HF.out.2.2.1.cell 3).trans (node_cells_at n).2.2.2
  have cl := HF.out.2.2.1.lt
  go_wp2_with fail
  refine (fput_at HF.out.1 (n := n.size.toNat) (k := 4) (by omega) (by simp [leB_length]) (by omega)).mono ?_
  rintro e w_ ⟨rfl, hf, ht, -⟩
  have HF2 := hide (And.intro hf (And.intro (below_own HF.out.2.1 hwf ht) (And.intro (HF.out.2.2.1.tch ht HF.out.2.2.1.lt hgf) (HF.out.2.2.2.tch ht HF.out.2.2.2.lt hrf))))
  clear HF hf ht c0 c1 c2 c3 cl
  have HF := HF2
  clear HF2
  have hpre : ([] ++ leB n.kind.toNat 1 ++ leB n.links.toNat 1 ++ leB n.gen.toNat 2 ++ leB n.size.toNat 4) = encHead n := by simp [encHead]
  rw [hpre] at HF
  clear hpre
  go_upto_region 6 with (fail)
  have HRD := hide (HF.out.2.2.1.range (o := 4) (xs := n.dir.map u16v) fun j v hj => by
    rw [NodeV.cells, List.getElem?_toArray, List.append_assoc, List.getElem?_append_right (by simp), List.getElem?_append_left (by have := (List.getElem?_eq_some_iff.1 hj).1; simpa using this)]
    simpa using hj)
  have hs48 : (Tryz.prog.info? 128).map (·.size) = some (n.dir.map u16v).length := by
    rw [List.length_map, HN.out]; kernel_rfl
  have HS48 := hide hs48
  clear hs48
  go_wp2_with (first | ((with_reducible refine at_load 128 (.tmp 21) ?_); refine wpList_load_mid rfl 128 (.tmp 21) rfl g 4 (by rfl) (n.dir.map u16v) _ HRD.out Tryz.underlying128 rfl HS48.out ?_) | fail)
  go_loopg [23] 6 (fun gh x23 wr => ∃ j : Nat, gh = 6 - j ∧ j ≤ 6 ∧ x23 = .int .i64 (j : Int) ∧ Hid (Blk wr f 303 (fcells (wrB z32 0 (encHead n ++ encDir (n.dir.take j))) (encHead n ++ encDir (n.dir.take j)).length) ∧ Below w.heap.size w wr ∧ Blk wr g 130 n.cells.toArray ∧ Blk wr r 255 (bvs z32).toArray))
  case atStart => exact ⟨0, rfl, Nat.zero_le _, rfl, hide (by simpa [encDir] using HF.out)⟩
  case round =>
    obtain ⟨j, hg, hj6, rfl, HW⟩ := hrel
    have HG := hide hg
    clear HF hg HRD
    rcases Nat.lt_or_ge j 6 with hj | hj
    · have hjz : (j : Int) < 6 := by omega
      have hjl : j < n.dir.length := by rw [HN.out]; exact hj
      obtain ⟨d, hd⟩ : ∃ d, n.dir[j]? = some d := ⟨_, List.getElem?_eq_getElem hjl⟩
      have hdl := d.toNat_lt
      have hw16 : IntKind.u32.wrap (d.toNat : Int) = (d.toNat : Int) := by rw [IntKind.wrap_u32]; omega
      have hcell : (n.dir.map u16v).toArray[j]? = some (.int .u16 (d.toNat : Int)) := by simp [hd]
      have hnext : encHead n ++ encDir (n.dir.take (j + 1)) = encHead n ++ encDir (n.dir.take j) ++ leB d.toNat 2 := by
        obtain ⟨h1, h2⟩ := List.getElem?_eq_some_iff.1 hd
        rw [List.take_succ_eq_append_getElem h1, h2, encDir_snoc, List.append_assoc]
      have hlen : (encHead n ++ encDir (n.dir.take j)).length = 8 + 2 * j := by
        rw [List.length_append, encHead_length, encDir_length, List.length_take, HN.out]; omega
      have HCE := hide hcell
      have HNX := hide hnext
      have HLN := hide hlen
      clear hd hcell hnext hlen
      go_wp2_with (first | ((with_reducible refine at_index 128 (.tmp 22) (.tmp 23) ?_); refine wpList_index_arr rfl 128 37 (.tmp 22) (.tmp 23) rfl 6 j .i64 .u16 _ _ (by rfl) (by rfl) hj HCE.out Tryz.underlying128 Tryz.underlying37 (by kernel_rfl) ?_) | fail)
      refine (fput_at HW.out.1 (n := d.toNat) (k := 2) (by omega) (by rw [HLN.out]; omega) (by omega)).mono ?_
      rintro e w_ ⟨rfl, hf, ht, -⟩
      rw [← HNX.out] at hf
      have HF2 := hide (And.intro hf (And.intro (below_own HW.out.2.1 hwf ht) (And.intro (HW.out.2.2.1.tch ht HW.out.2.2.1.lt hgf) (HW.out.2.2.2.tch ht HW.out.2.2.2.lt hrf))))
      clear HW hf ht
      go_wp2
      go_roundg (6 - (j + 1))
      case rel => exact ⟨j + 1, rfl, by omega, by go_num, HF2⟩
      case measure => have := HG.out; omega
    · have hj6' : j = 6 := by omega
      subst hj6'
      have hd6 : n.dir.take 6 = n.dir := List.take_of_length_le (by rw [HN.out]; omega)
      have HF := HW
      rw [hd6] at HF
      clear HW hd6
      have hl20 : (encHead n ++ encDir n.dir).length = 20 := by rw [List.length_append, encHead_length, encDir_length, HN.out]
      have hl22 : (encHead n ++ encDir n.dir ++ leB n.single.toNat 2).length = 22 := by rw [List.length_append, hl20, leB_length]
      have hl24 : (encHead n ++ encDir n.dir ++ leB n.single.toNat 2 ++ leB n.double.toNat 2).length = 24 := by rw [List.length_append, hl22, leB_length]
      have HL := hide (And.intro hl20 (And.intro hl22 hl24))
      have hc5 : n.cells[10]? = some (.int .u16 (n.single.toNat : Int)) ∧ n.cells[11]? = some (.int .u16 (n.double.toNat : Int)) := by
        have h10 : ([.int .u8 (n.kind.toNat : Int), .int .u8 (n.links.toNat : Int), .int .u16 (n.gen.toNat : Int), .int .u32 (n.size.toNat : Int)] ++ n.dir.map u16v : List Value).length = 10 := by simp [HN.out]
        unfold NodeV.cells
        constructor
        · rw [List.getElem?_append_right (by omega), h10]; rfl
        · rw [List.getElem?_append_right (by omega), h10]; rfl
      have HC5 := hide hc5
      clear hl20 hl22 hl24 hc5
      have c10 := (HF.out.2.2.1.cell 10).trans (show n.cells.toArray[10]? = some (.int .u16 (n.single.toNat : Int)) by rw [List.getElem?_toArray]; exact HC5.out.1)
      have cl := HF.out.2.2.1.lt
      go_wp2_with fail
      refine (fput_at HF.out.1 (n := n.single.toNat) (k := 2) (by omega) (by rw [HL.out.1]; omega) (by omega)).mono ?_
      rintro e w_ ⟨rfl, hf, ht, -⟩
      have HF2 := hide (And.intro hf (And.intro (below_own HF.out.2.1 hwf ht) (And.intro (HF.out.2.2.1.tch ht HF.out.2.2.1.lt hgf) (HF.out.2.2.2.tch ht HF.out.2.2.2.lt hrf))))
      clear HF hf ht
      have HF := HF2
      clear HF2
      clear c10 cl
      have c11 := (HF.out.2.2.1.cell 11).trans (show n.cells.toArray[11]? = some (.int .u16 (n.double.toNat : Int)) by rw [List.getElem?_toArray]; exact HC5.out.2)
      have cl := HF.out.2.2.1.lt
      go_wp2_with fail
      refine (fput_at HF.out.1 (n := n.double.toNat) (k := 2) (by omega) (by rw [HL.out.2.1]; omega) (by omega)).mono ?_
      rintro e w_ ⟨rfl, hf, ht, -⟩
      have HF2 := hide (And.intro hf (And.intro (below_own HF.out.2.1 hwf ht) (And.intro (HF.out.2.2.1.tch ht HF.out.2.2.1.lt hgf) (HF.out.2.2.2.tch ht HF.out.2.2.2.lt hrf))))
      clear HF hf ht
      have HF := HF2
      clear HF2
      clear c11 cl
      have hfin : wrB z32 0 (encHead n ++ encDir n.dir ++ leB n.single.toNat 2 ++ leB n.double.toNat 2) = encN n := by
        unfold wrB encN
        rw [Nat.zero_add, HL.out.2.2]
        rfl
      rw [hfin] at HF
      clear hfin
      have hel : (encN n).length = 32 := encN_length HN.out
      have HEL := hide hel
      clear hel
      have HRF := hide (HF.out.1.range (o := 0) (xs := bvs (encN n)) fun j v hj => by
        rw [Nat.zero_add, fcells, List.getElem?_toArray, List.getElem?_append_left (List.getElem?_eq_some_iff.1 hj).1]; exact hj)
      go_wp2_with (first | ((with_reducible refine at_load 255 (.tmp 38) ?_); refine wpList_load_mid rfl 255 (.tmp 38) rfl f 0 (by rfl) (bvs (encN n)) _ HRF.out Tryz.underlying255 rfl (size_arrL HEL.out) ?_) | ((with_reducible refine at_store 255 (.tmp 2) (.tmp 39) ?_); refine wpList_store_blk rfl 255 (.tmp 2) (.tmp 39) rfl r _ _ _ (by rfl) (by rfl) HF.out.2.2.2 (size_arrOf HEL.out) (by simp [bvs, z32_length, HEL.out]) (bvs_oneCell _) (fun hB3 => ?_)) | ((with_reducible refine at_end ?_); refine bodyPost_ret (v := .agg (bvs (encN n)).toArray) (results_run1 rfl (ResV.row rfl hB3 Tryz.underlying255 rfl (size_arrOf HEL.out))) rfl ⟨rfl, below_setRow HF.out.2.1 hwr _⟩) | fail)
end
end Go.Proofs.YthmkgohfeahdhaaGreat
namespace Go.Proofs.YthmkgohfeahdhaaGreat
open Go.RowKit
set_option linter.unusedSimpArgs false
set_option linter.unusedVariables false

theorem len_cons {α : Type} {l : List α} {n : Nat} (h : l.length = n + 1) : ∃ a t, l = a :: t ∧ t.length = n := by
  cases l with
  | nil => simp at h
  | cons a t => exact ⟨a, t, rfl, by simpa using h⟩
set_option maxRecDepth 100000 in
theorem build_field (w : World) {x : List UInt8} (hx : x.length = 32) : (Instr.build 303 #[(0, .agg (bvs x).toArray)]).run Tryz.prog w = .ok (.agg (fcells x 0)) w := by
  obtain ⟨x0, y0, rfl, h0⟩ := len_cons hx
  obtain ⟨x1, y1, rfl, h1⟩ := len_cons h0
  obtain ⟨x2, y2, rfl, h2⟩ := len_cons h1
  obtain ⟨x3, y3, rfl, h3⟩ := len_cons h2
  obtain ⟨x4, y4, rfl, h4⟩ := len_cons h3
  obtain ⟨x5, y5, rfl, h5⟩ := len_cons h4
  obtain ⟨x6, y6, rfl, h6⟩ := len_cons h5
  obtain ⟨x7, y7, rfl, h7⟩ := len_cons h6
  obtain ⟨x8, y8, rfl, h8⟩ := len_cons h7
  obtain ⟨x9, y9, rfl, h9⟩ := len_cons h8
  obtain ⟨x10, y10, rfl, h10⟩ := len_cons h9
  obtain ⟨x11, y11, rfl, h11⟩ := len_cons h10
  obtain ⟨x12, y12, rfl, h12⟩ := len_cons h11
  obtain ⟨x13, y13, rfl, h13⟩ := len_cons h12
  obtain ⟨x14, y14, rfl, h14⟩ := len_cons h13
  obtain ⟨x15, y15, rfl, h15⟩ := len_cons h14
  obtain ⟨x16, y16, rfl, h16⟩ := len_cons h15
  obtain ⟨x17, y17, rfl, h17⟩ := len_cons h16
  obtain ⟨x18, y18, rfl, h18⟩ := len_cons h17
  obtain ⟨x19, y19, rfl, h19⟩ := len_cons h18
  obtain ⟨x20, y20, rfl, h20⟩ := len_cons h19
  obtain ⟨x21, y21, rfl, h21⟩ := len_cons h20
  obtain ⟨x22, y22, rfl, h22⟩ := len_cons h21
  obtain ⟨x23, y23, rfl, h23⟩ := len_cons h22
  obtain ⟨x24, y24, rfl, h24⟩ := len_cons h23
  obtain ⟨x25, y25, rfl, h25⟩ := len_cons h24
  obtain ⟨x26, y26, rfl, h26⟩ := len_cons h25
  obtain ⟨x27, y27, rfl, h27⟩ := len_cons h26
  obtain ⟨x28, y28, rfl, h28⟩ := len_cons h27
  obtain ⟨x29, y29, rfl, h29⟩ := len_cons h28
  obtain ⟨x30, y30, rfl, h30⟩ := len_cons h29
  obtain ⟨x31, y31, rfl, h31⟩ := len_cons h30
  obtain rfl := List.eq_nil_of_length_eq_zero h31
  kernel_rfl
theorem build_head (w : World) (k l : UInt8) (g : UInt16) (s : UInt32) : (Instr.build 130 #[(0, .int .u8 (k.toNat : Int)), (1, .int .u8 (l.toNat : Int)), (2, .int .u16 (g.toNat : Int)), (3, .int .u32 (s.toNat : Int))]).run Tryz.prog w = .ok (NodeV.val ⟨k, l, g, s, [0, 0, 0, 0, 0, 0], 0, 0⟩) w := by kernel_rfl
theorem size_field : (Tryz.prog.info? 303).map (·.size) = some 33 := by kernel_rfl
theorem size_fieldOf {x : List UInt8} (hx : x.length = 32) (a : Nat) : (Tryz.prog.info? 303).map (·.size) = some (fcells x a).size := by rw [size_field, fcells_size hx]
theorem cells_set_dir {n : NodeV} {j : Nat} (hj : j < n.dir.length) (d : UInt16) : n.cells.toArray.setIfInBounds (4 + j) (u16v d) = ({ n with dir := n.dir.set j d } : NodeV).cells.toArray := by
  simp only [NodeV.cells, List.setIfInBounds_toArray, List.append_assoc]
  rw [List.set_append_right _ _ (by simp), List.set_append_left _ _ (by simpa using hj)]
  simp [List.map_set]
theorem cells_set_single {n : NodeV} (h : n.dir.length = 6) (d : UInt16) : n.cells.toArray.setIfInBounds 10 (u16v d) = ({ n with single := d } : NodeV).cells.toArray := by
  simp only [NodeV.cells, List.setIfInBounds_toArray]
  rw [List.set_append_right _ _ (by simp [h])]
  simp [h]
theorem cells_set_double {n : NodeV} (h : n.dir.length = 6) (d : UInt16) : n.cells.toArray.setIfInBounds 11 (u16v d) = ({ n with double := d } : NodeV).cells.toArray := by
  simp only [NodeV.cells, List.setIfInBounds_toArray]
  rw [List.set_append_right _ _ (by simp [h])]
  simp [h]

section
variable {w w' : World}
theorem alloc2 (w : World) (A B : Array Value) (ta tb : TypeId) :
    Below w.heap.size w ((w.alloc (.cells A ta)).alloc (.cells B tb)) ∧ Blk ((w.alloc (.cells A ta)).alloc (.cells B tb)) w.heap.size ta A ∧ Blk ((w.alloc (.cells A ta)).alloc (.cells B tb)) (w.heap.size + 1) tb B := by
  refine ⟨((Below.refl _ _).alloc (Nat.le_refl _) _).alloc (by simp) _, (Blk.new w ta A).alloc _, ?_⟩
  have := Blk.new (w.alloc (.cells A ta)) tb B
  simpa using this

set_option maxRecDepth 100000 in
set_option maxHeartbeats 3200000 in
theorem decode_ok (w : World) {x : List UInt8} (hx : x.length = 32) :
    Calls Tryz.prog 161 #[.agg (bvs x).toArray] w fun e w' => e = .returned (.tuple #[if isN x then (decN x).val else NodeV.zero.val, .int .i64 (if isN x then 0 else 28)]) ∧ Below w.heap.size w w' := by
  have HX := hide hx
  clear hx
  obtain ⟨r1, hr1⟩ : ∃ r1, (if isN x then (decN x).val else NodeV.zero.val) = r1 := ⟨_, rfl⟩
  obtain ⟨r2, hr2⟩ : ∃ r2 : Int, (if isN x then 0 else 28) = r2 := ⟨_, rfl⟩
  rw [hr1, hr2]
  have HR := hide (And.intro hr1 hr2)
  clear hr1 hr2
  go_enter Tryz.func161, Tryz.ntmps161
  go_upto_region 1 with (first | ((with_reducible refine at_alloc 130 ?_); refine wpList_alloc_as rfl 130 rfl _ (zero_node _) ?_) | fail)
  try simp only [World.size_alloc]
  refine at_world (fun W => ∃ b r, b = w.heap.size ∧ r = w.heap.size + 1 ∧ W.heap.size = w.heap.size + 2 ∧ Below w.heap.size w W ∧ Blk W b 255 (bvs x).toArray ∧ Blk W r 130 NodeV.zero.cells.toArray) ⟨w.heap.size, w.heap.size + 1, rfl, rfl, by simp, alloc2 w _ _ _ _⟩ (fun w1 h1 => ?_)
  obtain ⟨b, r, hb, hr, hs1, hb1, hB, hR⟩ := h1
  rw [← hr, ← hb]
  go_upto_region 2 with (first | ((with_reducible refine at_load 255 (.tmp 1) ?_); refine wpList_load_blk rfl 255 (.tmp 1) rfl b _ _ _ (by rfl) hB Tryz.underlying255 rfl (size_arrOf HX.out) ?_) | ((with_reducible refine at_build 303 #[(0, .tmp 10)] ?_); refine wpList_run rfl _ (exec_build 303 #[(0, .tmp 10)] rfl #[(0, .agg (bvs x).toArray)] (by simp only [List.map_toArray, List.map_cons, List.map_nil]; rfl) _ (build_field _ HX.out)) ?_) | ((with_reducible refine at_alloc 303 ?_); refine wpList_alloc_as rfl 303 rfl _ (zero_field _) ?_) | ((with_reducible refine at_store 303 (.tmp 4) (.tmp 11) ?_); refine wpList_store_blk rfl 303 (.tmp 4) (.tmp 11) rfl w1.heap.size _ _ _ (by rfl) (by rfl) (Blk.new _ _ _) (size_fieldOf HX.out 0) ((fcells_size z32_length 0).trans (fcells_size HX.out 0).symm) (fcells_all _ _) (fun _ => ?_)) | fail)
  refine at_world (fun W => ∃ f, f = w1.heap.size ∧ W.heap.size = w1.heap.size + 1 ∧ Blk W f 303 (fcells x 0) ∧ Below w.heap.size w W ∧ Blk W b 255 (bvs x).toArray ∧ Blk W r 130 NodeV.zero.cells.toArray) ⟨w1.heap.size, rfl, by simp, (Blk.new _ _ _).setRow_same _, below_setRow (hb1.alloc hb1.size _) hb1.size _, (hB.alloc _).setRow_far (Nat.ne_of_lt hB.lt) _, (hR.alloc _).setRow_far (Nat.ne_of_lt hR.lt) _⟩ (fun w2 h2 => ?_)
  obtain ⟨f, hf, hs2, h2⟩ := h2
  try rw [← hf]
  have hwf : w.heap.size ≤ f := by omega
  have hbf : ¬ b = f := by omega
  have hrf : ¬ r = f := by omega
  have hwr : w.heap.size ≤ r := by omega
  have HSZ := hide (And.intro hs2 hf)
  have HF := hide h2
  clear hf h2 hB hR hb1 hs1 hb hr hs2
  go_wp2_with fail
  refine (fget_ok HF.out.1 HX.out (k := 1) (by omega) (by omega)).mono ?_
  rintro e w_ ⟨rfl, hf, ht, -⟩
  obtain ⟨K, hK⟩ : ∃ u : UInt8, u.toNat = leN ((x.drop 0).take 1) := ⟨UInt8.ofNat (leN ((x.drop 0).take 1)), by
    have := leN_lt ((x.drop 0).take 1)
    rw [List.length_take, List.length_drop, HX.out] at this
    rw [UInt8.toNat_ofNat', Nat.mod_eq_of_lt (by simpa using this)]⟩
  rw [← hK]
  have HK := hide hK
  have HF2 := hide (And.intro hf (And.intro (below_own HF.out.2.1 hwf ht) (And.intro (HF.out.2.2.1.tch ht HF.out.2.2.1.lt hbf) (HF.out.2.2.2.tch ht HF.out.2.2.2.lt hrf))))
  clear HF hf ht hK
  have HF := HF2
  clear HF2
  have lK := K.toNat_lt
  have wK : IntKind.u8.wrap (K.toNat : Int) = (K.toNat : Int) := by rw [IntKind.wrap_u8]; omega
  go_wp2_with fail
  refine (fget_ok HF.out.1 HX.out (k := 1) (by omega) (by omega)).mono ?_
  rintro e w_ ⟨rfl, hf, ht, -⟩
  obtain ⟨L, hL⟩ : ∃ u : UInt8, u.toNat = leN ((x.drop 1).take 1) := ⟨UInt8.ofNat (leN ((x.drop 1).take 1)), by
    have := leN_lt ((x.drop 1).take 1)
    rw [List.length_take, List.length_drop, HX.out] at this
    rw [UInt8.toNat_ofNat', Nat.mod_eq_of_lt (by simpa using this)]⟩
  rw [← hL]
  have HL := hide hL
  have HF2 := hide (And.intro hf (And.intro (below_own HF.out.2.1 hwf ht) (And.intro (HF.out.2.2.1.tch ht HF.out.2.2.1.lt hbf) (HF.out.2.2.2.tch ht HF.out.2.2.2.lt hrf))))
  clear HF hf ht hL
  have HF := HF2
  clear HF2
  have lL := L.toNat_lt
  have wL : IntKind.u8.wrap (L.toNat : Int) = (L.toNat : Int) := by rw [IntKind.wrap_u8]; omega
  go_wp2_with fail
  refine (fget_ok HF.out.1 HX.out (k := 2) (by omega) (by omega)).mono ?_
  rintro e w_ ⟨rfl, hf, ht, -⟩
  obtain ⟨G, hG⟩ : ∃ u : UInt16, u.toNat = leN ((x.drop 2).take 2) := ⟨UInt16.ofNat (leN ((x.drop 2).take 2)), by
    have := leN_lt ((x.drop 2).take 2)
    rw [List.length_take, List.length_drop, HX.out] at this
    rw [UInt16.toNat_ofNat', Nat.mod_eq_of_lt (by simpa using this)]⟩
  rw [← hG]
  have HG1 := hide hG
  have HF2 := hide (And.intro hf (And.intro (below_own HF.out.2.1 hwf ht) (And.intro (HF.out.2.2.1.tch ht HF.out.2.2.1.lt hbf) (HF.out.2.2.2.tch ht HF.out.2.2.2.lt hrf))))
  clear HF hf ht hG
  have HF := HF2
  clear HF2
  have lG := G.toNat_lt
  have wG : IntKind.u16.wrap (G.toNat : Int) = (G.toNat : Int) := by rw [IntKind.wrap_u16]; omega
  go_wp2_with fail
  refine (fget_ok HF.out.1 HX.out (k := 4) (by omega) (by omega)).mono ?_
  rintro e w_ ⟨rfl, hf, ht, -⟩
  obtain ⟨S, hS⟩ : ∃ u : UInt32, u.toNat = leN ((x.drop 4).take 4) := ⟨UInt32.ofNat (leN ((x.drop 4).take 4)), by
    have := leN_lt ((x.drop 4).take 4)
    rw [List.length_take, List.length_drop, HX.out] at this
    rw [UInt32.toNat_ofNat', Nat.mod_eq_of_lt (by simpa using this)]⟩
  rw [← hS]
  have HS := hide hS
  have HF2 := hide (And.intro hf (And.intro (below_own HF.out.2.1 hwf ht) (And.intro (HF.out.2.2.1.tch ht HF.out.2.2.1.lt hbf) (HF.out.2.2.2.tch ht HF.out.2.2.2.lt hrf))))
  clear HF hf ht hS
  have HF := HF2
  clear HF2
  have lS := S.toNat_lt
  go_upto_region 3 with (first | ((with_reducible refine at_build 130 #[(0, .tmp 13), (1, .tmp 15), (2, .tmp 17), (3, .tmp 18)] ?_); refine wpList_run rfl _ (exec_build 130 #[(0, .tmp 13), (1, .tmp 15), (2, .tmp 17), (3, .tmp 18)] rfl #[(0, .int .u8 (K.toNat : Int)), (1, .int .u8 (L.toNat : Int)), (2, .int .u16 (G.toNat : Int)), (3, .int .u32 (S.toNat : Int))] (by simp only [List.map_toArray, List.map_cons, List.map_nil]; rfl) _ (build_head _ K L G S)) ?_) | ((with_reducible refine at_alloc 130 ?_); refine wpList_alloc_as rfl 130 rfl _ (zero_node _) ?_) | ((with_reducible refine at_store 130 (.tmp 5) (.tmp 19) ?_); refine wpList_store_blk rfl 130 (.tmp 5) (.tmp 19) rfl w_.heap.size _ _ _ (by rfl) (by rfl) (Blk.new _ _ _) (size_nodeOf (n := ⟨K, L, G, S, [0, 0, 0, 0, 0, 0], 0, 0⟩) rfl) rfl (NodeV.cells_one ⟨K, L, G, S, [0, 0, 0, 0, 0, 0], 0, 0⟩) (fun _ => ?_)) | fail)
  refine at_world (fun W => ∃ q, q = w_.heap.size ∧ Blk W f 303 (fcells x 8) ∧ Below w.heap.size w W ∧ Blk W b 255 (bvs x).toArray ∧ Blk W r 130 NodeV.zero.cells.toArray ∧ Blk W q 130 (NodeV.mk K L G S [0, 0, 0, 0, 0, 0] 0 0).cells.toArray) ⟨w_.heap.size, rfl, (HF.out.1.alloc _).setRow_far (Nat.ne_of_lt HF.out.1.lt) _, below_setRow (HF.out.2.1.alloc HF.out.2.1.size _) HF.out.2.1.size _, (HF.out.2.2.1.alloc _).setRow_far (Nat.ne_of_lt HF.out.2.2.1.lt) _, (HF.out.2.2.2.alloc _).setRow_far (Nat.ne_of_lt HF.out.2.2.2.lt) _, (Blk.new _ _ _).setRow_same _⟩ (fun w3 h3 => ?_)
  obtain ⟨q, hq, h3⟩ := h3
  try rw [← hq]
  have hwq : w.heap.size ≤ q := by rw [hq]; exact HF.out.2.1.size
  have hqf : ¬ q = f := by have := HF.out.1.lt; omega
  have hqb : ¬ q = b := by have := HF.out.2.2.1.lt; omega
  have hqr : ¬ q = r := by have := HF.out.2.2.2.lt; omega
  clear HF hq
  have HF := hide h3
  clear h3
  go_wp2_with fail
  go_loopg [20] 6 (fun gh x20 wr => ∃ j : Nat, gh = 6 - j ∧ j ≤ 6 ∧ x20 = .int .i64 (j : Int) ∧ Hid (Blk wr f 303 (fcells x (8 + 2 * j)) ∧ Below w.heap.size w wr ∧ Blk wr b 255 (bvs x).toArray ∧ Blk wr r 130 NodeV.zero.cells.toArray ∧ Blk wr q 130 (NodeV.mk K L G S (decDir x j ++ List.replicate (6 - j) 0) 0 0).cells.toArray))
  case atStart => exact ⟨0, rfl, Nat.zero_le _, rfl, by simpa [decDir] using HF⟩
  case round =>
    obtain ⟨j, hg, hj6, rfl, HW⟩ := hrel
    have HG := hide hg
    clear HF hg
    rcases Nat.lt_or_ge j 6 with hj | hj
    · have hjz : (j : Int) < 6 := by omega
      go_wp2_with fail
      refine (fget_ok HW.out.1 HX.out (k := 2) (by omega) (by omega)).mono ?_
      rintro e w_ ⟨rfl, hf, ht, -⟩
      obtain ⟨d, hd⟩ : ∃ u : UInt16, u.toNat = leN ((x.drop (8 + 2 * j)).take 2) := ⟨UInt16.ofNat (leN ((x.drop (8 + 2 * j)).take 2)), by
        have := leN_lt ((x.drop (8 + 2 * j)).take 2)
        rw [List.length_take, List.length_drop, HX.out, show min 2 (32 - (8 + 2 * j)) = 2 from by omega] at this
        rw [UInt16.toNat_ofNat', Nat.mod_eq_of_lt (by simpa using this)]⟩
      rw [← hd]
      have hdd : d = UInt16.ofNat (leN ((x.drop (8 + 2 * j)).take 2)) := by rw [← hd]; simp
      have hnext : (decDir x j ++ List.replicate (6 - j) 0).set j d = decDir x (j + 1) ++ List.replicate (6 - (j + 1)) 0 := by
        rw [List.set_append_right _ _ (by rw [decDir_length]; omega), decDir_length, Nat.sub_self, show 6 - j = (6 - (j + 1)) + 1 from by omega, List.replicate_succ, List.set_cons_zero, hdd]
        simp [decDir, List.range_succ]
      have hlen6 : (decDir x j ++ List.replicate (6 - j) 0).length = 6 := by simp [decDir_length]; omega
      have ldt := d.toNat_lt
      have wd : IntKind.u16.wrap (d.toNat : Int) = (d.toNat : Int) := by rw [IntKind.wrap_u16]; omega
      have HNX := hide (And.intro hnext hlen6)
      have HF2 := hide (And.intro hf (And.intro (below_own HW.out.2.1 hwf ht) (And.intro (HW.out.2.2.1.tch ht HW.out.2.2.1.lt hbf) (And.intro (HW.out.2.2.2.1.tch ht HW.out.2.2.2.1.lt hrf) (HW.out.2.2.2.2.tch ht HW.out.2.2.2.2.lt hqf)))))
      clear HW hf ht hd hdd hnext hlen6
      have cq := HF2.out.2.2.2.2.cell (4 + j)
      have hv0 : (NodeV.mk K L G S (decDir x j ++ List.replicate (6 - j) 0) 0 0).cells.toArray[4 + j]? = some (.int .u16 0) := by
        rw [List.getElem?_toArray, NodeV.cells, List.append_assoc, List.getElem?_append_right (by simp), List.getElem?_append_left (by simp [decDir_length]; omega)]
        simp only [List.length_cons, List.length_nil, Nat.zero_add, Nat.reduceAdd, Nat.add_sub_cancel_left, List.getElem?_map]
        rw [List.getElem?_append_right (by rw [decDir_length]; omega), decDir_length, Nat.sub_self, List.getElem?_replicate, if_pos (by omega)]
        rfl
      have cq := cq.trans hv0
      have fq := HF2.out.2.2.2.2.frozen (4 + j)
      have ql := HF2.out.2.2.2.2.lt
      clear hv0
      go_wp2_with (first | ((with_reducible refine at_store 37 (.tmp 27) (.tmp 25) ?_); refine wpList_store_cell rfl 37 (.tmp 27) (.tmp 25) rfl q (4 + j) _ _ _ (by rfl) (by rfl) HF2.out.2.2.2.2 (by rw [List.size_toArray, NodeV.cells_length HNX.out.2]; omega) rfl (by kernel_rfl) ?_) | fail)
      go_roundg (6 - (j + 1))
      case rel =>
        refine ⟨j + 1, rfl, by omega, by go_num, hide ⟨?_, HF2.out.2.1.setCell hwq _, ?_, ?_, ?_⟩⟩
        · have := HF2.out.1.far (p := ⟨q, 4 + j, none⟩) (fun e => hqf e.symm) (u16v d)
          rw [show 8 + 2 * (j + 1) = 8 + 2 * j + 2 from by omega]
          exact this
        · exact HF2.out.2.2.1.far (p := ⟨q, 4 + j, none⟩) (fun e => hqb e.symm) _
        · exact HF2.out.2.2.2.1.far (p := ⟨q, 4 + j, none⟩) (fun e => hqr e.symm) _
        · have := HF2.out.2.2.2.2.set_ (4 + j) (u16v d)
          rw [cells_set_dir (n := ⟨K, L, G, S, decDir x j ++ List.replicate (6 - j) 0, 0, 0⟩) (by simp only [HNX.out.2]; exact hj)] at this
          simp only [HNX.out.1] at this
          exact this
      case measure => have := HG.out; omega
    · have hj6' : j = 6 := by omega
      subst hj6'
      have HF := HW
      clear HW
      rw [show (6 - 6 : Nat) = 0 from rfl, List.replicate_zero, List.append_nil] at HF
      go_wp2_with fail
      refine (fget_ok HF.out.1 HX.out (k := 2) (by omega) (by omega)).mono ?_
      rintro e w_ ⟨rfl, hf, ht, -⟩
      obtain ⟨M, hM⟩ : ∃ u : UInt16, u.toNat = leN ((x.drop 20).take 2) := ⟨UInt16.ofNat (leN ((x.drop 20).take 2)), by
        have := leN_lt ((x.drop 20).take 2)
        rw [List.length_take, List.length_drop, HX.out] at this
        rw [UInt16.toNat_ofNat', Nat.mod_eq_of_lt (by simpa using this)]⟩
      rw [← hM]
      have HM := hide hM
      have HF2 := hide (And.intro hf (And.intro (below_own HF.out.2.1 hwf ht) (And.intro (HF.out.2.2.1.tch ht HF.out.2.2.1.lt hbf) (And.intro (HF.out.2.2.2.1.tch ht HF.out.2.2.2.1.lt hrf) (HF.out.2.2.2.2.tch ht HF.out.2.2.2.2.lt hqf)))))
      clear HF hf ht hM
      have HF := HF2
      clear HF2
      have lM := M.toNat_lt
      have wM : IntKind.u16.wrap (M.toNat : Int) = (M.toNat : Int) := by rw [IntKind.wrap_u16]; omega
      go_wp2_with fail
      refine (fget_ok HF.out.1 HX.out (k := 2) (by omega) (by omega)).mono ?_
      rintro e w_ ⟨rfl, hf, ht, -⟩
      obtain ⟨D, hD⟩ : ∃ u : UInt16, u.toNat = leN ((x.drop 22).take 2) := ⟨UInt16.ofNat (leN ((x.drop 22).take 2)), by
        have := leN_lt ((x.drop 22).take 2)
        rw [List.length_take, List.length_drop, HX.out] at this
        rw [UInt16.toNat_ofNat', Nat.mod_eq_of_lt (by simpa using this)]⟩
      rw [← hD]
      have HD := hide hD
      have HF2 := hide (And.intro hf (And.intro (below_own HF.out.2.1 hwf ht) (And.intro (HF.out.2.2.1.tch ht HF.out.2.2.1.lt hbf) (And.intro (HF.out.2.2.2.1.tch ht HF.out.2.2.2.1.lt hrf) (HF.out.2.2.2.2.tch ht HF.out.2.2.2.2.lt hqf)))))
      clear HF hf ht hD
      have HF := HF2
      clear HF2
      have lD := D.toNat_lt
      have wD : IntKind.u16.wrap (D.toNat : Int) = (D.toNat : Int) := by rw [IntKind.wrap_u16]; omega
      have hd6 := decDir_length x 6
      have HD6 := hide hd6
      clear hd6
      have c10 := HF.out.2.2.2.2.cell 10
      have c11 := HF.out.2.2.2.2.cell 11
      have f10 := HF.out.2.2.2.2.frozen 10
      have f11 := HF.out.2.2.2.2.frozen 11
      have ql := HF.out.2.2.2.2.lt
      have h10 : (NodeV.mk K L G S (decDir x 6) 0 0).cells.toArray[10]? = some (.int .u16 0) := by
        rw [List.getElem?_toArray, NodeV.cells, List.getElem?_append_right (by simp [HD6.out])]; simp [HD6.out]
      have h11 : (NodeV.mk K L G S (decDir x 6) 0 0).cells.toArray[11]? = some (.int .u16 0) := by
        rw [List.getElem?_toArray, NodeV.cells, List.getElem?_append_right (by simp [HD6.out])]; simp [HD6.out]
      rw [h10] at c10
      rw [h11] at c11
      clear h10 h11
      go_upto_region 9 with (fail)
      have hn : NodeV.mk K L G S (decDir x 6) M D = decN x := by
        unfold decN
        have e : ∀ (u : UInt8) n, u.toNat = n → u = UInt8.ofNat n := fun u n h => by rw [← h]; simp
        have e2 : ∀ (u : UInt16) n, u.toNat = n → u = UInt16.ofNat n := fun u n h => by rw [← h]; simp
        have e4 : ∀ (u : UInt32) n, u.toNat = n → u = UInt32.ofNat n := fun u n h => by rw [← h]; simp
        rw [e K _ HK.out, e L _ HL.out, e2 G _ HG1.out, e4 S _ HS.out, e2 M _ HM.out, e2 D _ HD.out, List.drop_zero]
      refine at_world (fun W => Blk W f 303 (fcells x 24) ∧ Below w.heap.size w W ∧ Blk W b 255 (bvs x).toArray ∧ Blk W r 130 NodeV.zero.cells.toArray ∧ Blk W q 130 (decN x).cells.toArray) ⟨?_, ?_, ?_, ?_, ?_⟩ (fun w4 h4 => ?_)
      · exact (HF.out.1.far (p := ⟨q, 10, none⟩) (fun e => hqf e.symm) _).far (p := ⟨q, 11, none⟩) (fun e => hqf e.symm) _
      · exact (HF.out.2.1.setCell hwq _).setCell hwq _
      · exact (HF.out.2.2.1.far (p := ⟨q, 10, none⟩) (fun e => hqb e.symm) _).far (p := ⟨q, 11, none⟩) (fun e => hqb e.symm) _
      · exact (HF.out.2.2.2.1.far (p := ⟨q, 10, none⟩) (fun e => hqr e.symm) _).far (p := ⟨q, 11, none⟩) (fun e => hqr e.symm) _
      · have h1 := HF.out.2.2.2.2.set_ 10 (u16v M)
        rw [cells_set_single (n := ⟨K, L, G, S, decDir x 6, 0, 0⟩) HD6.out] at h1
        have h2 := h1.set_ 11 (u16v D)
        rw [cells_set_double (n := ⟨K, L, G, S, decDir x 6, M, 0⟩) HD6.out] at h2
        rw [← hn]
        exact h2
      clear HF c10 c11 f10 f11 ql hn
      have HF := hide h4
      have HN6 := hide (decN_dir x)
      clear h4
      have c32 := (HF.out.1.cell 32).trans (fcells_at HX.out 24)
      have fl := HF.out.1.lt
      go_wp2_with fail
      go_loopg [39] 8 (fun gh x39 wr2 => ∃ j : Nat, gh = 8 - j ∧ j ≤ 8 ∧ wr2 = w4 ∧ x39 = .int .i64 (j : Int) ∧ Hid (∀ k, k < j → x.getD (24 + k) 0 = 0))
      case atStart => exact ⟨0, rfl, Nat.zero_le _, rfl, rfl, hide (fun k hk => by omega)⟩
      case round =>
        obtain ⟨j, hg, hj8, rfl, rfl, HA⟩ := hrel
        have HGJ := hide hg
        clear hg
        rcases Nat.lt_or_ge j 8 with hj | hj
        · have hjz : (j : Int) < 8 := by omega
          have cb := (HF.out.2.2.1.cell (24 + j)).trans (show (bvs x).toArray[24 + j]? = some (.int .u8 ((x.getD (24 + j) 0).toNat : Int)) by
            rw [List.getElem?_toArray, bvs_get, List.getD_eq_getElem?_getD, List.getElem?_eq_getElem (by rw [HX.out]; omega)]; rfl)
          have bl := HF.out.2.2.1.lt
          by_cases hz : x.getD (24 + j) 0 = 0
          · have HZ := hide hz
            have ht : (((x.getD (24 + j) 0).toNat : Int) == 0) = true := by rw [hz]; rfl
            have ht2 : (((x.getD (24 + j) 0).toNat : Int) != 0) = false := by rw [hz]; rfl
            generalize (x.getD (24 + j) 0).toNat = v at cb ht ht2
            clear hz
            go_wp2
            go_roundg (8 - (j + 1))
            case rel => exact ⟨j + 1, rfl, by omega, rfl, by go_num, hide (fun k hk => by
              rcases Nat.lt_or_ge k j with h | h
              · exact HA.out k h
              · rw [show k = j from by omega]; exact HZ.out)⟩
            case measure => have := HGJ.out; omega
          · have hv : (x.getD (24 + j) 0).toNat ≠ 0 := fun e => hz (UInt8.toNat_inj.1 (by simpa using e))
            have hno : isN x = false := by
              unfold isN
              have : (x.drop 24).all (· == 0) = false := by
                rw [List.all_eq_false]
                refine ⟨x.getD (24 + j) 0, ?_, by simpa using hz⟩
                rw [List.getD_eq_getElem?_getD, List.getElem?_eq_getElem (by rw [HX.out]; omega)]
                simp only [Option.getD_some]
                refine List.mem_iff_getElem.2 ⟨j, by rw [List.length_drop, HX.out]; omega, by rw [List.getElem_drop]⟩
              rw [this]; rfl
            have HRR := hide (show r1 = NodeV.zero.val ∧ r2 = 28 by
              obtain ⟨h1, h2⟩ := HR.out
              rw [hno] at h1 h2
              exact ⟨h1.symm, h2.symm⟩)
            generalize (x.getD (24 + j) 0).toNat = v at cb hv
            have ht : ((v : Int) == 0) = false := by simp; omega
            have ht2 : ((v : Int) != 0) = true := by simp; omega
            clear hz hv hno
            go_wp2_with (first | ((with_reducible refine at_build 130 #[] ?_); refine wpList_zero_as rfl 130 rfl _ (build_node _) ?_) | ((with_reducible refine at_store 130 (.tmp 2) (.tmp 45) ?_); refine wpList_store_blk rfl 130 (.tmp 2) (.tmp 45) rfl r _ _ _ (by rfl) (by rfl) HF.out.2.2.2.1 (size_nodeOf (n := NodeV.zero) rfl) rfl (NodeV.cells_one NodeV.zero) (fun hB3 => ?_)) | ((with_reducible refine at_end ?_); refine bodyPost_ret (v := .tuple #[NodeV.zero.val, .int .i64 28]) (results_run2 rfl (ResV.row rfl hB3 Tryz.underlying130 rfl (size_nodeOf (n := NodeV.zero) rfl)) rfl) rfl ⟨by rw [HRR.out.1, HRR.out.2], below_setRow HF.out.2.1 hwr _⟩) | fail)
        · have hj8' : j = 8 := by omega
          have htail : (x.drop 24).all (· == 0) = true := by
            rw [List.all_eq_true]
            intro y hy
            obtain ⟨k, hk, rfl⟩ := List.mem_iff_getElem.1 hy
            rw [List.length_drop, HX.out] at hk
            have := HA.out k (by omega)
            rw [List.getD_eq_getElem?_getD, List.getElem?_eq_getElem (by rw [HX.out]; omega)] at this
            simp only [Option.getD_some] at this
            rw [List.getElem_drop, this]; rfl
          have hisN : isN x = checkN (decN x) := by unfold isN; rw [htail, Bool.true_and]
          have hce : checkE (decN x) = if isN x then 0 else 28 := by rw [hisN]; rfl
          have hd8 : decide ((j : Int) < 8) = false := by simp; omega
          cases hch : isN x with
          | true =>
            have HRR := hide (show r1 = (decN x).val ∧ r2 = 0 by
              obtain ⟨h1, h2⟩ := HR.out
              rw [hch] at h1 h2
              exact ⟨h1.symm, h2.symm⟩)
            have hck := fun W => check_ok W HN6.out
            rw [hce, hch] at hck
            have HCK := hide hck
            clear hj8' htail hisN hce hch hck
            go_wp2_with (first | ((with_reducible refine at_load 130 (.tmp 5) ?_); refine wpList_load_blk rfl 130 (.tmp 5) rfl q _ _ _ (by rfl) HF.out.2.2.2.2 Tryz.underlying130 rfl (size_nodeOf HN6.out) ?_) | fail)
            refine (HCK.out _).mono ?_
            rintro e w6 ⟨rfl, hb6⟩
            have HF6 := hide (And.intro (HF.out.2.1.trans (hb6.mono HF.out.2.1.size)) (And.intro (HF.out.2.2.2.1.below hb6 HF.out.2.2.2.1.lt) (HF.out.2.2.2.2.below hb6 HF.out.2.2.2.2.lt)))
            clear hb6
            go_wp2_with (first | ((with_reducible refine at_load 130 (.tmp 5) ?_); refine wpList_load_blk rfl 130 (.tmp 5) rfl q _ _ _ (by rfl) HF6.out.2.2 Tryz.underlying130 rfl (size_nodeOf HN6.out) ?_) | ((with_reducible refine at_store 130 (.tmp 2) (.tmp 53) ?_); refine wpList_store_blk rfl 130 (.tmp 2) (.tmp 53) rfl r _ _ _ (by rfl) (by rfl) HF6.out.2.1 (size_nodeOf HN6.out) (by rw [List.size_toArray, List.size_toArray, NodeV.cells_length HN6.out]; rfl) (NodeV.cells_one _) (fun hB3 => ?_)) | ((with_reducible refine at_end ?_); refine bodyPost_ret (v := .tuple #[(decN x).val, .int .i64 0]) (results_run2 rfl (ResV.row rfl hB3 Tryz.underlying130 rfl (size_nodeOf HN6.out)) rfl) rfl ⟨by rw [HRR.out.1, HRR.out.2], below_setRow HF6.out.1 hwr _⟩) | fail)
          | false =>
            have HRR := hide (show r1 = NodeV.zero.val ∧ r2 = 28 by
              obtain ⟨h1, h2⟩ := HR.out
              rw [hch] at h1 h2
              exact ⟨h1.symm, h2.symm⟩)
            have hck := fun W => check_ok W HN6.out
            rw [hce, hch] at hck
            have HCK := hide hck
            clear hj8' htail hisN hce hch hck
            go_wp2_with (first | ((with_reducible refine at_load 130 (.tmp 5) ?_); refine wpList_load_blk rfl 130 (.tmp 5) rfl q _ _ _ (by rfl) HF.out.2.2.2.2 Tryz.underlying130 rfl (size_nodeOf HN6.out) ?_) | fail)
            refine (HCK.out _).mono ?_
            rintro e w6 ⟨rfl, hb6⟩
            have HF6 := hide (And.intro (HF.out.2.1.trans (hb6.mono HF.out.2.1.size)) (And.intro (HF.out.2.2.2.1.below hb6 HF.out.2.2.2.1.lt) (HF.out.2.2.2.2.below hb6 HF.out.2.2.2.2.lt)))
            clear hb6
            go_wp2_with (first | ((with_reducible refine at_build 130 #[] ?_); refine wpList_zero_as rfl 130 rfl _ (build_node _) ?_) | ((with_reducible refine at_store 130 (.tmp 2) (.tmp 51) ?_); refine wpList_store_blk rfl 130 (.tmp 2) (.tmp 51) rfl r _ _ _ (by rfl) (by rfl) HF6.out.2.1 (size_nodeOf (n := NodeV.zero) rfl) rfl (NodeV.cells_one NodeV.zero) (fun hB3 => ?_)) | ((with_reducible refine at_end ?_); refine bodyPost_ret (v := .tuple #[NodeV.zero.val, .int .i64 28]) (results_run2 rfl (ResV.row rfl hB3 Tryz.underlying130 rfl (size_nodeOf (n := NodeV.zero) rfl)) rfl) rfl ⟨by rw [HRR.out.1, HRR.out.2], below_setRow HF6.out.1 hwr _⟩) | fail)
end
end Go.Proofs.YthmkgohfeahdhaaGreat
namespace Go.Proofs.YthmkgohfeahdhaaGreat
open Go.RowKit
set_option linter.unusedSimpArgs false
set_option linter.unusedVariables false

section
variable {P : Program} {ops : Array Oper} {rest : List Oper} {o : Oper} {a : Act} {w : World} {Q : Exit → Act → World → Prop}
theorem wp_copy_as {K : Act → World → Prop} (d s : Operand) (t t' : TypeId) (ho : o.op = .call { callee := .builtin .copy, args := #[d, s], argTypes := #[t, t'] }) (v u : Value) (hd : a.eval d = v) (hs : a.eval s = u) {v' : Value} {w' : World}
    (hr : (Builtin.copy_ #[t, t'] o.type #[v, u]).run P w = .ok v' w') (h : K (a.put o.dst v') w') : o.wp P a w K Q := by
  unfold Oper.wp execOp
  simp only [ho, resolve, invoke, builtin, Sem.run_bind, Sem.run_pure, Result.andThen_ok, List.map_toArray, List.map_cons, List.map_nil, hd, hs, hr]
  exact h
theorem at_sap (ty : TypeId) (x : Operand) {d : Option Tmp} {k : TypeId} {p : String} {f : Array Edge} {g : Option (Nat × Bool)} (h : wpList P ops Q (⟨d, .sliceToArrayPointer ty x, k, p, f, g⟩ :: rest) a w) : wpList P ops Q (⟨d, .sliceToArrayPointer ty x, k, p, f, g⟩ :: rest) a w := h
theorem exec_sap (ty : TypeId) (x : Operand) (ho : o.op = .sliceToArrayPointer ty x) (n : Nat) (p : Addr) (l c : Nat) (e : TypeId) (hx : a.eval x = .slice (some p) l c) (hu : P.underlying ty = some (.array n e)) (hn : n ≤ l) :
    (execOp a.eval o).run P w = .ok (.value (.pointer (some p))) w := by
  unfold execOp
  simp [ho, hx, Instr.arrayAt, run_underlying hu, Result.andThen, show ¬ l < n by omega]
end

/-- where a group lies -/
structure GeoN where
  base : Nat
  bitmap : Nat
  table : Nat
  data : Nat
  blocks : Nat
  nodes : Nat
def GeoN.cells (g : GeoN) : List Value := [.int .i64 (g.base : Int), .int .i64 (g.bitmap : Int), .int .i64 (g.table : Int), .int .i64 (g.data : Int), .int .i64 (g.blocks : Int), .int .i64 (g.nodes : Int)]
def GeoN.val (g : GeoN) : Value := .agg g.cells.toArray
structure GeoN.Ok (g : GeoN) (total : Nat) : Prop where
  base : 32 ≤ g.base
  data : g.data = g.base + g.bitmap + g.table
  fits : g.data + g.blocks ≤ total
  map : g.blocks ≤ g.bitmap * 512
  map1 : g.bitmap * 512 < g.blocks + 512
  tab : g.nodes ≤ g.table * 2
  small : total ≤ 65536
/-- the bytes of a node of a number -/
def Sto.nodeX (s : Sto) (g : GeoN) (num : Nat) : List UInt8 := ((s.at_ (g.base + g.bitmap + (num - 1) / 2)).drop ((num - 1) % 2 * 32)).take 32
theorem geo_one (g : GeoN) : g.cells.toArray.all (·.oneCell') = true := by simp [GeoN.cells, Value.oneCell']
theorem size_geo (g : GeoN) : (Tryz.prog.info? 169).map (·.size) = some g.cells.toArray.size := by
  have : (Tryz.prog.info? 169).map (·.size) = some 6 := by kernel_rfl
  rw [this]; rfl

section
variable {w w' : World} {i : Ids} {s : Sto}
set_option maxRecDepth 100000 in
theorem place_node (w : World) {g : GeoN} {total num : Nat} (hg : g.Ok total) (h1 : 1 ≤ num) (h2 : num ≤ g.nodes) :
    Calls Tryz.prog 131 #[g.val, .int .i64 (num : Int)] w fun e w' => e = .returned (.tuple #[.int .i64 ((g.base + g.bitmap + (num - 1) / 2 : Nat) : Int), .int .i64 (((num - 1) % 2 * 32 : Nat) : Int), .bool true]) ∧ Below w.heap.size w w' := by
  have b1 : g.base + g.bitmap + g.table + g.blocks ≤ 65536 := by have := hg.fits; have := hg.data; have := hg.small; omega
  have b2 : g.nodes ≤ 131072 := by have := hg.tab; omega
  obtain ⟨gb, gm, gt, gd, gk, gn⟩ := g
  simp only at h2 b1 b2 ⊢
  obtain ⟨k, rfl⟩ : ∃ k, num = k + 1 := ⟨num - 1, by omega⟩
  rw [show k + 1 - 1 = k from rfl]
  have k0 : decide (((k + 1 : Nat) : Int) < 1) = false := by simp; omega
  have k1 : decide ((gn : Int) < ((k + 1 : Nat) : Int)) = false := by simp; omega
  have e1 : IntKind.i64.wrap ((gb : Int) + (gm : Int)) = ((gb + gm : Nat) : Int) := by rw [IntWalk.i64_in _ (by omega)]; omega
  simp only [GeoN.val, GeoN.cells]
  go_enter Tryz.func131, Tryz.ntmps131
  go_wp2
  go_returns
  refine ⟨?_, (Below.refl _ _).alloc (Nat.le_refl _) _⟩
  simp


/-- what reading a node comes to -/
def Sto.nodeV (s : Sto) (g : GeoN) (num : Nat) : NodeV := if isN (s.nodeX g num) then decN (s.nodeX g num) else NodeV.zero
def Sto.nodeE (s : Sto) (g : GeoN) (num : Nat) : Int := if isN (s.nodeX g num) then 0 else 28
theorem nodeV_dir (s : Sto) (g : GeoN) (num : Nat) : (s.nodeV g num).dir.length = 6 := by
  unfold Sto.nodeV
  split
  · exact decN_dir _
  · rfl
set_option maxRecDepth 100000 in
set_option maxHeartbeats 1600000 in
theorem read_node {g : GeoN} {num : Nat} (h : TxAt w i s) (hg : g.Ok s.D.length) (h1 : 1 ≤ num) (h2 : num ≤ g.nodes) :
    Calls Tryz.prog 122 #[.pointer (some ⟨i.tt, 0, none⟩), g.val, .int .i64 (num : Int)] w fun e w' => e = .returned (.tuple #[(s.nodeV g num).val, .int .i64 (s.nodeE g num)]) ∧ TxAt w' i s ∧ Tch w.heap.size (· = i.dd) w w' := by
  have hp := fun W => place_node W hg h1 h2
  have hnl : g.base + g.bitmap + (num - 1) / 2 < s.D.length := by have := hg.fits; have := hg.data; have := hg.tab; omega
  have hal : (num - 1) % 2 * 32 = 0 ∨ (num - 1) % 2 * 32 = 32 := by omega
  have hx64 := Sto.at_length h.ok (g.base + g.bitmap + (num - 1) / 2)
  have hx32 : (s.nodeX g num).length = 32 := by
    unfold Sto.nodeX
    rw [List.length_take, List.length_drop, hx64]; omega
  obtain ⟨v, hv⟩ : ∃ v, s.nodeV g num = v := ⟨_, rfl⟩
  obtain ⟨r, hr⟩ : ∃ r, s.nodeE g num = r := ⟨_, rfl⟩
  have hvd : v.dir.length = 6 := by rw [← hv]; exact nodeV_dir _ _ _
  rw [hv, hr]
  have hdec := fun W => decode_ok W hx32
  have hdv : (if isN (s.nodeX g num) then (decN (s.nodeX g num)).val else NodeV.zero.val) = v.val := by
    rw [← hv]; unfold Sto.nodeV; split <;> rfl
  have hdr : (if isN (s.nodeX g num) = true then (0 : Int) else 28) = r := hr
  rw [hdv, hdr] at hdec
  have hget := fun W (hW : TxAt W i s) => get_ok hW hnl
  have hxe : s.nodeX g num = ((s.at_ (g.base + g.bitmap + (num - 1) / 2)).drop ((num - 1) % 2 * 32)).take 32 := rfl
  generalize s.nodeX g num = x at hx32 hdec hxe
  generalize s.at_ (g.base + g.bitmap + (num - 1) / 2) = bl at hx64 hget hxe
  generalize g.base + g.bitmap + (num - 1) / 2 = n at hp hnl hget
  generalize (num - 1) % 2 * 32 = a at hp hal hxe
  have H := hide h
  have HP := hide hp
  have HD := hide hdec
  have HGT := hide hget
  have HXE := hide (And.intro hxe (And.intro hx64 hx32))
  have HVD := hide hvd
  clear h hp hdec hget hxe hx64 hx32 hvd hv hr hdv hdr hg
  go_enter Tryz.func122, Tryz.ntmps122
  go_upto_region 1 with (first | ((with_reducible refine at_alloc 130 ?_); refine wpList_alloc_as rfl 130 rfl _ (zero_node _) ?_) | fail)
  try simp only [World.size_alloc]
  refine at_world (fun W => ∃ b q, b = w.heap.size ∧ q = w.heap.size + 1 ∧ W.heap.size = w.heap.size + 2 ∧ Below w.heap.size w W ∧ Blk W b 169 g.cells.toArray ∧ Blk W q 130 NodeV.zero.cells.toArray) ⟨w.heap.size, w.heap.size + 1, rfl, rfl, by simp, alloc2 w _ _ _ _⟩ (fun w1 hw1 => ?_)
  obtain ⟨b, q, hb, hq, hs1, hb1, hB, hQ⟩ := hw1
  rw [← hq, ← hb]
  have hwq : w.heap.size ≤ q := by omega
  have hdq : ¬ q = i.dd := by have := H.out.log.disk.dlt; omega
  have HBQ := hide (And.intro hb (And.intro hq hs1))
  have HB1 := hide (And.intro hb1 (And.intro hB hQ))
  clear hb hq hs1 hb1 hQ hB
  go_wp2_with (first | ((with_reducible refine at_load 169 (.tmp 4) ?_); refine wpList_load_blk rfl 169 (.tmp 4) rfl b _ _ _ (by rfl) HB1.out.2.1 Tryz.underlying169 rfl (size_geo g) ?_) | fail)
  refine (HP.out _).mono ?_
  rintro e w2 ⟨rfl, hb2⟩
  have hx2 := (H.out.below HB1.out.1).below hb2
  have HW2 := hide (And.intro (HB1.out.1.trans (hb2.mono HB1.out.1.size)) (And.intro hx2 (HB1.out.2.2.below hb2 HB1.out.2.2.lt)))
  clear hb2 hx2
  go_wp2_with fail
  refine (HGT.out _ HW2.out.2.1).mono ?_
  rintro e w3 ⟨rfl, hx3, ht3⟩
  have HW3 := hide (And.intro ((Tch.of_below (S := (· = i.dd)) HW2.out.1).trans (ht3.mono HW2.out.1.size fun _ _ h => h)) (And.intro hx3 (HW2.out.2.2.tch ht3 HW2.out.2.2.lt hdq)))
  clear hx3 ht3
  go_upto_region 5 with (first | ((with_reducible refine at_alloc 106 ?_); refine wpList_alloc_as rfl 106 rfl _ (zero_block _) ?_) | ((with_reducible refine at_store 106 (.tmp 11) (.tmp 27) ?_); refine wpList_store_blk rfl 106 (.tmp 11) (.tmp 27) rfl w3.heap.size 106 _ _ (by rfl) (by rfl) (Blk.new _ _ _) (size_blockOf HXE.out.2.1) ((bvs_size zeroB_length).trans (bvs_size HXE.out.2.1).symm) (bvs_oneCell _) (fun _ => ?_)) | fail)
  refine at_world (fun W => ∃ p, p = w3.heap.size ∧ Below w3.heap.size w3 W ∧ Blk W p 106 (bvs bl).toArray) ⟨_, rfl, below_setRow ((Below.refl _ _).alloc (Nat.le_refl _) _) (Nat.le_refl _) _, (Blk.new _ _ _).setRow_same _⟩ (fun w4 hw4 => ?_)
  obtain ⟨p, hp, hb4, hP⟩ := hw4
  rw [← hp]
  have HW4 := hide (And.intro (HW3.out.2.1.below hb4) (And.intro (HW3.out.1.trans (Tch.of_below (hb4.mono HW3.out.1.size))) (HW3.out.2.2.below hb4 HW3.out.2.2.lt)))
  have HR := hide (hP.range (o := a) (xs := bvs x) fun j u hj => by
    have hj32 : j < 32 := by have := (List.getElem?_eq_some_iff.1 hj).1; rw [bvs_length, HXE.out.2.2] at this; exact this
    rw [bvs_get, HXE.out.1, List.getElem?_take_of_lt hj32, List.getElem?_drop] at hj
    rw [List.getElem?_toArray, bvs_get]
    exact hj)
  clear hp hb4
  have pl := hP.lt
  have HA := hide hal
  clear hal
  rcases HA.out with rfl | rfl
  · go_wp2_with (first | ((with_reducible refine at_load 255 (.tmp 37) ?_); refine wpList_load_mid rfl 255 (.tmp 37) rfl p 0 (by rfl) (bvs x) _ HR.out Tryz.underlying255 rfl (size_arrL HXE.out.2.2) ?_) | ((with_reducible refine at_sap 255 (.tmp 36) ?_); refine wpList_run rfl _ (exec_sap 255 (.tmp 36) rfl 32 ⟨p, 0, none⟩ _ _ _ rfl Tryz.underlying255 (by omega)) ?_) | fail)
    refine (HD.out _).mono ?_
    rintro e w5 ⟨rfl, hb5⟩
    have HW5 := hide (And.intro (HW4.out.1.below hb5) (And.intro (HW4.out.2.1.trans (Tch.of_below (hb5.mono HW4.out.2.1.size))) (HW4.out.2.2.below hb5 HW4.out.2.2.lt)))
    clear hb5 pl
    go_wp2_with (first | ((with_reducible refine at_store 130 (.tmp 6) (.tmp 40) ?_); refine wpList_store_blk rfl 130 (.tmp 6) (.tmp 40) rfl q _ _ _ (by rfl) (by rfl) HW5.out.2.2 (size_nodeOf HVD.out) (by rw [List.size_toArray, List.size_toArray, NodeV.cells_length HVD.out]; rfl) (NodeV.cells_one _) (fun hB3 => ?_)) | ((with_reducible refine at_end ?_); refine bodyPost_ret (v := .tuple #[v.val, .int .i64 r]) (results_run2 rfl (ResV.row rfl hB3 Tryz.underlying130 rfl (size_nodeOf HVD.out)) rfl) rfl ⟨rfl, ?_, ?_⟩) | fail)
    · exact H.out.setRow_new hwq HW5.out.1 _
    · exact HW5.out.2.1.trans (Tch.setRow fun hp => absurd hp (by omega))
  · go_wp2_with (first | ((with_reducible refine at_load 255 (.tmp 37) ?_); refine wpList_load_mid rfl 255 (.tmp 37) rfl p 32 (by rfl) (bvs x) _ HR.out Tryz.underlying255 rfl (size_arrL HXE.out.2.2) ?_) | ((with_reducible refine at_sap 255 (.tmp 36) ?_); refine wpList_run rfl _ (exec_sap 255 (.tmp 36) rfl 32 ⟨p, 32, none⟩ _ _ _ rfl Tryz.underlying255 (by omega)) ?_) | fail)
    refine (HD.out _).mono ?_
    rintro e w5 ⟨rfl, hb5⟩
    have HW5 := hide (And.intro (HW4.out.1.below hb5) (And.intro (HW4.out.2.1.trans (Tch.of_below (hb5.mono HW4.out.2.1.size))) (HW4.out.2.2.below hb5 HW4.out.2.2.lt)))
    clear hb5 pl
    go_wp2_with (first | ((with_reducible refine at_store 130 (.tmp 6) (.tmp 40) ?_); refine wpList_store_blk rfl 130 (.tmp 6) (.tmp 40) rfl q _ _ _ (by rfl) (by rfl) HW5.out.2.2 (size_nodeOf HVD.out) (by rw [List.size_toArray, List.size_toArray, NodeV.cells_length HVD.out]; rfl) (NodeV.cells_one _) (fun hB3 => ?_)) | ((with_reducible refine at_end ?_); refine bodyPost_ret (v := .tuple #[v.val, .int .i64 r]) (results_run2 rfl (ResV.row rfl hB3 Tryz.underlying130 rfl (size_nodeOf HVD.out)) rfl) rfl ⟨rfl, ?_, ?_⟩) | fail)
    · exact H.out.setRow_new hwq HW5.out.1 _
    · exact HW5.out.2.1.trans (Tch.setRow fun hp => absurd hp (by omega))


/-- what writing a node comes to -/
def Sto.setNode (s : Sto) (g : GeoN) (num : Nat) (n : NodeV) : Sto := s.put (g.base + g.bitmap + (num - 1) / 2) (wrB (s.at_ (g.base + g.bitmap + (num - 1) / 2)) ((num - 1) % 2 * 32) (encN n))
set_option maxRecDepth 100000 in
set_option maxHeartbeats 1600000 in
theorem write_node {g : GeoN} {num : Nat} {n : NodeV} (h : TxAt w i s) (hg : g.Ok s.D.length) (h1 : 1 ≤ num) (h2 : num ≤ g.nodes) (hnd : n.dir.length = 6) (hck : checkN n = true) (hc : s.Can (g.base + g.bitmap + (num - 1) / 2)) :
    Calls Tryz.prog 80 #[.pointer (some ⟨i.tt, 0, none⟩), g.val, .int .i64 (num : Int), n.val] w fun e w' => e = .returned (.int .i64 0) ∧ TxAt w' i (s.setNode g num n) ∧ Tch w.heap.size i.own w w' := by
  have hp := fun W => place_node W hg h1 h2
  have hal : (num - 1) % 2 * 32 = 0 ∨ (num - 1) % 2 * 32 = 32 := by omega
  have hx64 := Sto.at_length h.ok (g.base + g.bitmap + (num - 1) / 2)
  have hget := fun W (hW : TxAt W i s) => get_ok hW hc.lt
  have hce : checkE n = 0 := by unfold checkE; rw [hck]; rfl
  have hchk := fun W => check_ok W hnd
  rw [hce] at hchk
  have hel := encN_length hnd
  obtain ⟨s1, hs1⟩ : ∃ s1, s.setNode g num n = s1 := ⟨_, rfl⟩
  rw [hs1]
  unfold Sto.setNode at hs1
  generalize s.at_ (g.base + g.bitmap + (num - 1) / 2) = bl at hx64 hget hs1
  generalize g.base + g.bitmap + (num - 1) / 2 = k at hp hc hget hs1
  generalize (num - 1) % 2 * 32 = a at hp hal hs1
  have H := hide h
  have HP := hide hp
  have HGT := hide hget
  have HX := hide (And.intro hx64 (And.intro hel hs1))
  have HCK := hide hchk
  have HC := hide hc
  have HND := hide hnd
  have HA := hide hal
  clear h hp hget hx64 hel hs1 hchk hc hnd hg hce hck hal
  go_enter Tryz.func80, Tryz.ntmps80
  go_upto_region 1 with (fail)
  refine at_world (fun W => ∃ b q, b = w.heap.size ∧ q = w.heap.size + 1 ∧ W.heap.size = w.heap.size + 2 ∧ Below w.heap.size w W ∧ Blk W b 169 g.cells.toArray ∧ Blk W q 130 n.cells.toArray) ⟨w.heap.size, w.heap.size + 1, rfl, rfl, by simp, alloc2 w _ _ _ _⟩ (fun w1 hw1 => ?_)
  obtain ⟨b, q, hb, hq, hs1, hb1, hB, hQ⟩ := hw1
  rw [← hq, ← hb]
  have hwq : w.heap.size ≤ q := by omega
  have hdq : ¬ q = i.dd := by have := H.out.log.disk.dlt; omega
  have HB1 := hide (And.intro hb1 (And.intro hB hQ))
  clear hb hq hs1 hb1 hQ hB
  go_wp2_with (first | ((with_reducible refine at_load 169 (.tmp 5) ?_); refine wpList_load_blk rfl 169 (.tmp 5) rfl b _ _ _ (by rfl) HB1.out.2.1 Tryz.underlying169 rfl (size_geo g) ?_) | fail)
  refine (HP.out _).mono ?_
  rintro e w2 ⟨rfl, hb2⟩
  have HW2 := hide (And.intro (HB1.out.1.trans (hb2.mono HB1.out.1.size)) (HB1.out.2.2.below hb2 HB1.out.2.2.lt))
  clear hb2
  go_wp2_with (first | ((with_reducible refine at_load 130 (.tmp 7) ?_); refine wpList_load_blk rfl 130 (.tmp 7) rfl q _ _ _ (by rfl) HW2.out.2 Tryz.underlying130 rfl (size_nodeOf HND.out) ?_) | fail)
  refine (HCK.out _).mono ?_
  rintro e w3 ⟨rfl, hb3⟩
  have HW3 := hide (And.intro (HW2.out.1.trans (hb3.mono HW2.out.1.size)) (HW2.out.2.below hb3 HW2.out.2.lt))
  clear hb3
  go_wp2_with fail
  refine (HGT.out _ (H.out.below HW3.out.1)).mono ?_
  rintro e w4 ⟨rfl, hx4, ht4⟩
  have HW4 := hide (And.intro hx4 (And.intro ((Tch.of_below (S := i.own) HW3.out.1).trans (ht4.own_dd.mono HW3.out.1.size fun _ _ h => h)) (HW3.out.2.tch ht4 HW3.out.2.lt hdq)))
  clear hx4 ht4
  go_upto_region 8 with (first | ((with_reducible refine at_alloc 106 ?_); refine wpList_alloc_as rfl 106 rfl _ (zero_block _) ?_) | ((with_reducible refine at_store 106 (.tmp 13) (.tmp 34) ?_); refine wpList_store_blk rfl 106 (.tmp 13) (.tmp 34) rfl w4.heap.size 106 _ _ (by rfl) (by rfl) (Blk.new _ _ _) (size_blockOf HX.out.1) ((bvs_size zeroB_length).trans (bvs_size HX.out.1).symm) (bvs_oneCell _) (fun _ => ?_)) | fail)
  refine at_world (fun W => ∃ p, p = w4.heap.size ∧ Below w4.heap.size w4 W ∧ Blk W p 106 (bvs bl).toArray) ⟨_, rfl, below_setRow ((Below.refl _ _).alloc (Nat.le_refl _) _) (Nat.le_refl _) _, (Blk.new _ _ _).setRow_same _⟩ (fun w5 hw5 => ?_)
  obtain ⟨p, hp, hb5, hP⟩ := hw5
  rw [← hp]
  have hwp : w4.heap.size ≤ p := Nat.le_of_eq hp.symm
  have HW5 := hide (And.intro hb5 (And.intro hP (HW4.out.2.2.below hb5 HW4.out.2.2.lt)))
  clear hp hb5 hP
  go_wp2_with (first | ((with_reducible refine at_load 130 (.tmp 7) ?_); refine wpList_load_blk rfl 130 (.tmp 7) rfl q _ _ _ (by rfl) HW5.out.2.2 Tryz.underlying130 rfl (size_nodeOf HND.out) ?_) | fail)
  refine (encode_ok _ HND.out).mono ?_
  rintro e w6 ⟨rfl, hb6⟩
  go_upto_region 11 with (first | ((with_reducible refine at_alloc 255 ?_); refine wpList_alloc_as rfl 255 rfl _ (zero_arr _) ?_) | ((with_reducible refine at_store 255 (.tmp 15) (.tmp 40) ?_); refine wpList_store_blk rfl 255 (.tmp 15) (.tmp 40) rfl w6.heap.size _ _ _ (by rfl) (by rfl) (Blk.new _ _ _) (size_arrOf HX.out.2.1) (by simp [bvs, z32_length, HX.out.2.1]) (bvs_oneCell _) (fun _ => ?_)) | fail)
  refine at_world (fun W => ∃ u, u = w6.heap.size ∧ Below w4.heap.size w4 W ∧ Blk W p 106 (bvs bl).toArray ∧ Blk W u 255 (bvs (encN n)).toArray) ⟨_, rfl, ?_, ?_, (Blk.new _ _ _).setRow_same _⟩ (fun w7 hw7 => ?_)
  · exact HW5.out.1.trans ((hb6.mono HW5.out.1.size).trans ((below_setRow ((Below.refl _ w6).alloc (Nat.le_refl _) _) (Nat.le_refl _) _).mono (Nat.le_trans HW5.out.1.size hb6.size)))
  · exact (HW5.out.2.1.below hb6 HW5.out.2.1.lt |>.alloc _).setRow_far (by have := HW5.out.2.1.lt; have := hb6.size; omega) _
  obtain ⟨u, hu, hb7, hP7, hU7⟩ := hw7
  rw [← hu]
  have HW7 := hide (And.intro hb7 (And.intro hP7 hU7))
  clear hu hb7 hP7 hU7 hb6
  have pl := HW7.out.2.1.lt
  have ul := HW7.out.2.2.lt
  rcases HA.out with rfl | rfl
  · refine wp_region_text [0, 0, 0, 2] (· = w7.drew) (by kernel_rfl) (by kernel_rfl) rfl ?_
    iterate 3 (refine wpOrd_q (v := ?_) (by rfl) (fun W hW => ?_) ?_; rotate_left; (focus ((cases hW; go_simp); try with_reducible rfl)); try simp only [Act.put, List.setIfInBounds_toArray, List.set_cons_zero, List.set_cons_succ])
    have hrow := run_copy_row (P := Tryz.prog) w7.drew 24 24 3 5 p 0 64 64 ⟨u, 0, none⟩ 32 32 (bvs bl).toArray 106 (bvs (encN n)) Tryz.underlying24 (by kernel_rfl) HW7.out.2.1.drew (by rw [bvs_length, HX.out.2.1]; rfl) (fun j v hj => by
      have := (HW7.out.2.2.drew.range (o := 0) (xs := bvs (encN n)) fun j v hj => by rw [Nat.zero_add, List.getElem?_toArray]; exact hj) j v hj
      rw [Addr.add_mid, Nat.zero_add]
      rw [Nat.zero_add] at this
      exact this) (by rw [bvs_length, HX.out.2.1, bvs_size HX.out.1]; omega) (bvs_one _)
    have hcs : (bvs bl).take 0 ++ bvs (encN n) ++ (bvs bl).drop (0 + (bvs (encN n)).length) = bvs (wrB bl 0 (encN n)) := by
      rw [bvs_take, bvs_drop, bvs_length, ← bvs_append, ← bvs_append]
      rfl
    rw [show (bvs bl).toArray.toList = bvs bl from rfl, hcs] at hrow
    have HROW := hide hrow
    clear hrow hcs
    refine wpOrd_b (by rfl) (fun K hK => ?_)
    refine wp_copy_as (.tmp 42) (.tmp 43) 24 24 rfl _ _ (by rfl) (by rfl) HROW.out ?_
    refine hK (fun _ => True) _ _ trivial (wpOrd_nil ?_)
    clear hK K
    have hwl : (wrB bl 0 (encN n)).length = 64 := by rw [wrB_length (by rw [HX.out.1, HX.out.2.1]; omega)]; exact HX.out.1
    refine at_world (fun W => TxAt W i s ∧ Tch w.heap.size i.own w W ∧ Blk W p 106 (bvs (wrB bl 0 (encN n))).toArray) ⟨HW4.out.1.setRow_new hwp (HW4.out.1.below HW7.out.1.drew) _, (HW4.out.2.1.trans (Tch.of_below (HW7.out.1.drew.mono HW4.out.2.1.size))).trans (Tch.setRow fun hp => absurd hp (by have := HW4.out.2.1.size; omega)), HW7.out.2.1.drew.setRow_same _⟩ (fun w8 hw8 => ?_)
    have hs1 := HX.out.2.2
    generalize wrB bl 0 (encN n) = bl2 at hw8 hwl hs1
    have HW8 := hide (And.intro hw8 (And.intro hwl hs1))
    clear hw8 hwl hs1 pl ul HROW
    go_wp2_with (first | ((with_reducible refine at_load 106 (.tmp 13) ?_); refine wpList_load_blk rfl 106 (.tmp 13) rfl p 106 _ _ (by rfl) HW8.out.1.2.2 Tryz.underlying106 rfl (size_blockOf HW8.out.2.1) ?_) | fail)
    refine (put_ok HW8.out.1.1 HW8.out.2.1 HC.out.lt HC.out.free HC.out.room).mono ?_
    rintro e w9 ⟨rfl, hx9, ht9⟩
    rw [HW8.out.2.2] at hx9
    have HF := hide (And.intro hx9 (HW8.out.1.2.1.trans ((ht9.sub fun _ h => Ids.own_mm h).mono HW8.out.1.2.1.size fun _ _ h => h)))
    clear hx9 ht9
    go_wp2
    go_returns
    exact ⟨rfl, HF.out.1, HF.out.2⟩
  · refine wp_region_text [0, 0, 0, 2] (· = w7.drew) (by kernel_rfl) (by kernel_rfl) rfl ?_
    iterate 3 (refine wpOrd_q (v := ?_) (by rfl) (fun W hW => ?_) ?_; rotate_left; (focus ((cases hW; go_simp); try with_reducible rfl)); try simp only [Act.put, List.setIfInBounds_toArray, List.set_cons_zero, List.set_cons_succ])
    have hrow := run_copy_row (P := Tryz.prog) w7.drew 24 24 3 5 p 32 32 32 ⟨u, 0, none⟩ 32 32 (bvs bl).toArray 106 (bvs (encN n)) Tryz.underlying24 (by kernel_rfl) HW7.out.2.1.drew (by rw [bvs_length, HX.out.2.1]; rfl) (fun j v hj => by
      have := (HW7.out.2.2.drew.range (o := 0) (xs := bvs (encN n)) fun j v hj => by rw [Nat.zero_add, List.getElem?_toArray]; exact hj) j v hj
      rw [Addr.add_mid, Nat.zero_add]
      rw [Nat.zero_add] at this
      exact this) (by rw [bvs_length, HX.out.2.1, bvs_size HX.out.1]; omega) (bvs_one _)
    have hcs : (bvs bl).take 32 ++ bvs (encN n) ++ (bvs bl).drop (32 + (bvs (encN n)).length) = bvs (wrB bl 32 (encN n)) := by
      rw [bvs_take, bvs_drop, bvs_length, ← bvs_append, ← bvs_append]
      rfl
    rw [show (bvs bl).toArray.toList = bvs bl from rfl, hcs] at hrow
    have HROW := hide hrow
    clear hrow hcs
    refine wpOrd_b (by rfl) (fun K hK => ?_)
    refine wp_copy_as (.tmp 42) (.tmp 43) 24 24 rfl _ _ (by rfl) (by rfl) HROW.out ?_
    refine hK (fun _ => True) _ _ trivial (wpOrd_nil ?_)
    clear hK K
    have hwl : (wrB bl 32 (encN n)).length = 64 := by rw [wrB_length (by rw [HX.out.1, HX.out.2.1]; omega)]; exact HX.out.1
    refine at_world (fun W => TxAt W i s ∧ Tch w.heap.size i.own w W ∧ Blk W p 106 (bvs (wrB bl 32 (encN n))).toArray) ⟨HW4.out.1.setRow_new hwp (HW4.out.1.below HW7.out.1.drew) _, (HW4.out.2.1.trans (Tch.of_below (HW7.out.1.drew.mono HW4.out.2.1.size))).trans (Tch.setRow fun hp => absurd hp (by have := HW4.out.2.1.size; omega)), HW7.out.2.1.drew.setRow_same _⟩ (fun w8 hw8 => ?_)
    have hs1 := HX.out.2.2
    generalize wrB bl 32 (encN n) = bl2 at hw8 hwl hs1
    have HW8 := hide (And.intro hw8 (And.intro hwl hs1))
    clear hw8 hwl hs1 pl ul HROW
    go_wp2_with (first | ((with_reducible refine at_load 106 (.tmp 13) ?_); refine wpList_load_blk rfl 106 (.tmp 13) rfl p 106 _ _ (by rfl) HW8.out.1.2.2 Tryz.underlying106 rfl (size_blockOf HW8.out.2.1) ?_) | fail)
    refine (put_ok HW8.out.1.1 HW8.out.2.1 HC.out.lt HC.out.free HC.out.room).mono ?_
    rintro e w9 ⟨rfl, hx9, ht9⟩
    rw [HW8.out.2.2] at hx9
    have HF := hide (And.intro hx9 (HW8.out.1.2.1.trans ((ht9.sub fun _ h => Ids.own_mm h).mono HW8.out.1.2.1.size fun _ _ h => h)))
    clear hx9 ht9
    go_wp2
    go_returns
    exact ⟨rfl, HF.out.1, HF.out.2⟩


end
end Go.Proofs.YthmkgohfeahdhaaGreat
namespace Go.Proofs.YthmkgohfeahdhaaGreat
open Go.RowKit
set_option linter.unusedSimpArgs false
set_option linter.unusedVariables false

/-- a group of a label, over a transaction -/
abbrev gpcells (tt : Nat) (g : GeoN) (lab : Int) : Array Value := #[.pointer (some ⟨tt, 0, none⟩), .int .i64 (g.base : Int), .int .i64 (g.bitmap : Int), .int .i64 (g.table : Int), .int .i64 (g.data : Int), .int .i64 (g.blocks : Int), .int .i64 (g.nodes : Int), .int .i64 lab]
def GroupAt (w : World) (gg tt : Nat) (g : GeoN) (lab : Int) : Prop := Blk w gg 185 (gpcells tt g lab)
theorem can_of {s : Sto} {n : Nat} (h1 : n < s.D.length) (h2 : 32 ≤ n) (h3 : s.M.length < 30) : s.Can n := ⟨h1, .inr (by omega), .inr h3⟩

section
variable {w w' : World} {i : Ids} {s : Sto} {gg : Nat} {g : GeoN} {lab : Int}
theorem GroupAt.not_own (h : TxAt w i s) (hG : GroupAt w gg i.tt g lab) : ¬ i.own gg := h.other hG (by decide) (by decide) (by decide)
theorem GroupAt.tch (h : TxAt w i s) (hG : GroupAt w gg i.tt g lab) (ht : Tch w.heap.size i.own w w') : GroupAt w' gg i.tt g lab := Blk.tch hG ht hG.lt (hG.not_own h)
theorem GroupAt.below {tt : Nat} (hG : GroupAt w gg tt g lab) (hb : Below w.heap.size w w') : GroupAt w' gg tt g lab := Blk.below hG hb hG.lt


theorem has_yes {tt n : Nat} (hG : GroupAt w gg tt g lab) (hn : n < 65536) (h1 : 1 ≤ n) (h2 : n ≤ g.blocks) :
    Calls Tryz.prog 148 #[.pointer (some ⟨gg, 0, none⟩), .int .u16 (n : Int)] w fun e w' => e = .returned (.bool true) ∧ w = w' := by
  have c5 := hG.cell 5
  have cl := hG.lt
  have hz : (n : Int) ≤ 65535 := by omega
  have k1 : decide ((1 : Int) ≤ (n : Int)) = true := by simp; omega
  have k2 : decide (n ≤ g.blocks) = true := by simpa using h2
  go_enter Tryz.func148, Tryz.ntmps148
  go_wp2
  go_returns
  exact ⟨rfl, rfl⟩

/-- what Take comes to -/
def Sto.take (s : Sto) (g : GeoN) (k : Nat) : Sto := (s.setBit g.base k true).put (g.data + k) zeroB


end
end Go.Proofs.YthmkgohfeahdhaaGreat
namespace Go.Proofs.YthmkgohfeahdhaaGreat
open Go.RowKit
set_option linter.unusedSimpArgs false
set_option linter.unusedVariables false

section
variable {w w' : World} {i : Ids} {s : Sto} {gg : Nat} {g : GeoN} {lab : Int}




set_option maxRecDepth 100000 in
set_option maxHeartbeats 800000 in
theorem gget_ok {k : Nat} (h : TxAt w i s) (hG : GroupAt w gg i.tt g lab) (hg : g.Ok s.D.length) (hk : k < g.blocks) :
    Calls Tryz.prog 93 #[.pointer (some ⟨gg, 0, none⟩), .int .u16 ((k + 1 : Nat) : Int)] w fun e w' => e = .returned (.tuple #[bval (s.at_ (g.data + k)), .int .i64 0]) ∧ TxAt w' i s ∧ Tch w.heap.size i.own w w' := by
  have hdk : g.data + k < s.D.length := by have := hg.fits; omega
  have hdl := h.ok.most
  have hkz : (k : Int) ≤ 65503 := by have := hg.map1; have := hg.data; have := hg.fits; have := hg.small; have := hg.base; omega
  have ec : IntKind.i64.wrap (((k + 1 : Nat) : Int)) = ((k + 1 : Nat) : Int) := IntWalk.i64_in _ (by omega)
  have e1 : IntKind.i64.wrap ((g.data : Int) + ((k + 1 : Nat) : Int)) = (g.data : Int) + ((k + 1 : Nat) : Int) := IntWalk.i64_in _ (by omega)
  have e2 : IntKind.i64.wrap ((g.data : Int) + ((k + 1 : Nat) : Int) - 1) = ((g.data + k : Nat) : Int) := by rw [IntWalk.i64_in _ (by omega)]; omega
  obtain ⟨q, hq⟩ : ∃ q, g.data + k = q := ⟨_, rfl⟩
  obtain ⟨n, hn⟩ : ∃ n, k + 1 = n := ⟨_, rfl⟩
  have hn6 : n < 65536 := by omega
  have hn1 : 1 ≤ n := by omega
  have hn2 : n ≤ g.blocks := by omega
  rw [hq] at hdk e2 ⊢
  rw [hn] at ec e1 e2 ⊢
  have hx := Sto.at_length h.ok q
  obtain ⟨b, hb⟩ : ∃ b, s.at_ q = b := ⟨_, rfl⟩
  have hget := fun W (hW : TxAt W i s) => get_ok hW hdk
  rw [hb] at hx hget ⊢
  have HGT := hide hget
  have H := hide h
  have HG := hide hG
  have HB := hide hx
  have HN := hide (And.intro hn6 (And.intro hn1 hn2))
  clear hq hn h hG hdk hb hg hk hn6 hn1 hn2 hdl hget hx
  go_enter Tryz.func93, Tryz.ntmps93
  go_upto_region 1 with (first | ((with_reducible refine at_alloc 106 ?_); refine wpList_alloc_as rfl 106 rfl _ (zero_block _) ?_) | fail)
  refine at_world (fun W => ∃ p, p = w.heap.size ∧ Below w.heap.size w W ∧ Blk W p 106 (bvs zeroB).toArray) ⟨_, rfl, (Below.refl _ _).alloc (Nat.le_refl _) _, Blk.new _ _ _⟩ (fun w1 hw1 => ?_)
  obtain ⟨p, hp, hb1, hP⟩ := hw1
  rw [← hp]
  have hwp : w.heap.size ≤ p := Nat.le_of_eq hp.symm
  have HP := hide (And.intro hP hb1)
  have HG1 := hide (HG.out.below hb1)
  clear hp hb1 hP
  go_wp2_with fail
  refine (has_yes HG1.out HN.out.1 HN.out.2.1 HN.out.2.2).mono ?_
  rintro e w0 ⟨rfl, rfl⟩
  have c0 := HG1.out.cell 0
  have c4 := HG1.out.cell 4
  have cl := HG1.out.lt
  go_upto_region 5 with (fail)
  refine wp_region_text [0, 0, 0, 0, 0, 0, 0, 0, 0, 0, 0, 0, 0, 2, 0, 0, 2, 0] (· = w1.drew) (by kernel_rfl) (by kernel_rfl) rfl ?_
  iterate 13 (refine wpOrd_q (v := ?_) (by rfl) (fun W hW => ?_) ?_; rotate_left; (focus ((cases hW; go_simp); try with_reducible rfl)); try simp only [Act.put, List.setIfInBounds_toArray, List.set_cons_zero, List.set_cons_succ])
  refine wpOrd_b (by rfl) (fun K hK => ?_)
  go_simp
  refine (HGT.out _ (H.out.below HP.out.2.drew)).mono ?_
  rintro e w5 ⟨rfl, hx5, ht5⟩
  refine hK (fun _ => True) _ _ trivial ?_
  have HF5 := hide (And.intro hx5 (And.intro ((Tch.of_below (S := i.own) HP.out.2).drew.trans (ht5.own_dd.mono HP.out.2.size fun _ _ h => h)) (HP.out.1.drew.tch ht5 HP.out.1.lt (fun e => by have := H.out.log.disk.dlt; omega))))
  clear hK K c0 c4 cl hx5 ht5
  try simp only [Act.put, List.setIfInBounds_toArray, List.set_cons_zero, List.set_cons_succ]
  iterate 2 (refine wpOrd_q (v := ?_) (by rfl) (fun W hW => ?_) ?_; rotate_left; (focus (go_simp; try with_reducible rfl)); try simp only [Act.put, List.setIfInBounds_toArray, List.set_cons_zero, List.set_cons_succ])
  refine wpOrd_b (by rfl) (fun K hK => ?_)
  refine wp_store_blk 106 (.tmp 4) (.tmp 30) rfl p 106 _ _ (by rfl) (by rfl) HF5.out.2.2 (size_blockOf HB.out) ((bvs_size zeroB_length).trans (bvs_size HB.out).symm) (bvs_oneCell _) (fun hB3 => ?_)
  refine hK (fun _ => True) _ _ trivial ?_
  clear hK K
  try simp only [Act.put, List.setIfInBounds_toArray, List.set_cons_zero, List.set_cons_succ]
  iterate 1 (refine wpOrd_q (v := ?_) (by rfl) (fun W hW => ?_) ?_; rotate_left; (focus (go_simp; try with_reducible rfl)); try simp only [Act.put, List.setIfInBounds_toArray, List.set_cons_zero, List.set_cons_succ])
  refine wpOrd_nil ?_
  have HB3 := hide hB3
  clear hB3
  go_wp2_with (first | ((with_reducible refine at_end ?_); refine bodyPost_ret (v := .tuple #[bval b, .int .i64 0]) (results_run2 rfl (ResV.row rfl HB3.out Tryz.underlying106 rfl (size_blockOf HB.out)) rfl) rfl ⟨rfl, ?_, ?_⟩) | fail)
  · exact H.out.setRow_new hwp HF5.out.1 _
  · exact HF5.out.2.1.trans (Tch.setRow fun hp => absurd hp (by omega))
end
end Go.Proofs.YthmkgohfeahdhaaGreat
namespace Go.Proofs.YthmkgohfeahdhaaGreat
open Go.RowKit Go.WideMaps
set_option linter.unusedSimpArgs false
set_option linter.unusedVariables false

def szNames : List Value := [.string ⟨#[108, 111, 119]⟩, .string ⟨#[114, 101, 100]⟩, .string ⟨#[98, 108, 117, 101]⟩, .string ⟨#[116, 111, 112]⟩, .string ⟨#[104, 105, 103, 104]⟩]
def szLabels : List Value := [.int .u8 0, .int .u16 0, .int .u8 1, .int .u16 1, .int .u8 1, .int .u16 2, .int .u8 2, .int .u16 3, .int .u8 9, .int .u16 7]
theorem names_ok (w : World) : Calls Tryz.prog 108 #[] w fun e w' => ∃ g, w.heap.size ≤ g ∧ e = .returned (.slice (some ⟨g, 0, none⟩) 5 5) ∧ Below w.heap.size w w' ∧ g < w'.heap.size ∧ ∀ j v, szNames[j]? = some v → w'.cell? ⟨g, j, none⟩ = some v := by
  go_enter Tryz.func108, Tryz.ntmps108
  go_wp2
  go_returns
  refine ⟨w.heap.size, Nat.le_refl _, rfl, (Below.refl _ _).alloc (Nat.le_refl _) _, by simp, fun j v hj => ?_⟩
  rw [(Blk.new w _ _).cell j]
  simpa [szNames] using hj
theorem build_lab2 (W : World) (a b : Int) : (Instr.build 39 #[(0, .int .u8 a), (1, .int .u16 b)]).run Tryz.prog W = .ok (.agg #[.int .u8 a, .int .u16 b]) W := by kernel_rfl
section
attribute [-go_sem] Instr.build
attribute [local go_sem] build_lab0 build_lab2
theorem labels_ok (w : World) : Calls Tryz.prog 109 #[] w fun e w' => ∃ g, w.heap.size ≤ g ∧ e = .returned (.slice (some ⟨g, 0, none⟩) 5 5) ∧ Below w.heap.size w w' ∧ g < w'.heap.size ∧ ∀ j v, szLabels[j]? = some v → w'.cell? ⟨g, j, none⟩ = some v := by
  go_enter Tryz.func109, Tryz.ntmps109
  go_wp2
  go_returns
  refine ⟨w.heap.size, Nat.le_refl _, rfl, (Below.refl _ _).alloc (Nat.le_refl _) _, by simp, fun j v hj => ?_⟩
  rw [(Blk.new w _ _).cell j]
  simpa [szLabels] using hj
end


/-! ### labels and marks -/
def szCells (m : UInt8) (H : List UInt8) (A : Option Addr) (n c : Nat) : Array Value := (Value.int .u8 (m.toNat : Int) :: (bvs H ++ [Value.slice A n c])).toArray
def szClear0 (many i : Nat) : Nat := if many = 2 then 1 else if many < 4 ∧ 0 < i then i else many - 1
def szReg0 (many : Nat) (H : List UInt8) (i : Nat) : RegV := { szReg many H i with clear := (szClear0 many i : Nat) }
theorem szCells_size {m : UInt8} {H : List UInt8} {A : Option Addr} {n c : Nat} (h : H.length = 25) : (szCells m H A n c).size = 27 := by simp [szCells, h, bvs_length]
theorem szCells_many {m : UInt8} {H : List UInt8} {A : Option Addr} {n c : Nat} : (szCells m H A n c)[0]? = some (.int .u8 (m.toNat : Int)) := by simp [szCells]
theorem szCells_have {m : UInt8} {H : List UInt8} {A : Option Addr} {n c j : Nat} (h : H.length = 25) (hj : j < 25) : (szCells m H A n c)[1 + j]? = some (.int .u8 ((H.getD j 0).toNat : Int)) := by
  rw [szCells, List.getElem?_toArray, Nat.add_comm 1 j, List.getElem?_cons_succ, List.getElem?_append_left (by rw [bvs_length]; omega), bvs_get]
  simp [List.getElem?_eq_getElem (show j < H.length by omega), bv]
theorem szCells_trust {m : UInt8} {H : List UInt8} {A : Option Addr} {n c : Nat} (h : H.length = 25) : (szCells m H A n c)[26]? = some (.slice A n c) := by
  rw [szCells, List.getElem?_toArray, List.getElem?_cons_succ, List.getElem?_append_right (by rw [bvs_length]; omega), bvs_length, h]
  rfl
def MarksOk (M : Nat) (K : List MarkV) : Prop := (∀ x ∈ K, x.1.toNat < M ∧ 1 ≤ x.2.toNat ∧ x.2.toNat ≤ 8) ∧ K.Nodup ∧ K.length ≤ 9
theorem szReg0_eq {M : Nat} {H : List UInt8} (h2 : 2 ≤ M) (h3 : M ≠ 3) : (List.range M).map (szReg0 M H) = (List.range M).map (szReg M H) := by
  apply List.map_congr_left
  intro i hi
  have hc : szClear0 M i = szClear M i := by
    unfold szClear0 szClear
    by_cases e2 : M = 2
    · rw [if_pos e2, if_pos e2]
    · rw [if_neg e2, if_neg e2, if_neg h3, if_neg (by omega)]
  unfold szReg0
  rw [hc]
  rfl
theorem szReg0_three (H : List UInt8) : ((List.range 3).map (szReg0 3 H)).set 0 { szReg0 3 H 0 with clear := (1 : Int) } = (List.range 3).map (szReg 3 H) := rfl
theorem szNames_at {k : Nat} (h : k < 5) : szNames[k]? = some (.string ⟨(szName k).toArray⟩) := by
  rcases k with _ | _ | _ | _ | _ | k <;> first | rfl | omega
theorem szLabels_at {k : Nat} (h : k < 5) : szLabels[k * 2]? = some (.int .u8 ((szLev k).toNat : Int)) ∧ szLabels[k * 2 + 1]? = some (.int .u16 ((szCat k).toNat : Int)) := by
  rcases k with _ | _ | _ | _ | _ | k <;> first | exact ⟨rfl, rfl⟩ | omega

section
variable {m : UInt8} {H : List UInt8} {A : Option Addr} {n c : Nat} {T : List UInt8} {w : World}
set_option maxRecDepth 100000 in
set_option maxHeartbeats 4000000 in
theorem size_regs (hH : H.length = 25) (hT : Rd w w.heap.size 1 A n (bvs T)) (hnm : n ≤ 9223372036854775807) :
    Calls Tryz.prog 45 #[.agg (szCells m H A n c)] w fun e w' => ∃ (K : List MarkV) (A1 A2 : Option Addr) (c1 c2 : Nat), e = .returned (.tuple #[.slice A1 (szMany m) c1, .slice A2 K.length c2]) ∧ Below w.heap.size w w' ∧
      w'.ownsRow w.heap.size 41 9 (.slice A1 (szMany m) c1) (szMany m) (rcellsOf (szRegs m H)) ∧ w'.ownsRow w.heap.size 199 2 (.slice A2 K.length c2) K.length (mcellsOf K) ∧ MarksOk (szMany m) K := by
  have hsz : (szCells m H A n c).size = 27 := szCells_size hH
  go_enter Tryz.func45, Tryz.ntmps45
  go_upto_region 1 with (fail)
  refine at_world (fun W => ∃ bx, bx = w.heap.size ∧ Below w.heap.size w W ∧ Blk W bx 26 (szCells m H A n c)) ⟨_, rfl, (Below.refl _ _).alloc (Nat.le_refl _) _, Blk.new _ _ _⟩ (fun w1 h1 => ?_)
  obtain ⟨bx, hbx, hb1, hX1⟩ := h1
  rw [← hbx]
  have HBX := hide hbx
  clear hbx
  have x0 := (hX1.cell 0).trans szCells_many
  have x26 := (hX1.cell 26).trans (szCells_trust hH)
  have xl := hX1.lt
  have hm4 : (m.toNat : Int).tmod 4 = ((m.toNat % 4 : Nat) : Int) := by rw [IntWalk.rem_in _ _ (by omega)]; rfl
  have hm5 : wrap64 ((m.toNat % 4 : Nat) : Int) = ((m.toNat % 4 : Nat) : Int) := IntWalk.wrap64_in _ (by omega)
  obtain ⟨M, hM⟩ : ∃ M, M = szMany m := ⟨_, rfl⟩
  have hM2 := szMany_ge m
  have hM5 := szMany_le m
  rw [← hM] at hM2 hM5
  have hm6 : (2 : Int) + (m.toNat : Int) % 4 = (M : Int) := by rw [hM]; unfold szMany; omega
  have HM := hide hM
  have HX1 := hide hX1
  have HB1 := hide hb1
  clear hM hX1 hb1
  go_upto_region 4 with (fail)
  clear hm4 hm5 hm6 x0 x26 xl hsz
  go_loopg [5, 6, 7, 8, 22] M (fun g x5 x6 x7 x8 x22 wr => ∃ (k : Nat) (Ak : Option Addr) (ck : Nat), k ≤ M ∧ g = M - k ∧ x22 = .int .i64 k ∧ x5 = .slice Ak k ck ∧ Aside (Below w1.heap.size w1 wr ∧ wr.ownsRow w1.heap.size 41 9 (.slice Ak k ck) k (rcellsOf ((List.range k).map (szReg0 M H)))))
  case atStart => exact ⟨0, none, 0, Nat.zero_le _, rfl, rfl, rfl, Below.refl _ _, World.ownsRow_nil _ _ _ _⟩
  case round =>
    obtain ⟨k, Ak, ck, hk, hg, rfl, rfl, hA⟩ := hrel
    by_cases hkM : k < M
    · have hkz : (k : Int) < M := by omega
      obtain ⟨hbr, hor⟩ := hA.out
      have HBR := hide hbr
      have HOR := hide hor
      have hX := HX1.out.below hbr HX1.out.lt
      have y (j : Nat) (hj : j < 5) : wr.cell? ⟨bx, 1 + k * 5 + j, none⟩ = some (.int .u8 ((H.getD (5 * k + j) 0).toNat : Int)) := by
        rw [show 1 + k * 5 + j = 1 + (5 * k + j) from by omega]
        exact (hX.cell _).trans (szCells_have hH (by omega))
      have y0 := y 0 (by omega)
      have y1 := y 1 (by omega)
      have y2 := y 2 (by omega)
      have y3 := y 3 (by omega)
      have y4 := y 4 (by omega)
      simp only [Nat.add_zero] at y0
      have hk5 : k < 5 := by omega
      have hk5z : (k : Int) < 5 := by omega
      have xl := hX.lt
      clear y hA hbr hor hX
      generalize hh0 : (H.getD (5 * k) 0) = h0 at y0
      generalize hh1 : (H.getD (5 * k + 1) 0) = h1 at y1
      generalize hh2 : (H.getD (5 * k + 2) 0) = h2 at y2
      generalize hh3 : (H.getD (5 * k + 3) 0) = h3 at y3
      generalize hh4 : (H.getD (5 * k + 4) 0) = h4 at y4
      have HHS := hide (And.intro hh0 (And.intro hh1 (And.intro hh2 (And.intro hh3 hh4))))
      clear hh0 hh1 hh2 hh3 hh4
      go_upto_region 7 with (fail)
      refine at_world (fun W => ∃ b7, b7 = wr.heap.size ∧ Below wr.heap.size wr W ∧ Blk W b7 22 #[.int .u8 (h0.toNat : Int), .int .u8 (h1.toNat : Int), .int .u8 (h2.toNat : Int), .int .u8 (h3.toNat : Int), .int .u8 (h4.toNat : Int)]) ⟨_, rfl, (Below.refl _ _).alloc (Nat.le_refl _) _, Blk.new _ _ _⟩ (fun w4 h4 => ?_)
      obtain ⟨b7, e7, hb4, hk7⟩ := h4
      rw [← e7]
      have z0 := hk7.cell 0
      have z1 := hk7.cell 1
      have z2 := hk7.cell 2
      have z3 := hk7.cell 3
      have z4 := hk7.cell 4
      have zl := hk7.lt
      have HB4 := hide hb4
      clear e7 hb4 hk7 y0 y1 y2 y3 y4 xl
      obtain ⟨a0, ha0⟩ : ∃ a0, a0 = h0.toNat % 60 := ⟨_, rfl⟩
      have fa0 : (h0.toNat : Int).tmod 60 = (a0 : Int) := by rw [IntWalk.rem_in _ _ (by omega)]; omega
      have fb0 : IntKind.i64.wrap (a0 : Int) = (a0 : Int) := IntWalk.i64_in _ (by omega)
      obtain ⟨a1, ha1⟩ : ∃ a1, a1 = h1.toNat % 12 := ⟨_, rfl⟩
      have fa1 : (h1.toNat : Int).tmod 12 = (a1 : Int) := by rw [IntWalk.rem_in _ _ (by omega)]; omega
      have fb1 : IntKind.i64.wrap (a1 : Int) = (a1 : Int) := IntWalk.i64_in _ (by omega)
      obtain ⟨a2, ha2⟩ : ∃ a2, a2 = h2.toNat % 40 := ⟨_, rfl⟩
      have fa2 : (h2.toNat : Int).tmod 40 = (a2 : Int) := by rw [IntWalk.rem_in _ _ (by omega)]; omega
      have fb2 : IntKind.i64.wrap (a2 : Int) = (a2 : Int) := IntWalk.i64_in _ (by omega)
      obtain ⟨a3, ha3⟩ : ∃ a3, a3 = h3.toNat % 6 := ⟨_, rfl⟩
      have fa3 : (h3.toNat : Int).tmod 6 = (a3 : Int) := by rw [IntWalk.rem_in _ _ (by omega)]; omega
      have fb3 : IntKind.i64.wrap (a3 : Int) = (a3 : Int) := IntWalk.i64_in _ (by omega)
      obtain ⟨a4, ha4⟩ : ∃ a4, a4 = h4.toNat % 14 := ⟨_, rfl⟩
      have fa4 : (h4.toNat : Int).tmod 14 = (a4 : Int) := by rw [IntWalk.rem_in _ _ (by omega)]; omega
      have fb4 : IntKind.i64.wrap (a4 : Int) = (a4 : Int) := IntWalk.i64_in _ (by omega)
      have fc0 : IntKind.i64.wrap (8 + (a0 : Int)) = 8 + (a0 : Int) := IntWalk.i64_in _ (by omega)
      have fc1 : IntKind.i64.wrap (2 * (a1 : Int)) = 2 * (a1 : Int) := IntWalk.i64_in _ (by omega)
      have fd1 : IntKind.i64.wrap (8 + 2 * (a1 : Int)) = 8 + 2 * (a1 : Int) := IntWalk.i64_in _ (by omega)
      have fc2 : IntKind.i64.wrap (4 + (a2 : Int)) = 4 + (a2 : Int) := IntWalk.i64_in _ (by omega)
      have fc3 : IntKind.i64.wrap (1 + (a3 : Int)) = 1 + (a3 : Int) := IntWalk.i64_in _ (by omega)
      have fc4 : IntKind.i64.wrap (2 + (a4 : Int)) = 2 + (a4 : Int) := IntWalk.i64_in _ (by omega)
      have fM : IntKind.i64.wrap ((M : Int) - 1) = (M : Int) - 1 := IntWalk.i64_in _ (by omega)
      have HA := hide (And.intro ha0 (And.intro ha1 (And.intro ha2 (And.intro ha3 ha4))))
      clear ha0 ha1 ha2 ha3 ha4
      go_cut [8] from 29 to 65 (fun x8 wc => ∃ g8, x8 = .pointer (some ⟨g8, 0, none⟩) ∧ Below w4.heap.size w4 wc ∧ w4.heap.size ≤ g8 ∧ Blk wc g8 41 #[.string ⟨(szName k).toArray⟩, .int .u8 ((szLev k).toNat : Int), .int .u16 ((szCat k).toNat : Int), .int .i64 (8 + (a0 : Int)), .int .i64 (8 + 2 * (a1 : Int)), .int .i64 (4 + (a2 : Int)), .int .i64 (1 + (a3 : Int)), .int .i64 (2 + (a4 : Int)), .int .i64 ((M : Int) - 1)])
      case first =>
        refine wp_region_tree (.q 1 (.q 5 (.q 8 (.q 9 (.q 10 (.q 11 (.q 12 (.q 13 (.q 14 (.q 15 (.q 16 (.q 17 (.q 18 (.q 19 (.q 20 (.q 21 (.q 22 (.q 23 (.q 24 (.q 25 (.q 26 (.q 27 (.q 28 (.q 29 (.q 30 (.q 31 (.q 32 (.q 33 (.q 34 (.q 35 (.br 0 (.q 2 (.q 3 (.br 4 (.q 6 (.q 7 (.q 36 (.x 37 (.x 38 .nil))))) 37 (.x 4 (.q 6 (.q 7 (.q 36 (.x 38 .nil)))))))) 37 (.x 0 (.q 2 (.q 3 (.x 4 (.q 6 (.q 7 (.q 36 (.x 38 .nil))))))))))))))))))))))))))))))))))))))) (Below w4.heap.size w4) (by kernel_rfl) (by kernel_rfl) (Below.refl _ _).drew ?_
        iterate 30 (refine wpT_q (v := ?_) (by simp only [List.getElem?_toArray, List.getElem?_cons_succ, List.getElem?_cons_zero]; try rfl) (by rfl) (fun W hW => ?_) ?_; rotate_left; (focus ((obtain ⟨hWc, hWf⟩ := bcell hW); go_simp; try with_reducible rfl)); try simp only [Act.put, List.setIfInBounds_toArray, List.set_cons_zero, List.set_cons_succ])
        refine at_world (fun W => Below w4.heap.size w4 W) (Below.refl _ _).drew (fun w20 hbx => ?_)
        have Bw20 := hide hbx
        clear hbx
        refine wpT_br ?_ ?_
        · refine wpT_x (by simp only [List.getElem?_toArray, List.getElem?_cons_succ, List.getElem?_cons_zero]; try rfl) (by rfl) (fun K hK => ?_)
          go_simp
          refine (names_ok _).mono ?_
          rintro e w21 ⟨g29, hge, rfl, hbx, hgl, hcell⟩
          have hN := hcell k _ (szNames_at hk5)
          have Bw21 := hide (Bw20.out.trans (hbx.mono Bw20.out.size))
          have Nw21 : Hid (w21.cell? ⟨g29, k, none⟩ = some (.string ⟨(szName k).toArray⟩)) := hide hN; have G29w21 := hide hgl
          refine hK (fun W => Below w4.heap.size w4 W ∧ W.cell? ⟨g29, k, none⟩ = some (.string ⟨(szName k).toArray⟩)) _ _ (fun _ h => h.1) ⟨Bw21.out, hN⟩ ?_
          clear hK K hbx hcell hN hge; try simp only [Act.put, List.setIfInBounds_toArray, List.set_cons_zero, List.set_cons_succ]
          iterate 2 (refine wpT_q (v := ?_) (by simp only [List.getElem?_toArray, List.getElem?_cons_succ, List.getElem?_cons_zero]; try rfl) (by rfl) (fun W hW => ?_) ?_; rotate_left; (focus ((obtain ⟨hWB, hW1⟩ := hW; obtain ⟨hWc, hWf⟩ := bcell hWB); go_simp; try with_reducible rfl)); try simp only [Act.put, List.setIfInBounds_toArray, List.set_cons_zero, List.set_cons_succ])
          refine wpT_br ?_ ?_
          · refine wpT_x (by simp only [List.getElem?_toArray, List.getElem?_cons_succ, List.getElem?_cons_zero]; try rfl) (by rfl) (fun K hK => ?_)
            go_simp
            refine (labels_ok _).mono ?_
            rintro e w22 ⟨g33, hge, rfl, hbx, hgl, hcell⟩
            have hL1 := hcell _ _ (szLabels_at hk5).1
            have hL2 := hcell _ _ (szLabels_at hk5).2
            have Bw22 := hide (Bw21.out.trans (hbx.mono Bw21.out.size))
            have Nw22 : Hid (w22.cell? ⟨g29, k, none⟩ = some (.string ⟨(szName k).toArray⟩)) := hide ((hbx.cell (p := ⟨g29, k, none⟩) G29w21.out).trans Nw21.out); have G29w22 := hide (Nat.lt_of_lt_of_le G29w21.out hbx.size)
            have Lw22 : Hid (w22.cell? ⟨g33, k * 2, none⟩ = some (.int .u8 ((szLev k).toNat : Int)) ∧ w22.cell? ⟨g33, k * 2 + 1, none⟩ = some (.int .u16 ((szCat k).toNat : Int))) := hide ⟨hL1, hL2⟩; have G33w22 := hide hgl
            refine hK (fun W => Below w4.heap.size w4 W ∧ W.cell? ⟨g29, k, none⟩ = some (.string ⟨(szName k).toArray⟩) ∧ W.cell? ⟨g33, k * 2, none⟩ = some (.int .u8 ((szLev k).toNat : Int)) ∧ W.cell? ⟨g33, k * 2 + 1, none⟩ = some (.int .u16 ((szCat k).toNat : Int))) _ _ (fun _ h => ⟨h.1, h.2.1⟩) ⟨Bw22.out, Nw22.out, hL1, hL2⟩ ?_
            clear hK K hbx hcell hL1 hL2 hge; try simp only [Act.put, List.setIfInBounds_toArray, List.set_cons_zero, List.set_cons_succ]
            iterate 3 (refine wpT_q (v := ?_) (by simp only [List.getElem?_toArray, List.getElem?_cons_succ, List.getElem?_cons_zero]; try rfl) (by rfl) (fun W hW => ?_) ?_; rotate_left; (focus ((obtain ⟨hWB, hW1, hW2, hW3⟩ := hW; obtain ⟨hWc, hWf⟩ := bcell hWB); go_simp; try with_reducible rfl)); try simp only [Act.put, List.setIfInBounds_toArray, List.set_cons_zero, List.set_cons_succ])
            refine wpT_x (by simp only [List.getElem?_toArray, List.getElem?_cons_succ, List.getElem?_cons_zero]; try rfl) (by rfl) (fun K hK => ?_)
            go_simp
            have hbx : Below w22.heap.size w22 (w22.alloc (.cells #[.string ByteArray.empty, .int .u8 0, .int .u16 0, .int .i64 0, .int .i64 0, .int .i64 0, .int .i64 0, .int .i64 0, .int .i64 0] 41)) := (Below.refl _ _).alloc (Nat.le_refl _) _
            refine hK (fun W => Below w4.heap.size w4 W ∧ W.cell? ⟨g29, k, none⟩ = some (.string ⟨(szName k).toArray⟩) ∧ W.cell? ⟨g33, k * 2, none⟩ = some (.int .u8 ((szLev k).toNat : Int)) ∧ W.cell? ⟨g33, k * 2 + 1, none⟩ = some (.int .u16 ((szCat k).toNat : Int))) _ _ (fun _ h => h) ⟨Bw22.out.trans (hbx.mono Bw22.out.size), (hbx.cell (p := ⟨g29, k, none⟩) G29w22.out).trans Nw22.out, (hbx.cell (p := ⟨g33, k * 2, none⟩) G33w22.out).trans Lw22.out.1, (hbx.cell (p := ⟨g33, k * 2 + 1, none⟩) G33w22.out).trans Lw22.out.2⟩ ?_
            clear hK K hbx; try simp only [Act.put, List.setIfInBounds_toArray, List.set_cons_zero, List.set_cons_succ]
            refine at_world (fun W => ∃ g8, g8 = w22.heap.size ∧ Below w22.heap.size w22 W ∧ Blk W g8 41 #[.string ByteArray.empty, .int .u8 0, .int .u16 0, .int .i64 0, .int .i64 0, .int .i64 0, .int .i64 0, .int .i64 0, .int .i64 0]) ⟨_, rfl, (Below.refl _ _).alloc (Nat.le_refl _) _, Blk.new _ _ _⟩ (fun w23 h9 => ?_)
            obtain ⟨g8, e8, hbx, hk8⟩ := h9
            rw [← e8]
            have Bw23 := hide (Bw22.out.trans (hbx.mono Bw22.out.size))
            have Nw23 : Hid (w23.cell? ⟨g29, k, none⟩ = some (.string ⟨(szName k).toArray⟩)) := hide ((hbx.cell (p := ⟨g29, k, none⟩) G29w22.out).trans Nw22.out); have G29w23 := hide (Nat.lt_of_lt_of_le G29w22.out hbx.size)
            have Lw23 : Hid (w23.cell? ⟨g33, k * 2, none⟩ = some (.int .u8 ((szLev k).toNat : Int)) ∧ w23.cell? ⟨g33, k * 2 + 1, none⟩ = some (.int .u16 ((szCat k).toNat : Int))) := hide ⟨(hbx.cell (p := ⟨g33, k * 2, none⟩) G33w22.out).trans Lw22.out.1, (hbx.cell (p := ⟨g33, k * 2 + 1, none⟩) G33w22.out).trans Lw22.out.2⟩; have G33w23 := hide (Nat.lt_of_lt_of_le G33w22.out hbx.size)
            have Kw23 := hide hk8
            have hg8 : w4.heap.size ≤ g8 := by rw [e8]; exact Bw22.out.size
            have ne29 : g8 ≠ g29 := by have := G29w22.out; omega
            have ne33 : g8 ≠ g33 := by have := G33w22.out; omega
            clear hbx hk8 e8
            refine wpT_x (by simp only [List.getElem?_toArray, List.getElem?_cons_succ, List.getElem?_cons_zero]; try rfl) (by rfl) (fun K hK => ?_)
            refine wp_store_row 41 (.tmp 8) (.tmp 65) (by rfl) g8 #[.string ⟨(szName k).toArray⟩, .int .u8 ((szLev k).toNat : Int), .int .u16 ((szCat k).toNat : Int), .int .i64 (8 + (a0 : Int)), .int .i64 (8 + 2 * (a1 : Int)), .int .i64 (4 + (a2 : Int)), .int .i64 (1 + (a3 : Int)), .int .i64 (2 + (a4 : Int)), .int .i64 ((M : Int) - 1)] (by rfl) (by rfl) 41 _ Kw23.out (by kernel_rfl) (by rfl) (by simp [Value.oneCell']) ?_
            refine hK (fun W => Below w4.heap.size w4 W ∧ W.cell? ⟨g29, k, none⟩ = some (.string ⟨(szName k).toArray⟩) ∧ W.cell? ⟨g33, k * 2, none⟩ = some (.int .u8 ((szLev k).toNat : Int)) ∧ W.cell? ⟨g33, k * 2 + 1, none⟩ = some (.int .u16 ((szCat k).toNat : Int))) _ _ (fun _ h => h) ⟨below_setRow Bw23.out hg8 _, (World.cell?_of_block (a := ⟨g29, k, none⟩) (setRow_other _ g8 g29 _ (fun e => ne29 e.symm))).trans Nw23.out, (World.cell?_of_block (a := ⟨g33, k * 2, none⟩) (setRow_other _ g8 g33 _ (fun e => ne33 e.symm))).trans Lw23.out.1, (World.cell?_of_block (a := ⟨g33, k * 2 + 1, none⟩) (setRow_other _ g8 g33 _ (fun e => ne33 e.symm))).trans Lw23.out.2⟩ ?_
            clear hK K; try simp only [Act.put, List.setIfInBounds_toArray, List.set_cons_zero, List.set_cons_succ]
            refine wpT_nil ?_
            go_wp2
            go_meet
            case rel => exact ⟨g8, rfl, below_setRow Bw23.out hg8 _, hg8, setRow_heap _ _ _ _ _ _ Kw23.out⟩
          · refine wpT_x (by simp only [List.getElem?_toArray, List.getElem?_cons_succ, List.getElem?_cons_zero]; try rfl) (by rfl) (fun K hK => ?_)
            go_simp
            have hbx : Below w21.heap.size w21 (w21.alloc (.cells #[.string ByteArray.empty, .int .u8 0, .int .u16 0, .int .i64 0, .int .i64 0, .int .i64 0, .int .i64 0, .int .i64 0, .int .i64 0] 41)) := (Below.refl _ _).alloc (Nat.le_refl _) _
            refine hK (fun W => Below w4.heap.size w4 W ∧ W.cell? ⟨g29, k, none⟩ = some (.string ⟨(szName k).toArray⟩)) _ _ (fun _ h => h) ⟨Bw21.out.trans (hbx.mono Bw21.out.size), (hbx.cell (p := ⟨g29, k, none⟩) G29w21.out).trans Nw21.out⟩ ?_
            clear hK K hbx; try simp only [Act.put, List.setIfInBounds_toArray, List.set_cons_zero, List.set_cons_succ]
            refine at_world (fun W => ∃ g8, g8 = w21.heap.size ∧ Below w21.heap.size w21 W ∧ Blk W g8 41 #[.string ByteArray.empty, .int .u8 0, .int .u16 0, .int .i64 0, .int .i64 0, .int .i64 0, .int .i64 0, .int .i64 0, .int .i64 0]) ⟨_, rfl, (Below.refl _ _).alloc (Nat.le_refl _) _, Blk.new _ _ _⟩ (fun w22 h9 => ?_)
            obtain ⟨g8, e8, hbx, hk8⟩ := h9
            rw [← e8]
            have Bw22 := hide (Bw21.out.trans (hbx.mono Bw21.out.size))
            have Nw22 : Hid (w22.cell? ⟨g29, k, none⟩ = some (.string ⟨(szName k).toArray⟩)) := hide ((hbx.cell (p := ⟨g29, k, none⟩) G29w21.out).trans Nw21.out); have G29w22 := hide (Nat.lt_of_lt_of_le G29w21.out hbx.size)
            have Kw22 := hide hk8
            have hg8 : w4.heap.size ≤ g8 := by rw [e8]; exact Bw21.out.size
            have ne29 : g8 ≠ g29 := by have := G29w21.out; omega
            clear hbx hk8 e8
            refine wpT_x (by simp only [List.getElem?_toArray, List.getElem?_cons_succ, List.getElem?_cons_zero]; try rfl) (by rfl) (fun K hK => ?_)
            go_simp
            refine (labels_ok _).mono ?_
            rintro e w23 ⟨g33, hge, rfl, hbx, hgl, hcell⟩
            have hL1 := hcell _ _ (szLabels_at hk5).1
            have hL2 := hcell _ _ (szLabels_at hk5).2
            have Bw23 := hide (Bw22.out.trans (hbx.mono Bw22.out.size))
            have Nw23 : Hid (w23.cell? ⟨g29, k, none⟩ = some (.string ⟨(szName k).toArray⟩)) := hide ((hbx.cell (p := ⟨g29, k, none⟩) G29w22.out).trans Nw22.out); have G29w23 := hide (Nat.lt_of_lt_of_le G29w22.out hbx.size)
            have Kw23 := hide (Kw22.out.below hbx Kw22.out.lt)
            have Lw23 : Hid (w23.cell? ⟨g33, k * 2, none⟩ = some (.int .u8 ((szLev k).toNat : Int)) ∧ w23.cell? ⟨g33, k * 2 + 1, none⟩ = some (.int .u16 ((szCat k).toNat : Int))) := hide ⟨hL1, hL2⟩; have G33w23 := hide hgl
            have ne33 : g8 ≠ g33 := by have := Kw22.out.lt; omega
            refine hK (fun W => Below w4.heap.size w4 W ∧ W.cell? ⟨g29, k, none⟩ = some (.string ⟨(szName k).toArray⟩) ∧ W.cell? ⟨g33, k * 2, none⟩ = some (.int .u8 ((szLev k).toNat : Int)) ∧ W.cell? ⟨g33, k * 2 + 1, none⟩ = some (.int .u16 ((szCat k).toNat : Int))) _ _ (fun _ h => ⟨h.1, h.2.1⟩) ⟨Bw23.out, Nw23.out, hL1, hL2⟩ ?_
            clear hK K hbx hcell hL1 hL2 hge; try simp only [Act.put, List.setIfInBounds_toArray, List.set_cons_zero, List.set_cons_succ]
            iterate 3 (refine wpT_q (v := ?_) (by simp only [List.getElem?_toArray, List.getElem?_cons_succ, List.getElem?_cons_zero]; try rfl) (by rfl) (fun W hW => ?_) ?_; rotate_left; (focus ((obtain ⟨hWB, hW1, hW2, hW3⟩ := hW; obtain ⟨hWc, hWf⟩ := bcell hWB); go_simp; try with_reducible rfl)); try simp only [Act.put, List.setIfInBounds_toArray, List.set_cons_zero, List.set_cons_succ])
            refine wpT_x (by simp only [List.getElem?_toArray, List.getElem?_cons_succ, List.getElem?_cons_zero]; try rfl) (by rfl) (fun K hK => ?_)
            refine wp_store_row 41 (.tmp 8) (.tmp 65) (by rfl) g8 #[.string ⟨(szName k).toArray⟩, .int .u8 ((szLev k).toNat : Int), .int .u16 ((szCat k).toNat : Int), .int .i64 (8 + (a0 : Int)), .int .i64 (8 + 2 * (a1 : Int)), .int .i64 (4 + (a2 : Int)), .int .i64 (1 + (a3 : Int)), .int .i64 (2 + (a4 : Int)), .int .i64 ((M : Int) - 1)] (by rfl) (by rfl) 41 _ Kw23.out (by kernel_rfl) (by rfl) (by simp [Value.oneCell']) ?_
            refine hK (fun W => Below w4.heap.size w4 W ∧ W.cell? ⟨g29, k, none⟩ = some (.string ⟨(szName k).toArray⟩) ∧ W.cell? ⟨g33, k * 2, none⟩ = some (.int .u8 ((szLev k).toNat : Int)) ∧ W.cell? ⟨g33, k * 2 + 1, none⟩ = some (.int .u16 ((szCat k).toNat : Int))) _ _ (fun _ h => h) ⟨below_setRow Bw23.out hg8 _, (World.cell?_of_block (a := ⟨g29, k, none⟩) (setRow_other _ g8 g29 _ (fun e => ne29 e.symm))).trans Nw23.out, (World.cell?_of_block (a := ⟨g33, k * 2, none⟩) (setRow_other _ g8 g33 _ (fun e => ne33 e.symm))).trans Lw23.out.1, (World.cell?_of_block (a := ⟨g33, k * 2 + 1, none⟩) (setRow_other _ g8 g33 _ (fun e => ne33 e.symm))).trans Lw23.out.2⟩ ?_
            clear hK K; try simp only [Act.put, List.setIfInBounds_toArray, List.set_cons_zero, List.set_cons_succ]
            refine wpT_nil ?_
            go_wp2
            go_meet
            case rel => exact ⟨g8, rfl, below_setRow Bw23.out hg8 _, hg8, setRow_heap _ _ _ _ _ _ Kw23.out⟩
        · refine wpT_x (by simp only [List.getElem?_toArray, List.getElem?_cons_succ, List.getElem?_cons_zero]; try rfl) (by rfl) (fun K hK => ?_)
          go_simp
          have hbx : Below w20.heap.size w20 (w20.alloc (.cells #[.string ByteArray.empty, .int .u8 0, .int .u16 0, .int .i64 0, .int .i64 0, .int .i64 0, .int .i64 0, .int .i64 0, .int .i64 0] 41)) := (Below.refl _ _).alloc (Nat.le_refl _) _
          refine hK (fun W => Below w4.heap.size w4 W) _ _ (fun _ h => h) (Bw20.out.trans (hbx.mono Bw20.out.size)) ?_
          clear hK K hbx; try simp only [Act.put, List.setIfInBounds_toArray, List.set_cons_zero, List.set_cons_succ]
          refine at_world (fun W => ∃ g8, g8 = w20.heap.size ∧ Below w20.heap.size w20 W ∧ Blk W g8 41 #[.string ByteArray.empty, .int .u8 0, .int .u16 0, .int .i64 0, .int .i64 0, .int .i64 0, .int .i64 0, .int .i64 0, .int .i64 0]) ⟨_, rfl, (Below.refl _ _).alloc (Nat.le_refl _) _, Blk.new _ _ _⟩ (fun w21 h9 => ?_)
          obtain ⟨g8, e8, hbx, hk8⟩ := h9
          rw [← e8]
          have Bw21 := hide (Bw20.out.trans (hbx.mono Bw20.out.size))
          have Kw21 := hide hk8
          have hg8 : w4.heap.size ≤ g8 := by rw [e8]; exact Bw20.out.size
          clear hbx hk8 e8
          refine wpT_x (by simp only [List.getElem?_toArray, List.getElem?_cons_succ, List.getElem?_cons_zero]; try rfl) (by rfl) (fun K hK => ?_)
          go_simp
          refine (names_ok _).mono ?_
          rintro e w22 ⟨g29, hge, rfl, hbx, hgl, hcell⟩
          have hN := hcell k _ (szNames_at hk5)
          have Bw22 := hide (Bw21.out.trans (hbx.mono Bw21.out.size))
          have Kw22 := hide (Kw21.out.below hbx Kw21.out.lt)
          have Nw22 : Hid (w22.cell? ⟨g29, k, none⟩ = some (.string ⟨(szName k).toArray⟩)) := hide hN; have G29w22 := hide hgl
          have ne29 : g8 ≠ g29 := by have := Kw21.out.lt; omega
          refine hK (fun W => Below w4.heap.size w4 W ∧ W.cell? ⟨g29, k, none⟩ = some (.string ⟨(szName k).toArray⟩)) _ _ (fun _ h => h.1) ⟨Bw22.out, hN⟩ ?_
          clear hK K hbx hcell hN hge; try simp only [Act.put, List.setIfInBounds_toArray, List.set_cons_zero, List.set_cons_succ]
          iterate 2 (refine wpT_q (v := ?_) (by simp only [List.getElem?_toArray, List.getElem?_cons_succ, List.getElem?_cons_zero]; try rfl) (by rfl) (fun W hW => ?_) ?_; rotate_left; (focus ((obtain ⟨hWB, hW1⟩ := hW; obtain ⟨hWc, hWf⟩ := bcell hWB); go_simp; try with_reducible rfl)); try simp only [Act.put, List.setIfInBounds_toArray, List.set_cons_zero, List.set_cons_succ])
          refine wpT_x (by simp only [List.getElem?_toArray, List.getElem?_cons_succ, List.getElem?_cons_zero]; try rfl) (by rfl) (fun K hK => ?_)
          go_simp
          refine (labels_ok _).mono ?_
          rintro e w23 ⟨g33, hge, rfl, hbx, hgl, hcell⟩
          have hL1 := hcell _ _ (szLabels_at hk5).1
          have hL2 := hcell _ _ (szLabels_at hk5).2
          have Bw23 := hide (Bw22.out.trans (hbx.mono Bw22.out.size))
          have Nw23 : Hid (w23.cell? ⟨g29, k, none⟩ = some (.string ⟨(szName k).toArray⟩)) := hide ((hbx.cell (p := ⟨g29, k, none⟩) G29w22.out).trans Nw22.out); have G29w23 := hide (Nat.lt_of_lt_of_le G29w22.out hbx.size)
          have Kw23 := hide (Kw22.out.below hbx Kw22.out.lt)
          have Lw23 : Hid (w23.cell? ⟨g33, k * 2, none⟩ = some (.int .u8 ((szLev k).toNat : Int)) ∧ w23.cell? ⟨g33, k * 2 + 1, none⟩ = some (.int .u16 ((szCat k).toNat : Int))) := hide ⟨hL1, hL2⟩; have G33w23 := hide hgl
          have ne33 : g8 ≠ g33 := by have := Kw22.out.lt; omega
          refine hK (fun W => Below w4.heap.size w4 W ∧ W.cell? ⟨g29, k, none⟩ = some (.string ⟨(szName k).toArray⟩) ∧ W.cell? ⟨g33, k * 2, none⟩ = some (.int .u8 ((szLev k).toNat : Int)) ∧ W.cell? ⟨g33, k * 2 + 1, none⟩ = some (.int .u16 ((szCat k).toNat : Int))) _ _ (fun _ h => ⟨h.1, h.2.1⟩) ⟨Bw23.out, Nw23.out, hL1, hL2⟩ ?_
          clear hK K hbx hcell hL1 hL2 hge; try simp only [Act.put, List.setIfInBounds_toArray, List.set_cons_zero, List.set_cons_succ]
          iterate 3 (refine wpT_q (v := ?_) (by simp only [List.getElem?_toArray, List.getElem?_cons_succ, List.getElem?_cons_zero]; try rfl) (by rfl) (fun W hW => ?_) ?_; rotate_left; (focus ((obtain ⟨hWB, hW1, hW2, hW3⟩ := hW; obtain ⟨hWc, hWf⟩ := bcell hWB); go_simp; try with_reducible rfl)); try simp only [Act.put, List.setIfInBounds_toArray, List.set_cons_zero, List.set_cons_succ])
          refine wpT_x (by simp only [List.getElem?_toArray, List.getElem?_cons_succ, List.getElem?_cons_zero]; try rfl) (by rfl) (fun K hK => ?_)
          refine wp_store_row 41 (.tmp 8) (.tmp 65) (by rfl) g8 #[.string ⟨(szName k).toArray⟩, .int .u8 ((szLev k).toNat : Int), .int .u16 ((szCat k).toNat : Int), .int .i64 (8 + (a0 : Int)), .int .i64 (8 + 2 * (a1 : Int)), .int .i64 (4 + (a2 : Int)), .int .i64 (1 + (a3 : Int)), .int .i64 (2 + (a4 : Int)), .int .i64 ((M : Int) - 1)] (by rfl) (by rfl) 41 _ Kw23.out (by kernel_rfl) (by rfl) (by simp [Value.oneCell']) ?_
          refine hK (fun W => Below w4.heap.size w4 W ∧ W.cell? ⟨g29, k, none⟩ = some (.string ⟨(szName k).toArray⟩) ∧ W.cell? ⟨g33, k * 2, none⟩ = some (.int .u8 ((szLev k).toNat : Int)) ∧ W.cell? ⟨g33, k * 2 + 1, none⟩ = some (.int .u16 ((szCat k).toNat : Int))) _ _ (fun _ h => h) ⟨below_setRow Bw23.out hg8 _, (World.cell?_of_block (a := ⟨g29, k, none⟩) (setRow_other _ g8 g29 _ (fun e => ne29 e.symm))).trans Nw23.out, (World.cell?_of_block (a := ⟨g33, k * 2, none⟩) (setRow_other _ g8 g33 _ (fun e => ne33 e.symm))).trans Lw23.out.1, (World.cell?_of_block (a := ⟨g33, k * 2 + 1, none⟩) (setRow_other _ g8 g33 _ (fun e => ne33 e.symm))).trans Lw23.out.2⟩ ?_
          clear hK K; try simp only [Act.put, List.setIfInBounds_toArray, List.set_cons_zero, List.set_cons_succ]
          refine wpT_nil ?_
          go_wp2
          go_meet
          case rel => exact ⟨g8, rfl, below_setRow Bw23.out hg8 _, hg8, setRow_heap _ _ _ _ _ _ Kw23.out⟩
      case rest =>
        obtain ⟨g8, rfl, hbc, hg8, hk8⟩ := hcut
        clear z0 z1 z2 z3 z4 zl fa0 fa1 fa2 fa3 fa4 fb0 fb1 fb2 fb3 fb4 fc0 fc1 fd1 fc2 fc3 fc4 fM
        have B8 := hide (Below.then_ HB4.out HB4.out.size hbc)
        have hrow := own_below HOR.out B8.out
        have hnob : (Value.slice Ak k ck).ownBlock ≠ some g8 := fun e => by have := (own_block_ge HOR.out e).2; have := HB4.out.size; omega
        have c0 := hk8.cell 0
        have c1 := hk8.cell 1
        have c2 := hk8.cell 2
        have c3 := hk8.cell 3
        have c4 := hk8.cell 4
        have c5 := hk8.cell 5
        have c6 := hk8.cell 6
        have c7 := hk8.cell 7
        have c8 := hk8.cell 8
        have f8 := hk8.frozen 8
        have l8 := hk8.lt
        have HROW := hide hrow
        have HNOB := hide hnob
        have hg8w : wr.heap.size ≤ g8 := Nat.le_trans HB4.out.size hg8
        have hBW := HBR.out.size
        clear hbc hk8 hrow hnob
        obtain ⟨r0, hr0, r1, r2, r3⟩ := info_parts info_reg
        have HCELLS : Hid ((szReg0 M H k).cells = (#[.string ⟨(szName k).toArray⟩, .int .u8 ((szLev k).toNat : Int), .int .u16 ((szCat k).toNat : Int), .int .i64 (8 + (a0 : Int)), .int .i64 (8 + 2 * (a1 : Int)), .int .i64 (4 + (a2 : Int)), .int .i64 (1 + (a3 : Int)), .int .i64 (2 + (a4 : Int)), .int .i64 ((szClear0 M k : Nat) : Int)] : Array Value).toList) := by
          obtain ⟨ha0, ha1, ha2, ha3, ha4⟩ := HA.out
          obtain ⟨hh0, hh1, hh2, hh3, hh4⟩ := HHS.out
          have e0 : (h0.toNat : Int) % 60 = (a0 : Int) := by omega
          have e1 : (h1.toNat : Int) % 12 = (a1 : Int) := by omega
          have e2 : (h2.toNat : Int) % 40 = (a2 : Int) := by omega
          have e3 : (h3.toNat : Int) % 6 = (a3 : Int) := by omega
          have e4 : (h4.toNat : Int) % 14 = (a4 : Int) := by omega
          simp only [RegV.cells, szReg0, szReg, hh0, hh1, hh2, hh3, hh4, e0, e1, e2, e3, e4]
          exact hide trivial
        by_cases m4 : M < 4
        · by_cases k0 : 0 < k
          · by_cases m2 : M = 2
            · have u1 : decide ((M : Int) < 4) = true := by simp; omega
              have u1' : (M : Int) < 4 := by omega
              have u2 : decide ((0 : Int) < (k : Int)) = true := by simp; omega
              have u2' : 0 < k := by omega
              have u3 : ((M : Int) == 2) = true := by simp; omega
              have HM2 := hide m2
              clear m2
              have hown9 := hide (ownsRow_setCell_other (a := ⟨g8, 8, none⟩) (ownsRow_setCell_other (a := ⟨g8, 8, none⟩) HROW.out HNOB.out (.int .i64 (k : Int))) HNOB.out (.int .i64 1))
              have hb9 := hide ((B8.out.setCell (p := ⟨g8, 8, none⟩) hg8w (.int .i64 (k : Int))).setCell (p := ⟨g8, 8, none⟩) hg8w (.int .i64 1))
              go_wp2_with (at_builtin; refine wpList_append_one rfl (.tmp 77) (.tmp 79) 75 rfl w1.heap.size 41 r0 (.agg #[.string ByteArray.empty, .int .u8 0, .int .u16 0, .int .i64 0, .int .i64 0, .int .i64 0, .int .i64 0, .int .i64 0, .int .i64 0]) 9 72 Tryz.underlying75 hr0 r1 r2 r3 rfl (by decide) Ak ck k (rcellsOf ((List.range k).map (szReg0 M H))) (#[.string ⟨(szName k).toArray⟩, .int .u8 ((szLev k).toNat : Int), .int .u16 ((szCat k).toNat : Int), .int .i64 (8 + (a0 : Int)), .int .i64 (8 + 2 * (a1 : Int)), .int .i64 (4 + (a2 : Int)), .int .i64 (1 + (a3 : Int)), .int .i64 (2 + (a4 : Int)), .int .i64 1]).toList ((wc.setCell ⟨g8, 8, none⟩ (.int .i64 (k : Int))).setCell ⟨g8, 8, none⟩ (.int .i64 1)) rfl hown9.out (by simp [World.setCell]) (by simp [Act.eval]) rfl (by simp [Value.oneCell']) (by omega) (by decide) (by first | exact Nat.le_trans hBW hb9.out.size | omega) ?_; intro A' c' w9 hown hg hb hat)
              go_roundg (M - (k + 1))
              case measure => omega
              case rel =>
                have hcl : ((szClear0 M k : Nat) : Int) = 1 := by unfold szClear0; rw [if_pos HM2.out]; rfl
                have hrw := HCELLS.out
                rw [hcl] at hrw
                refine ⟨k + 1, A', c', by omega, rfl, by go_num, rfl, HBR.out.trans ((hb9.out.mono hBW).trans hb), ?_⟩
                rw [List.range_succ, List.map_append, List.map_singleton, rcellsOf_snoc, hrw]
                exact hown
            · have u1 : decide ((M : Int) < 4) = true := by simp; omega
              have u1' : (M : Int) < 4 := by omega
              have u2 : decide ((0 : Int) < (k : Int)) = true := by simp; omega
              have u2' : 0 < k := by omega
              have u3 : ((M : Int) == 2) = false := by simp; omega
              have hown9 := hide (ownsRow_setCell_other (a := ⟨g8, 8, none⟩) HROW.out HNOB.out (.int .i64 (k : Int)))
              have hb9 := hide (B8.out.setCell (p := ⟨g8, 8, none⟩) hg8w (.int .i64 (k : Int)))
              go_wp2_with (at_builtin; refine wpList_append_one rfl (.tmp 77) (.tmp 79) 75 rfl w1.heap.size 41 r0 (.agg #[.string ByteArray.empty, .int .u8 0, .int .u16 0, .int .i64 0, .int .i64 0, .int .i64 0, .int .i64 0, .int .i64 0, .int .i64 0]) 9 72 Tryz.underlying75 hr0 r1 r2 r3 rfl (by decide) Ak ck k (rcellsOf ((List.range k).map (szReg0 M H))) (#[.string ⟨(szName k).toArray⟩, .int .u8 ((szLev k).toNat : Int), .int .u16 ((szCat k).toNat : Int), .int .i64 (8 + (a0 : Int)), .int .i64 (8 + 2 * (a1 : Int)), .int .i64 (4 + (a2 : Int)), .int .i64 (1 + (a3 : Int)), .int .i64 (2 + (a4 : Int)), .int .i64 (k : Int)]).toList (wc.setCell ⟨g8, 8, none⟩ (.int .i64 (k : Int))) rfl hown9.out (by simp [World.setCell]) (by simp [Act.eval]) rfl (by simp [Value.oneCell']) (by omega) (by decide) (by first | exact Nat.le_trans hBW hb9.out.size | omega) ?_; intro A' c' w9 hown hg hb hat)
              go_roundg (M - (k + 1))
              case measure => omega
              case rel =>
                have hcl : ((szClear0 M k : Nat) : Int) = (k : Int) := by unfold szClear0; rw [if_neg m2, if_pos ⟨m4, k0⟩]
                have hrw := HCELLS.out
                rw [hcl] at hrw
                refine ⟨k + 1, A', c', by omega, rfl, by go_num, rfl, HBR.out.trans ((hb9.out.mono hBW).trans hb), ?_⟩
                rw [List.range_succ, List.map_append, List.map_singleton, rcellsOf_snoc, hrw]
                exact hown
          · by_cases m2 : M = 2
            · have u1 : decide ((M : Int) < 4) = true := by simp; omega
              have u1' : (M : Int) < 4 := by omega
              have u2 : decide ((0 : Int) < (k : Int)) = false := by have hk0 : k = 0 := (by omega); rw [hk0]; rfl
              have u2' : ¬ 0 < k := by omega
              have u3 : ((M : Int) == 2) = true := by simp; omega
              have HM2 := hide m2
              clear m2
              have hown9 := hide (ownsRow_setCell_other (a := ⟨g8, 8, none⟩) HROW.out HNOB.out (.int .i64 1))
              have hb9 := hide (B8.out.setCell (p := ⟨g8, 8, none⟩) hg8w (.int .i64 1))
              go_wp2_with (at_builtin; refine wpList_append_one rfl (.tmp 77) (.tmp 79) 75 rfl w1.heap.size 41 r0 (.agg #[.string ByteArray.empty, .int .u8 0, .int .u16 0, .int .i64 0, .int .i64 0, .int .i64 0, .int .i64 0, .int .i64 0, .int .i64 0]) 9 72 Tryz.underlying75 hr0 r1 r2 r3 rfl (by decide) Ak ck k (rcellsOf ((List.range k).map (szReg0 M H))) (#[.string ⟨(szName k).toArray⟩, .int .u8 ((szLev k).toNat : Int), .int .u16 ((szCat k).toNat : Int), .int .i64 (8 + (a0 : Int)), .int .i64 (8 + 2 * (a1 : Int)), .int .i64 (4 + (a2 : Int)), .int .i64 (1 + (a3 : Int)), .int .i64 (2 + (a4 : Int)), .int .i64 1]).toList (wc.setCell ⟨g8, 8, none⟩ (.int .i64 1)) rfl hown9.out (by simp [World.setCell]) (by simp [Act.eval]) rfl (by simp [Value.oneCell']) (by omega) (by decide) (by first | exact Nat.le_trans hBW hb9.out.size | omega) ?_; intro A' c' w9 hown hg hb hat)
              go_roundg (M - (k + 1))
              case measure => omega
              case rel =>
                have hcl : ((szClear0 M k : Nat) : Int) = 1 := by unfold szClear0; rw [if_pos HM2.out]; rfl
                have hrw := HCELLS.out
                rw [hcl] at hrw
                refine ⟨k + 1, A', c', by omega, rfl, by go_num, rfl, HBR.out.trans ((hb9.out.mono hBW).trans hb), ?_⟩
                rw [List.range_succ, List.map_append, List.map_singleton, rcellsOf_snoc, hrw]
                exact hown
            · have u1 : decide ((M : Int) < 4) = true := by simp; omega
              have u1' : (M : Int) < 4 := by omega
              have u2 : decide ((0 : Int) < (k : Int)) = false := by have hk0 : k = 0 := (by omega); rw [hk0]; rfl
              have u2' : ¬ 0 < k := by omega
              have u3 : ((M : Int) == 2) = false := by simp; omega
              have hown9 := hide HROW.out
              have hb9 := hide B8.out
              go_wp2_with (at_builtin; refine wpList_append_one rfl (.tmp 77) (.tmp 79) 75 rfl w1.heap.size 41 r0 (.agg #[.string ByteArray.empty, .int .u8 0, .int .u16 0, .int .i64 0, .int .i64 0, .int .i64 0, .int .i64 0, .int .i64 0, .int .i64 0]) 9 72 Tryz.underlying75 hr0 r1 r2 r3 rfl (by decide) Ak ck k (rcellsOf ((List.range k).map (szReg0 M H))) (#[.string ⟨(szName k).toArray⟩, .int .u8 ((szLev k).toNat : Int), .int .u16 ((szCat k).toNat : Int), .int .i64 (8 + (a0 : Int)), .int .i64 (8 + 2 * (a1 : Int)), .int .i64 (4 + (a2 : Int)), .int .i64 (1 + (a3 : Int)), .int .i64 (2 + (a4 : Int)), .int .i64 ((M : Int) - 1)]).toList wc rfl hown9.out (by simp [World.setCell]) (by simp [Act.eval]) rfl (by simp [Value.oneCell']) (by omega) (by decide) (by first | exact Nat.le_trans hBW hb9.out.size | omega) ?_; intro A' c' w9 hown hg hb hat)
              go_roundg (M - (k + 1))
              case measure => omega
              case rel =>
                have hcl : ((szClear0 M k : Nat) : Int) = ((M : Int) - 1) := by unfold szClear0; rw [if_neg m2, if_neg (by omega)]; omega
                have hrw := HCELLS.out
                rw [hcl] at hrw
                refine ⟨k + 1, A', c', by omega, rfl, by go_num, rfl, HBR.out.trans ((hb9.out.mono hBW).trans hb), ?_⟩
                rw [List.range_succ, List.map_append, List.map_singleton, rcellsOf_snoc, hrw]
                exact hown
        · have m2 : ¬ M = 2 := by omega
          have u1 : decide ((M : Int) < 4) = false := by simp; omega
          have u1' : ¬ (M : Int) < 4 := by omega
          have u3 : ((M : Int) == 2) = false := by simp; omega
          have hown9 := hide HROW.out
          have hb9 := hide B8.out
          go_wp2_with (at_builtin; refine wpList_append_one rfl (.tmp 77) (.tmp 79) 75 rfl w1.heap.size 41 r0 (.agg #[.string ByteArray.empty, .int .u8 0, .int .u16 0, .int .i64 0, .int .i64 0, .int .i64 0, .int .i64 0, .int .i64 0, .int .i64 0]) 9 72 Tryz.underlying75 hr0 r1 r2 r3 rfl (by decide) Ak ck k (rcellsOf ((List.range k).map (szReg0 M H))) (#[.string ⟨(szName k).toArray⟩, .int .u8 ((szLev k).toNat : Int), .int .u16 ((szCat k).toNat : Int), .int .i64 (8 + (a0 : Int)), .int .i64 (8 + 2 * (a1 : Int)), .int .i64 (4 + (a2 : Int)), .int .i64 (1 + (a3 : Int)), .int .i64 (2 + (a4 : Int)), .int .i64 ((M : Int) - 1)]).toList wc rfl hown9.out (by simp [World.setCell]) (by simp [Act.eval]) rfl (by simp [Value.oneCell']) (by omega) (by decide) (by first | exact Nat.le_trans hBW hb9.out.size | omega) ?_; intro A' c' w9 hown hg hb hat)
          go_roundg (M - (k + 1))
          case measure => omega
          case rel =>
            have hcl : ((szClear0 M k : Nat) : Int) = ((M : Int) - 1) := by unfold szClear0; rw [if_neg m2, if_neg (by omega)]; omega
            have hrw := HCELLS.out
            rw [hcl] at hrw
            refine ⟨k + 1, A', c', by omega, rfl, by go_num, rfl, HBR.out.trans ((hb9.out.mono hBW).trans hb), ?_⟩
            rw [List.range_succ, List.map_append, List.map_singleton, rcellsOf_snoc, hrw]
            exact hown
    · obtain rfl : k = M := by omega
      obtain ⟨hbr, hor⟩ := hA.out
      have HX2 := HX1.out.below hbr HX1.out.lt
      have HBR := hide hbr
      have HOR := hide hor
      clear hA hbr hor
      obtain ⟨g5, hA5, hg5b, hg5, hcr5⟩ := own_base HOR.out (by omega)
      have hr0 : ((List.range k).map (szReg0 k H))[0]? = some (szReg0 k H 0) := by rw [List.getElem?_map, List.getElem?_range (by omega)]; rfl
      have y5 := hcr5 _ _ (flat_get RegV.cells 9 (fun _ => rfl) _ 0 _ hr0 8 _ rfl)
      simp only [Nat.zero_mul, Nat.zero_add] at y5
      subst hA5
      have f5 := own_frozen (i := 8) HOR.out
      have hk0z : (0 : Int) < (k : Int) := by omega
      clear hcr5 hr0
      go_upto_if 83 with (fail)
      go_cut [] from 84 to 86 (fun wd => Below w1.heap.size w1 wd ∧ wd.ownsRow w1.heap.size 41 9 (.slice (some ⟨g5, 0, none⟩) k ck) k (rcellsOf ((List.range k).map (szReg k H))))
      case first =>
        by_cases m3 : k = 3
        · have u3 : ((k : Int) == 3) = true := by simp; omega
          go_wp2
          go_meet
          case rel =>
            refine ⟨HBR.out.setCell hg5b _, ?_⟩
            have h2 := own_set (i := 8) (u := .int .i64 1) HOR.out
            subst m3
            rw [show (8 : Nat) = 0 * 9 + 8 from rfl, rcells_set _ 0 (szReg0 3 H 0) 1 rfl, szReg0_three] at h2
            exact h2
        · have u3 : ((k : Int) == 3) = false := by simp; omega
          go_wp2
          go_meet
          case rel => exact ⟨HBR.out, by rw [← szReg0_eq hM2 m3]; exact HOR.out⟩
      case rest =>
        clear y5 f5
        obtain ⟨hbr, hor⟩ := hcut
        have hX := HX1.out.below hbr HX1.out.lt
        have x26 := (hX.cell 26).trans (szCells_trust hH)
        have xl := hX.lt
        have hTn : T.length = n := by have := hT.1; rw [bvs_length] at this; omega
        have HTN := hide hTn
        have HBR2 := hide hbr
        have HOR2 := hide hor
        have HT := hide hT
        clear hX hbr hor hTn hT HBR HOR
        go_wp2_with fail
        go_loopg [9, 90] n (fun g x9 x90 wr => ∃ (i : Nat) (K : List MarkV) (A2 : Option Addr) (c2 : Nat), i ≤ n ∧ g = n - i ∧ x9 = .slice A2 K.length c2 ∧ x90 = .int .i64 (i : Int) ∧ Below w1.heap.size w1 wr ∧
          wr.ownsRow w1.heap.size 41 9 (.slice (some ⟨g5, 0, none⟩) k ck) k (rcellsOf ((List.range k).map (szReg k H))) ∧ wr.ownsRow w1.heap.size 199 2 (.slice A2 K.length c2) K.length (mcellsOf K) ∧ Hid (MarksOk k K ∧ K.length ≤ i))
        case atStart => exact ⟨0, [], none, 0, Nat.zero_le _, rfl, rfl, rfl, HBR2.out, HOR2.out, ⟨rfl, .inl ⟨rfl, rfl⟩⟩, hide ⟨⟨by simp, by simp, by simp⟩, Nat.zero_le _⟩⟩
        case round =>
          obtain ⟨i, K, A2, c2, hi, hg, rfl, rfl, hbr, o1, o2, hK⟩ := hrel
          rcases Nat.lt_or_ge i n with hin | hin
          · have hiz : (i : Int) < n := by omega
            have hbw := HB1.out.trans (hbr.mono HB1.out.size)
            obtain ⟨bt, ot, hA, hbt, hcell⟩ := (HT.out.below hbw).byte hin
            have hbt2 : bt < wr.heap.size := Nat.lt_of_lt_of_le hbt hbw.size
            have jx := hcell i hin
            subst hA
            generalize T.getD i 0 = x at jx
            have hx256 := x.toNat_lt
            obtain ⟨p, hp⟩ : ∃ p, p = x.toNat % k := ⟨_, rfl⟩
            obtain ⟨q, hq⟩ : ∃ q, q = x.toNat / 8 % 4 := ⟨_, rfl⟩
            obtain ⟨r8, hr8⟩ : ∃ r8, r8 = x.toNat / 8 := ⟨_, rfl⟩
            have hpk : p < k := by rw [hp]; exact Nat.mod_lt _ (by omega)
            have hq4 : q < 4 := by rw [hq]; exact Nat.mod_lt _ (by omega)
            have e1 : IntKind.u8.wrap (k : Int) = (k : Int) := by rw [IntKind.wrap_u8]; omega
            have e2 : (x.toNat : Int).tmod (k : Int) = (p : Int) := by rw [IntWalk.rem_in _ _ (by omega), hp]; rfl
            have e3 : ((k : Int) == 0) = false := by simp; omega
            have e4 : (x.toNat : Int).tdiv 8 = (r8 : Int) := by rw [Int.tdiv_eq_ediv_of_nonneg (by omega), hr8]; rfl
            have e5 : (r8 : Int).tmod 4 = (q : Int) := by rw [IntWalk.rem_in _ _ (by omega), hq, ← hr8]; rfl
            have e6 : IntKind.u16.wrap (q : Int) = (q : Int) := by rw [IntKind.wrap_u16]; omega
            have e7 : IntKind.u16.wrap (4 + (q : Int)) = 4 + (q : Int) := by rw [IntKind.wrap_u16]; omega
            have BB := hide hbr
            have O1 := hide o1
            have O2 := hide o2
            have HQ8 : Hid ((r8 : Int) % 4 = (q : Int)) := hide (by rw [hq, ← hr8]; rfl)
            clear hp hq hr8 hbr o1 o2 hcell hbw x26 xl hx256
            go_wp2_with fail
            refine at_world (fun W => ∃ b12, b12 = wr.heap.size ∧ Below wr.heap.size wr W ∧ Blk W b12 199 #[.int .u8 (p : Int), .int .u16 (4 + (q : Int))]) ⟨_, rfl, (Below.refl _ _).alloc (Nat.le_refl _) _, by rw [← HQ8.out]; exact Blk.new _ _ _⟩ (fun w7 h7 => ?_)
            obtain ⟨b12, e12, hb7, hk7⟩ := h7
            rw [← e12]
            have B7 := hide (BB.out.trans (hb7.mono BB.out.size))
            have P1 := hide (own_below O1.out hb7)
            have P2 := hide (own_below O2.out hb7)
            have z0 := hk7.cell 0
            have z1 := hk7.cell 1
            have zl := hk7.lt
            have hpu : (UInt8.ofNat p).toNat = p := by simp; omega
            have hqu : (UInt16.ofNat (4 + q)).toNat = 4 + q := by simp; omega
            obtain ⟨mk, hmk⟩ : ∃ mk : MarkV, mk = (UInt8.ofNat p, UInt16.ofNat (4 + q)) := ⟨_, rfl⟩
            have HPQ := hide (And.intro hpu (And.intro hqu hmk))
            clear hmk
            clear e12 hb7 hk7 jx e1 e2 e3 e4 e5 e6 e7 hbt hbt2 hpu hqu
            have hK9 : K.length ≤ 9 := hK.out.1.2.2
            go_loopg [13, 109] K.length (fun g x13 x109 wr => ∃ (j : Nat) (bb : Bool), j ≤ K.length ∧ g = K.length - j ∧ x13 = .bool bb ∧ x109 = .int .i64 (j : Int) ∧ Below w7.heap.size w7 wr ∧ Hid (bb = (decide (8 < i) || decide (mk ∈ K.take j))))
            case atStart => exact ⟨0, decide (8 < i), Nat.zero_le _, rfl, by congr 1; simp; omega, rfl, Below.refl _ _, hide (by simp)⟩
            case round =>
              obtain ⟨j, bb, hj, hg2, rfl, rfl, hbx, hbb⟩ := hrel
              rcases Nat.lt_or_ge j K.length with hjK | hjK
              · have hjz : (j : Int) < K.length := by omega
                obtain ⟨y, hy⟩ : ∃ y, K[j]? = some y := ⟨_, List.getElem?_eq_getElem hjK⟩
                obtain ⟨g2, hA2, _, hg2l, hcr2⟩ := own_base (own_below P2.out hbx) (by omega)
                have v0 := hcr2 _ _ (flat_get markCells 2 (fun _ => rfl) K j y hy 0 _ rfl)
                have v1 := hcr2 _ _ (flat_get markCells 2 (fun _ => rfl) K j y hy 1 _ rfl)
                simp only [Nat.add_zero] at v0
                have zz0 := (hbx.cell (p := ⟨b12, 0, none⟩) zl).trans z0
                have zz1 := (hbx.cell (p := ⟨b12, 1, none⟩) zl).trans z1
                have zzl := Nat.lt_of_lt_of_le zl hbx.size
                have htk : K.take (j + 1) = K.take j ++ [y] := by rw [List.take_add_one, hy]; rfl
                have HBX3 := hide (hbx.alloc hbx.size (.cells #[.int .u8 (y.1.toNat : Int), .int .u16 (y.2.toNat : Int)] 199))
                have HTK := hide htk
                subst hA2
                clear hcr2 hbx htk hy
                cases bb with
                | true =>
                  go_wp2
                  go_roundg (K.length - (j + 1))
                  case measure => omega
                  case rel =>
                    refine ⟨j + 1, true, by omega, rfl, rfl, by go_num, HBX3.out, hide ?_⟩
                    have h := hbb.out
                    rw [HTK.out]
                    simp only [List.mem_append]
                    rcases Bool.or_eq_true_iff.1 h.symm with h | h
                    · rw [h]; rfl
                    · have h2 := of_decide_eq_true h; simp only [h2, true_or, decide_true, Bool.or_true]
                | false =>
                  obtain ⟨hpu, hqu, hmk⟩ := HPQ.out
                  by_cases hym : y = mk
                  · have ey1 : (y.1.toNat : Int) = (p : Int) := by rw [hym, hmk, hpu]
                    have ey2 : (y.2.toNat : Int) = 4 + (q : Int) := by rw [hym, hmk, hqu]; simp
                    rw [ey1, ey2] at HBX3
                    change wr.cell? _ = some (Value.int .u8 (y.1.toNat : Int)) at v0
                    change wr.cell? _ = some (Value.int .u16 (y.2.toNat : Int)) at v1
                    rw [ey1] at v0
                    rw [ey2] at v1
                    have HYM := hide hym
                    clear hym hpu hqu hmk ey1 ey2
                    go_wp2
                    go_roundg (K.length - (j + 1))
                    case measure => omega
                    case rel =>
                      refine ⟨j + 1, true, by omega, rfl, rfl, by go_num, HBX3.out, hide ?_⟩
                      rw [HTK.out, HYM.out]
                      simp
                  · have hbb2 : false = (decide (8 < i) || decide (mk ∈ K.take (j + 1))) := by
                      have h := hbb.out
                      have h2 := Bool.or_eq_false_iff.1 h.symm
                      have h3 : mk ∉ K.take j := of_decide_eq_false h2.2
                      rw [HTK.out, h2.1]
                      simp only [List.mem_append, List.mem_singleton, h3, false_or, Bool.false_or]
                      simp only [show (mk = y) ↔ False from ⟨fun e => hym e.symm, False.elim⟩, decide_false]
                    have HBB2 := hide hbb2
                    change wr.cell? _ = some (Value.int .u8 (y.1.toNat : Int)) at v0
                    change wr.cell? _ = some (Value.int .u16 (y.2.toNat : Int)) at v1
                    by_cases ey1 : y.1.toNat = p
                    · have ey2 : ¬ y.2.toNat = 4 + q := fun e => hym (by
                        rw [hmk]
                        exact Prod.ext (UInt8.toNat_inj.1 (ey1.trans hpu.symm)) (UInt16.toNat_inj.1 (e.trans hqu.symm)))
                      have u1 : ((y.2.toNat : Int) == 4 + (q : Int)) = false := by simp; omega
                      rw [ey1] at HBX3 v0
                      clear hym hpu hqu hmk ey1 ey2 hbb2
                      go_wp2
                      go_roundg (K.length - (j + 1))
                      case measure => omega
                      case rel => exact ⟨j + 1, false, by omega, rfl, rfl, by go_num, HBX3.out, HBB2⟩
                    · have u1 : ((y.1.toNat : Int) == (p : Int)) = false := by simp; omega
                      clear hym hpu hqu hmk ey1 hbb2
                      go_wp2
                      go_roundg (K.length - (j + 1))
                      case measure => omega
                      case rel => exact ⟨j + 1, false, by omega, rfl, rfl, by go_num, HBX3.out, HBB2⟩
              · obtain rfl : j = K.length := by omega
                have hb9 := B7.out.trans (hbx.mono B7.out.size)
                have q1 := own_below P1.out hbx
                have q2 := own_below P2.out hbx
                have hKo := hK.out
                have h := hbb.out
                rw [List.take_length] at h
                cases bb with
                | true =>
                  clear hbx h
                  go_wp2
                  go_roundg (n - (i + 1))
                  case measure => omega
                  case rel => exact ⟨i + 1, K, A2, c2, by omega, rfl, rfl, by go_num, hb9, q1, q2, hide ⟨hKo.1, by have := hKo.2; omega⟩⟩
                | false =>
                  have h2 := Bool.or_eq_false_iff.1 h.symm
                  have hi8 : ¬ 8 < i := of_decide_eq_false h2.1
                  have hmK : mk ∉ K := of_decide_eq_false h2.2
                  have zz0 := (hbx.cell (p := ⟨b12, 0, none⟩) zl).trans z0
                  have zz1 := (hbx.cell (p := ⟨b12, 1, none⟩) zl).trans z1
                  have zzl := Nat.lt_of_lt_of_le zl hbx.size
                  have hBW := hb9.size
                  have hKl6 : K.length ≤ 1000000 := by omega
                  obtain ⟨m0, hm0, m1, m2, m3⟩ := info_parts info_mark
                  clear hbx h h2
                  have Q1 := hide q1
                  have Q2 := hide q2
                  have HB9 := hide hb9
                  clear q1 q2 hb9
                  go_wp2_with (at_builtin; refine wpList_append_one rfl (.tmp 122) (.tmp 124) 99 rfl w1.heap.size 199 m0 (.agg #[.int .u8 0, .int .u16 0]) 2 4 Tryz.underlying99 hm0 m1 m2 m3 rfl (by decide) A2 c2 K.length (mcellsOf K) [.int .u8 (p : Int), .int .u16 (4 + (q : Int))] wr rfl Q2.out rfl rfl rfl (by simp [Value.oneCell']) hKl6 (by decide) hBW ?_; intro A' c' w34 hown hg3 hb3 hat3)
                  go_roundg (n - (i + 1))
                  case measure => omega
                  case rel =>
                    obtain ⟨hpu, hqu, hmk⟩ := HPQ.out
                    have hmc : markCells mk = [.int .u8 (p : Int), .int .u16 (4 + (q : Int))] := by rw [hmk]; simp only [markCells, hpu, hqu]; simp
                    refine ⟨i + 1, K ++ [mk], A', c', by omega, rfl, by simp, by go_num, HB9.out.trans hb3, own_besides Q1.out Q2.out (by decide) hg3, ?_, hide ⟨⟨?_, ?_, ?_⟩, ?_⟩⟩
                    · rw [mcellsOf_snoc, List.length_append, List.length_singleton, hmc]; exact hown
                    · intro x hx
                      rcases List.mem_append.1 hx with hx | hx
                      · exact hKo.1.1 x hx
                      · simp only [List.mem_singleton] at hx
                        rw [hx, hmk]
                        simp only [hpu, hqu]
                        omega
                    · rw [List.nodup_append]
                      exact ⟨hKo.1.2.1, by simp, fun a ha b hb e => by simp only [List.mem_singleton] at hb; exact hmK (by rw [← hb, ← e]; exact ha)⟩
                    · have := hKo.2; simp; omega
                    · have := hKo.2; simp; omega
          · obtain rfl : i = n := by omega
            go_wp2
            go_returns
            have hs := HB1.out.size
            exact ⟨K, some ⟨g5, 0, none⟩, A2, ck, c2, by rw [← HM.out]; rfl, HB1.out.trans (hbr.mono hs), own_mono (by have h := o1; rw [HM.out] at h; exact h) hs, own_mono o2 hs, by rw [← HM.out]; exact hK.out.1⟩
end

end Go.Proofs.YthmkgohfeahdhaaGreat
namespace Go.Proofs.YthmkgohfeahdhaaGreat
open Go.RowKit Go.WideMaps
set_option linter.unusedSimpArgs false
set_option linter.unusedVariables false

section
variable {m : UInt8} {H : List UInt8} {A : Option Addr} {n c : Nat} {T : List UInt8} {w : World}
set_option maxRecDepth 100000 in
set_option maxHeartbeats 1000000 in
theorem size_conf (hH : H.length = 25) (hT : Rd w w.heap.size 1 A n (bvs T)) (hnm : n ≤ 9223372036854775807) :
    Calls Tryz.prog 15 #[.agg (szCells m H A n c)] w fun e w' => ∃ (cc : Nat) (K : List MarkV) (tb nb lb : Nat) (A1 A2 A3 : Option Addr) (c1 c2 c3 : Nat), e = .returned (.pointer (some ⟨cc, 0, none⟩)) ∧ Below w.heap.size w w' ∧
      ConfIn w.heap.size w' cc (szRegs m H) K tb nb lb A1 A2 A3 c1 c2 c3 ∧ MarksOk (szMany m) K := by
  have hsz : (szCells m H A n c).size = 27 := szCells_size hH
  go_enter Tryz.func15, Tryz.ntmps15
  go_upto_region 1 with (fail)
  refine at_world (fun W => ∃ bx, bx = w.heap.size ∧ Below w.heap.size w W ∧ Blk W bx 26 (szCells m H A n c)) ⟨_, rfl, (Below.refl _ _).alloc (Nat.le_refl _) _, Blk.new _ _ _⟩ (fun w1 h1 => ?_)
  obtain ⟨bx, hbx, hb1, hX1⟩ := h1
  rw [← hbx]
  have hT1 := (hT.below hb1).more hb1.size
  have HX := hide hX1
  clear hbx hX1
  have hS : ((Tryz.prog.info? 26).map (·.size)) = some (szCells m H A n c).size := by rw [hsz]; kernel_rfl
  have HS := hide hS
  have HSZ := hide hsz
  clear hS hsz
  go_wp2_with (first | (refine wpList_load_row rfl 26 (.tmp 1) (by rfl) bx (by rfl) 26 (szCells m H A n c) (0, 0) _ HX.out Tryz.underlying26 rfl HS.out ?_) | fail)
  refine (size_regs (w := w1) hH hT1 hnm).mono ?_
  rintro e w2 ⟨K, A1, A2, c1, c2, rfl, hb2, o1, o2, hK⟩
  have hM := szMany_le m
  have hnew := new_ok (R := szRegs m H) (K := K) (w := w2) (A := A1) (cA := c1) (A' := A2) (cA' := c2) (by rw [szRegs_length]; exact Rd.of_own o1) (Rd.of_own o2) (by rw [szRegs_length]; omega) (by have := hK.2.2; omega)
  rw [szRegs_length] at hnew
  have hb12 := hb1.trans (hb2.mono hb1.size)
  have hne := sz_ok m H K hK.1 hK.2.1
  go_wp2_with fail
  refine hnew.mono ?_
  rintro e w3 ⟨hb3, h0, _⟩
  obtain ⟨cc, tb, nb, lb, B1, B2, B3, d1, d2, d3, rfl, hin⟩ := h0 hne
  clear hnew h0
  have HB := hide (hb12.trans (hb3.mono hb12.size))
  have HIN := hide (hin.base hb12.size)
  clear hin hb3 o1 o2
  go_wp2
  go_returns
  exact ⟨cc, K, tb, nb, lb, B1, B2, B3, d1, d2, d3, rfl, HB.out, HIN.out, hK⟩
end
end Go.Proofs.YthmkgohfeahdhaaGreat
namespace Go.Proofs.YthmkgohfeahdhaaGreat
open Go.RowKit
set_option linter.unusedSimpArgs false
set_option linter.unusedVariables false

/-- a place in natural numbers -/
def geoN (v : GeoV) : GeoN := ⟨v.base.toNat, v.bitmap.toNat, v.table.toNat, v.data.toNat, v.blocks.toNat, v.nodes.toNat⟩
theorem geoOf_nat {a : Int} {r : RegV} (ha : 0 ≤ a) (hr : okReg r) : (geoN (geoOf a r)).val = .agg (geoOf a r).cells.toArray := by
  obtain ⟨_, h1, h2, h3, h4⟩ := hr
  unfold GeoN.val GeoN.cells GeoV.cells geoN geoOf
  simp only
  congr 1
  congr 1
  have e1 : ((a.toNat : Nat) : Int) = a := by omega
  have e2 : ((((r.blocks + 511) / 512).toNat : Nat) : Int) = (r.blocks + 511) / 512 := by omega
  have e3 : ((((r.nodes * 32 + 63) / 64).toNat : Nat) : Int) = (r.nodes * 32 + 63) / 64 := by omega
  have e4 : (((a + (r.blocks + 511) / 512 + (r.nodes * 32 + 63) / 64).toNat : Nat) : Int) = a + (r.blocks + 511) / 512 + (r.nodes * 32 + 63) / 64 := by omega
  have e5 : ((r.blocks.toNat : Nat) : Int) = r.blocks := by omega
  have e6 : ((r.nodes.toNat : Nat) : Int) = r.nodes := by omega
  rw [e1, e2, e3, e4, e5, e6]
theorem tot_ge {R : List RegV} (h : ∀ r ∈ R, okReg r) : ∀ (a : Int), a ≤ totalOf a R := by
  induction R with
  | nil => intro a; exact Int.le_refl _
  | cons r R ih =>
    intro a
    have h1 := ih (fun x hx => h x (by simp [hx])) (geoOf a r).end_
    obtain ⟨_, k1, k2, k3, k4⟩ := h r (by simp)
    have h2 : a ≤ (geoOf a r).end_ := by simp only [geoOf, GeoV.end_]; omega
    rw [totalOf]
    omega
/-- the groups of a configuration lie well -/
theorem geos_ok {R : List RegV} (h : ∀ r ∈ R, okReg r) : ∀ (a : Int) (k : Nat) (v : GeoV), 32 ≤ a → totalOf a R ≤ 65536 → (geosOf a R)[k]? = some v →
    (geoN v).Ok (totalOf a R).toNat ∧ (geoN v).val = .agg v.cells.toArray ∧ ∃ r, R[k]? = some r ∧ ((geoN v).blocks : Int) = r.blocks ∧ ((geoN v).nodes : Int) = r.nodes := by
  induction R with
  | nil => intro a k v _ _ hv; simp [geosOf] at hv
  | cons r R ih =>
    intro a k v ha ht hv
    have hr := h r (by simp)
    have hge := tot_ge (fun x hx => h x (List.mem_cons_of_mem r hx)) (geoOf a r).end_
    rw [totalOf] at ht
    cases k with
    | zero =>
      simp only [geosOf, List.getElem?_cons_zero, Option.some.injEq] at hv
      subst hv
      obtain ⟨_, k1, k2, k3, k4⟩ := id hr
      refine ⟨?_, geoOf_nat (by omega) hr, r, rfl, ?_, ?_⟩
      · rw [totalOf]
        generalize totalOf (geoOf a r).end_ R = T at ht hge
        simp only [geoOf, GeoV.end_] at hge
        constructor <;> (try simp only [geoN, geoOf]) <;> omega
      · simp only [geoN, geoOf]; omega
      · simp only [geoN, geoOf]; omega
    | succ k =>
      simp only [geosOf, List.getElem?_cons_succ] at hv
      have h2 : 32 ≤ (geoOf a r).end_ := by obtain ⟨_, k1, k2, k3, k4⟩ := id hr; simp only [geoOf, GeoV.end_]; omega
      obtain ⟨i1, i2, r', i3, i4⟩ := ih (fun x hx => h x (by simp [hx])) _ k v h2 ht hv
      exact ⟨by rw [totalOf]; exact i1, i2, r', by simpa using i3, i4⟩

section
variable {B : Nat} {w w' : World} {c : Nat} {R : List RegV} {K : List MarkV} {tb nb lb : Nat} {A1 A2 A3 : Option Addr} {c1 c2 c3 : Nat}
/-- the shape of a group's opening -/
theorem gopen_yes (h : ConfIn B w c R K tb nb lb A1 A2 A3 c1 c2 c3) {tt k : Nat} {v : GeoV} (hv : (geosOf 32 R)[k]? = some v) (hn : (geoN v).val = .agg v.cells.toArray) :
    Calls Tryz.prog 21 #[.pointer (some ⟨tt, 0, none⟩), .pointer (some ⟨c, 0, none⟩), .int .i64 (k : Int)] w fun e w' => ∃ gg, e = .returned (.tuple #[.pointer (some ⟨gg, 0, none⟩), .int .i64 0]) ∧ w.heap.size ≤ gg ∧ GroupAt w' gg tt (geoN v) (k : Int) ∧ Below w.heap.size w w' := by
  have hgo := geo_ok h hv
  obtain ⟨u, hu⟩ : ∃ u, geoN v = u := ⟨_, rfl⟩
  have hval : (Value.agg #[.int .i64 v.base, .int .i64 v.bitmap, .int .i64 v.table, .int .i64 v.data, .int .i64 v.blocks, .int .i64 v.nodes]) = .agg u.cells.toArray := by rw [← hu]; exact hn.symm
  rw [hval] at hgo
  rw [hu]
  have HGO := hide hgo
  clear hgo hu hval hn
  go_enter Tryz.func21, Tryz.ntmps21
  go_wp2_with fail
  refine HGO.out.mono ?_
  rintro e w1 ⟨rfl, hb1⟩
  have HB := hide hb1
  clear hb1 HGO
  unfold GeoN.cells
  go_wp2
  have hgp := Blk.new (w1.alloc (.cells u.cells.toArray 169)) 185 (gpcells tt u (k : Int))
  rw [World.size_alloc] at hgp
  have hbe : Below w.heap.size w ((w1.alloc (.cells u.cells.toArray 169)).alloc (.cells (gpcells tt u (k : Int)) 185)) := (HB.out.alloc HB.out.size _).alloc (by have := HB.out.size; simp; omega) _
  go_returns
  exact ⟨w1.heap.size + 1, rfl, by have := HB.out.size; omega, hgp, hbe⟩




/-- an empty disk of so many blocks, its log formatted -/
def begD (n : Nat) : List BlkV := (List.replicate n zeroB).set 1 (headB [])
theorem begun_ok (h : ConfIn B w c R K tb nb lb A1 A2 A3 c1 c2 c3) {n : Nat} (hn : totalOf 32 R = (n : Int)) (h1 : 32 ≤ n) (h2 : n ≤ 65536) :
    Calls Tryz.prog 78 #[.pointer (some ⟨c, 0, none⟩)] w fun e w' => ∃ i : Ids, e = .returned (.tuple #[.pointer (some ⟨i.dd, 0, none⟩), .pointer (some ⟨i.ll, 0, none⟩), .pointer (some ⟨i.tt, 0, none⟩)]) ∧ TxAt w' i ⟨begD n, [], 0⟩ ∧ (∀ k, i.own k → w.heap.size ≤ k) ∧ w.heap.size ≤ i.ll ∧ Below w.heap.size w w' := by
  have htot := total_ok h
  rw [hn] at htot
  have HT := hide htot
  have HN := hide (And.intro h1 h2)
  clear htot hn h1 h2
  go_enter Tryz.func78, Tryz.ntmps78
  go_wp2_with fail
  refine HT.out.mono ?_
  rintro e w1 ⟨rfl, hw1⟩
  have hw1 := hw1.symm
  subst hw1
  go_wp2_with fail
  refine (disk_new w HN.out.2).mono ?_
  rintro e w2 ⟨dd, rr, rfl, hdd, hrr, hD, hb2⟩
  have HD := hide (And.intro hD (And.intro hb2 (And.intro hdd hrr)))
  clear hD hb2 hdd hrr
  have hl32 : 32 ≤ (List.replicate n zeroB).length := by rw [List.length_replicate]; exact HN.out.1
  have HL := hide hl32
  clear hl32
  go_wp2_with fail
  refine (open_ok HD.out.1 HL.out).mono ?_
  rintro e w3 ⟨ll, rfl, hll, hL, hb3⟩
  have HL3 := hide (And.intro hL (And.intro hb3 hll))
  clear hL hb3 hll
  go_wp2_with fail
  refine (format_ok HL3.out.1 HL.out).mono ?_
  rintro e w4 ⟨rfl, hL4, ht4⟩
  have HL4 := hide (And.intro hL4 ht4)
  clear hL4 ht4
  go_wp2_with fail
  refine (begin_ok HL4.out.1 (by rw [List.length_set]; exact HL.out)).mono ?_
  rintro e w5 ⟨tt, mm, rfl, htt, hmm, hx, hb5⟩
  have s3 := HL3.out.2.1.size
  have s2 := HD.out.2.1.size
  have s4 := HL4.out.2.size
  have hb23 : Below w.heap.size w w3 := HD.out.2.1.trans (HL3.out.2.1.mono s2)
  have hb4 : Below w.heap.size w w4 := hb23.trans ((HL4.out.2.mono (by omega) (S' := fun _ => False) (fun k hk h => by have := HD.out.2.2; omega)).below fun _ _ h => h)
  have hb5' : Below w.heap.size w w5 := hb4.trans (hb5.mono hb4.size)
  have HF := hide (And.intro hx (And.intro hb5' (And.intro (show (∀ k, Ids.own ⟨tt, mm, ll, dd, rr⟩ k → w.heap.size ≤ k) from by
    have := HD.out.2.2
    rintro k (e | e | e | e) <;> simp only at e <;> omega) (show w.heap.size ≤ ll from by have := HL3.out.2.2; omega))))
  clear htt hmm hx hb5 s3 s2 s4 hb23 hb4 hb5' HL4 HL3 HD
  go_wp2
  go_returns
  exact ⟨⟨tt, mm, ll, dd, rr⟩, rfl, HF.out.1, HF.out.2.2.1, HF.out.2.2.2, HF.out.2.1⟩
end
end Go.Proofs.YthmkgohfeahdhaaGreat
namespace Go.Proofs.YthmkgohfeahdhaaGreat
open Go.RowKit
set_option linter.unusedSimpArgs false
set_option linter.unusedVariables false

section
variable {s : Sto} {f k j n : Nat} {b : BlkV} {on : Bool} {g : GeoN}
theorem bit_put_far (h : n ≠ f + k / 512) : (s.put n b).bit f k = s.bit f k := by
  unfold Sto.bit
  rw [Sto.at_put, if_neg h]
theorem bitB_zero (k : Nat) : bitB zeroB k = false := by
  unfold bitB zeroB
  rw [List.getD_eq_getElem?_getD, List.getElem?_replicate]
  split <;> simp
theorem begD_length (n : Nat) : (begD n).length = n := by simp [begD]
theorem begD_at {m : Nat} (h : m ≠ 1) : Sto.at_ ⟨begD n, [], 0⟩ m = zeroB := by
  unfold Sto.at_ begD
  simp only [mget, Option.getD_none, List.getD_eq_getElem?_getD]
  rw [List.getElem?_set, if_neg (fun e => h e.symm), List.getElem?_replicate]
  split <;> rfl
theorem begD_bit (hf : 2 ≤ f) : Sto.bit ⟨begD n, [], 0⟩ f k = false := by
  unfold Sto.bit
  rw [begD_at (by omega)]
  exact bitB_zero _
end
end Go.Proofs.YthmkgohfeahdhaaGreat
namespace Go.Proofs.YthmkgohfeahdhaaGreat
open Go.RowKit
set_option linter.unusedSimpArgs false
set_option linter.unusedVariables false

theorem GroupAt.geo_range {w : World} {gg tt : Nat} {g : GeoN} {lab : Int} (hG : GroupAt w gg tt g lab) : w.rangeAt gg 1 g.cells := Blk.range hG fun j v hj => by
  rw [gpcells, List.getElem?_toArray, Nat.add_comm 1 j, List.getElem?_cons_succ]
  have : (g.cells ++ [Value.int .i64 lab])[j]? = some v := by
    rw [List.getElem?_append_left (List.getElem?_eq_some_iff.1 hj).1]; exact hj
  simpa [GeoN.cells] using this
theorem size_geoL (g : GeoN) : (Tryz.prog.info? 169).map (·.size) = some g.cells.length := by
  rw [size_geo g]; rfl
section
variable {w w' : World} {i : Ids} {s : Sto} {gg : Nat} {g : GeoN} {lab : Int}
set_option maxRecDepth 100000 in
set_option maxHeartbeats 800000 in
theorem gnode_any {v : NodeV} {r num : Int} (h : TxAt w i s) (hG : GroupAt w gg i.tt g lab) (hv : v.dir.length = 6)
    (hrd : ∀ W, TxAt W i s → Calls Tryz.prog 122 #[.pointer (some ⟨i.tt, 0, none⟩), g.val, .int .i64 num] W fun e w' => e = .returned (.tuple #[v.val, .int .i64 r]) ∧ TxAt w' i s ∧ Tch W.heap.size (· = i.dd) W w') :
    Calls Tryz.prog 56 #[.pointer (some ⟨gg, 0, none⟩), .int .i64 num] w fun e w' => e = .returned (.tuple #[v.val, .int .i64 r]) ∧ TxAt w' i s ∧ Tch w.heap.size i.own w w' := by
  have H := hide h
  have HG := hide hG
  have HV := hide hv
  have HRD := hide hrd
  clear h hG hv hrd
  go_enter Tryz.func56, Tryz.ntmps56
  go_upto_region 1 with (first | ((with_reducible refine at_alloc 130 ?_); refine wpList_alloc_as rfl 130 rfl _ (zero_node _) ?_) | fail)
  refine at_world (fun W => ∃ p, p = w.heap.size ∧ Below w.heap.size w W ∧ Blk W p 130 NodeV.zero.cells.toArray) ⟨_, rfl, (Below.refl _ _).alloc (Nat.le_refl _) _, Blk.new _ _ _⟩ (fun w1 hw1 => ?_)
  obtain ⟨p, hp, hb1, hP⟩ := hw1
  rw [← hp]
  have hwp : w.heap.size ≤ p := Nat.le_of_eq hp.symm
  have HP := hide (And.intro hP hb1)
  have HG1 := hide (HG.out.below hb1)
  clear hp hb1 hP
  go_upto_region 3 with (fail)
  have c0 := HG1.out.cell 0
  have cl := HG1.out.lt
  refine wp_region_text [0, 0, 0, 0, 0, 0, 0, 0, 0, 2, 0, 0, 2, 0] (· = w1.drew) (by kernel_rfl) (by kernel_rfl) rfl ?_
  iterate 7 (refine wpOrd_q (v := ?_) (by rfl) (fun W hW => ?_) ?_; rotate_left; (focus ((cases hW; go_simp); try with_reducible rfl)); try simp only [Act.put, List.setIfInBounds_toArray, List.set_cons_zero, List.set_cons_succ])
  refine wpOrd_q (v := .agg (g.cells).toArray) (by rfl) (fun W hW => by cases hW; exact exec_load_mid 169 (.tmp 15) rfl gg 1 rfl (g.cells) _ (GroupAt.geo_range (w := w1.drew) HG1.out) Tryz.underlying169 rfl (size_geoL g)) ?_
  try simp only [Act.put, List.setIfInBounds_toArray, List.set_cons_zero, List.set_cons_succ]
  iterate 1 (refine wpOrd_q (v := ?_) (by rfl) (fun W hW => ?_) ?_; rotate_left; (focus ((cases hW; go_simp); try with_reducible rfl)); try simp only [Act.put, List.setIfInBounds_toArray, List.set_cons_zero, List.set_cons_succ])
  refine wpOrd_b (by rfl) (fun K hK => ?_)
  go_simp
  refine (HRD.out _ (H.out.below HP.out.2.drew)).mono ?_
  rintro e w5 ⟨rfl, hx5, ht5⟩
  refine hK (fun _ => True) _ _ trivial ?_
  have HF5 := hide (And.intro hx5 (And.intro ((Tch.of_below (S := i.own) HP.out.2).drew.trans (ht5.own_dd.mono HP.out.2.size fun _ _ h => h)) (HP.out.1.drew.tch ht5 HP.out.1.lt (fun e => by have := H.out.log.disk.dlt; omega))))
  clear hK K c0 cl hx5 ht5
  try simp only [Act.put, List.setIfInBounds_toArray, List.set_cons_zero, List.set_cons_succ]
  iterate 2 (refine wpOrd_q (v := ?_) (by rfl) (fun W hW => ?_) ?_; rotate_left; (focus (go_simp; try with_reducible rfl)); try simp only [Act.put, List.setIfInBounds_toArray, List.set_cons_zero, List.set_cons_succ])
  refine wpOrd_b (by rfl) (fun K hK => ?_)
  refine wp_store_blk 130 (.tmp 4) (.tmp 19) rfl p 130 _ _ (by rfl) (by rfl) HF5.out.2.2 (size_nodeOf HV.out) (by rw [List.size_toArray, List.size_toArray, NodeV.cells_length HV.out]; rfl) (NodeV.cells_one _) (fun hB3 => ?_)
  refine hK (fun _ => True) _ _ trivial ?_
  clear hK K
  try simp only [Act.put, List.setIfInBounds_toArray, List.set_cons_zero, List.set_cons_succ]
  iterate 1 (refine wpOrd_q (v := ?_) (by rfl) (fun W hW => ?_) ?_; rotate_left; (focus (go_simp; try with_reducible rfl)); try simp only [Act.put, List.setIfInBounds_toArray, List.set_cons_zero, List.set_cons_succ])
  refine wpOrd_nil ?_
  have HB3 := hide hB3
  clear hB3
  go_wp2_with (first | ((with_reducible refine at_end ?_); refine bodyPost_ret (v := .tuple #[v.val, .int .i64 r]) (results_run2 rfl (ResV.row rfl HB3.out Tryz.underlying130 rfl (size_nodeOf HV.out)) rfl) rfl ⟨rfl, ?_, ?_⟩) | fail)
  · exact H.out.setRow_new hwp HF5.out.1 _
  · exact HF5.out.2.1.trans (Tch.setRow fun hp => absurd hp (by omega))
theorem gnode_ok {num : Nat} (h : TxAt w i s) (hG : GroupAt w gg i.tt g lab) (hg : g.Ok s.D.length) (h1 : 1 ≤ num) (h2 : num ≤ g.nodes) :
    Calls Tryz.prog 56 #[.pointer (some ⟨gg, 0, none⟩), .int .i64 (num : Int)] w fun e w' => e = .returned (.tuple #[(s.nodeV g num).val, .int .i64 (s.nodeE g num)]) ∧ TxAt w' i s ∧ Tch w.heap.size i.own w w' :=
  gnode_any h hG (nodeV_dir s g num) fun W hW => read_node hW hg h1 h2

end
end Go.Proofs.YthmkgohfeahdhaaGreat

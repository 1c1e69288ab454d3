/- Nodes as bytes. No program in sight. -/
import Derived.Test.YtoeejeieplhifaaFsOps
namespace Go.Proofs.Ytoeejeieplhifaa
open Go.RowKit
set_option linter.unusedSimpArgs false
set_option linter.unusedVariables false

abbrev u16v (x : UInt16) : Value := .int .u16 (x.toNat : Int)
/-- a node -/
structure NodeV where
  kind : UInt8
  links : UInt8
  gen : UInt16
  size : UInt32
  dir : List UInt16
  single : UInt16
  double : UInt16
deriving DecidableEq
def NodeV.zero : NodeV := ⟨0, 0, 0, 0, [0, 0, 0, 0, 0, 0], 0, 0⟩
def NodeV.cells (n : NodeV) : List Value := [.int .u8 (n.kind.toNat : Int), .int .u8 (n.links.toNat : Int), .int .u16 (n.gen.toNat : Int), .int .u32 (n.size.toNat : Int)] ++ n.dir.map u16v ++ [u16v n.single, u16v n.double]
def NodeV.val (n : NodeV) : Value := .agg n.cells.toArray
theorem NodeV.cells_length {n : NodeV} (h : n.dir.length = 6) : n.cells.length = 12 := by simp [NodeV.cells, h]
theorem NodeV.cells_one (n : NodeV) : n.cells.toArray.all (·.oneCell') = true := by
  rw [Array.all_eq_true_iff_forall_mem]
  intro x hx
  simp only [NodeV.cells, List.mem_toArray, List.mem_append, List.mem_cons, List.mem_map, List.not_mem_nil, or_false] at hx
  rcases hx with (((rfl | rfl | rfl | rfl) | ⟨y, _, rfl⟩) | (rfl | rfl)) <;> rfl

/-- is it free, but for its generation? -/
def blankN (n : NodeV) : Bool := decide (n = { NodeV.zero with gen := n.gen })
/-- may it be a node? -/
def checkN (n : NodeV) : Bool :=
  if n.kind = 0 then blankN n
  else if n.kind.toNat ≤ 5 then
    decide (n.links ≠ 0) && decide (n.size.toNat ≤ 16384) &&
      (if n.kind = 3 ∨ n.kind = 5 then decide (n.size = 0) else if n.kind = 4 then decide (1 ≤ n.size.toNat ∧ n.size.toNat ≤ 60) else if n.kind = 2 then decide (n.size.toNat % 16 = 0) else true)
  else false

/-! ### numbers, the lowest byte first -/
def byteN (n j : Nat) : UInt8 := UInt8.ofNat (n / 256 ^ j % 256)
def leB (n k : Nat) : List UInt8 := (List.range k).map (byteN n)
theorem leB_length (n k : Nat) : (leB n k).length = k := by simp [leB]
theorem leB_succ (n k : Nat) : leB n (k + 1) = leB n k ++ [byteN n k] := by simp [leB, List.range_succ]
theorem byteN_toNat (n j : Nat) : (byteN n j).toNat = n / 256 ^ j % 256 := by
  unfold byteN
  rw [UInt8.toNat_ofNat', Nat.mod_eq_of_lt]
  exact Nat.mod_lt _ (by decide)
def leN : List UInt8 → Nat
  | [] => 0
  | b :: r => b.toNat + 256 * leN r
theorem leN_snoc : ∀ (l : List UInt8) (b : UInt8), leN (l ++ [b]) = leN l + b.toNat * 256 ^ l.length
  | [], b => by simp [leN]
  | a :: r, b => by
    simp only [List.cons_append, leN, leN_snoc r b, List.length_cons, Nat.pow_succ]
    rw [Nat.mul_add, ← Nat.add_assoc, Nat.mul_comm (256 ^ r.length) 256, ← Nat.mul_assoc, ← Nat.mul_assoc, Nat.mul_comm 256 b.toNat]
theorem leN_lt : ∀ (l : List UInt8), leN l < 256 ^ l.length
  | [] => by simp [leN]
  | a :: r => by
    have := leN_lt r
    have ha := a.toNat_lt
    simp only [leN, List.length_cons, Nat.pow_succ]
    omega
theorem leN_leB (n : Nat) : ∀ k, leN (leB n k) = n % 256 ^ k
  | 0 => by simp [leB, leN, Nat.mod_one]
  | k + 1 => by
    rw [leB_succ, leN_snoc, leN_leB n k, leB_length, byteN_toNat]
    have h1 : n % 256 ^ (k + 1) = n % 256 ^ k + (n / 256 ^ k % 256) * 256 ^ k := by
      rw [Nat.pow_succ, Nat.mod_mul, Nat.mul_comm]
    omega

/-- bytes written into bytes -/
def wrB (bs : List UInt8) (a : Nat) (l : List UInt8) : List UInt8 := bs.take a ++ l ++ bs.drop (a + l.length)
theorem wrB_nil {bs : List UInt8} {a : Nat} : wrB bs a [] = bs := by simp [wrB]
theorem wrB_length {bs : List UInt8} {a : Nat} {l : List UInt8} (h : a + l.length ≤ bs.length) : (wrB bs a l).length = bs.length := by
  simp [wrB, Nat.min_eq_left (show a ≤ bs.length by omega)]
  omega
theorem wrB_snoc {bs : List UInt8} {a : Nat} {l : List UInt8} {b : UInt8} (h : a + l.length < bs.length) : wrB bs a (l ++ [b]) = (wrB bs a l).set (a + l.length) b := by
  have h1 : (bs.take a ++ l).length = a + l.length := by simp [Nat.min_eq_left (show a ≤ bs.length by omega)]
  unfold wrB
  rw [List.set_append_right _ _ (by omega), h1, Nat.sub_self, List.drop_eq_getElem_cons h, List.set_cons_zero, List.length_append, List.length_singleton, ← Nat.add_assoc]
  simp
theorem wrB_more {bs : List UInt8} {a : Nat} {l m : List UInt8} (h : a + l.length + m.length ≤ bs.length) : wrB (wrB bs a l) (a + l.length) m = wrB bs a (l ++ m) := by
  have h1 : (bs.take a ++ l).length = a + l.length := by simp [Nat.min_eq_left (show a ≤ bs.length by omega)]
  unfold wrB
  rw [List.take_append_of_le_length (by omega), List.take_of_length_le (by omega), List.drop_append, List.drop_of_length_le (by omega), h1, List.drop_drop, List.length_append, List.nil_append,
    show a + l.length + (a + l.length + m.length - (a + l.length)) = a + (l.length + m.length) from by omega]
  simp

/-- a node as bytes -/
def encHead (n : NodeV) : List UInt8 := leB n.kind.toNat 1 ++ leB n.links.toNat 1 ++ leB n.gen.toNat 2 ++ leB n.size.toNat 4
def encDir (l : List UInt16) : List UInt8 := (l.map fun d => leB d.toNat 2).flatten
def encN (n : NodeV) : List UInt8 := encHead n ++ encDir n.dir ++ leB n.single.toNat 2 ++ leB n.double.toNat 2 ++ List.replicate 8 0
theorem encHead_length (n : NodeV) : (encHead n).length = 8 := by simp [encHead, leB_length]
theorem encDir_length (l : List UInt16) : (encDir l).length = 2 * l.length := by
  induction l with
  | nil => rfl
  | cons a r ih =>
    simp only [encDir, List.map_cons, List.flatten_cons, List.length_append, leB_length, List.length_cons] at ih ⊢
    rw [ih]; omega
theorem encDir_snoc (l : List UInt16) (d : UInt16) : encDir (l ++ [d]) = encDir l ++ leB d.toNat 2 := by simp [encDir]
theorem encN_length {n : NodeV} (h : n.dir.length = 6) : (encN n).length = 32 := by
  simp [encN, encHead_length, encDir_length, leB_length, h]

/-- bytes as a node -/
def decDir (x : List UInt8) (k : Nat) : List UInt16 := (List.range k).map fun j => UInt16.ofNat (leN ((x.drop (8 + 2 * j)).take 2))
def decN (x : List UInt8) : NodeV :=
  ⟨UInt8.ofNat (leN (x.take 1)), UInt8.ofNat (leN ((x.drop 1).take 1)), UInt16.ofNat (leN ((x.drop 2).take 2)), UInt32.ofNat (leN ((x.drop 4).take 4)), decDir x 6, UInt16.ofNat (leN ((x.drop 20).take 2)), UInt16.ofNat (leN ((x.drop 22).take 2))⟩
/-- are they a node's? -/
def isN (x : List UInt8) : Bool := (x.drop 24).all (· == 0) && checkN (decN x)
theorem decDir_length (x : List UInt8) (k : Nat) : (decDir x k).length = k := by simp [decDir]
theorem decN_dir (x : List UInt8) : (decN x).dir.length = 6 := decDir_length x 6

theorem leN_leB_of {n k : Nat} (h : n < 256 ^ k) : leN (leB n k) = n := by rw [leN_leB, Nat.mod_eq_of_lt h]
theorem take_drop_at {α : Type} (a b c : List α) {i k : Nat} (ha : a.length = i) (hb : b.length = k) : ((a ++ (b ++ c)).drop i).take k = b := by
  subst ha; subst hb
  simp
theorem dec_enc {n : NodeV} (h : n.dir.length = 6) : decN (encN n) = n := by
  obtain ⟨k, l, g, s, dir, a, b⟩ := n
  simp only at h
  obtain ⟨d0, d1, d2, d3, d4, d5, rfl⟩ : ∃ d0 d1 d2 d3 d4 d5, dir = [d0, d1, d2, d3, d4, d5] := by
    match dir, h with
    | [d0, d1, d2, d3, d4, d5], _ => exact ⟨d0, d1, d2, d3, d4, d5, rfl⟩
  have e : encN ⟨k, l, g, s, [d0, d1, d2, d3, d4, d5], a, b⟩ = leB k.toNat 1 ++ (leB l.toNat 1 ++ (leB g.toNat 2 ++ (leB s.toNat 4 ++ (leB d0.toNat 2 ++ (leB d1.toNat 2 ++ (leB d2.toNat 2 ++ (leB d3.toNat 2 ++ (leB d4.toNat 2 ++ (leB d5.toNat 2 ++ (leB a.toNat 2 ++ (leB b.toNat 2 ++ List.replicate 8 0))))))))))) := by
    simp [encN, encHead, encDir]
  have h1 : ∀ x : UInt8, leN (leB x.toNat 1) = x.toNat := fun x => leN_leB_of (by have := x.toNat_lt; omega)
  have h2 : ∀ x : UInt16, leN (leB x.toNat 2) = x.toNat := fun x => leN_leB_of (by have := x.toNat_lt; omega)
  have h4 : leN (leB s.toNat 4) = s.toNat := leN_leB_of (by have := s.toNat_lt; omega)
  -- the pieces, one by one
  have p0 : (encN ⟨k, l, g, s, [d0, d1, d2, d3, d4, d5], a, b⟩).take 1 = leB k.toNat 1 := by
    rw [e]; exact take_drop_at [] _ _ rfl (leB_length _ _)
  have step : ∀ (pre : List UInt8) (i : Nat) (n k : Nat) (post : List UInt8), pre.length = i → (pre ++ (leB n k ++ post)).drop i = leB n k ++ post := fun pre i n k post h => by subst h; simp
  have p1 : ((encN ⟨k, l, g, s, [d0, d1, d2, d3, d4, d5], a, b⟩).drop 1).take 1 = leB l.toNat 1 := by
    rw [e]; exact take_drop_at (leB k.toNat 1) _ _ (leB_length _ _) (leB_length _ _)
  have tail : ∀ (x y : List UInt8) (i j : Nat), x.length = i → (x ++ y).drop (i + j) = y.drop j := fun x y i j h => by subst h; simp
  have q2 : ∀ j, (encN ⟨k, l, g, s, [d0, d1, d2, d3, d4, d5], a, b⟩).drop (2 + j) = (leB g.toNat 2 ++ (leB s.toNat 4 ++ (leB d0.toNat 2 ++ (leB d1.toNat 2 ++ (leB d2.toNat 2 ++ (leB d3.toNat 2 ++ (leB d4.toNat 2 ++ (leB d5.toNat 2 ++ (leB a.toNat 2 ++ (leB b.toNat 2 ++ List.replicate 8 0)))))))))).drop j := fun j => by
    rw [e, ← List.append_assoc]; exact tail _ _ 2 j (by simp [leB_length])
  have q8 : ∀ j, (encN ⟨k, l, g, s, [d0, d1, d2, d3, d4, d5], a, b⟩).drop (8 + j) = (leB d0.toNat 2 ++ (leB d1.toNat 2 ++ (leB d2.toNat 2 ++ (leB d3.toNat 2 ++ (leB d4.toNat 2 ++ (leB d5.toNat 2 ++ (leB a.toNat 2 ++ (leB b.toNat 2 ++ List.replicate 8 0)))))))).drop j := fun j => by
    rw [show 8 + j = 2 + (6 + j) from by omega, q2, ← List.append_assoc]; exact tail _ _ 6 j (by simp [leB_length])
  have q14 : ∀ j, (encN ⟨k, l, g, s, [d0, d1, d2, d3, d4, d5], a, b⟩).drop (14 + j) = (leB d3.toNat 2 ++ (leB d4.toNat 2 ++ (leB d5.toNat 2 ++ (leB a.toNat 2 ++ (leB b.toNat 2 ++ List.replicate 8 0))))).drop j := fun j => by
    rw [show 14 + j = 8 + (6 + j) from by omega, q8, ← List.append_assoc, ← List.append_assoc]; exact tail _ _ 6 j (by simp [leB_length])
  have q20 : ∀ j, (encN ⟨k, l, g, s, [d0, d1, d2, d3, d4, d5], a, b⟩).drop (20 + j) = (leB a.toNat 2 ++ (leB b.toNat 2 ++ List.replicate 8 0)).drop j := fun j => by
    rw [show 20 + j = 14 + (6 + j) from by omega, q14, ← List.append_assoc, ← List.append_assoc]; exact tail _ _ 6 j (by simp [leB_length])
  have t2 : ∀ (n : Nat) (y : List UInt8), ((leB n 2 ++ y).drop 0).take 2 = leB n 2 := fun n y => take_drop_at [] _ _ rfl (leB_length _ _)
  have t22 : ∀ (m n : Nat) (y : List UInt8), ((leB m 2 ++ (leB n 2 ++ y)).drop 2).take 2 = leB n 2 := fun m n y => take_drop_at _ _ _ (leB_length _ _) (leB_length _ _)
  have t42 : ∀ (m m' n : Nat) (y : List UInt8), ((leB m 2 ++ (leB m' 2 ++ (leB n 2 ++ y))).drop 4).take 2 = leB n 2 := fun m m' n y => by
    rw [← List.append_assoc]; exact take_drop_at _ _ _ (by simp [leB_length]) (leB_length _ _)
  have p2 : ((encN ⟨k, l, g, s, [d0, d1, d2, d3, d4, d5], a, b⟩).drop 2).take 2 = leB g.toNat 2 := by rw [show 2 = 2 + 0 from rfl, q2]; exact t2 _ _
  have p4 : ((encN ⟨k, l, g, s, [d0, d1, d2, d3, d4, d5], a, b⟩).drop 4).take 4 = leB s.toNat 4 := by rw [show 4 = 2 + 2 from rfl, q2]; exact take_drop_at _ _ _ (leB_length _ _) (leB_length _ _)
  have p20 : ((encN ⟨k, l, g, s, [d0, d1, d2, d3, d4, d5], a, b⟩).drop 20).take 2 = leB a.toNat 2 := by rw [show 20 = 20 + 0 from rfl, q20]; exact t2 _ _
  have p22 : ((encN ⟨k, l, g, s, [d0, d1, d2, d3, d4, d5], a, b⟩).drop 22).take 2 = leB b.toNat 2 := by rw [show 22 = 20 + 2 from rfl, q20]; exact t22 _ _ _
  have r0 : ((encN ⟨k, l, g, s, [d0, d1, d2, d3, d4, d5], a, b⟩).drop 8).take 2 = leB d0.toNat 2 := by rw [show 8 = 8 + 0 from rfl, q8]; exact t2 _ _
  have r1 : ((encN ⟨k, l, g, s, [d0, d1, d2, d3, d4, d5], a, b⟩).drop 10).take 2 = leB d1.toNat 2 := by rw [show 10 = 8 + 2 from rfl, q8]; exact t22 _ _ _
  have r2 : ((encN ⟨k, l, g, s, [d0, d1, d2, d3, d4, d5], a, b⟩).drop 12).take 2 = leB d2.toNat 2 := by rw [show 12 = 8 + 4 from rfl, q8]; exact t42 _ _ _ _
  have r3 : ((encN ⟨k, l, g, s, [d0, d1, d2, d3, d4, d5], a, b⟩).drop 14).take 2 = leB d3.toNat 2 := by rw [show 14 = 14 + 0 from rfl, q14]; exact t2 _ _
  have r4 : ((encN ⟨k, l, g, s, [d0, d1, d2, d3, d4, d5], a, b⟩).drop 16).take 2 = leB d4.toNat 2 := by rw [show 16 = 14 + 2 from rfl, q14]; exact t22 _ _ _
  have r5 : ((encN ⟨k, l, g, s, [d0, d1, d2, d3, d4, d5], a, b⟩).drop 18).take 2 = leB d5.toNat 2 := by rw [show 18 = 14 + 4 from rfl, q14]; exact t42 _ _ _ _
  have hr : decDir (encN ⟨k, l, g, s, [d0, d1, d2, d3, d4, d5], a, b⟩) 6 = [d0, d1, d2, d3, d4, d5] := by
    have : List.range 6 = [0, 1, 2, 3, 4, 5] := rfl
    unfold decDir
    rw [this]
    simp only [List.map_cons, List.map_nil, Nat.mul_zero, Nat.mul_one, Nat.add_zero, Nat.reduceMul, Nat.reduceAdd, r0, r1, r2, r3, r4, r5, h2, UInt16.ofNat_toNat]
  unfold decN
  rw [p0, p1, p2, p4, p20, p22, hr, h1, h1, h2, h4, h2, h2]
  simp
theorem enc_tail {n : NodeV} (h : n.dir.length = 6) : ((encN n).drop 24).all (· == 0) = true := by
  have : (encN n).drop 24 = List.replicate 8 0 := by
    unfold encN
    rw [List.append_assoc (encHead n ++ encDir n.dir ++ leB n.single.toNat 2), List.append_assoc (encHead n ++ encDir n.dir), ← List.append_assoc, ← List.append_assoc]
    exact List.drop_left' (by simp [encHead_length, encDir_length, leB_length, h])
  rw [this]; rfl
theorem isN_enc {n : NodeV} (h : n.dir.length = 6) : isN (encN n) = checkN n := by
  unfold isN
  rw [enc_tail h, dec_enc h, Bool.true_and]
end Go.Proofs.Ytoeejeieplhifaa

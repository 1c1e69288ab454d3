/- Files: where a file's block is; pointers in blocks: walked. Files: which block a file's block is: walked. Files: the block that a file's block needs: walked. Slices of arrays and of rows of bytes: operations. No program in sight. Files: bytes read: walked. Files: bytes written: walked. Files: the blocks of a file, plain: which there are, how one more is taken. -/
import Derived.Test.YthmkgohfeahdhaaGreatMJ1
import Derived.Test.YthmkgohfeahdhaaGreatMJ2
import Derived.Test.YthmkgohfeahdhaaGreatMJ3
import Derived.Test.YthmkgohfeahdhaaGreatMJ4
import Derived.Test.YthmkgohfeahdhaaGreatMJ5
import Derived.Test.YthmkgohfeahdhaaGreatMJ6
import Derived.WalkKit
import Derived.WalkSpells
import Derived.WalkLawsBesides
import Derived.Maps.AppendAt
import Derived.Deep.Draws
import Derived.Lib.SlBytesConst
import Derived.Test.YthmkgohfeahdhaaGreatProg
import Derived.Deep.RegionHeld3
import Derived.Deep.RegionLaw
import Derived.Deep.QuietTactic
import Derived.BigQuiet
import Derived.Handy
import Derived.Deep.LoopGhost
import Derived.Deep.Cut
import Derived.Deep.CutRange
import Derived.Lib.IndexBytes
import Derived.StringKeys
import Derived.Laws.Tables
import Derived.Laws.Rows
import Derived.Deep.CutBlock
import Derived.Sort.OwnSortedInts
import Derived.DeepKeys
import Derived.Great.FillDense
import Derived.Laws.CopyRow
import Derived.Deep.MidRow
import Derived.OwnWalk
import Derived.Shelf.Small.Bits
import Derived.Shelf.Small.Wraps
import Derived.Shelf.Strconv.Itoa0
import Derived.Shelf.Sort.Plain
import Derived.Ground.Names2Prog
import Derived.Shelf.Slices.SearchI
import Derived.Shelf.Slices.In.SortNone
import Derived.Maps.Keyed
import Derived.DeepKeys4
import Derived.Carry
import Derived.Maps.RangeWalk
namespace Go.Proofs.YthmkgohfeahdhaaGreat
open Go.RowKit
set_option linter.unusedSimpArgs false
set_option linter.unusedVariables false

/-- a pointer in a block -/
def ptrB (b : BlkV) (i : Nat) : Nat := (b.getD (2 * i) 0).toNat + 256 * (b.getD (2 * i + 1) 0).toNat
/-- a block with a pointer changed -/
def pointB (b : BlkV) (i n : Nat) : BlkV := put2B b (2 * i) n
theorem pointB_length (b : BlkV) (i n : Nat) : (pointB b i n).length = b.length := put2B_length _ _ _
theorem ptrB_lt (b : BlkV) (i : Nat) : ptrB b i < 65536 := by
  have h1 := (b.getD (2 * i) 0).toNat_lt
  have h2 := (b.getD (2 * i + 1) 0).toNat_lt
  unfold ptrB
  omega
theorem getD_set_ (b : List UInt8) (i j : Nat) (x : UInt8) (hi : i < b.length) : (b.set i x).getD j 0 = if i = j then x else b.getD j 0 := by
  simp only [List.getD_eq_getElem?_getD, List.getElem?_set]
  by_cases h : i = j
  · subst h; simp [hi]
  · simp [h]
theorem ptr_point {b : BlkV} (hb : b.length = 64) {i n : Nat} (hi : i < 32) (hn : n < 65536) (j : Nat) : ptrB (pointB b i n) j = if j = i then n else ptrB b j := by
  unfold ptrB pointB put2B
  have h1 : 2 * i < b.length := by omega
  have h2 : 2 * i + 1 < (b.set (2 * i) (UInt8.ofNat (n % 256))).length := by rw [List.length_set]; omega
  rw [getD_set_ _ _ _ _ h2, getD_set_ _ _ _ _ h1, getD_set_ _ _ _ _ h2, getD_set_ _ _ _ _ h1]
  by_cases h : j = i
  · subst h
    rw [if_neg (by omega), if_pos rfl, if_pos rfl, if_pos rfl, UInt8.toNat_ofNat', UInt8.toNat_ofNat']
    omega
  · rw [if_neg (by omega), if_neg (by omega), if_neg (by omega), if_neg (by omega), if_neg h]
theorem ptr_zero (i : Nat) : ptrB zeroB i = 0 := by
  have h : ∀ j, zeroB.getD j 0 = 0 := fun j => by
    unfold zeroB
    rw [List.getD_eq_getElem?_getD, List.getElem?_replicate]
    split <;> rfl
  unfold ptrB
  rw [h, h]
  rfl

/-- how a file's block is come to: how many steps, which pointer at each -/
structure WayV where
  steps : Nat
  a0 : Nat
  a1 : Nat
def wayOf (n : Nat) : WayV := if n < 6 then ⟨0, n, 0⟩ else if n < 38 then ⟨1, n - 6, 0⟩ else ⟨2, (n - 38) / 32, (n - 38) % 32⟩
def WayV.cells (v : WayV) : Array Value := #[.int .i64 (v.steps : Int), .int .i64 (v.a0 : Int), .int .i64 (v.a1 : Int), .int .i64 0]
/-- where a node has the pointer with which a way begins -/
def WayV.root (v : WayV) : Nat := if v.steps = 0 then 4 + v.a0 else if v.steps = 1 then 10 else 11
def WayV.Ok (v : WayV) : Prop := (v.steps = 0 ∧ v.a0 < 6) ∨ (v.steps = 1 ∧ v.a0 < 32) ∨ (v.steps = 2 ∧ v.a0 < 32 ∧ v.a1 < 32)
theorem wayOf_ok {n : Nat} (h : n < 256) : (wayOf n).Ok := by
  unfold wayOf WayV.Ok
  split
  · left; simp; omega
  · split
    · right; left; simp; omega
    · right; right; simp; omega
theorem zero_way (w : World) : (zeroValue 268).run Tryz.prog w = .ok (.agg (WayV.cells ⟨0, 0, 0⟩)) w := by kernel_rfl
theorem size_way (v : WayV) : (Tryz.prog.info? 268).map (·.size) = some v.cells.size := by
  have : (Tryz.prog.info? 268).map (·.size) = some 4 := by kernel_rfl
  rw [this]; rfl
theorem way_one (v : WayV) : v.cells.all (·.oneCell') = true := by simp [WayV.cells, Value.oneCell']
section
variable {w w' : World}
set_option maxRecDepth 100000 in
set_option maxHeartbeats 800000 in
theorem place_ok' (w : World) {n : Nat} (hn : n < 256) :
    Calls Tryz.prog 143 #[.int .i64 (n : Int)] w fun e w' => e = .returned (.tuple #[.agg (wayOf n).cells, .bool true]) ∧ Below w.heap.size w w' := by
  have hz : (n : Int) ≤ 255 := by omega
  have t1 : decide ((256 : Int) ≤ (n : Int)) = false := by simp; omega
  obtain ⟨v, hv⟩ : ∃ v, wayOf n = v := ⟨_, rfl⟩
  rw [hv]
  go_enter Tryz.func143, Tryz.ntmps143
  go_upto_region 1 with (first | ((with_reducible refine at_alloc 268 ?_); refine wpList_alloc_as rfl 268 rfl _ (zero_way _) ?_) | fail)
  refine at_world (fun W => ∃ p, p = w.heap.size ∧ Below w.heap.size w W ∧ Blk W p 268 (WayV.cells ⟨0, 0, 0⟩)) ⟨_, rfl, (Below.refl _ _).alloc (Nat.le_refl _) _, Blk.new _ _ _⟩ (fun w1 hw1 => ?_)
  obtain ⟨p, hp, hb1, hP⟩ := hw1
  rw [← hp]
  have HB := hide (And.intro hb1 (show w.heap.size ≤ p from Nat.le_of_eq hp.symm))
  have HP := hide hP
  clear hp hb1 hP
  by_cases h6 : n < 6
  · have t2 : decide ((n : Int) < 6) = true := by simp; omega
    have e : v = ⟨0, n, 0⟩ := by rw [← hv]; unfold wayOf; rw [if_pos h6]
    clear hv
    subst e
    have hbw : ∀ W, (Instr.build 268 #[(0, .int .i64 0), (1, .agg #[.int .i64 (n : Int), .int .i64 0, .int .i64 0])]).run Tryz.prog W = .ok (.agg (WayV.cells ⟨0, n, 0⟩)) W := fun W => by kernel_rfl
    have hba : ∀ W, (Instr.build 266 #[(0, .int .i64 (n : Int))]).run Tryz.prog W = .ok (.agg #[.int .i64 (n : Int), .int .i64 0, .int .i64 0]) W := fun W => by kernel_rfl
    clear h6
    go_wp2_with (first | ((with_reducible refine at_build 266 #[(0, .tmp 15)] ?_); refine wpList_run rfl _ (exec_build 266 #[(0, .tmp 15)] rfl #[(0, .int .i64 (n : Int))] (by simp only [List.map_toArray, List.map_cons, List.map_nil]; rfl) _ (hba _)) ?_) | ((with_reducible refine at_build 268 #[(0, .const (.int .i64 0)), (1, .tmp 16)] ?_); refine wpList_run rfl _ (exec_build 268 #[(0, .const (.int .i64 0)), (1, .tmp 16)] rfl #[(0, .int .i64 0), (1, .agg #[.int .i64 (n : Int), .int .i64 0, .int .i64 0])] (by simp only [List.map_toArray, List.map_cons, List.map_nil]; rfl) _ (hbw _)) ?_) | ((with_reducible refine at_store 268 (.tmp 2) (.tmp 17) ?_); refine wpList_store_blk rfl 268 (.tmp 2) (.tmp 17) rfl p _ _ _ (by rfl) (by rfl) HP.out (size_way ⟨0, n, 0⟩) rfl (way_one ⟨0, n, 0⟩) (fun hB3 => ?_)) | ((with_reducible refine at_end ?_); refine bodyPost_ret (v := .tuple #[.agg (WayV.cells ⟨0, n, 0⟩), .bool true]) (results_run2 rfl (ResV.row rfl hB3 Tryz.underlying268 rfl (size_way _)) rfl) rfl ⟨rfl, below_setRow HB.out.1 HB.out.2 _⟩) | fail)
  · have t2 : decide ((n : Int) < 6) = false := by simp; omega
    by_cases h38 : n < 38
    · have t3 : decide ((n : Int) < 38) = true := by simp; omega
      have e : v = ⟨1, n - 6, 0⟩ := by rw [← hv]; unfold wayOf; rw [if_neg h6, if_pos h38]
      clear hv
      have e1 : IntKind.i64.wrap ((n : Int) - 6) = ((n - 6 : Nat) : Int) := by rw [IntWalk.i64_in _ (by omega)]; omega
      generalize n - 6 = a at e1 e
      subst e
      have hbw : ∀ W, (Instr.build 268 #[(0, .int .i64 1), (1, .agg #[.int .i64 (a : Int), .int .i64 0, .int .i64 0])]).run Tryz.prog W = .ok (.agg (WayV.cells ⟨1, a, 0⟩)) W := fun W => by kernel_rfl
      have hba : ∀ W, (Instr.build 266 #[(0, .int .i64 (a : Int))]).run Tryz.prog W = .ok (.agg #[.int .i64 (a : Int), .int .i64 0, .int .i64 0]) W := fun W => by kernel_rfl
      clear h6 h38
      go_wp2_with (first | ((with_reducible refine at_build 266 #[(0, .tmp 22)] ?_); refine wpList_run rfl _ (exec_build 266 #[(0, .tmp 22)] rfl #[(0, .int .i64 (a : Int))] (by simp only [List.map_toArray, List.map_cons, List.map_nil]; rfl) _ (hba _)) ?_) | ((with_reducible refine at_build 268 #[(0, .const (.int .i64 1)), (1, .tmp 23)] ?_); refine wpList_run rfl _ (exec_build 268 #[(0, .const (.int .i64 1)), (1, .tmp 23)] rfl #[(0, .int .i64 1), (1, .agg #[.int .i64 (a : Int), .int .i64 0, .int .i64 0])] (by simp only [List.map_toArray, List.map_cons, List.map_nil]; rfl) _ (hbw _)) ?_) | ((with_reducible refine at_store 268 (.tmp 2) (.tmp 24) ?_); refine wpList_store_blk rfl 268 (.tmp 2) (.tmp 24) rfl p _ _ _ (by rfl) (by rfl) HP.out (size_way ⟨1, a, 0⟩) rfl (way_one ⟨1, a, 0⟩) (fun hB3 => ?_)) | ((with_reducible refine at_end ?_); refine bodyPost_ret (v := .tuple #[.agg (WayV.cells ⟨1, a, 0⟩), .bool true]) (results_run2 rfl (ResV.row rfl hB3 Tryz.underlying268 rfl (size_way _)) rfl) rfl ⟨rfl, below_setRow HB.out.1 HB.out.2 _⟩) | fail)
    · have t3 : decide ((n : Int) < 38) = false := by simp; omega
      have e : v = ⟨2, (n - 38) / 32, (n - 38) % 32⟩ := by rw [← hv]; unfold wayOf; rw [if_neg h6, if_neg h38]
      clear hv
      have e1 : IntKind.i64.wrap ((n : Int) - 38) = ((n - 38 : Nat) : Int) := by rw [IntWalk.i64_in _ (by omega)]; omega
      have hq0 : ((n - 38 : Nat) : Int) ≤ 217 := by omega
      generalize n - 38 = q at e1 hq0 e
      have e2 : ((q : Int)).tdiv 32 = ((q / 32 : Nat) : Int) := by rw [Int.tdiv_eq_ediv_of_nonneg (by omega)]; omega
      have e3 : ((q : Int)).tmod 32 = ((q % 32 : Nat) : Int) := by rw [Int.tmod_eq_emod_of_nonneg (by omega)]; omega
      have hbw : ∀ W, (Instr.build 268 #[(0, .int .i64 2), (1, .agg #[.int .i64 ((q / 32 : Nat) : Int), .int .i64 ((q % 32 : Nat) : Int), .int .i64 0])]).run Tryz.prog W = .ok (.agg (WayV.cells ⟨2, q / 32, q % 32⟩)) W := fun W => by kernel_rfl
      have hba : ∀ W, (Instr.build 266 #[(0, .int .i64 ((q / 32 : Nat) : Int)), (1, .int .i64 ((q % 32 : Nat) : Int))]).run Tryz.prog W = .ok (.agg #[.int .i64 ((q / 32 : Nat) : Int), .int .i64 ((q % 32 : Nat) : Int), .int .i64 0]) W := fun W => by kernel_rfl
      have e4 : IntKind.i64.wrap ((q / 32 : Nat) : Int) = ((q / 32 : Nat) : Int) := IntWalk.i64_in _ (by omega)
      generalize q / 32 = a at *
      generalize q % 32 = b at *
      subst e
      clear h6 h38
      go_wp2_with (first | ((with_reducible refine at_build 266 #[(0, .tmp 28), (1, .tmp 30)] ?_); refine wpList_run rfl _ (exec_build 266 #[(0, .tmp 28), (1, .tmp 30)] rfl #[(0, .int .i64 (a : Int)), (1, .int .i64 (b : Int))] (by simp only [List.map_toArray, List.map_cons, List.map_nil]; rfl) _ (hba _)) ?_) | ((with_reducible refine at_build 268 #[(0, .const (.int .i64 2)), (1, .tmp 31)] ?_); refine wpList_run rfl _ (exec_build 268 #[(0, .const (.int .i64 2)), (1, .tmp 31)] rfl #[(0, .int .i64 2), (1, .agg #[.int .i64 (a : Int), .int .i64 (b : Int), .int .i64 0])] (by simp only [List.map_toArray, List.map_cons, List.map_nil]; rfl) _ (hbw _)) ?_) | ((with_reducible refine at_store 268 (.tmp 2) (.tmp 32) ?_); refine wpList_store_blk rfl 268 (.tmp 2) (.tmp 32) rfl p _ _ _ (by rfl) (by rfl) HP.out (size_way ⟨2, a, b⟩) rfl (way_one ⟨2, a, b⟩) (fun hB3 => ?_)) | ((with_reducible refine at_end ?_); refine bodyPost_ret (v := .tuple #[.agg (WayV.cells ⟨2, a, b⟩), .bool true]) (results_run2 rfl (ResV.row rfl hB3 Tryz.underlying268 rfl (size_way _)) rfl) rfl ⟨rfl, below_setRow HB.out.1 HB.out.2 _⟩) | fail)

theorem or_two {a b : Nat} (ha : a < 256) (hb : b < 256) : bits BinOp.or IntKind.u16 (a : Int) (((256 * b : Nat)) : Int) = ((a + 256 * b : Nat) : Int) := by
  have h := (bits_nat .u16 16 (by decide) (fun n h0 h1 => by rw [IntKind.wrap_u16]; omega) a (256 * b) (by omega) (by omega)).2
  rw [h]
  have : a ||| 256 * b = a + 256 * b := by
    rw [Nat.or_comm, Nat.add_comm]
    exact (Nat.two_pow_add_eq_or_of_lt (i := 8) ha b).symm
  rw [this]
set_option maxRecDepth 100000 in
set_option maxHeartbeats 800000 in
theorem pointer_ok (w : World) {b : BlkV} (hb : b.length = 64) {i : Nat} (hi : i < 32) :
    Calls Tryz.prog 146 #[bval b, .int .i64 (i : Int)] w fun e w' => e = .returned (.int .u16 (ptrB b i : Int)) ∧ Below w.heap.size w w' := by
  have hz : (i : Int) < 32 := by omega
  have e1 : IntKind.i64.wrap (2 * (i : Int)) = 2 * (i : Int) := IntWalk.i64_in _ (by omega)
  have e2 : IntKind.i64.wrap (2 * (i : Int) + 1) = 2 * (i : Int) + 1 := IntWalk.i64_in _ (by omega)
  obtain ⟨r, hr⟩ : ∃ r, ptrB b i = r := ⟨_, rfl⟩
  rw [hr]
  go_enter Tryz.func146, Tryz.ntmps146
  go_upto_region 1 with (fail)
  refine at_world (fun W => ∃ p, p = w.heap.size ∧ Below w.heap.size w W ∧ Blk W p 106 (bvs b).toArray) ⟨_, rfl, (Below.refl _ _).alloc (Nat.le_refl _) _, Blk.new _ _ _⟩ (fun w1 hw1 => ?_)
  obtain ⟨p, hp, hb1, hP⟩ := hw1
  rw [← hp]
  have HB := hide hb1
  have pl := hP.lt
  have c1 : w1.cell? ⟨p, 2 * i, none⟩ = some (.int .u8 ((b.getD (2 * i) 0).toNat : Int)) := (hP.cell (2 * i)).trans (by
    rw [List.getElem?_toArray, bvs_get, List.getElem?_eq_getElem (by omega), List.getD_eq_getElem?_getD, List.getElem?_eq_getElem (by omega)]; rfl)
  have c2 : w1.cell? ⟨p, 2 * i + 1, none⟩ = some (.int .u8 ((b.getD (2 * i + 1) 0).toNat : Int)) := (hP.cell (2 * i + 1)).trans (by
    rw [List.getElem?_toArray, bvs_get, List.getElem?_eq_getElem (by omega), List.getD_eq_getElem?_getD, List.getElem?_eq_getElem (by omega)]; rfl)
  have k1 := (b.getD (2 * i) 0).toNat_lt
  have k2 := (b.getD (2 * i + 1) 0).toNat_lt
  unfold ptrB at hr
  generalize (b.getD (2 * i) 0).toNat = x at c1 k1 hr
  generalize (b.getD (2 * i + 1) 0).toNat = y at c2 k2 hr
  have o1 := or_two k1 k2
  have e3 : IntKind.u16.wrap (x : Int) = (x : Int) := by rw [IntKind.wrap_u16]; omega
  have e4 : IntKind.u16.wrap (y : Int) = (y : Int) := by rw [IntKind.wrap_u16]; omega
  have e5 : IntKind.u16.wrap ((y : Int) * 256) = ((256 * y : Nat) : Int) := by rw [IntKind.wrap_u16]; omega
  rw [hr, show ((256 * y : Nat) : Int) = 256 * (y : Int) from by omega] at o1
  clear hp hP hb1 hr k1 k2
  go_quiet (fail)
  go_wp2
  go_returns
  exact ⟨rfl, below_drewN HB.out _⟩
set_option maxRecDepth 100000 in
set_option maxHeartbeats 800000 in
theorem point_ok (w : World) {b : BlkV} (hb : b.length = 64) {i n : Nat} (hi : i < 32) (hn : n < 65536) :
    Calls Tryz.prog 147 #[bval b, .int .i64 (i : Int), .int .u16 (n : Int)] w fun e w' => e = .returned (bval (pointB b i n)) ∧ Below w.heap.size w w' := by
  have hz : (i : Int) < 32 := by omega
  have h64 : 2 * (i : Int) < 64 := by omega
  have h65 : 2 * (i : Int) + 1 < 64 := by omega
  have h66 : (0 : Int) ≤ 2 * (i : Int) + 1 := by omega
  have h67 : (0 : Int) ≤ 2 * (i : Int) := by omega
  have e1 : IntKind.i64.wrap (2 * (i : Int)) = 2 * (i : Int) := IntWalk.i64_in _ (by omega)
  have e2 : IntKind.i64.wrap (2 * (i : Int) + 1) = 2 * (i : Int) + 1 := IntWalk.i64_in _ (by omega)
  obtain ⟨r, hr⟩ : ∃ r, pointB b i n = r := ⟨_, rfl⟩
  rw [hr]
  have HR := hide hr
  have HB0 := hide hb
  have HRL := hide (show r.length = 64 from by rw [← hr, pointB_length]; exact hb)
  clear hr
  go_enter Tryz.func147, Tryz.ntmps147
  go_upto_region 1 with (first | ((with_reducible refine at_alloc 106 ?_); refine wpList_alloc_as rfl 106 rfl _ (zero_block _) ?_) | fail)
  refine at_world (fun W => ∃ p q, p = w.heap.size ∧ q = w.heap.size + 1 ∧ Below w.heap.size w W ∧ Blk W p 106 (bvs b).toArray ∧ Blk W q 106 (bvs zeroB).toArray) ⟨_, _, rfl, rfl, ((Below.refl _ _).alloc (Nat.le_refl _) _).alloc (by simp) _, (Blk.new _ _ _).alloc _, by have := Blk.new (w.alloc (.cells (bvs b).toArray 106)) 106 (bvs zeroB).toArray; rwa [World.size_alloc] at this⟩ (fun w1 hw1 => ?_)
  obtain ⟨p, q, hp, hq, hb1, hP, hQ⟩ := hw1
  simp only [World.size_alloc, Act.put, List.setIfInBounds_toArray, List.set_cons_zero, List.set_cons_succ]
  rw [show w.heap.size + 1 = q from hq.symm, ← hp]
  have HB := hide (And.intro hb1 (show w.heap.size ≤ p ∧ w.heap.size ≤ q from by omega))
  have hpq : p ≠ q := by omega
  have HPQ := hide hpq
  have HQ := hide hQ
  have hB1 := hP.set_ (2 * i) (bv (UInt8.ofNat (n % 256)))
  rw [bvs_set] at hB1
  have hB2 := hB1.set_ (2 * i + 1) (bv (UInt8.ofNat (n / 256)))
  rw [bvs_set] at hB2
  have h1 : (bv (UInt8.ofNat (n % 256))) = .int .u8 ((n % 256 : Nat) : Int) := bv_ofNat (by omega)
  have h2 : (bv (UInt8.ofNat (n / 256))) = .int .u8 ((n / 256 : Nat) : Int) := bv_ofNat (by omega)
  have hr : ((b.set (2 * i) (UInt8.ofNat (n % 256))).set (2 * i + 1) (UInt8.ofNat (n / 256))) = r := HR.out
  rw [hr, h1, h2] at hB2
  rw [h1] at hB1
  have hs1 : (bvs (b.set (2 * i) (UInt8.ofNat (n % 256)))).toArray.size = 64 := bvs_size (by rw [List.length_set]; exact HB0.out)
  have e3 : IntKind.u8.wrap (n : Int) = ((n % 256 : Nat) : Int) := by rw [IntKind.wrap_u8]; omega
  have e4 : IntKind.u8.wrap ((n : Int) / 256) = ((n / 256 : Nat) : Int) := by rw [IntKind.wrap_u8]; omega
  generalize b.set (2 * i) (UInt8.ofNat (n % 256)) = bb at *
  have HP := hide hP
  have HB1 := hide hB1
  have HB2 := hide hB2
  have HS1 := hide hs1
  generalize n % 256 = na at *
  generalize n / 256 = nb at *
  clear hp hq hb1 hP hQ hpq hB1 hB2 hr h1 h2 hs1 hn
  go_wp2_with (first | ((with_reducible refine at_store 5 (.tmp 17) (.tmp 13) ?_); refine wpList_store_cell rfl 5 (.tmp 17) (.tmp 13) rfl p (2 * i) _ _ _ (by rfl) (by rfl) HP.out (by rw [bvs_size HB0.out]; omega) rfl (by kernel_rfl) ?_) | ((with_reducible refine at_store 5 (.tmp 18) (.tmp 16) ?_); refine wpList_store_cell rfl 5 (.tmp 18) (.tmp 16) rfl p (2 * i + 1) _ _ _ (by rfl) (by rfl) HB1.out (by rw [HS1.out]; omega) rfl (by kernel_rfl) ?_) | ((with_reducible refine at_load 106 (.tmp 3) ?_); refine wpList_load_blk rfl 106 (.tmp 3) rfl p 106 _ _ (by rfl) HB2.out Tryz.underlying106 rfl (size_blockOf HRL.out) ?_) | ((with_reducible refine at_store 106 (.tmp 6) (.tmp 19) ?_); refine wpList_store_blk rfl 106 (.tmp 6) (.tmp 19) rfl q 106 _ _ (by rfl) (by rfl) ((HQ.out.far (p := ⟨p, _, none⟩) (Ne.symm HPQ.out) _).far (p := ⟨p, _, none⟩) (Ne.symm HPQ.out) _) (size_blockOf HRL.out) ((bvs_size zeroB_length).trans (bvs_size HRL.out).symm) (bvs_oneCell _) (fun hB5 => ?_)) | ((with_reducible refine at_end ?_); refine bodyPost_ret (v := .agg (bvs r).toArray) (results_run1 rfl (ResV.row rfl hB5 Tryz.underlying106 rfl (size_blockOf HRL.out))) rfl ⟨rfl, ?_⟩) | fail)
  exact below_setRow (Below.setCell (p := ⟨p, 2 * i + 1, none⟩) (Below.setCell (p := ⟨p, 2 * i, none⟩) HB.out.1 HB.out.2.1 _) HB.out.2.1 _) HB.out.2.2 _
set_option maxRecDepth 100000 in
set_option maxHeartbeats 800000 in
theorem root_ok (w : World) {nb : Nat} {v : WayV} (hv : v.Ok) :
    Calls Tryz.prog 144 #[.pointer (some ⟨nb, 0, none⟩), .agg v.cells] w fun e w' => e = .returned (.pointer (some ⟨nb, v.root, none⟩)) ∧ Below w.heap.size w w' := by
  obtain ⟨st, a0, a1⟩ := v
  obtain ⟨r, hr⟩ : ∃ r, WayV.root ⟨st, a0, a1⟩ = r := ⟨_, rfl⟩
  rw [hr]
  unfold WayV.Ok at hv
  simp only at hv
  unfold WayV.root at hr
  simp only at hr
  go_enter Tryz.func144, Tryz.ntmps144
  go_upto_region 1 with (fail)
  refine at_world (fun W => ∃ p, p = w.heap.size ∧ Below w.heap.size w W ∧ Blk W p 268 (WayV.cells ⟨st, a0, a1⟩)) ⟨_, rfl, (Below.refl _ _).alloc (Nat.le_refl _) _, Blk.new _ _ _⟩ (fun w1 hw1 => ?_)
  obtain ⟨p, hp, hb1, hP⟩ := hw1
  rw [← hp]
  have HB := hide hb1
  have c0 : w1.cell? ⟨p, 0, none⟩ = some (.int .i64 (st : Int)) := hP.cell 0
  have c1 : w1.cell? ⟨p, 1, none⟩ = some (.int .i64 (a0 : Int)) := hP.cell 1
  have pl := hP.lt
  clear hp hb1 hP
  rcases hv with ⟨rfl, h0⟩ | ⟨rfl, h0⟩ | ⟨rfl, h0, h1⟩
  · have e : r = 4 + a0 := hr.symm
    have hz : (a0 : Int) < 6 := by omega
    clear hr
    subst e
    go_upto_region 3 with (fail)
    go_quiet (fail)
    go_wp2
    go_returns
    exact ⟨rfl, below_drewN HB.out _⟩
  · have e : r = 10 := hr.symm
    clear hr
    subst e
    go_wp2
    go_returns
    exact ⟨rfl, HB.out⟩
  · have e : r = 11 := hr.symm
    clear hr
    subst e
    go_wp2
    go_returns
    exact ⟨rfl, HB.out⟩
end
end Go.Proofs.YthmkgohfeahdhaaGreat
namespace Go.Proofs.YthmkgohfeahdhaaGreat
open Go.RowKit
set_option linter.unusedSimpArgs false
set_option linter.unusedVariables false

/-- the pointers on the way, behind the root -/
def WayV.idx (v : WayV) : List Nat := if v.steps = 0 then [] else if v.steps = 1 then [v.a0] else [v.a0, v.a1]
theorem WayV.idx_length {v : WayV} (h : v.Ok) : v.idx.length = v.steps := by
  obtain ⟨s, a, b⟩ := v
  rcases h with ⟨rfl, _⟩ | ⟨rfl, _⟩ | ⟨rfl, _, _⟩ <;> rfl
theorem WayV.idx_lt {v : WayV} (h : v.Ok) {k j : Nat} (hk : v.idx[k]? = some j) : j < 32 ∧ v.cells[1 + k]? = some (.int .i64 (j : Int)) ∧ k < 3 := by
  obtain ⟨s, a, b⟩ := v
  rcases h with ⟨rfl, _⟩ | ⟨rfl, h1⟩ | ⟨rfl, h1, h2⟩
  · simp [WayV.idx] at hk
  · rcases k with _ | k
    · simp [WayV.idx] at hk; subst hk; exact ⟨h1, rfl, by omega⟩
    · simp [WayV.idx] at hk
  · rcases k with _ | _ | k
    · simp [WayV.idx] at hk; subst hk; exact ⟨h1, rfl, by omega⟩
    · simp [WayV.idx] at hk; subst hk; exact ⟨h2, rfl, by omega⟩
    · simp [WayV.idx] at hk
/-- the pointer with which a way begins -/
def NodeV.rootV (n : NodeV) (v : WayV) : UInt16 := if v.steps = 0 then n.dir.getD v.a0 0 else if v.steps = 1 then n.single else n.double
theorem NodeV.rootV_at {n : NodeV} (hn : n.dir.length = 6) {v : WayV} (h : v.Ok) : n.cells[v.root]? = some (.int .u16 ((n.rootV v).toNat : Int)) ∧ v.root < 12 := by
  obtain ⟨k, l, g, s, dir, x, y⟩ := n
  simp only at hn
  obtain ⟨d0, d1, d2, d3, d4, d5, rfl⟩ : ∃ d0 d1 d2 d3 d4 d5, dir = [d0, d1, d2, d3, d4, d5] := by
    match dir, hn with
    | [d0, d1, d2, d3, d4, d5], _ => exact ⟨d0, d1, d2, d3, d4, d5, rfl⟩
  obtain ⟨s, a, b⟩ := v
  rcases h with ⟨rfl, h0⟩ | ⟨rfl, _⟩ | ⟨rfl, _, _⟩
  · simp only at h0
    obtain rfl | rfl | rfl | rfl | rfl | rfl : a = 0 ∨ a = 1 ∨ a = 2 ∨ a = 3 ∨ a = 4 ∨ a = 5 := by omega
    all_goals exact ⟨rfl, by unfold WayV.root; simp⟩
  · exact ⟨rfl, by unfold WayV.root; simp⟩
  · exact ⟨rfl, by unfold WayV.root; simp⟩
/-- the steps of a way -/
def blkGo (G : GS) : List Nat → Nat → Nat
  | [], p => p
  | j :: r, p => if p = 0 then 0 else blkGo G r (ptrB (G.by_ (p - 1)) j)
def blkOk (G : GS) (m : Nat) : List Nat → Nat → Prop
  | [], _ => True
  | j :: r, p => p ≠ 0 → p ≤ m ∧ blkOk G m r (ptrB (G.by_ (p - 1)) j)
section
variable {w w' : World} {i : Ids} {s : Sto} {gg : Nat} {g : GeoN} {lab : Int} {G G' : GS} {L : List Nat}
theorem GAt.stay (h : GAt w i s gg g lab G) (hx : TxAt w' i s) (ht : Tch w.heap.size i.own w w') : GAt w' i s gg g lab G := ⟨hx, h.gp.tch h.tx ht, h.ok, h.is, h.gok⟩
theorem gs_get' {k : Nat} (h : GAt w i s gg g lab G) (hk : k < g.blocks) :
    Calls Tryz.prog 93 #[.pointer (some ⟨gg, 0, none⟩), .int .u16 ((k + 1 : Nat) : Int)] w fun e w' => e = .returned (.tuple #[bval (G.by_ k), .int .i64 0]) ∧ GAt w' i s gg g lab G ∧ Tch w.heap.size i.own w w' := by
  have := gget_ok h.tx h.gp h.ok hk
  rw [h.is.byt k hk] at this
  exact this.mono fun e w' ⟨he, hx, ht⟩ => ⟨he, h.stay hx ht, ht⟩
theorem gs_node' {num : Nat} (h : GAt w i s gg g lab G) (h1 : 1 ≤ num) (h2 : num ≤ g.nodes) :
    Calls Tryz.prog 56 #[.pointer (some ⟨gg, 0, none⟩), .int .i64 (num : Int)] w fun e w' => e = .returned (.tuple #[(G.nd num).val, .int .i64 0]) ∧ GAt w' i s gg g lab G ∧ Tch w.heap.size i.own w w' := by
  have := gnode_ok h.tx h.gp h.ok h1 h2
  rw [h.is.nodeV h.gok h1 h2, h.is.nodeE h.gok h1 h2] at this
  exact this.mono fun e w' ⟨he, hx, ht⟩ => ⟨he, h.stay hx ht, ht⟩
set_option maxRecDepth 100000 in
set_option maxHeartbeats 1600000 in
theorem block_ok {n : NodeV} {b : Nat} (h : GAt w i s gg g lab G) (hb : b < 256) (hn : n.dir.length = 6) (hp : blkOk G g.blocks (wayOf b).idx (n.rootV (wayOf b)).toNat) :
    Calls Tryz.prog 99 #[.pointer (some ⟨gg, 0, none⟩), n.val, .int .i64 (b : Int)] w fun e w' => e = .returned (.tuple #[.int .u16 (blkGo G (wayOf b).idx (n.rootV (wayOf b)).toNat : Int), .int .i64 0]) ∧ GAt w' i s gg g lab G ∧ Tch w.heap.size i.own w w' := by
  have hwo := wayOf_ok hb
  have hpl := fun W => place_ok' W hb
  obtain ⟨v, hv⟩ : ∃ v, wayOf b = v := ⟨_, rfl⟩
  rw [hv] at hp hwo hpl ⊢
  obtain ⟨hrc, hr12⟩ := NodeV.rootV_at hn hwo
  have hp0 : (n.rootV v).toNat < 65536 := (n.rootV v).toNat_lt
  generalize (n.rootV v).toNat = p0 at *
  obtain ⟨R, hR⟩ : ∃ R, blkGo G v.idx p0 = R := ⟨_, rfl⟩
  rw [hR]
  have H := hide h
  have HP := hide hp
  have HPL := hide hpl
  have HR := hide (And.intro hR hp0)
  have HN := hide hn
  have HWO := hide hwo
  have HRC := hide hrc
  clear h hp hpl hR hp0 hn hwo hrc hv hb hr12
  go_enter Tryz.func99, Tryz.ntmps99
  go_upto_region 1 with (fail)
  refine at_world (fun W => ∃ nb, nb = w.heap.size ∧ Below w.heap.size w W ∧ Blk W nb 130 n.cells.toArray) ⟨_, rfl, (Below.refl _ _).alloc (Nat.le_refl _) _, Blk.new _ _ _⟩ (fun w1 hw1 => ?_)
  obtain ⟨nb, hnb, hb1, hN1⟩ := hw1
  rw [← hnb]
  have HN1 := hide hN1
  have HB1 := hide hb1
  clear hnb hN1 hb1
  go_wp2_with fail
  refine (HPL.out w1).mono ?_
  rintro e w2 ⟨rfl, hb2⟩
  have HN2 := hide (HN1.out.below hb2 HN1.out.lt)
  have HB2 := hide (HB1.out.trans (hb2.mono HB1.out.size))
  clear hb2 HN1 HB1 HPL
  go_upto_region 2 with (first | ((with_reducible refine at_alloc 268 ?_); refine wpList_alloc_as rfl 268 rfl _ (zero_way _) ?_) | ((with_reducible refine at_store 268 (.tmp 8) (.tmp 17) ?_); refine wpList_store_blk rfl 268 (.tmp 8) (.tmp 17) rfl w2.heap.size _ _ _ (by rfl) (by rfl) (Blk.new _ _ _) (size_way v) rfl (way_one v) (fun _ => ?_)) | fail)
  refine at_world (fun W => ∃ q, q = w2.heap.size ∧ Below w2.heap.size w2 W ∧ Blk W q 268 v.cells) ⟨_, rfl, below_setRow ((Below.refl _ _).alloc (Nat.le_refl _) _) (Nat.le_refl _) _, (Blk.new _ _ _).setRow_same _⟩ (fun w3 hw3 => ?_)
  obtain ⟨q, hq, hb3, hQ3⟩ := hw3
  rw [← hq]
  have HN3 := hide (HN2.out.below hb3 HN2.out.lt)
  have HB3 := hide (HB2.out.trans (hb3.mono HB2.out.size))
  have HQ3 := hide hQ3
  clear hq hb3 hQ3 HN2 HB2
  go_wp2_with (first | ((with_reducible refine at_load 268 (.tmp 8) ?_); refine wpList_load_blk rfl 268 (.tmp 8) rfl q _ _ _ (by rfl) HQ3.out Tryz.underlying268 rfl (size_way v) ?_) | fail)
  refine (root_ok w3 (nb := nb) HWO.out).mono ?_
  rintro e w4 ⟨rfl, hb4⟩
  have HQ4 := hide (HQ3.out.below hb4 HQ3.out.lt)
  have HB4 := hide (HB3.out.trans (hb4.mono HB3.out.size))
  have hN4 := HN3.out.below hb4 HN3.out.lt
  have cr : w4.cell? ⟨nb, v.root, none⟩ = some (.int .u16 (p0 : Int)) := (hN4.cell v.root).trans (by rw [List.getElem?_toArray]; exact HRC.out)
  have nl := hN4.lt
  have c0 : w4.cell? ⟨q, 0, none⟩ = some (.int .i64 (v.steps : Int)) := HQ4.out.cell 0
  have ql := HQ4.out.lt
  have HA4 := hide (H.out.below HB4.out)
  have HQO := hide (show ¬ i.own q from HA4.out.tx.other HQ4.out (by decide) (by decide) (by decide))
  have HT4 := hide (Tch.of_below (S := i.own) HB4.out)
  have HLN := hide (WayV.idx_length HWO.out)
  have hst : (v.steps : Int) ≤ 3 := by rcases HWO.out with h | h | h <;> omega
  clear hb4 hN4 HN3 HB3 HQ3
  go_wp2_with fail
  clear cr nl c0 ql
  go_loopg [10, 27] v.steps (fun gh x10 x27 wr => ∃ k p : Nat, k ≤ v.steps ∧ gh = v.steps - k ∧ x10 = .int .u16 (p : Int) ∧ x27 = .int .i64 (k : Int) ∧ Hid (GAt wr i s gg g lab G) ∧ Hid (Tch w.heap.size i.own w wr) ∧ Hid (blkGo G (v.idx.drop k) p = R ∧ p < 65536) ∧ Hid (blkOk G g.blocks (v.idx.drop k) p) ∧ Hid (Blk wr q 268 v.cells))
  case atStart => exact ⟨0, p0, Nat.zero_le _, rfl, rfl, rfl, HA4, HT4, HR, HP, HQ4⟩
  case round =>
    obtain ⟨k, p, hk, hgh, rfl, rfl, HA, HT, HG, HO, HQ⟩ := hrel
    have HGH := hide hgh
    clear hgh
    rcases Nat.lt_or_ge k v.steps with hkl | hkl
    · have hkz : decide ((k : Int) < (v.steps : Int)) = true := by simp; omega
      have hkl2 : k < v.idx.length := by rw [HLN.out]; exact hkl
      obtain ⟨hj32, hcj, hk3⟩ := WayV.idx_lt HWO.out (List.getElem?_eq_getElem hkl2)
      have hdrop := List.drop_eq_getElem_cons hkl2
      have hg := HG.out
      have ho := HO.out
      rw [hdrop] at hg ho
      generalize v.idx[k] = j at *
      rw [blkGo] at hg
      rw [blkOk] at ho
      have cj : wr.cell? ⟨q, 1 + k, none⟩ = some (.int .i64 (j : Int)) := (HQ.out.cell (1 + k)).trans hcj
      have hk3z : (k : Int) < 3 := by omega
      by_cases hp0 : p = 0
      · have t1 : ((p : Int) == 0) = true := by simp [hp0]
        rw [if_pos hp0] at hg
        have HE := hide hg.1
        clear hcj hdrop hg ho hp0 cj
        go_wp2
        go_returns
        exact ⟨by rw [← HE.out]; rfl, HA.out, HT.out⟩
      · have t1 : ((p : Int) == 0) = false := by simp [hp0]
        rw [if_neg hp0] at hg
        obtain ⟨hpm, ho2⟩ := ho hp0
        have hget := gs_get' (k := p - 1) HA.out (by omega)
        rw [show ((p - 1 + 1 : Nat) : Int) = (p : Int) from by omega] at hget
        have hbl := HA.out.gok.len (p - 1)
        generalize G.by_ (p - 1) = bk at *
        have hpt := fun W => pointer_ok W hbl hj32
        have hlt := ptrB_lt bk j
        generalize ptrB bk j = p2 at *
        have HGT := hide hget
        have HPT := hide hpt
        have HBL := hide hbl
        have HE := hide (And.intro hg.1 hlt)
        have HO2 := hide ho2
        have HCJ := hide hcj
        clear hcj hdrop hg ho hp0 cj hpm ho2 hget hbl hpt hlt HG HO hj32
        go_wp2_with fail
        refine HGT.out.mono ?_
        rintro e w5 ⟨rfl, ha5, ht5⟩
        have HA5 := hide ha5
        have HT5 := hide (HT.out.trans (ht5.mono HT.out.size fun _ _ h => h))
        have HQ5 := hide (HQ.out.tch ht5 HQ.out.lt HQO.out)
        clear ha5 ht5 HGT HA HT HQ
        go_upto_region 11 with (first | ((with_reducible refine at_alloc 106 ?_); refine wpList_alloc_as rfl 106 rfl _ (zero_block _) ?_) | ((with_reducible refine at_store 106 (.tmp 12) (.tmp 36) ?_); refine wpList_store_blk rfl 106 (.tmp 12) (.tmp 36) rfl w5.heap.size 106 _ _ (by rfl) (by rfl) (Blk.new _ _ _) (size_blockOf HBL.out) ((bvs_size zeroB_length).trans (bvs_size HBL.out).symm) (bvs_oneCell _) (fun _ => ?_)) | fail)
        refine at_world (fun W => ∃ z, z = w5.heap.size ∧ Below w5.heap.size w5 W ∧ Blk W z 106 (bvs bk).toArray) ⟨_, rfl, below_setRow ((Below.refl _ _).alloc (Nat.le_refl _) _) (Nat.le_refl _) _, (Blk.new _ _ _).setRow_same _⟩ (fun w6 hw6 => ?_)
        obtain ⟨z, hz, hb6, hZ6⟩ := hw6
        rw [← hz]
        have HA6 := hide (HA5.out.below hb6)
        have HT6 := hide (HT5.out.trans ((Tch.of_below hb6).mono HT5.out.size fun _ _ h => h))
        have HQ6 := hide (HQ5.out.below hb6 HQ5.out.lt)
        have HZ6 := hide hZ6
        clear hz hb6 hZ6 HA5 HT5 HQ5
        have cj : w6.cell? ⟨q, 1 + k, none⟩ = some (.int .i64 (j : Int)) := (HQ6.out.cell (1 + k)).trans HCJ.out
        have ql := HQ6.out.lt
        go_upto_region 13 with (fail)
        refine wp_region_text [0, 0, 0, 0, 0, 2, 0] (· = w6.drew) (by kernel_rfl) (by kernel_rfl) rfl ?_
        refine wpOrd_q (v := .agg (bvs bk).toArray) (by rfl) (fun W hW => by cases hW; exact exec_load_blk 106 (.tmp 12) rfl z _ (bvs bk).toArray _ rfl HZ6.out.drew Tryz.underlying106 rfl (size_blockOf HBL.out)) ?_
        try simp only [Act.put, List.setIfInBounds_toArray, List.set_cons_zero, List.set_cons_succ]
        iterate 4 (refine wpOrd_q (v := ?_) (by rfl) (fun W hW => ?_) ?_; rotate_left; (focus ((cases hW; go_simp); try with_reducible rfl)); try simp only [Act.put, List.setIfInBounds_toArray, List.set_cons_zero, List.set_cons_succ])
        refine wpOrd_b (by rfl) (fun K hK => ?_)
        go_simp
        refine (HPT.out _).mono ?_
        rintro e w7 ⟨rfl, hb7⟩
        refine hK (fun _ => True) _ _ trivial ?_
        have hb67 : Below w6.heap.size w6 w7 := (Below.refl _ _).drew.trans hb7
        have HA7 := hide (HA6.out.below hb67)
        have HT7 := hide (HT6.out.trans ((Tch.of_below hb67).mono HT6.out.size fun _ _ h => h))
        have HQ7 := hide (HQ6.out.below hb67 HQ6.out.lt)
        clear hK K hb7 hb67 cj ql HA6 HT6 HQ6 HZ6
        try simp only [Act.put, List.setIfInBounds_toArray, List.set_cons_zero, List.set_cons_succ]
        iterate 1 (refine wpOrd_q (v := ?_) (by rfl) (fun W hW => ?_) ?_; rotate_left; (focus (go_simp; try with_reducible rfl)); try simp only [Act.put, List.setIfInBounds_toArray, List.set_cons_zero, List.set_cons_succ])
        refine wpOrd_nil ?_
        go_wp2
        go_roundg (v.steps - (k + 1))
        case rel => exact ⟨k + 1, p2, by omega, rfl, rfl, by first | rfl | go_num, HA7, HT7, HE, HO2, HQ7⟩
        case measure => have := HGH.out; omega
    · have hkz : decide ((k : Int) < (v.steps : Int)) = false := by simp; omega
      have hE : p = R := by
        have := HG.out.1
        rwa [List.drop_of_length_le (by rw [HLN.out]; exact hkl)] at this
      have HE := hide hE
      clear hE
      go_wp2
      go_returns
      exact ⟨by rw [← HE.out]; rfl, HA.out, HT.out⟩
end
end Go.Proofs.YthmkgohfeahdhaaGreat
namespace Go.Proofs.YthmkgohfeahdhaaGreat
open Go.RowKit
set_option linter.unusedSimpArgs false
set_option linter.unusedVariables false

/-- a node with the pointer changed with which a way begins -/
def NodeV.setRoot (n : NodeV) (v : WayV) (x : UInt16) : NodeV := if v.steps = 0 then { n with dir := n.dir.set v.a0 x } else if v.steps = 1 then { n with single := x } else { n with double := x }
theorem NodeV.setRoot_dir (n : NodeV) (v : WayV) (x : UInt16) : (n.setRoot v x).dir.length = n.dir.length := by
  unfold NodeV.setRoot
  split
  · simp
  · split <;> rfl
theorem NodeV.setRoot_cells {n : NodeV} (hn : n.dir.length = 6) {v : WayV} (h : v.Ok) (x : UInt16) : n.cells.toArray.setIfInBounds v.root (.int .u16 (x.toNat : Int)) = (n.setRoot v x).cells.toArray := by
  obtain ⟨k, l, g, s, dir, y, z⟩ := n
  simp only at hn
  obtain ⟨d0, d1, d2, d3, d4, d5, rfl⟩ : ∃ d0 d1 d2 d3 d4 d5, dir = [d0, d1, d2, d3, d4, d5] := by
    match dir, hn with
    | [d0, d1, d2, d3, d4, d5], _ => exact ⟨d0, d1, d2, d3, d4, d5, rfl⟩
  obtain ⟨s, a, b⟩ := v
  rcases h with ⟨rfl, h0⟩ | ⟨rfl, _⟩ | ⟨rfl, _, _⟩
  · simp only at h0
    obtain rfl | rfl | rfl | rfl | rfl | rfl : a = 0 ∨ a = 1 ∨ a = 2 ∨ a = 3 ∨ a = 4 ∨ a = 5 := by omega
    all_goals simp [NodeV.cells, NodeV.setRoot, WayV.root]
  · simp [NodeV.cells, NodeV.setRoot, WayV.root]
  · simp [NodeV.cells, NodeV.setRoot, WayV.root]
/-- a file's block is got, with the blocks of pointers on the way: error, the pointers gone through, what is left -/
def needGo (m : Nat) : List Nat → GS → Nat → Int × List Nat × GS
  | [], G, p => (0, [p], G)
  | j :: r, G, p =>
    if ptrB (G.by_ (p - 1)) j = 0 then
      match G.free m with
      | none => (10, [p], G)
      | some k => ((needGo m r ((G.take k).put (p - 1) (pointB (G.by_ (p - 1)) j (k + 1))) (k + 1)).1, p :: (needGo m r ((G.take k).put (p - 1) (pointB (G.by_ (p - 1)) j (k + 1))) (k + 1)).2.1, (needGo m r ((G.take k).put (p - 1) (pointB (G.by_ (p - 1)) j (k + 1))) (k + 1)).2.2)
    else ((needGo m r G (ptrB (G.by_ (p - 1)) j)).1, p :: (needGo m r G (ptrB (G.by_ (p - 1)) j)).2.1, (needGo m r G (ptrB (G.by_ (p - 1)) j)).2.2)
def needOk (m : Nat) : List Nat → GS → Nat → Prop
  | [], _, p => p ≤ 65535
  | j :: r, G, p => 1 ≤ p ∧ p ≤ m ∧ (ptrB (G.by_ (p - 1)) j ≠ 0 → needOk m r G (ptrB (G.by_ (p - 1)) j)) ∧
      (ptrB (G.by_ (p - 1)) j = 0 → ∀ k, G.free m = some k → needOk m r ((G.take k).put (p - 1) (pointB (G.by_ (p - 1)) j (k + 1))) (k + 1))
/-- the last of the pointers gone through -/
def lastP (l : List Nat) : Nat := l.getLast?.getD 0
section
variable {w w' : World} {i : Ids} {s : Sto} {gg : Nat} {g : GeoN} {lab : Int} {G G' : GS} {K : List Nat}
/-- which blocks are to be written behind it -/
def needL (g : GeoN) (K V : List Nat) : List Nat := K ++ g.base :: V.map fun p => g.data + (p - 1)
theorem needL_length (g : GeoN) (K V : List Nat) : (needL g K V).length = K.length + 1 + V.length := by simp [needL]; omega
theorem needL_sub {g : GeoN} {K V V' : List Nat} (h : ∀ x ∈ V, x ∈ V') : ∀ x ∈ needL g K V, x ∈ needL g K V' := by
  intro x hx
  simp only [needL, List.mem_append, List.mem_cons, List.mem_map] at hx ⊢
  rcases hx with hx | hx | ⟨y, hy, e⟩
  · exact .inl hx
  · exact .inr (.inl hx)
  · exact .inr (.inr ⟨y, h y hy, e⟩)
/-- how far the getting has come -/
structure NeedAt (w0 w : World) (i : Ids) (s0 s : Sto) (gg : Nat) (g : GeoN) (lab : Int) (G : GS) (K V : List Nat) (nb : Nat) (n : NodeV) : Prop where
  ga : GAt w i s gg g lab G
  D : s.D = s0.D
  bad : s.bad = s0.bad
  far : ∀ m, (m < g.base ∨ g.data + g.blocks ≤ m) → s.at_ m = s0.at_ m
  in_ : s.In (needL g K V)
  node : Blk w nb 130 n.cells.toArray
  tch : Tch w0.heap.size (fun k => i.own k ∨ k = nb) w0 w
theorem NeedAt.below {w0 : World} {s0 : Sto} {V : List Nat} {nb : Nat} {n : NodeV} (h : NeedAt w0 w i s0 s gg g lab G K V nb n) (hb : Below w.heap.size w w') : NeedAt w0 w' i s0 s gg g lab G K V nb n :=
  ⟨h.ga.below hb, h.D, h.bad, h.far, h.in_, h.node.below hb h.node.lt, h.tch.trans ((Tch.of_below hb).mono h.tch.size fun _ _ h => h)⟩
theorem NeedAt.step {w0 : World} {s0 s' : Sto} {V V' L : List Nat} {nb : Nat} {n : NodeV} (h : NeedAt w0 w i s0 s gg g lab G K V nb n) (hg : GAt w' i s' gg g lab G') (hs : s.Step s' g L) (ht : Tch w.heap.size i.own w w') (hn : ¬ i.own nb)
    (hV : ∀ x ∈ V, x ∈ V') (hL : ∀ x ∈ L, x ∈ needL g K V') : NeedAt w0 w' i s0 s' gg g lab G' K V' nb n :=
  ⟨hg, hs.D.trans h.D, hs.bad.trans h.bad, fun m hm => (hs.far m hm).trans (h.far m hm), (hs.in_ h.in_).mono fun x hx => by
    rcases List.mem_append.1 hx with hx | hx
    · exact needL_sub hV x hx
    · exact hL x hx, h.node.tch ht h.node.lt hn, h.tch.trans (ht.mono h.tch.size fun _ _ h => .inl h)⟩
end
section
variable {w w' : World} {i : Ids} {s : Sto} {gg : Nat} {g : GeoN} {lab : Int} {G G' : GS} {K : List Nat}
/-- what lies apart from a transaction's own blocks may change -/
theorem TxAt.apart {S : Nat → Prop} (h : TxAt w i s) (ht : Tch w.heap.size S w w') (hS : ∀ k, S k → ¬ i.own k ∧ k ≠ i.ll) : TxAt w' i s :=
  ⟨h.txn.tch ht h.txn.lt (fun hk => (hS _ hk).1 (.inl rfl)), h.map.keep (ht.block _ h.map.lt (fun hk => (hS _ hk).1 (.inr (.inl rfl)))),
    ⟨h.log.log.tch ht h.log.log.lt (fun hk => (hS _ hk).2 rfl), h.log.disk.keep (ht.block _ h.log.disk.dlt (fun hk => (hS _ hk).1 (.inr (.inr (.inl rfl))))) (ht.block _ h.log.disk.row.lt (fun hk => (hS _ hk).1 (.inr (.inr (.inr rfl)))))⟩, h.ok⟩
theorem NeedAt.setNode {w0 : World} {s0 : Sto} {V : List Nat} {nb r : Nat} {n n' : NodeV} {u : Value} (h : NeedAt w0 w i s0 s gg g lab G K V nb n) (hc : n.cells.toArray.setIfInBounds r u = n'.cells.toArray) : NeedAt w0 (w.setCell ⟨nb, r, none⟩ u) i s0 s gg g lab G K V nb n' := by
  have ht : Tch w.heap.size (· = nb) w (w.setCell ⟨nb, r, none⟩ u) := Tch.setCell fun _ => rfl
  have h1 : ¬ i.own nb := h.ga.tx.other h.node (by decide) (by decide) (by decide)
  have h2 : nb ≠ i.ll := h.node.ne h.ga.tx.log.log (by decide)
  have h3 : gg ≠ nb := h.ga.gp.ne h.node (by decide)
  exact ⟨⟨h.ga.tx.apart ht (fun k hk => by subst hk; exact ⟨h1, h2⟩), Blk.tch h.ga.gp ht h.ga.gp.lt h3, h.ga.ok, h.ga.is, h.ga.gok⟩, h.D, h.bad, h.far, h.in_, by rw [← hc]; exact h.node.set_ r u,
    h.tch.trans (ht.mono h.tch.size fun k _ hk => .inr hk)⟩
theorem NeedAt.more {w0 : World} {s0 : Sto} {V V' : List Nat} {nb : Nat} {n : NodeV} (h : NeedAt w0 w i s0 s gg g lab G K V nb n) (hV : ∀ x ∈ V, x ∈ V') : NeedAt w0 w i s0 s gg g lab G K V' nb n :=
  ⟨h.ga, h.D, h.bad, h.far, h.in_.mono (needL_sub hV), h.node, h.tch⟩
theorem NeedAt.res {w0 : World} {s0 : Sto} {V V' L : List Nat} {nb : Nat} {n : NodeV} (h : NeedAt w0 w i s0 s gg g lab G K V nb n) (hr : GRes w w' i s gg g lab G' L)
    (hV : ∀ x ∈ V, x ∈ V') (hL : ∀ x ∈ L, x ∈ needL g K V') : ∃ s', NeedAt w0 w' i s0 s' gg g lab G' K V' nb n := by
  obtain ⟨s', hg, hs, ht⟩ := hr
  exact ⟨s', h.step hg hs ht (h.ga.tx.other h.node (by decide) (by decide) (by decide)) hV hL⟩
end
section
variable {w w' : World} {i : Ids} {s : Sto} {gg : Nat} {g : GeoN} {lab : Int} {G G' : GS} {K : List Nat}
/-- the getting of a block from a node on -/
def needR (m : Nat) (n : NodeV) (v : WayV) (G : GS) : Int × List Nat × GS × NodeV :=
  if (n.rootV v).toNat = 0 then
    match G.free m with
    | none => (10, [], G, n)
    | some k => ((needGo m v.idx (G.take k) (k + 1)).1, (needGo m v.idx (G.take k) (k + 1)).2.1, (needGo m v.idx (G.take k) (k + 1)).2.2, n.setRoot v (UInt16.ofNat (k + 1)))
  else ((needGo m v.idx G (n.rootV v).toNat).1, (needGo m v.idx G (n.rootV v).toNat).2.1, (needGo m v.idx G (n.rootV v).toNat).2.2, n)
def needROk (m : Nat) (n : NodeV) (v : WayV) (G : GS) : Prop :=
  if (n.rootV v).toNat = 0 then ∀ k, G.free m = some k → needOk m v.idx (G.take k) (k + 1) else needOk m v.idx G (n.rootV v).toNat
theorem NodeV.rootV_set {n : NodeV} (hn : n.dir.length = 6) {v : WayV} (h : v.Ok) (x : UInt16) : (n.setRoot v x).rootV v = x := by
  unfold NodeV.setRoot NodeV.rootV
  rcases h with ⟨h, h0⟩ | ⟨h, _⟩ | ⟨h, _, _⟩
  · simp [h, List.getD_eq_getElem?_getD, List.getElem?_set, hn, h0]
  · simp [h]
  · simp [h]
set_option maxRecDepth 100000 in
set_option maxHeartbeats 4000000 in
theorem need_walk {n n' : NodeV} {b nb r : Nat} {e : Int} {V : List Nat} (hre : r = if e = 0 then lastP V else 0) (h : GAt w i s gg g lab G) (hK : s.In K) (hKl : K.length ≤ 22) (hb5 : g.blocks ≤ 512) (hb : b < 256) (hn : n.dir.length = 6) (hN : Blk w nb 130 n.cells.toArray)
    (hok : needROk g.blocks n (wayOf b) G) (hr : needR g.blocks n (wayOf b) G = (e, V, G', n')) :
    Calls Tryz.prog 92 #[.pointer (some ⟨gg, 0, none⟩), .pointer (some ⟨nb, 0, none⟩), .int .i64 (b : Int)] w fun e' w' => e' = .returned (.tuple #[.int .u16 (r : Int), .int .i64 e]) ∧ ∃ s', NeedAt w w' i s s' gg g lab G' K V nb n' := by
  have hwo := wayOf_ok hb
  have hpl := fun W => place_ok' W hb
  obtain ⟨v, hv⟩ : ∃ v, wayOf b = v := ⟨_, rfl⟩
  rw [hv] at hok hr hwo hpl
  have hNO : ¬ i.own nb := h.tx.other hN (by decide) (by decide) (by decide)
  have H := hide h
  have HK := hide (And.intro hK hKl)
  have HB5 := hide hb5
  have HN := hide hn
  have HND := hide hN
  have HOK := hide hok
  have HR := hide hr
  have HPL := hide hpl
  have HWO := hide hwo
  have HNO := hide hNO
  have HRE := hide hre
  clear hre h hK hKl hb5 hn hN hok hr hpl hwo hNO hv hb
  go_enter Tryz.func92, Tryz.ntmps92
  go_wp2_with fail
  refine (HPL.out w).mono ?_
  rintro e w2 ⟨rfl, hb2⟩
  have HB2 := hide hb2
  clear hb2 HPL
  go_upto_region 2 with (first | ((with_reducible refine at_alloc 268 ?_); refine wpList_alloc_as rfl 268 rfl _ (zero_way _) ?_) | ((with_reducible refine at_store 268 (.tmp 8) (.tmp 22) ?_); refine wpList_store_blk rfl 268 (.tmp 8) (.tmp 22) rfl w2.heap.size _ _ _ (by rfl) (by rfl) (Blk.new _ _ _) (size_way v) rfl (way_one v) (fun _ => ?_)) | fail)
  refine at_world (fun W => ∃ q, q = w2.heap.size ∧ Below w2.heap.size w2 W ∧ Blk W q 268 v.cells) ⟨_, rfl, below_setRow ((Below.refl _ _).alloc (Nat.le_refl _) _) (Nat.le_refl _) _, (Blk.new _ _ _).setRow_same _⟩ (fun w3 hw3 => ?_)
  obtain ⟨q, hq, hb3, hQ3⟩ := hw3
  rw [← hq]
  have HB3 := hide (HB2.out.trans (hb3.mono HB2.out.size))
  have HQ3 := hide hQ3
  clear hq hb3 hQ3 HB2
  go_wp2_with (first | ((with_reducible refine at_load 268 (.tmp 8) ?_); refine wpList_load_blk rfl 268 (.tmp 8) rfl q _ _ _ (by rfl) HQ3.out Tryz.underlying268 rfl (size_way v) ?_) | fail)
  refine (root_ok w3 (nb := nb) HWO.out).mono ?_
  rintro e w4 ⟨rfl, hb4⟩
  have HQ4 := hide (HQ3.out.below hb4 HQ3.out.lt)
  have HB4 := hide (HB3.out.trans (hb4.mono HB3.out.size))
  have HN4 := hide (HND.out.below HB4.out HND.out.lt)
  have HA4 := hide (H.out.below HB4.out)
  have HQO := hide (show ¬ i.own q from HA4.out.tx.other HQ4.out (by decide) (by decide) (by decide))
  have HQN := hide (show q ≠ nb from HQ4.out.ne HN4.out (by decide))
  have HS4 : Hid (NeedAt w w4 i s s gg g lab G K [] nb n) := hide ⟨HA4.out, rfl, rfl, fun _ _ => rfl, HK.out.1.mono (fun x hx => by simp [needL, hx]), HN4.out, Tch.of_below HB4.out⟩
  obtain ⟨hrc, hr12⟩ := NodeV.rootV_at HN.out HWO.out
  obtain ⟨p0, hp0⟩ : ∃ p0, (n.rootV v).toNat = p0 := ⟨_, rfl⟩
  have hp6 : p0 < 65536 := by rw [← hp0]; exact (n.rootV v).toNat_lt
  rw [hp0] at hrc
  have cr : w4.cell? ⟨nb, v.root, none⟩ = some (.int .u16 (p0 : Int)) := (HN4.out.cell v.root).trans (by rw [List.getElem?_toArray]; exact hrc)
  have cf : w4.frozen? ⟨nb, v.root, none⟩ = false := HN4.out.frozen v.root
  have nl := HN4.out.lt
  have HP0 := hide (And.intro hp0 hp6)
  have HR12 := hide hr12
  clear hb4 HQ3 HB3 HND hrc hr12 hp0 hp6 HA4 H
  go_upto_if 32 with (fail)
  go_cut [11, 12] from 32 to 43 (fun x11 x12 wc => ∃ (G1 : GS) (s1 : Sto) (n1 : NodeV) (p : Nat), Hid (NeedAt w wc i s s1 gg g lab G1 K [p] nb n1) ∧ Hid (Blk wc q 268 v.cells) ∧ Hid (n1.dir.length = 6 ∧ (n1.rootV v).toNat = p ∧ p < 65536) ∧ Hid (needOk g.blocks v.idx G1 p ∧ ((needGo g.blocks v.idx G1 p).1, (needGo g.blocks v.idx G1 p).2.1, (needGo g.blocks v.idx G1 p).2.2, n1) = (e, V, G', n')))
  case first =>
    by_cases hz : p0 = 0
    · have t1 : ((p0 : Int) == 0) = true := by simp [hz]
      have hrv : (n.rootV v).toNat = 0 := by rw [HP0.out.1]; exact hz
      have hR := HR.out
      have hOK := HOK.out
      unfold needR at hR
      unfold needROk at hOK
      rw [if_pos hrv] at hR hOK
      have hm := HS4.out.in_.len HS4.out.ga.tx.ok
      rw [needL_length, List.length_nil] at hm
      have hm28 : s.M.length ≤ 28 := by have := HK.out.2; omega
      cases hf : G.free g.blocks with
      | none =>
        rw [hf] at hR
        simp only [Prod.mk.injEq] at hR
        obtain ⟨h1, h2, h3, h4⟩ := hR
        have htk := gs_take_full HS4.out.ga hf
        have HTK := hide htk
        have HE := hide (And.intro h1 (And.intro h2 (And.intro h3 h4)))
        clear hrv hOK hz hm hm28 hf htk h1 h2 h3 h4
        go_wp2_with fail
        refine HTK.out.mono ?_
        rintro e w5 ⟨rfl, hres⟩
        obtain ⟨s5, h5⟩ := HS4.out.res hres (fun _ h => h) (by simp)
        have HF := hide h5
        clear hres h5 cr cf nl
        go_wp2
        go_returns
        obtain ⟨rfl, rfl, rfl, rfl⟩ := HE.out
        have hr0 : r = 0 := HRE.out
        subst hr0
        exact ⟨rfl, _, HF.out⟩
      | some k =>
        rw [hf] at hR
        simp only at hR
        have hk := gs_free_lt hf
        have htk := gs_take HS4.out.ga hm28 hf
        have HTK := hide htk
        have HRR := hide hR
        have HOK2 := hide (hOK k hf)
        have HKB := hide hk
        have hb5 := HB5.out
        have hkz : (k : Int) ≤ 511 := by omega
        have ec : ((k + 1 : Nat) : Int) = (k : Int) + 1 := by omega
        clear hrv hOK hz hm hm28 hf htk hR hk
        go_wp2_with fail
        refine HTK.out.mono ?_
        rintro e w5 ⟨rfl, hres⟩
        have hnd := HS4.out.res hres (V' := [k + 1]) (by simp) (fun x hx => by
          simp only [needL, List.mem_append, List.mem_cons, List.mem_map, List.not_mem_nil, or_false] at hx ⊢
          rcases hx with hx | hx
          · right; left; omega
          · right; right; exact ⟨k + 1, rfl, by omega⟩)
        obtain ⟨s5, h5⟩ := hnd
        have hQ5 : Blk w5 q 268 v.cells := by
          obtain ⟨_, _, _, ht⟩ := hres
          exact HQ4.out.tch ht HQ4.out.lt HQO.out
        have hx : (UInt16.ofNat (k + 1)).toNat = k + 1 := by rw [UInt16.toNat_ofNat', Nat.mod_eq_of_lt (by omega)]
        have hcl := NodeV.setRoot_cells HN.out HWO.out (UInt16.ofNat (k + 1))
        rw [hx] at hcl
        rw [ec] at hcl
        have h6 := h5.setNode (r := v.root) hcl
        have hQ6 : Blk (w5.setCell ⟨nb, v.root, none⟩ (.int .u16 ((k : Int) + 1))) q 268 v.cells := hQ5.far HQN.out _
        have HS6 := hide h6
        have HQ6 := hide hQ6
        have cr5 : w5.cell? ⟨nb, v.root, none⟩ = some (.int .u16 (p0 : Int)) := by
          have hh := (NodeV.rootV_at HN.out HWO.out).1
          rw [HP0.out.1] at hh
          exact (h5.node.cell v.root).trans (by rw [List.getElem?_toArray]; exact hh)
        have cf5 : w5.frozen? ⟨nb, v.root, none⟩ = false := h5.node.frozen v.root
        have nl5 := h5.node.lt
        have hrv2 := NodeV.rootV_set HN.out HWO.out (UInt16.ofNat (k + 1))
        have HRV := hide (show ((n.setRoot v (UInt16.ofNat (k + 1))).rootV v).toNat = k + 1 from by rw [hrv2, hx])
        have HDR := hide (show (n.setRoot v (UInt16.ofNat (k + 1))).dir.length = 6 from by rw [NodeV.setRoot_dir]; exact HN.out)
        clear hres h5 hQ5 hx hcl h6 hQ6 hrv2 HTK cr cf nl
        go_wp2
        go_meet
        case rel => exact ⟨_, s5, _, k + 1, by exact HS6, HQ6, hide ⟨HDR.out, HRV.out, by have := HKB.out; omega⟩, hide ⟨HOK2.out, HRR.out⟩⟩
    · have t1 : ((p0 : Int) == 0) = false := by simp [hz]
      have hrv : ¬ (n.rootV v).toNat = 0 := by rw [HP0.out.1]; exact hz
      have hR := HR.out
      have hOK := HOK.out
      unfold needR at hR
      unfold needROk at hOK
      rw [if_neg hrv, HP0.out.1] at hR hOK
      have HF := hide (And.intro hOK hR)
      clear hrv hR hOK hz
      go_wp2
      go_meet
      case rel => exact ⟨G, s, n, p0, hide (HS4.out.more (by simp)), HQ4, hide ⟨HN.out, HP0.out.1, HP0.out.2⟩, HF⟩
  case rest =>
    obtain ⟨G1, s1, n1, p, HS, HQ, HV, HG⟩ := hcut
    obtain ⟨hok1, heq⟩ := HG.out
    simp only [Prod.mk.injEq] at heq
    obtain ⟨h1, h2, h3, rfl⟩ := heq
    have crr : wc.cell? ⟨nb, v.root, none⟩ = some (.int .u16 (p : Int)) := by
      have hh := (NodeV.rootV_at HV.out.1 HWO.out).1
      rw [HV.out.2.1] at hh
      exact (HS.out.node.cell v.root).trans (by rw [List.getElem?_toArray]; exact hh)
    have nlr := HS.out.node.lt
    have c0 : wc.cell? ⟨q, 0, none⟩ = some (.int .i64 (v.steps : Int)) := HQ.out.cell 0
    have ql := HQ.out.lt
    have HLN := hide (WayV.idx_length HWO.out)
    have hst : (v.steps : Int) ≤ 3 := by rcases HWO.out with h | h | h <;> omega
    have HE := hide (And.intro hok1 (And.intro h1 (And.intro h2 h3)))
    clear hok1 h1 h2 h3 HG HR HOK HP0 HR12 HB4 HN4 HS4 HQ4 cr cf nl
    go_wp2_with fail
    clear crr nlr c0 ql
    go_loopg [13, 49] v.steps (fun gh x13 x49 wr => ∃ (k p : Nat) (Gk : GS) (sk : Sto) (U : List Nat), k ≤ v.steps ∧ gh = v.steps - k ∧ x13 = .int .u16 (p : Int) ∧ x49 = .int .i64 (k : Int) ∧ Hid (NeedAt w wr i s sk gg g lab Gk K (U ++ [p]) nb n1) ∧ Hid (Blk wr q 268 v.cells) ∧ Hid (U.length = k ∧ p < 65536) ∧ Hid (needOk g.blocks (v.idx.drop k) Gk p ∧ (needGo g.blocks (v.idx.drop k) Gk p).1 = e ∧ U ++ (needGo g.blocks (v.idx.drop k) Gk p).2.1 = V ∧ (needGo g.blocks (v.idx.drop k) Gk p).2.2 = G'))
    case atStart => exact ⟨0, p, G1, s1, [], Nat.zero_le _, rfl, rfl, rfl, HS, HQ, hide ⟨rfl, HV.out.2.2⟩, HE⟩
    case round =>
      obtain ⟨k, p, Gk, sk, U, hk, hgh, rfl, rfl, HA, HQ, HU, HO⟩ := hrel
      have HGH := hide hgh
      clear hgh HS HV HE
      rcases Nat.lt_or_ge k v.steps with hkl | hkl
      · have hkz : decide ((k : Int) < (v.steps : Int)) = true := by simp; omega
        have hkl2 : k < v.idx.length := by rw [HLN.out]; exact hkl
        obtain ⟨hj32, hcj, hk3⟩ := WayV.idx_lt HWO.out (List.getElem?_eq_getElem hkl2)
        have hdrop := List.drop_eq_getElem_cons hkl2
        obtain ⟨ho, hg1, hg2, hg3⟩ := HO.out
        rw [hdrop] at ho hg1 hg2 hg3
        generalize v.idx[k] = j at *
        rw [needGo] at hg1 hg2 hg3
        rw [needOk] at ho
        obtain ⟨hp1, hpm, ho1, ho2⟩ := ho
        have cj : wr.cell? ⟨q, 1 + k, none⟩ = some (.int .i64 (j : Int)) := (HQ.out.cell (1 + k)).trans hcj
        have hk3z : (k : Int) < 3 := by omega
        have hget := gs_get' (k := p - 1) HA.out.ga (by omega)
        rw [show ((p - 1 + 1 : Nat) : Int) = (p : Int) from by omega] at hget
        have hbl := HA.out.ga.gok.len (p - 1)
        have hpt := fun W => pointer_ok W hbl hj32
        have hlt := ptrB_lt (Gk.by_ (p - 1)) j
        generalize hbk : Gk.by_ (p - 1) = bk at *
        have HGT := hide hget
        have HPT := hide hpt
        have HBL := hide hbl
        have HCJ := hide hcj
        have HPP := hide (And.intro hp1 hpm)
        have HG := hide (And.intro hg1 (And.intro hg2 hg3))
        have HOO := hide (And.intro ho1 ho2)
        have HJ := hide hj32
        clear hcj hdrop hg1 hg2 hg3 ho1 ho2 cj hpm hp1 hget hbl hpt HO hbk hj32
        go_wp2_with fail
        refine HGT.out.mono ?_
        rintro e w5 ⟨rfl, ha5, ht5⟩
        have HA5 : Hid (NeedAt w w5 i s sk gg g lab Gk K (U ++ [p]) nb n1) := hide ⟨ha5, HA.out.D, HA.out.bad, HA.out.far, HA.out.in_, HA.out.node.tch ht5 HA.out.node.lt HNO.out, HA.out.tch.trans (ht5.mono HA.out.tch.size fun _ _ h => .inl h)⟩
        have HQ5 := hide (HQ.out.tch ht5 HQ.out.lt HQO.out)
        clear ha5 ht5 HGT HA HQ
        go_upto_region 15 with (first | ((with_reducible refine at_alloc 106 ?_); refine wpList_alloc_as rfl 106 rfl _ (zero_block _) ?_) | ((with_reducible refine at_store 106 (.tmp 15) (.tmp 56) ?_); refine wpList_store_blk rfl 106 (.tmp 15) (.tmp 56) rfl w5.heap.size 106 _ _ (by rfl) (by rfl) (Blk.new _ _ _) (size_blockOf HBL.out) ((bvs_size zeroB_length).trans (bvs_size HBL.out).symm) (bvs_oneCell _) (fun _ => ?_)) | fail)
        refine at_world (fun W => ∃ z, z = w5.heap.size ∧ Below w5.heap.size w5 W ∧ Blk W z 106 (bvs bk).toArray) ⟨_, rfl, below_setRow ((Below.refl _ _).alloc (Nat.le_refl _) _) (Nat.le_refl _) _, (Blk.new _ _ _).setRow_same _⟩ (fun w6 hw6 => ?_)
        obtain ⟨z, hz, hb6, hZ6⟩ := hw6
        rw [← hz]
        have HZO := hide (show ¬ i.own z from fun hk => HA5.out.ga.tx.other_new (Nat.le_of_eq hz.symm) hk)
        have HA6 := hide (HA5.out.below hb6)
        have HQ6 := hide (HQ5.out.below hb6 HQ5.out.lt)
        have HZ6 := hide hZ6
        clear hz hb6 hZ6 HA5 HQ5
        have cj : w6.cell? ⟨q, 1 + k, none⟩ = some (.int .i64 (j : Int)) := (HQ6.out.cell (1 + k)).trans HCJ.out
        have ql := HQ6.out.lt
        go_upto_region 17 with (fail)
        refine wp_region_text [0, 0, 0, 0, 0, 2, 0] (· = w6.drew) (by kernel_rfl) (by kernel_rfl) rfl ?_
        refine wpOrd_q (v := .agg (bvs bk).toArray) (by rfl) (fun W hW => by cases hW; exact exec_load_blk 106 (.tmp 15) rfl z _ (bvs bk).toArray _ rfl HZ6.out.drew Tryz.underlying106 rfl (size_blockOf HBL.out)) ?_
        try simp only [Act.put, List.setIfInBounds_toArray, List.set_cons_zero, List.set_cons_succ]
        iterate 4 (refine wpOrd_q (v := ?_) (by rfl) (fun W hW => ?_) ?_; rotate_left; (focus ((cases hW; go_simp); try with_reducible rfl)); try simp only [Act.put, List.setIfInBounds_toArray, List.set_cons_zero, List.set_cons_succ])
        refine wpOrd_b (by rfl) (fun K hK => ?_)
        go_simp
        refine (HPT.out _).mono ?_
        rintro e w7 ⟨rfl, hb7⟩
        refine hK (fun _ => True) _ _ trivial ?_
        have hb67 : Below w6.heap.size w6 w7 := (Below.refl _ _).drew.trans hb7
        have HA7 := hide (HA6.out.below hb67)
        have HQ7 := hide (HQ6.out.below hb67 HQ6.out.lt)
        have HZ7 := hide (HZ6.out.below hb67 HZ6.out.lt)
        clear hK hb7 hb67 cj ql HA6 HQ6 HZ6
        try simp only [Act.put, List.setIfInBounds_toArray, List.set_cons_zero, List.set_cons_succ]
        iterate 1 (refine wpOrd_q (v := ?_) (by rfl) (fun W hW => ?_) ?_; rotate_left; (focus (go_simp; try with_reducible rfl)); try simp only [Act.put, List.setIfInBounds_toArray, List.set_cons_zero, List.set_cons_succ])
        refine wpOrd_nil ?_
        by_cases hn0 : ptrB bk j = 0
        · have t1 : ((ptrB bk j : Int) == 0) = true := by simp [hn0]
          have hg1 := HG.out.1
          have hg2 := HG.out.2.1
          have hg3 := HG.out.2.2
          rw [if_pos hn0] at hg1 hg2 hg3
          have ho2 := HOO.out.2 hn0
          have hm := HA7.out.in_.len HA7.out.ga.tx.ok
          rw [needL_length, List.length_append, List.length_singleton, HU.out.1] at hm
          have hm28 : sk.M.length ≤ 26 := by have := HK.out.2; omega
          clear hlt
          cases hf : Gk.free g.blocks with
          | none =>
            rw [hf] at hg1 hg2 hg3
            simp only at hg1 hg2 hg3
            have htk := gs_take_full HA7.out.ga hf
            have HTK := hide htk
            have HE := hide (And.intro hg1 (And.intro hg2 hg3))
            clear hg1 hg2 hg3 ho2 hm hm28 hf htk hn0 HG HOO
            go_wp2_with fail
            refine HTK.out.mono ?_
            rintro e w8 ⟨rfl, hres⟩
            obtain ⟨s8, h8⟩ := HA7.out.res hres (fun _ h => h) (by simp)
            have HF := hide h8
            clear hres h8 HTK
            go_wp2
            go_returns
            obtain ⟨h1, h2, h3⟩ := HE.out
            have hr0 : r = 0 := by rw [HRE.out, if_neg (by omega)]
            subst h1 h2 h3 hr0
            exact ⟨rfl, _, HF.out⟩
          | some kk =>
            rw [hf] at hg1 hg2 hg3
            simp only at hg1 hg2 hg3
            have hkb := gs_free_lt hf
            have htk := gs_take HA7.out.ga (by omega) hf
            have hb5 := HB5.out
            have hkz : (kk : Int) ≤ 511 := by omega
            have ec : ((kk + 1 : Nat) : Int) = (kk : Int) + 1 := by omega
            rw [ec] at htk
            have HTK := hide htk
            have HEC := hide ec
            have HG2 := hide (And.intro hg1 (And.intro hg2 hg3))
            have HO2 := hide (ho2 kk hf)
            have HKB := hide hkb
            have HM := hide hm28
            clear hg1 hg2 hg3 ho2 hm hm28 hf htk hn0 HG HOO hkb ec
            go_wp2_with fail
            refine HTK.out.mono ?_
            rintro e w8 ⟨rfl, hres⟩
            have hnd := HA7.out.res hres (V' := U ++ [p] ++ [kk + 1]) (fun x hx => List.mem_append_left _ hx) (fun x hx => by
              simp only [needL, List.mem_append, List.mem_cons, List.mem_map, List.not_mem_nil, or_false] at hx ⊢
              rcases hx with hx | hx
              · right; left; omega
              · right; right; exact ⟨kk + 1, .inr rfl, by omega⟩)
            obtain ⟨s8, h8⟩ := hnd
            obtain ⟨_, _, _, ht8⟩ := hres
            have HQ8 := hide (HQ7.out.tch ht8 HQ7.out.lt HQO.out)
            have HZ8 := hide (HZ7.out.tch ht8 HZ7.out.lt HZO.out)
            have HA8 := hide h8
            have cj : w8.cell? ⟨q, 1 + k, none⟩ = some (.int .i64 (j : Int)) := (HQ8.out.cell (1 + k)).trans HCJ.out
            have ql := HQ8.out.lt
            clear h8 ht8 HTK HA7 HQ7 HZ7
            go_upto_region 22 with (fail)
            refine wp_region_text [0, 0, 0, 0, 0, 0, 0, 0, 1, 2, 0] (Below w8.heap.size w8) (by kernel_rfl) (by kernel_rfl) (Below.refl _ _).drew ?_
            iterate 2 (refine wpOrd_q (v := ?_) (by rfl) (fun W hW => ?_) ?_; rotate_left; (focus ((obtain ⟨hWc, hWf⟩ := bcell hW; go_simp); try with_reducible rfl)); try simp only [Act.put, List.setIfInBounds_toArray, List.set_cons_zero, List.set_cons_succ])
            refine wpOrd_q (v := .agg (bvs bk).toArray) (by rfl) (fun W hW => exec_load_blk 106 (.tmp 15) rfl z _ (bvs bk).toArray _ rfl (HZ8.out.below hW HZ8.out.lt) Tryz.underlying106 rfl (size_blockOf HBL.out)) ?_
            try simp only [Act.put, List.setIfInBounds_toArray, List.set_cons_zero, List.set_cons_succ]
            iterate 5 (refine wpOrd_q (v := ?_) (by rfl) (fun W hW => ?_) ?_; rotate_left; (focus ((obtain ⟨hWc, hWf⟩ := bcell hW; go_simp); try with_reducible rfl)); try simp only [Act.put, List.setIfInBounds_toArray, List.set_cons_zero, List.set_cons_succ])
            refine wpOrd_x (by rfl) (fun K hK => ?_)
            go_simp
            have hpo := point_ok w8.drew HBL.out HJ.out (n := kk + 1) (by have := HKB.out; omega)
            rw [HEC.out] at hpo
            refine hpo.mono ?_
            rintro e w9 ⟨rfl, hb9⟩
            have hb89 : Below w8.heap.size w8 w9 := (Below.refl _ _).drew.trans hb9
            refine hK _ _ _ (fun _ h => h) hb89 ?_
            have HA9 := hide (HA8.out.below hb89)
            have HQ9 := hide (HQ8.out.below hb89 HQ8.out.lt)
            have hlen : (pointB bk j (kk + 1)).length = 64 := by rw [pointB_length]; exact HBL.out
            have hm := HA9.out.in_.len HA9.out.ga.tx.ok
            have hput := gs_put (k := p - 1) (b := pointB bk j (kk + 1)) HA9.out.ga (by rw [needL_length] at hm; simp only [List.length_append, List.length_cons, List.length_nil] at hm; have := HK.out.2; have := HU.out.1; omega) (by have := HPP.out; omega) hlen
            rw [show ((p - 1 + 1 : Nat) : Int) = (p : Int) from by have := HPP.out; omega] at hput
            have HPUT := hide hput
            clear hK hpo hb9 hb89 cj ql HA8 HQ8 HZ8 hlen hm hput
            try simp only [Act.put, List.setIfInBounds_toArray, List.set_cons_zero, List.set_cons_succ]
            refine wpOrd_b (by rfl) (fun K hK => ?_)
            go_simp
            refine HPUT.out.mono ?_
            rintro e w10 ⟨rfl, hres⟩
            refine hK (fun _ => True) _ _ trivial ?_
            obtain ⟨s10, h10⟩ := HA9.out.res hres (fun _ h => h) (fun x hx => by
              simp only [needL, List.mem_append, List.mem_cons, List.mem_map, List.not_mem_nil, or_false] at hx ⊢
              right; right; exact ⟨p, .inl (.inr rfl), by omega⟩)
            obtain ⟨_, _, _, ht10⟩ := hres
            have HA10 := hide h10
            have HQ10 := hide (HQ9.out.tch ht10 HQ9.out.lt HQO.out)
            clear hK h10 ht10 HPUT HA9 HQ9
            try simp only [Act.put, List.setIfInBounds_toArray, List.set_cons_zero, List.set_cons_succ]
            iterate 1 (refine wpOrd_q (v := ?_) (by rfl) (fun W hW => ?_) ?_; rotate_left; (focus (go_simp; try with_reducible rfl)); try simp only [Act.put, List.setIfInBounds_toArray, List.set_cons_zero, List.set_cons_succ])
            refine wpOrd_nil ?_
            go_wp2
            go_roundg (v.steps - (k + 1))
            case rel => exact ⟨k + 1, kk + 1, _, s10, U ++ [p], by omega, rfl, by rw [HEC.out], by first | rfl | go_num, HA10, HQ10, hide ⟨by rw [List.length_append, List.length_singleton, HU.out.1], by have := HKB.out; omega⟩, hide ⟨HO2.out, HG2.out.1, by rw [List.append_assoc]; exact HG2.out.2.1, HG2.out.2.2⟩⟩
            case measure => have := HGH.out; omega
        · have t1 : ((ptrB bk j : Int) == 0) = false := by simp [hn0]
          have hg1 := HG.out.1
          have hg2 := HG.out.2.1
          have hg3 := HG.out.2.2
          rw [if_neg hn0] at hg1 hg2 hg3
          have ho1 := HOO.out.1 hn0
          generalize ptrB bk j = nx at *
          have HF := hide (And.intro ho1 (And.intro hg1 (And.intro hg2 hg3)))
          have HA8 := hide (HA7.out.more (V' := U ++ [p] ++ [nx]) (fun x hx => List.mem_append_left _ hx))
          clear hg1 hg2 hg3 ho1 hn0 HG HOO HA7
          go_wp2
          go_roundg (v.steps - (k + 1))
          case rel => exact ⟨k + 1, nx, Gk, sk, U ++ [p], by omega, rfl, rfl, by first | rfl | go_num, HA8, HQ7, hide ⟨by rw [List.length_append, List.length_singleton, HU.out.1], hlt⟩, hide ⟨HF.out.1, HF.out.2.1, by rw [List.append_assoc]; exact HF.out.2.2.1, HF.out.2.2.2⟩⟩
          case measure => have := HGH.out; omega
      · have hkz : decide ((k : Int) < (v.steps : Int)) = false := by simp; omega
        obtain ⟨-, hg1, hg2, hg3⟩ := HO.out
        rw [List.drop_of_length_le (by rw [HLN.out]; exact hkl)] at hg1 hg2 hg3
        rw [needGo] at hg1 hg2 hg3
        have hr : r = p := by
          rw [HRE.out, if_pos hg1.symm, ← hg2]
          unfold lastP
          rw [List.getLast?_append]
          rfl
        have HE := hide (And.intro hr (And.intro hg1 (And.intro hg2 hg3)))
        clear hr hg1 hg2 hg3 HO
        go_wp2
        go_returns
        obtain ⟨h0, h1, h2, h3⟩ := HE.out
        subst h0 h1 h2 h3
        exact ⟨rfl, sk, HA.out⟩
end
end Go.Proofs.YthmkgohfeahdhaaGreat
namespace Go.Proofs.YthmkgohfeahdhaaGreat
open Go.RowKit
set_option linter.unusedSimpArgs false
set_option linter.unusedVariables false

section
variable {P : Program} {w : World}
theorem run_slice_arr (t e : TypeId) (g n l : Nat) (k : IntKind) (hu : P.underlying t = some (.array n e)) (hs : (P.info? e).map (·.size) = some 1) (hl : l < n) :
    (Instr.sliceAt t (.pointer (some ⟨g, 0, none⟩)) (some (.int k (l : Int))) none none).run P w = .ok (.slice (some ⟨g, l, none⟩) (n - l) (n - l)) w := by
  cases hq : P.info? e with
  | none => simp [hq] at hs
  | some i =>
    have hi : i.size = 1 := by simpa [hq] using hs
    have h1 : (l : Int) ≤ (n : Int) := by omega
    have h2 : ¬ n = l := by omega
    simp [Instr.sliceAt, Instr.sureAddr, run_underlying hu, Instr.sliceBounds, run_sliceBound, h1, sizeOf, typeInfo, hq, hi, Addr.add_mid, h2, Result.andThen]
theorem run_slice_hi (t e : TypeId) (A : Option Addr) (len cap h : Nat) (k : IntKind) (hu : P.underlying t = some (.slice e)) (hs : (P.info? e).map (·.size) = some 1) (hl : h ≤ cap) :
    (Instr.sliceAt t (.slice A len cap) none (some (.int k (h : Int))) none).run P w = .ok (.slice A h cap) w := by
  cases hq : P.info? e with
  | none => simp [hq] at hs
  | some i =>
    have hi : i.size = 1 := by simpa [hq] using hs
    have h1 : (h : Int) ≤ (cap : Int) := by omega
    cases A <;> simp [Instr.sliceAt, Instr.slice, run_underlying hu, Instr.sliceBounds, run_sliceBound, h1, sizeOf, typeInfo, hq, hi, sliced, Addr.add, Result.andThen]
theorem run_slice_lo (t e : TypeId) (b o len cap l : Nat) (k : IntKind) (hu : P.underlying t = some (.slice e)) (hs : (P.info? e).map (·.size) = some 1) (hl : l ≤ len) (hc : l < cap) :
    (Instr.sliceAt t (.slice (some ⟨b, o, none⟩) len cap) (some (.int k (l : Int))) none none).run P w = .ok (.slice (some ⟨b, o + l, none⟩) (len - l) (cap - l)) w := by
  cases hq : P.info? e with
  | none => simp [hq] at hs
  | some i =>
    have hi : i.size = 1 := by simpa [hq] using hs
    have h1 : (l : Int) ≤ (len : Int) := by omega
    have h2 : ¬ cap = l := by omega
    simp [Instr.sliceAt, Instr.slice, run_underlying hu, Instr.sliceBounds, run_sliceBound, h1, sizeOf, typeInfo, hq, hi, sliced, Addr.add_mid, h2, Result.andThen]
end
section
variable {P : Program} {ops : Array Oper} {rest : List Oper} {o : Oper} {a : Act} {w : World} {Q : Exit → Act → World → Prop}
theorem at_slice (ty : TypeId) (x : Operand) (lo hi : Option Operand) {d : Option Tmp} {k : TypeId} {p : String} {f : Array Edge} {g : Option (Nat × Bool)} (h : wpList P ops Q (⟨d, .slice ty x lo hi none, k, p, f, g⟩ :: rest) a w) : wpList P ops Q (⟨d, .slice ty x lo hi none, k, p, f, g⟩ :: rest) a w := h
theorem exec_slice (ty : TypeId) (x : Operand) (lo hi : Option Operand) (ho : o.op = .slice ty x lo hi none) {v : Value} (hr : (Instr.sliceAt ty (a.eval x) (lo.map a.eval) (hi.map a.eval) none).run P w = .ok v w) : (execOp a.eval o).run P w = .ok (.value v) w := by
  unfold execOp
  simp only [ho, Option.map_none, Sem.run_bind, hr, Result.andThen_ok, Sem.run_pure]
theorem exec_slice_arr (ty e : TypeId) (x lo : Operand) (ho : o.op = .slice ty x (some lo) none none) (g n l : Nat) (k : IntKind) (hx : a.eval x = .pointer (some ⟨g, 0, none⟩)) (hlo : a.eval lo = .int k (l : Int))
    (hu : P.underlying ty = some (.array n e)) (hs : (P.info? e).map (·.size) = some 1) (hl : l < n) : (execOp a.eval o).run P w = .ok (.value (.slice (some ⟨g, l, none⟩) (n - l) (n - l))) w :=
  exec_slice ty x (some lo) none ho (by rw [hx, Option.map_some, hlo]; exact run_slice_arr ty e g n l k hu hs hl)
theorem exec_slice_hi (ty e : TypeId) (x hi : Operand) (ho : o.op = .slice ty x none (some hi) none) (A : Option Addr) (len cap h : Nat) (k : IntKind) (hx : a.eval x = .slice A len cap) (hhi : a.eval hi = .int k (h : Int))
    (hu : P.underlying ty = some (.slice e)) (hs : (P.info? e).map (·.size) = some 1) (hl : h ≤ cap) : (execOp a.eval o).run P w = .ok (.value (.slice A h cap)) w :=
  exec_slice ty x none (some hi) ho (by rw [hx, Option.map_some, hhi]; exact run_slice_hi ty e A len cap h k hu hs hl)
theorem exec_slice_lo (ty e : TypeId) (x lo : Operand) (ho : o.op = .slice ty x (some lo) none none) (b q len cap l : Nat) (k : IntKind) (hx : a.eval x = .slice (some ⟨b, q, none⟩) len cap) (hlo : a.eval lo = .int k (l : Int))
    (hu : P.underlying ty = some (.slice e)) (hs : (P.info? e).map (·.size) = some 1) (hl : l ≤ len) (hc : l < cap) : (execOp a.eval o).run P w = .ok (.value (.slice (some ⟨b, q + l, none⟩) (len - l) (cap - l))) w :=
  exec_slice ty x (some lo) none ho (by rw [hx, Option.map_some, hlo]; exact run_slice_lo ty e b q len cap l k hu hs hl hc)
end
/-- where a slice's part begins -/
def slA (A : Option Addr) (c l : Nat) : Option Addr := if c = l then A else A.map (·.add (l * 1))
section
variable {P : Program} {w : World}
theorem run_slice_lh (t e : TypeId) (A : Option Addr) (len cap l h : Nat) (k1 k2 : IntKind) (hu : P.underlying t = some (.slice e)) (hs : (P.info? e).map (·.size) = some 1) (hl : l ≤ h) (hh : h ≤ cap) :
    (Instr.sliceAt t (.slice A len cap) (some (.int k1 (l : Int))) (some (.int k2 (h : Int))) none).run P w = .ok (.slice (slA A cap l) (h - l) (cap - l)) w := by
  cases hq : P.info? e with
  | none => simp [hq] at hs
  | some i =>
    have hi : i.size = 1 := by simpa [hq] using hs
    have h1 : (l : Int) ≤ (h : Int) := by omega
    have h2 : (h : Int) ≤ (cap : Int) := by omega
    cases A <;> simp [Instr.sliceAt, Instr.slice, run_underlying hu, Instr.sliceBounds, run_sliceBound, h1, h2, sizeOf, typeInfo, hq, hi, sliced, slA, Result.andThen]
end
section
variable {P : Program} {o : Oper} {a : Act} {w : World}
theorem exec_slice_lh (ty e : TypeId) (x lo hi : Operand) (ho : o.op = .slice ty x (some lo) (some hi) none) (A : Option Addr) (len cap l h : Nat) (k1 k2 : IntKind) (hx : a.eval x = .slice A len cap) (hlo : a.eval lo = .int k1 (l : Int)) (hhi : a.eval hi = .int k2 (h : Int))
    (hu : P.underlying ty = some (.slice e)) (hs : (P.info? e).map (·.size) = some 1) (hl : l ≤ h) (hh : h ≤ cap) : (execOp a.eval o).run P w = .ok (.value (.slice (slA A cap l) (h - l) (cap - l))) w :=
  exec_slice ty x (some lo) (some hi) ho (by rw [hx, Option.map_some, hlo, Option.map_some, hhi]; exact run_slice_lh ty e A len cap l h k1 k2 hu hs hl hh)
/-- bytes as a string -/
theorem exec_str (src dst e : TypeId) (x : Operand) (ho : o.op = .convert src dst x) (A : Option Addr) (n c : Nat) (l : List UInt8) (B : Nat) (hx : a.eval x = .slice A n c) (hs : P.underlying src = some (.slice e)) (he : P.underlying e = some (.int .u8)) (hd : P.underlying dst = some .string)
    (h : Rd w B 1 A n (bvs l)) : (execOp a.eval o).run P w = .ok (.value (.string (str l))) w := by
  have hr := run_string_rd (P := P) (w := w) src e dst hs he hd (c := c) h
  unfold execOp
  simp only [ho, hx, Sem.run_bind, hr, Result.andThen_ok, Sem.run_pure]
end
theorem Rd.part {w : World} {B n c : Nat} {A : Option Addr} {l : List UInt8} (h : Rd w B 1 A n (bvs l)) (hc : n ≤ c) {lo hi : Nat} (h1 : lo ≤ hi) (h2 : hi ≤ n) : Rd w B 1 (slA A c lo) (hi - lo) (bvs ((l.drop lo).take (hi - lo))) := by
  have hn : l.length = n := by have := h.1; rw [bvs_length] at this; omega
  refine ⟨by rw [bvs_length, List.length_take, List.length_drop]; omega, fun hp => ?_⟩
  obtain ⟨b, o, rfl, hb, hcs⟩ := h.2 (by omega)
  unfold slA
  rw [if_neg (by omega)]
  refine ⟨b, o + lo, by simp [Addr.add_mid], hb, fun j u hu => ?_⟩
  have hj : j < hi - lo := by
    have := (List.getElem?_eq_some_iff.1 hu).1
    rw [bvs_length, List.length_take] at this
    omega
  rw [bvs_get, List.getElem?_take, if_pos hj, List.getElem?_drop, ← bvs_get] at hu
  have := hcs _ _ hu
  rw [show o + lo + j = o + (lo + j) from by omega]
  exact this
theorem Rd.head {w : World} {B n : Nat} {A : Option Addr} {l : List UInt8} (h : Rd w B 1 A n (bvs l)) {hi : Nat} (h2 : hi ≤ n) : Rd w B 1 A hi (bvs (l.take hi)) := by
  have hn : l.length = n := by have := h.1; rw [bvs_length] at this; omega
  refine ⟨by rw [bvs_length, List.length_take]; omega, fun hp => ?_⟩
  obtain ⟨b, o, rfl, hb, hcs⟩ := h.2 (by omega)
  refine ⟨b, o, rfl, hb, fun j u hu => ?_⟩
  have hj : j < hi := by
    have := (List.getElem?_eq_some_iff.1 hu).1
    rw [bvs_length, List.length_take] at this
    omega
  rw [bvs_get, List.getElem?_take, if_pos hj, ← bvs_get] at hu
  exact hcs _ _ hu
end Go.Proofs.YthmkgohfeahdhaaGreat
namespace Go.Proofs.YthmkgohfeahdhaaGreat
open Go.RowKit
set_option linter.unusedSimpArgs false
set_option linter.unusedVariables false

theorem info_byte : ∃ i, Tryz.prog.info? 5 = some i ∧ i.zero = some (.int .u8 0) ∧ i.size = 1 ∧ i.bytes = 1 := by
  have h : (Tryz.prog.info? 5).map (fun i => (i.zero, i.size, i.bytes)) = some (some (.int .u8 0), 1, 1) := by kernel_rfl
  cases hi : Tryz.prog.info? 5 with
  | none => rw [hi] at h; cases h
  | some i =>
    rw [hi] at h
    simp only [Option.map_some, Option.some.injEq, Prod.mk.injEq] at h
    exact ⟨i, rfl, h.1, h.2.1, h.2.2⟩
theorem own_tch {w w' : World} {base n : Nat} {e : TypeId} {size : Nat} {v : Value} {xs : List Value} {S : Nat → Prop} (h : w.ownsRow base e size v n xs) (ht : Tch w.heap.size S w w') (hS : ∀ k, base ≤ k → ¬ S k) : w'.ownsRow base e size v n xs :=
  own_keep h fun g hg => ht.block g (own_block_ge h hg).2 (hS g (own_block_ge h hg).1)
theorem row_not_blk {w : World} {base n size q : Nat} {e t : TypeId} {v : Value} {xs : List Value} {cs : Array Value} (h : w.ownsRow base e size v n xs) (hB : Blk w q t cs) (hne : t ≠ e) : v.ownBlock ≠ some q := by
  rcases h.2 with ⟨rfl, _⟩ | ⟨g, cap, cur, rfl, hg, hh, _⟩
  · simp [Value.ownBlock]
  · simp only [Value.ownBlock]
    intro he
    cases he
    rw [hB] at hh
    cases hh
    exact hne rfl
theorem GAt.apart {w w' : World} {i : Ids} {s : Sto} {gg : Nat} {g : GeoN} {lab : Int} {G : GS} {S : Nat → Prop} (h : GAt w i s gg g lab G) (ht : Tch w.heap.size S w w') (hS : ∀ k, S k → ¬ i.own k ∧ k ≠ i.ll ∧ k ≠ gg) : GAt w' i s gg g lab G :=
  ⟨h.tx.apart ht (fun k hk => ⟨(hS k hk).1, (hS k hk).2.1⟩), Blk.tch h.gp ht h.gp.lt (fun hk => (hS _ hk).2.2 rfl), h.ok, h.is, h.gok⟩
theorem own_le_cap {w : World} {base n c : Nat} {e : TypeId} {sz : Nat} {A : Option Addr} {xs : List Value} (h : w.ownsRow base e sz (.slice A n c) n xs) : n ≤ c := by
  obtain ⟨A', c', he, hn, _⟩ := own_form h
  cases he
  exact hn
/-- the data block of a file's block -/
def dataP (G : GS) (n : NodeV) (b : Nat) : Nat := blkGo G (wayOf b).idx (n.rootV (wayOf b)).toNat
/-- a file's block can be read -/
structure Rdy (G : GS) (m : Nat) (n : NodeV) (b : Nat) : Prop where
  ok : blkOk G m (wayOf b).idx (n.rootV (wayOf b)).toNat
  ge : 1 ≤ dataP G n b
  le : dataP G n b ≤ m
/-- a byte of a file -/
def fbyte (G : GS) (n : NodeV) (j : Nat) : UInt8 := (G.by_ (dataP G n (j / 64) - 1)).getD (j % 64) 0
def fbytes (G : GS) (n : NodeV) (off len : Nat) : List UInt8 := (List.range len).map fun k => fbyte G n (off + k)
theorem fbytes_add (G : GS) (n : NodeV) (off l m : Nat) : fbytes G n off (l + m) = fbytes G n off l ++ fbytes G n (off + l) m := by
  simp only [fbytes, List.range_add, List.map_append, List.map_map]
  congr 1
  apply List.map_congr_left
  intro k _
  simp only [Function.comp, Nat.add_assoc]
theorem fbytes_block {G : GS} {n : NodeV} {a m : Nat} (hm : a % 64 + m ≤ 64) (hl : (G.by_ (dataP G n (a / 64) - 1)).length = 64) : fbytes G n a m = ((G.by_ (dataP G n (a / 64) - 1)).drop (a % 64)).take m := by
  apply List.ext_getElem?
  intro j
  simp only [fbytes, List.getElem?_map, List.getElem?_take, List.getElem?_drop]
  by_cases hj : j < m
  · rw [List.getElem?_range hj, if_pos hj, Option.map_some]
    have h1 : (a + j) / 64 = a / 64 := by omega
    have h2 : (a + j) % 64 = a % 64 + j := by omega
    unfold fbyte
    rw [h1, h2, List.getD_eq_getElem?_getD, List.getElem?_eq_getElem (by omega)]
    rfl
  · rw [if_neg hj, List.getElem?_eq_none (by simp; omega)]
    rfl
section
variable {w w' : World} {i : Ids} {s : Sto} {gg : Nat} {g : GeoN} {lab : Int} {G : GS}
set_option maxRecDepth 100000 in
set_option maxHeartbeats 4000000 in
theorem read_walk {num off many en : Nat} {n : NodeV} (h : GAt w i s gg g lab G) (h1 : 1 ≤ num) (h2 : num ≤ g.nodes) (hn : G.nd num = n) (hk : n.kind ≠ 0) (hoff : off ≤ 65536) (hmany : many ≤ 4611686018427387904)
    (hen : en = min n.size.toNat (off + min many 16384)) (hs16 : n.size.toNat ≤ 16384) (hr : ∀ b, off / 64 ≤ b → b * 64 < en → Rdy G g.blocks n b) :
    Calls Tryz.prog 36 #[.pointer (some ⟨gg, 0, none⟩), .int .i64 (num : Int), .int .i64 (off : Int), .int .i64 (many : Int)] w fun e w' => ∃ (A : Option Addr) (c : Nat), e = .returned (.tuple #[.slice A (en - off) c, .int .i64 0]) ∧ Rd w' w'.heap.size 1 A (en - off) (bvs (fbytes G n off (en - off))) ∧ GAt w' i s gg g lab G ∧ Tch w.heap.size i.own w w' ∧ (∀ b, A = some b → w.heap.size ≤ b.block) ∧ en - off ≤ c ∧ w'.ownsRow w.heap.size 5 1 (.slice A (en - off) c) (en - off) (bvs (fbytes G n off (en - off))) := by
  have hnd := gs_node' h h1 h2
  rw [hn] at hnd
  have hdir : n.dir.length = 6 := by rw [← hn]; exact h.gok.dir num
  obtain ⟨i0, hi0, i1, i2, i3⟩ := info_byte
  have hkz : (n.kind.toNat : Int) ≠ 0 := fun e => hk (UInt8.toNat_inj.1 (by simpa using e))
  have tk : ((n.kind.toNat : Int) == 0) = false := by rw [beq_eq_false_iff_ne]; exact hkz
  have H := hide h
  have HND := hide hnd
  have HD := hide hdir
  have HI := hide (And.intro hi0 (And.intro i1 (And.intro i2 i3)))
  have HR := hide hr
  have HEN := hide hen
  clear h hnd hdir hi0 i1 i2 i3 hr hk hkz hn h1 h2
  go_enter Tryz.func36, Tryz.ntmps36
  go_wp2_with fail
  refine HND.out.mono ?_
  rintro e w2 ⟨rfl, ha2, ht2⟩
  have HA2 := hide ha2
  have HT2 := hide ht2
  clear ha2 ht2 HND
  go_upto_region 2 with (first | ((with_reducible refine at_alloc 130 ?_); refine wpList_alloc_as rfl 130 rfl _ (zero_node _) ?_) | ((with_reducible refine at_store 130 (.tmp 10) (.tmp 23) ?_); refine wpList_store_blk rfl 130 (.tmp 10) (.tmp 23) rfl w2.heap.size _ _ _ (by rfl) (by rfl) (Blk.new _ _ _) (size_nodeOf HD.out) (by rw [List.size_toArray, List.size_toArray, NodeV.cells_length HD.out]; rfl) (NodeV.cells_one _) (fun _ => ?_)) | fail)
  refine at_world (fun W => ∃ q, q = w2.heap.size ∧ Below w2.heap.size w2 W ∧ Blk W q 130 n.cells.toArray) ⟨_, rfl, below_setRow ((Below.refl _ _).alloc (Nat.le_refl _) _) (Nat.le_refl _) _, (Blk.new _ _ _).setRow_same _⟩ (fun w3 hw3 => ?_)
  obtain ⟨q, hq, hb3, hQ3⟩ := hw3
  rw [← hq]
  have HA3 := hide (HA2.out.below hb3)
  have HT3 := hide (HT2.out.trans ((Tch.of_below hb3).mono HT2.out.size fun _ _ h => h))
  have HQ3 := hide hQ3
  have HQO := hide (show ¬ i.own q from fun hk => HA2.out.tx.other_new (Nat.le_of_eq hq.symm) hk)
  have q0 := (hQ3.cell 0).trans (node_cells_at n).1
  have q3 := (hQ3.cell 3).trans (node_cells_at n).2.2.2
  have ql := hQ3.lt
  have t1 : decide ((off : Int) < 0) = false := by simp
  have t2 : decide ((many : Int) < 0) = false := by simp
  generalize n.size.toNat = sz at *
  clear hq hb3 hQ3 HA2 HT2
  have c1 : IntKind.i64.wrap (sz : Int) = (sz : Int) := IntWalk.i64_in _ (by omega)
  obtain ⟨mm, hmm⟩ : ∃ mm, min many 16384 = mm := ⟨_, rfl⟩
  have m1 : min (many : Int) 16384 = (mm : Int) := by omega
  have c2 : IntKind.i64.wrap ((off : Int) + (mm : Int)) = (off : Int) + (mm : Int) := IntWalk.i64_in _ (by omega)
  have m2 : min (sz : Int) ((off : Int) + (mm : Int)) = (en : Int) := by rw [hmm] at hen; omega
  have hen16 : en ≤ 16384 := by omega
  clear hmm hen
  go_wp2_with fail
  clear q0 q3 ql m1 m2 c1 c2 tk t1 t2
  have HEO := hide (show en - off ≤ 16384 from by omega)
  go_loopg [12, 14] (en - off) (fun gh x12 x14 wr => ∃ (a : Nat) (A : Option Addr) (c : Nat), off ≤ a ∧ (a ≤ en ∨ a = off) ∧ gh = en - a ∧ x14 = .int .i64 (a : Int) ∧ x12 = .slice A (a - off) c ∧ Hid (wr.ownsRow w.heap.size 5 1 (.slice A (a - off) c) (a - off) (bvs (fbytes G n off (a - off)))) ∧ Hid (GAt wr i s gg g lab G) ∧ Hid (Tch w.heap.size i.own w wr) ∧ Hid (Blk wr q 130 n.cells.toArray))
  case atStart => exact ⟨off, none, 0, Nat.le_refl _, .inr rfl, rfl, rfl, by rw [Nat.sub_self], hide (by rw [Nat.sub_self]; exact World.ownsRow_nil _ _ _ _), HA3, HT3, HQ3⟩
  case round =>
    obtain ⟨a, A, c, hoa, hae, hgh, rfl, rfl, HO, HA, HT, HQ⟩ := hrel
    have HGH := hide hgh
    clear hgh
    rcases Nat.lt_or_ge a en with hal | hal
    · have haz : decide ((a : Int) < (en : Int)) = true := by simp; omega
      have e1 : (a : Int).tdiv 64 = ((a / 64 : Nat) : Int) := by rw [Int.tdiv_eq_ediv_of_nonneg (by omega)]; omega
      have e2 : (a : Int).tmod 64 = ((a % 64 : Nat) : Int) := by rw [Int.tmod_eq_emod_of_nonneg (by omega)]; omega
      have hrd := HR.out (a / 64) (by omega) (by omega)
      have hbk := block_ok (b := a / 64) HA.out (by omega) HD.out hrd.ok
      have hge := hrd.ge
      have hle := hrd.le
      have hget := fun W (hW : GAt W i s gg g lab G) => gs_get' (k := dataP G n (a / 64) - 1) hW (by omega)
      have hbl := HA.out.gok.len (dataP G n (a / 64) - 1)
      have hfb := fun m (hm : a % 64 + m ≤ 64) => fbytes_block (G := G) (n := n) (a := a) hm hbl
      have hadd := fun m => fbytes_add G n off (a - off) m
      rw [show off + (a - off) = a from by omega] at hadd
      rw [show blkGo G (wayOf (a / 64)).idx (n.rootV (wayOf (a / 64))).toNat = dataP G n (a / 64) from rfl] at hbk
      obtain ⟨p, hp⟩ : ∃ p, dataP G n (a / 64) = p := ⟨_, rfl⟩
      rw [hp] at hbk hge hle hget hbl hfb
      rw [show ((p - 1 + 1 : Nat) : Int) = (p : Int) from by omega] at hget
      generalize G.by_ (p - 1) = bk at hget hbl hfb
      obtain ⟨kk, hkk⟩ : ∃ kk, min (64 - a % 64) (en - a) = kk := ⟨_, rfl⟩
      have hu := hfb kk (by omega)
      have hv := hadd kk
      rw [hu] at hv
      have m1 : min (64 - ((a % 64 : Nat) : Int)) ((en : Int) - (a : Int)) = (kk : Int) := by omega
      have e3 : IntKind.i64.wrap (64 - ((a % 64 : Nat) : Int)) = 64 - ((a % 64 : Nat) : Int) := IntWalk.i64_in _ (by omega)
      have e4 : IntKind.i64.wrap ((en : Int) - (a : Int)) = (en : Int) - (a : Int) := IntWalk.i64_in _ (by omega)
      have e5 : IntKind.i64.wrap ((a : Int) + (kk : Int)) = (a : Int) + (kk : Int) := IntWalk.i64_in _ (by omega)
      have hk1 : 1 ≤ kk ∧ a % 64 + kk ≤ 64 ∧ a + kk ≤ en := by omega
      have HBK := hide hbk
      have HGT := hide hget
      have HBL := hide hbl
      have HV := hide hv
      have HKK := hide hk1
      have hm64 : a % 64 < 64 := Nat.mod_lt _ (by decide)
      have e6 : IntKind.i64.wrap ((a / 64 : Nat) : Int) = ((a / 64 : Nat) : Int) := IntWalk.i64_in _ (by omega)
      have e7 : IntKind.i64.wrap ((a % 64 : Nat) : Int) = ((a % 64 : Nat) : Int) := IntWalk.i64_in _ (by omega)
      have HOA := hide hoa
      have HAL := hide hal
      generalize a / 64 = ad at *
      generalize a % 64 = ar at *
      clear hrd hbk hge hle hget hbl hfb hadd hp hu hv hkk hk1 hae hoa hal
      go_wp2_with (first | ((with_reducible refine at_load 130 (.tmp 10) ?_); refine wpList_load_blk rfl 130 (.tmp 10) rfl q _ _ _ (by rfl) HQ.out Tryz.underlying130 rfl (size_nodeOf HD.out) ?_) | fail)
      refine HBK.out.mono ?_
      rintro e w5 ⟨rfl, ha5, ht5⟩
      have hget5 := HGT.out
      have HA5 := hide ha5
      have HT5 := hide (HT.out.trans (ht5.mono HT.out.size fun _ _ h => h))
      have HQ5 := hide (HQ.out.tch ht5 HQ.out.lt HQO.out)
      have HO5 := hide (own_tch HO.out ht5 (fun k hk => H.out.tx.other_new hk))
      clear ha5 ht5 HBK HA HT HQ HO hget5
      go_wp2_with fail
      refine (HGT.out w5 HA5.out).mono ?_
      rintro e w6 ⟨rfl, ha6, ht6⟩
      have HA6 := hide ha6
      have HT6 := hide (HT5.out.trans (ht6.mono HT5.out.size fun _ _ h => h))
      have HQ6 := hide (HQ5.out.tch ht6 HQ5.out.lt HQO.out)
      have HO6 := hide (own_tch HO5.out ht6 (fun k hk => H.out.tx.other_new hk))
      clear ha6 ht6 HGT HA5 HT5 HQ5 HO5
      go_upto_region 16 with (first | ((with_reducible refine at_alloc 106 ?_); refine wpList_alloc_as rfl 106 rfl _ (zero_block _) ?_) | ((with_reducible refine at_store 106 (.tmp 17) (.tmp 67) ?_); refine wpList_store_blk rfl 106 (.tmp 17) (.tmp 67) rfl w6.heap.size 106 _ _ (by rfl) (by rfl) (Blk.new _ _ _) (size_blockOf HBL.out) ((bvs_size zeroB_length).trans (bvs_size HBL.out).symm) (bvs_oneCell _) (fun _ => ?_)) | fail)
      refine at_world (fun W => ∃ z, z = w6.heap.size ∧ Below w6.heap.size w6 W ∧ Blk W z 106 (bvs bk).toArray) ⟨_, rfl, below_setRow ((Below.refl _ _).alloc (Nat.le_refl _) _) (Nat.le_refl _) _, (Blk.new _ _ _).setRow_same _⟩ (fun w7 hw7 => ?_)
      obtain ⟨z, hz, hb7, hZ7⟩ := hw7
      rw [← hz]
      have HA7 := hide (HA6.out.below hb7)
      have HT7 := hide (HT6.out.trans ((Tch.of_below hb7).mono HT6.out.size fun _ _ h => h))
      have HQ7 := hide (HQ6.out.below hb7 HQ6.out.lt)
      have HO7 := hide (own_below HO6.out hb7)
      have HZ7 := hide hZ7
      clear hz hb7 hZ7 HA6 HT6 HQ6 HO6
      go_upto_region 19 with (fail)
      obtain ⟨hk1, hk2, hk3⟩ := HKK.out
      have HK2 := hide (And.intro hk1 (And.intro hk2 hk3))
      have hlen : (bvs ((bk.drop ar).take kk)).length = kk := by rw [bvs_length, List.length_take, List.length_drop, HBL.out]; omega
      have hR : Rd w7 w7.heap.size 1 (some ⟨z, ar, none⟩) kk (bvs ((bk.drop ar).take kk)) := ⟨by rw [hlen, Nat.mul_one], fun _ => ⟨z, ar, rfl, HZ7.out.lt, fun j u hu => by
        have h1 := HZ7.out.cell (ar + j)
        have hj : j < kk := by have := (List.getElem?_eq_some_iff.1 hu).1; rw [hlen] at this; exact this
        rw [List.getElem?_toArray, bvs_get] at h1
        rw [bvs_get, List.getElem?_take, if_pos hj, List.getElem?_drop] at hu
        rw [← hu]; exact h1⟩⟩
      have HR7 := hide hR
      have hk3z : kk ≤ 64 - ar := by omega
      clear hk1 hk2 hk3 hlen hR m1 e3 e4 e1 e6
      have HI1 := HI.out
      go_wp2_with (first | ((with_reducible refine at_slice 106 (.tmp 17) (some (.tmp 81)) none ?_); refine wpList_run rfl _ (exec_slice_arr 106 5 (.tmp 17) (.tmp 81) rfl z 64 ar .i64 (by rfl) (by rfl) Tryz.underlying106 (by kernel_rfl) hm64) ?_) | ((with_reducible refine at_slice 24 (.tmp 82) none (some (.tmp 83)) ?_); refine wpList_run rfl _ (exec_slice_hi 24 5 (.tmp 82) (.tmp 83) rfl (some ⟨z, ar, none⟩) (64 - ar) (64 - ar) kk .i64 (by rfl) (by rfl) Tryz.underlying24 (by kernel_rfl) hk3z) ?_) | (at_builtin; refine wpList_append_rd _ rfl (.tmp 79) (.tmp 84) 24 rfl w.heap.size 5 i0 (.int .u8 0) 1 1 Tryz.underlying24 HI.out.1 HI.out.2.1 HI.out.2.2.1 HI.out.2.2.2 rfl (by decide) (.slice A (a - off) c) (a - off) _ rfl HO7.out w7.heap.size (some ⟨z, ar, none⟩) kk (64 - ar) (bvs ((bk.drop ar).take kk)) (by rfl) HR7.out (bvs_one _) (by have := HOA.out; have := HK2.out; have := HEO.out; simp only [maxLen]; omega) (by have := HOA.out; have := HK2.out; omega) (by have := HT7.out.size; omega) ?_; intro v' w8 hown hg hnil hat) | fail)
      obtain ⟨A', c', rfl, hnc, hcm, hn0⟩ := own_form hown
      have hw7 := HT7.out.size
      have hgt : Tch w7.heap.size (fun k => w.heap.size ≤ k ∧ (Value.slice A (a - off) c).ownBlock = some k) w7 w8 := Tch.grown hg (Nat.le_refl _) (fun k hk _ => ⟨(own_block_ge HO7.out hk).1, hk⟩)
      have hll := H.out.tx.log.log.lt
      have hgg := H.out.gp.lt
      have HA8 := hide (HA7.out.apart hgt (fun k hk => ⟨fun ho => H.out.tx.other_new hk.1 ho, by omega, by omega⟩))
      have HT8 := hide (HT7.out.trans (hgt.mono hw7 (fun k hk hs => by omega)))
      have HQ8 := hide (HQ7.out.tch hgt HQ7.out.lt (fun hk => row_not_blk HO7.out HQ7.out (by decide) hk.2))
      have HN := hide (show a - off + kk = a + kk - off from by have := HOA.out; omega)
      have HO8 : Hid (w8.ownsRow w.heap.size 5 1 (.slice A' (a + kk - off) c') (a + kk - off) (bvs (fbytes G n off (a + kk - off)))) := hide (by
        rw [← bvs_append, ← HV.out, HN.out] at hown
        exact hown)
      rw [HN.out]
      clear hown hg hnil hat hnc hcm hn0 hgt hll hgg hw7
      go_roundg (en - (a + kk))
      case rel => exact ⟨a + kk, A', c', by have := HOA.out; omega, .inl HK2.out.2.2, rfl, by first | rfl | go_num, rfl, HO8, HA8, HT8, HQ8⟩
      case measure => have := HGH.out; have := HAL.out; have := HK2.out.1; omega
    · have haz : decide ((a : Int) < (en : Int)) = false := by simp; omega
      have hea : a - off = en - off := by omega
      rw [hea] at HO
      rw [hea]
      clear hae hoa
      go_wp2
      go_returns
      exact ⟨A, c, rfl, Rd.of_own HO.out, HA.out, HT.out, fun b hb => (own_block_ge (g := b.block) HO.out (by subst hb; rfl)).1, own_le_cap HO.out, HO.out⟩
end
end Go.Proofs.YthmkgohfeahdhaaGreat
namespace Go.Proofs.YthmkgohfeahdhaaGreat
open Go.RowKit
set_option linter.unusedSimpArgs false
set_option linter.unusedVariables false

/-- how many bytes a round takes -/
def wrK (off len a : Nat) : Nat := min (64 - (off + a) % 64) (len - a)
/-- a round's block -/
def wrG (G : GS) (off : Nat) (data : List UInt8) (a p : Nat) : GS := G.put (p - 1) (wrB (G.by_ (p - 1)) ((off + a) % 64) ((data.drop a).take (wrK off data.length a)))
def NodeV.grow (n : NodeV) (x : Nat) : NodeV := { n with size := UInt32.ofNat (max n.size.toNat x) }
theorem needGo_len (m : Nat) : ∀ (l : List Nat) (G : GS) (p : Nat), (needGo m l G p).2.1.length ≤ l.length + 1
  | [], G, p => by simp [needGo]
  | j :: r, G, p => by
    rw [needGo]
    split
    · cases G.free m with
      | none => simp
      | some k =>
        have := needGo_len m r ((G.take k).put (p - 1) (pointB (G.by_ (p - 1)) j (k + 1))) (k + 1)
        simp only [List.length_cons]
        omega
    · have := needGo_len m r G (ptrB (G.by_ (p - 1)) j)
      simp only [List.length_cons]
      omega
theorem needR_len {m : Nat} {n n' : NodeV} {v : WayV} {G G' : GS} {e : Int} {V : List Nat} (hv : v.Ok) (h : needR m n v G = (e, V, G', n')) : V.length ≤ 3 := by
  have hi : v.idx.length ≤ 2 := by rw [WayV.idx_length hv]; rcases hv with h | h | h <;> omega
  unfold needR at h
  split at h
  · split at h
    · simp only [Prod.mk.injEq] at h
      rw [← h.2.1]; simp
    · rename_i k _
      simp only [Prod.mk.injEq] at h
      rw [← h.2.1]
      have := needGo_len m v.idx (G.take k) (k + 1)
      omega
  · simp only [Prod.mk.injEq] at h
    rw [← h.2.1]
    have := needGo_len m v.idx G (n.rootV v).toNat
    omega
theorem node_grow (n : NodeV) {x : Nat} (hx : x < 4294967296) : n.cells.toArray.setIfInBounds 3 (.int .u32 (x : Int)) = ({ n with size := UInt32.ofNat x } : NodeV).cells.toArray := by
  have h : (UInt32.ofNat x).toNat = x := by rw [UInt32.toNat_ofNat', Nat.mod_eq_of_lt (by omega)]
  simp [NodeV.cells]
  omega
section
variable {w w' : World} {i : Ids} {s : Sto} {gg : Nat} {g : GeoN} {lab : Int} {G : GS} {K0 : List Nat}
set_option maxRecDepth 100000 in
set_option maxHeartbeats 4000000 in
theorem write_walk {num off c : Nat} {A : Option Addr} {data : List UInt8} (P : Nat → GS → NodeV → List Nat → Prop) (E : Int → Prop) (h : GAt w i s gg g lab G) (hK0 : s.In K0) (h1 : 1 ≤ num) (h2 : num ≤ g.nodes) (hb5 : g.blocks ≤ 512)
    (hk : (G.nd num).kind ≠ 0) (hoff : off ≤ (G.nd num).size.toNat) (hs16 : (G.nd num).size.toNat ≤ 16384) (hlen : off + data.length ≤ 16384) (hc : data.length ≤ c) (hR : Rd w w.heap.size 1 A data.length (bvs data)) (hA : ∀ b, A = some b → ¬ i.own b.block)
    (hP0 : P 0 G (G.nd num) K0)
    (hok : ∀ a G n K, a < data.length → P a G n K → needROk g.blocks n (wayOf ((off + a) / 64)) G ∧ n.dir.length = 6 ∧ K.length ≤ 22)
    (hstep : ∀ a G n K e V G1 n1, a < data.length → P a G n K → needR g.blocks n (wayOf ((off + a) / 64)) G = (e, V, G1, n1) → (e ≠ 0 → E e) ∧ (e = 0 → 1 ≤ lastP V ∧ lastP V ≤ g.blocks ∧ lastP V ∈ V ∧ ∃ K', (∀ x ∈ needL g K V, x ∈ K') ∧ P (a + wrK off data.length a) (wrG G1 off data a (lastP V)) n1 K'))
    (hfin : ∀ G' n K, P data.length G' n K → n.dir.length = 6 ∧ n.size = (G.nd num).size ∧ K.length ≤ 28 ∧ checkN (n.grow (off + data.length)) = true) :
    Calls Tryz.prog 33 #[.pointer (some ⟨gg, 0, none⟩), .int .i64 (num : Int), .int .i64 (off : Int), .slice A data.length c] w fun e w' =>
      (∃ x : Int, E x ∧ e = .returned (.int .i64 x) ∧ ∃ s' G', GAt w' i s' gg g lab G' ∧ s'.D = s.D ∧ s'.bad = s.bad ∧ (∀ m, (m < g.base ∨ g.data + g.blocks ≤ m) → s'.at_ m = s.at_ m) ∧ Tch w.heap.size i.own w w') ∨
      (e = .returned (.int .i64 0) ∧ ∃ s' G' n' K', P data.length G' n' K' ∧ GAt w' i s' gg g lab (G'.set num (n'.grow (off + data.length))) ∧ s'.In (K' ++ [g.base + g.bitmap + (num - 1) / 2]) ∧ s'.D = s.D ∧ s'.bad = s.bad ∧ (∀ m, (m < g.base ∨ g.data + g.blocks ≤ m) → s'.at_ m = s.at_ m) ∧ Tch w.heap.size i.own w w') := by
  have hnd := gs_node' h h1 h2
  have hdir : (G.nd num).dir.length = 6 := h.gok.dir num
  obtain ⟨n0, hn0⟩ : ∃ n0, G.nd num = n0 := ⟨_, rfl⟩
  rw [hn0] at hnd hdir hk hoff hs16 hP0
  have hkz : (n0.kind.toNat : Int) ≠ 0 := fun e => hk (UInt8.toNat_inj.1 (by simpa using e))
  have tk : ((n0.kind.toNat : Int) == 0) = false := by rw [beq_eq_false_iff_ne]; exact hkz
  obtain ⟨dl, hdl⟩ : ∃ dl, data.length = dl := ⟨_, rfl⟩
  rw [hdl] at hlen hc hR ⊢
  have H := hide h
  have HND := hide hnd
  have HD := hide hdir
  have HR := hide hR
  have HAO := hide hA
  have HDL := hide hdl
  have HNM := hide (And.intro h1 h2)
  have HK0 := hide hK0
  have HP0 := hide hP0
  have HOK := hide hok
  have HST := hide hstep
  have HFI := hide hfin
  have HB5 := hide hb5
  have HC := hide hc
  have HN0 := hide hn0
  clear h hnd hdir hR hA h1 h2 hK0 hP0 hok hstep hfin hb5 hc hk hkz hdl hn0
  go_enter Tryz.func33, Tryz.ntmps33
  go_wp2_with fail
  refine HND.out.mono ?_
  rintro e w2 ⟨rfl, ha2, ht2⟩
  have HA2 := hide ha2
  have HT2 := hide ht2
  clear ha2 ht2 HND
  go_upto_region 2 with (first | ((with_reducible refine at_alloc 130 ?_); refine wpList_alloc_as rfl 130 rfl _ (zero_node _) ?_) | ((with_reducible refine at_store 130 (.tmp 9) (.tmp 20) ?_); refine wpList_store_blk rfl 130 (.tmp 9) (.tmp 20) rfl w2.heap.size _ _ _ (by rfl) (by rfl) (Blk.new _ _ _) (size_nodeOf HD.out) (by rw [List.size_toArray, List.size_toArray, NodeV.cells_length HD.out]; rfl) (NodeV.cells_one _) (fun _ => ?_)) | fail)
  refine at_world (fun W => ∃ q, q = w2.heap.size ∧ Below w2.heap.size w2 W ∧ Blk W q 130 n0.cells.toArray) ⟨_, rfl, below_setRow ((Below.refl _ _).alloc (Nat.le_refl _) _) (Nat.le_refl _) _, (Blk.new _ _ _).setRow_same _⟩ (fun w3 hw3 => ?_)
  obtain ⟨q, hq, hb3, hQ3⟩ := hw3
  rw [← hq]
  have HA3 := hide (HA2.out.below hb3)
  have HT3 := hide (HT2.out.trans ((Tch.of_below hb3).mono HT2.out.size fun _ _ h => h))
  have HQ3 := hide hQ3
  have HQO := hide (show ¬ i.own q ∧ w.heap.size ≤ q from ⟨fun hk => HA2.out.tx.other_new (Nat.le_of_eq hq.symm) hk, by have := HT2.out.size; omega⟩)
  have q0 := (hQ3.cell 0).trans (node_cells_at n0).1
  have q3 := (hQ3.cell 3).trans (node_cells_at n0).2.2.2
  have ql := hQ3.lt
  have t1 : decide ((off : Int) < 0) = false := by simp
  obtain ⟨sz, hsz⟩ : ∃ sz, n0.size.toNat = sz := ⟨_, rfl⟩
  rw [hsz] at q3 hoff hs16
  have HSZ := hide hsz
  clear hq hb3 hQ3 HA2 HT2 hsz
  have c1 : IntKind.i64.wrap (sz : Int) = (sz : Int) := IntWalk.i64_in _ (by omega)
  have t2 : decide (sz < off) = false := by simp; omega
  have c2 : IntKind.i64.wrap (16384 - (off : Int)) = 16384 - (off : Int) := IntWalk.i64_in _ (by omega)
  have t3 : decide (16384 - (off : Int) < (dl : Int)) = false := by simp; omega
  go_wp2_with fail
  clear q0 q3 ql c1 c2 tk t1 t2 t3
  go_loopg [11] dl (fun gh x11 wr => ∃ (a : Nat) (Ga : GS) (sa : Sto) (na : NodeV) (Ka : List Nat), a ≤ dl ∧ gh = dl - a ∧ x11 = .int .i64 (a : Int) ∧ Hid (P a Ga na Ka) ∧ Hid (GAt wr i sa gg g lab Ga) ∧ Hid (sa.In Ka) ∧ Hid (sa.D = s.D ∧ sa.bad = s.bad ∧ ∀ m, (m < g.base ∨ g.data + g.blocks ≤ m) → sa.at_ m = s.at_ m) ∧ Hid (Tch w.heap.size i.own w wr) ∧ Hid (Blk wr q 130 na.cells.toArray))
  case atStart => exact ⟨0, G, s, n0, K0, Nat.zero_le _, rfl, rfl, HP0, HA3, HK0, hide ⟨rfl, rfl, fun _ _ => rfl⟩, HT3, HQ3⟩
  case round =>
    obtain ⟨a, Ga, sa, na, Ka, had, hgh, rfl, HP, HA, HI, HF, HT, HQ⟩ := hrel
    have HGH := hide hgh
    clear hgh
    rcases Nat.lt_or_ge a dl with hal | hal
    · have haz : decide ((a : Int) < (dl : Int)) = true := by simp; omega
      have hal2 : a < data.length := by rw [HDL.out]; exact hal
      obtain ⟨hko, hkd, hkl⟩ := HOK.out a Ga na Ka hal2 HP.out
      have e1 : IntKind.i64.wrap ((off : Int) + (a : Int)) = (off : Int) + (a : Int) := IntWalk.i64_in _ (by omega)
      have e2 : ((off : Int) + (a : Int)).tdiv 64 = (((off + a) / 64 : Nat) : Int) := by rw [Int.tdiv_eq_ediv_of_nonneg (by omega)]; omega
      have e3 : ((off : Int) + (a : Int)).tmod 64 = (((off + a) % 64 : Nat) : Int) := by rw [Int.tmod_eq_emod_of_nonneg (by omega)]; omega
      have hb : (off + a) / 64 < 256 := by omega
      have e6 : IntKind.i64.wrap (((off + a) / 64 : Nat) : Int) = (((off + a) / 64 : Nat) : Int) := IntWalk.i64_in _ (by omega)
      have e7 : IntKind.i64.wrap (((off + a) % 64 : Nat) : Int) = (((off + a) % 64 : Nat) : Int) := IntWalk.i64_in _ (by omega)
      have hm64 : (off + a) % 64 < 64 := Nat.mod_lt _ (by decide)
      obtain ⟨e, V, G1, n1, hreq⟩ : ∃ e V G1 n1, needR g.blocks na (wayOf ((off + a) / 64)) Ga = (e, V, G1, n1) := ⟨_, _, _, _, rfl⟩
      obtain ⟨hs1, hs2⟩ := HST.out a Ga na Ka e V G1 n1 hal2 HP.out hreq
      obtain ⟨r, hre⟩ : ∃ r, r = if e = 0 then lastP V else 0 := ⟨_, rfl⟩
      have hnw := need_walk (i := i) hre HA.out HI.out hkl HB5.out hb hkd HQ.out hko hreq
      have hVl := needR_len (wayOf_ok hb) hreq
      have hwk : wrK off data.length a = min (64 - (off + a) % 64) (dl - a) := by unfold wrK; rw [HDL.out]
      have HNW := hide hnw
      have HRE := hide hre
      have HS := hide (And.intro hs1 hs2)
      have HKL := hide (And.intro hkl hVl)
      have HWK := hide hwk
      have HAL := hide (And.intro hal had)
      have hwg : ∀ p, wrG G1 off data a p = G1.put (p - 1) (wrB (G1.by_ (p - 1)) ((off + a) % 64) ((data.drop a).take (min (64 - (off + a) % 64) (dl - a)))) := fun p => by unfold wrG; rw [hwk]
      have HWG := hide hwg
      generalize (off + a) / 64 = bd at *
      generalize (off + a) % 64 = ar at *
      clear hko hkd hkl hb hal2 hreq hs1 hs2 hre hnw hVl hwk hwg had
      go_wp2_with fail
      refine HNW.out.mono ?_
      rintro e' w5 ⟨rfl, s5, hn5⟩
      have HN5 := hide hn5
      clear hn5 HNW
      by_cases he : e = 0
      · obtain ⟨hp1, hp2, hp3, K', hp4, hp5⟩ := HS.out.2 he
        have hr : r = lastP V := by rw [HRE.out, if_pos he]
        rw [← hr] at hp1 hp2 hp3 hp5
        subst he
        have hget := gs_get' (k := r - 1) HN5.out.ga (by omega)
        rw [show ((r - 1 + 1 : Nat) : Int) = (r : Int) from by omega] at hget
        have hbl := HN5.out.ga.gok.len (r - 1)
        have hwg := HWG.out r
        rw [hwg] at hp5
        generalize hbk : G1.by_ (r - 1) = bk at *
        have HGT := hide hget
        have HBL := hide hbl
        have HPP := hide (And.intro hp1 (And.intro hp2 hp3))
        have HP5 := hide (And.intro hp4 hp5)
        clear hp1 hp2 hp3 hp4 hp5 hr hget hbl hwg hbk HS HRE HWG
        go_wp2_with fail
        refine HGT.out.mono ?_
        rintro e w6 ⟨rfl, ha6, ht6⟩
        have HN6 : Hid (NeedAt wr w6 i sa s5 gg g lab G1 Ka V q n1) := hide ⟨ha6, HN5.out.D, HN5.out.bad, HN5.out.far, HN5.out.in_, HN5.out.node.tch ht6 HN5.out.node.lt HQO.out.1, HN5.out.tch.trans (ht6.mono HN5.out.tch.size fun _ _ h => .inl h)⟩
        clear ha6 ht6 HGT HN5
        go_upto_region 16 with (first | ((with_reducible refine at_alloc 106 ?_); refine wpList_alloc_as rfl 106 rfl _ (zero_block _) ?_) | ((with_reducible refine at_store 106 (.tmp 14) (.tmp 66) ?_); refine wpList_store_blk rfl 106 (.tmp 14) (.tmp 66) rfl w6.heap.size 106 _ _ (by rfl) (by rfl) (Blk.new _ _ _) (size_blockOf HBL.out) ((bvs_size zeroB_length).trans (bvs_size HBL.out).symm) (bvs_oneCell _) (fun _ => ?_)) | fail)
        refine at_world (fun W => ∃ z, z = w6.heap.size ∧ Below w6.heap.size w6 W ∧ Blk W z 106 (bvs bk).toArray) ⟨_, rfl, below_setRow ((Below.refl _ _).alloc (Nat.le_refl _) _) (Nat.le_refl _) _, (Blk.new _ _ _).setRow_same _⟩ (fun w7 hw7 => ?_)
        obtain ⟨z, hz, hb7, hZ7⟩ := hw7
        rw [← hz]
        have HN7 := hide (HN6.out.below hb7)
        have HZO := hide (show ¬ i.own z ∧ w6.heap.size ≤ z from ⟨fun hk => HN6.out.ga.tx.other_new (Nat.le_of_eq hz.symm) hk, Nat.le_of_eq hz.symm⟩)
        have HZ7 := hide hZ7
        clear hz hb7 hZ7
        obtain ⟨bA, o, rfl, hbA, hcA⟩ := HR.out.2 (by omega)
        have HT7 : Hid (Tch w.heap.size i.own w w7) := hide (HT.out.trans (HN7.out.tch.mono HT.out.size fun k hk h => h.elim id (fun e => by have := HQO.out.2; omega)))
        have hal := HAL.out.1
        have hkc : (bvs ((data.drop a).take (min (64 - ar) (dl - a)))).length = min (64 - ar) (dl - a) := by rw [bvs_length, List.length_take, List.length_drop, HDL.out]; omega
        have hrow := run_copy_row (P := Tryz.prog) w7.drew 24 24 3 5 z ar (64 - ar) (64 - ar) ⟨bA, o + a, none⟩ (dl - a) (c - a) (bvs bk).toArray 106 (bvs ((data.drop a).take (min (64 - ar) (dl - a)))) Tryz.underlying24 (by kernel_rfl) HZ7.out.drew (by rw [hkc]; exact Nat.min_comm _ _) (fun j v hj => by
          have hjk : j < min (64 - ar) (dl - a) := by have := (List.getElem?_eq_some_iff.1 hj).1; rw [hkc] at this; exact this
          rw [bvs_get, List.getElem?_take, if_pos hjk, List.getElem?_drop, ← bvs_get] at hj
          rw [Addr.add_mid, show o + a + j = o + (a + j) from by omega]
          exact (World.cell?_of_block (w := w) (a := ⟨bA, o + (a + j), none⟩) (HT7.out.block bA hbA (HAO.out _ rfl))).trans (hcA _ _ hj)) (by rw [hkc, bvs_size HBL.out]; omega) (bvs_one _)
        have hcs : (bvs bk).take ar ++ bvs ((data.drop a).take (min (64 - ar) (dl - a))) ++ (bvs bk).drop (ar + (bvs ((data.drop a).take (min (64 - ar) (dl - a)))).length) = bvs (wrB bk ar ((data.drop a).take (min (64 - ar) (dl - a)))) := by
          rw [bvs_take, bvs_drop, bvs_length, ← bvs_append, ← bvs_append]
          rfl
        rw [show (bvs bk).toArray.toList = bvs bk from rfl, hcs, hkc] at hrow
        have hbl2 : (wrB bk ar ((data.drop a).take (min (64 - ar) (dl - a)))).length = 64 := by
          rw [wrB_length (by rw [bvs_length] at hkc; rw [hkc, HBL.out]; omega)]
          exact HBL.out
        have HP5' := HP5.out.2
        have hK1 : a + min (64 - ar) (dl - a) ≤ dl ∧ 1 ≤ min (64 - ar) (dl - a) := by omega
        rw [HWK.out] at HP5'
        generalize wrB bk ar ((data.drop a).take (min (64 - ar) (dl - a))) = bk2 at hrow hbl2 HP5'
        generalize min (64 - ar) (dl - a) = kk at hrow HP5' hK1
        have HROW := hide hrow
        have HB2 := hide hbl2
        have HPN := hide HP5'
        have HK1 := hide hK1
        have hkk16 : (kk : Int) ≤ 16384 := by omega
        have e8 : IntKind.i64.wrap ((a : Int) + (kk : Int)) = (a : Int) + (kk : Int) := IntWalk.i64_in _ (by omega)
        clear hkc hrow hcs hbl2 HP5' hK1 hcA
        go_upto_region 18 with (fail)
        refine wp_region_text [0, 0, 0, 0, 0, 0, 0, 0, 0, 1, 0, 0] (fun _ => True) (by kernel_rfl) (by kernel_rfl) trivial ?_
        iterate 5 (refine wpOrd_q (v := ?_) (by rfl) (fun W hW => ?_) ?_; rotate_left; (focus (go_simp; try with_reducible rfl)); try simp only [Act.put, List.setIfInBounds_toArray, List.set_cons_zero, List.set_cons_succ])
        refine wpOrd_q (v := .slice (some ⟨z, ar, none⟩) (64 - ar) (64 - ar)) (by rfl) (fun W hW => exec_slice_arr 106 5 (.tmp 14) (.tmp 75) rfl z 64 ar .i64 (by rfl) (by rfl) Tryz.underlying106 (by kernel_rfl) hm64) ?_
        try simp only [Act.put, List.setIfInBounds_toArray, List.set_cons_zero, List.set_cons_succ]
        iterate 2 (refine wpOrd_q (v := ?_) (by rfl) (fun W hW => ?_) ?_; rotate_left; (focus (go_simp; try with_reducible rfl)); try simp only [Act.put, List.setIfInBounds_toArray, List.set_cons_zero, List.set_cons_succ])
        refine wpOrd_q (v := .slice (some ⟨bA, o + a, none⟩) (dl - a) (c - a)) (by rfl) (fun W hW => exec_slice_lo 24 5 (.tmp 77) (.tmp 78) rfl bA o dl c a .i64 (by rfl) (by rfl) Tryz.underlying24 (by kernel_rfl) (by omega) (by have := HC.out; omega)) ?_
        try simp only [Act.put, List.setIfInBounds_toArray, List.set_cons_zero, List.set_cons_succ]
        refine wpOrd_x (by rfl) (fun K hK => ?_)
        refine wp_copy_as (.tmp 76) (.tmp 79) 24 24 rfl _ _ (by rfl) (by rfl) HROW.out ?_
        refine hK _ _ _ (fun _ h => h) trivial ?_
        clear hK K
        try simp only [Act.put, List.setIfInBounds_toArray, List.set_cons_zero, List.set_cons_succ]
        iterate 2 (refine wpOrd_q (v := ?_) (by rfl) (fun W hW => ?_) ?_; rotate_left; (focus (go_simp; try with_reducible rfl)); try simp only [Act.put, List.setIfInBounds_toArray, List.set_cons_zero, List.set_cons_succ])
        refine wpOrd_nil ?_
        have HZ8 := hide (HZ7.out.drew.setRow_same (bvs bk2).toArray)
        have hts : Tch w7.heap.size (· = z) w7 (w7.drew.setRow z (bvs bk2).toArray) := (Tch.of_below (Below.refl _ _).drew).trans (Tch.setRow fun _ => rfl)
        have hga8 := HN7.out.ga.apart hts (fun k hk => by
          subst hk
          exact ⟨HZO.out.1, by have := HN6.out.ga.tx.log.log.lt; have := HZO.out.2; omega, by have := HN6.out.ga.gp.lt; have := HZO.out.2; omega⟩)
        have HN8 : Hid (NeedAt wr (w7.drew.setRow z (bvs bk2).toArray) i sa s5 gg g lab G1 Ka V q n1) := hide ⟨hga8, HN7.out.D, HN7.out.bad, HN7.out.far, HN7.out.in_, HN7.out.node.tch hts HN7.out.node.lt (fun e => by have := HN6.out.node.lt; have := HZO.out.2; omega), HN7.out.tch.trans (hts.mono HN7.out.tch.size fun k hk e => by have := HZO.out.2; have := HN6.out.tch.size; omega)⟩
        clear hts hga8 HROW HN7 HT7 HZ7
        refine at_world (fun W => NeedAt wr W i sa s5 gg g lab G1 Ka V q n1 ∧ Blk W z 106 (bvs bk2).toArray) ⟨HN8.out, HZ8.out⟩ (fun w8 hw8 => ?_)
        have HW8 := hide hw8
        clear hw8 HN8 HZ8 HN6
        have hm := HW8.out.1.in_.len HW8.out.1.ga.tx.ok
        rw [needL_length] at hm
        have hput := gs_put (k := r - 1) (b := bk2) HW8.out.1.ga (by have := HKL.out; omega) (by have := HPP.out; omega) HB2.out
        rw [show ((r - 1 + 1 : Nat) : Int) = (r : Int) from by have := HPP.out; omega] at hput
        have HPUT := hide hput
        clear hm hput e1 e2 e3 e6 e7
        go_wp2_with (first | ((with_reducible refine at_load 106 (.tmp 14) ?_); refine wpList_load_blk rfl 106 (.tmp 14) rfl z 106 _ _ (by rfl) HW8.out.2 Tryz.underlying106 rfl (size_blockOf HB2.out) ?_) | fail)
        refine HPUT.out.mono ?_
        rintro e w9 ⟨rfl, hres⟩
        obtain ⟨s9, h9⟩ := HW8.out.1.res hres (fun _ h => h) (fun x hx => by
          simp only [List.mem_singleton] at hx
          simp only [needL, List.mem_append, List.mem_cons, List.mem_map]
          right; right; exact ⟨r, HPP.out.2.2, hx.symm⟩)
        have HN9 := hide h9
        have HT9 := hide (HT.out.trans (h9.tch.mono HT.out.size fun k hk h => h.elim id (fun e => by have := HQO.out.2; omega)))
        have HI9 := hide (h9.in_.mono HP5.out.1)
        have HF9 : Hid (s9.D = s.D ∧ s9.bad = s.bad ∧ ∀ m, (m < g.base ∨ g.data + g.blocks ≤ m) → s9.at_ m = s.at_ m) := hide ⟨h9.D.trans HF.out.1, h9.bad.trans HF.out.2.1, fun m hm => (h9.far m hm).trans (HF.out.2.2 m hm)⟩
        clear hres h9 HPUT HW8
        go_wp2
        go_roundg (dl - (a + kk))
        case rel => exact ⟨a + kk, _, s9, n1, _, HK1.out.1, rfl, by first | rfl | go_num, HPN, hide HN9.out.ga, HI9, HF9, HT9, hide HN9.out.node⟩
        case measure => have := HGH.out; have := HK1.out; omega
      · have te : (e == 0) = false := by simpa using he
        have hE := HS.out.1 he
        have HT5 := hide (HT.out.trans (HN5.out.tch.mono HT.out.size fun k hk h => h.elim id (fun e => by have := HQO.out.2; omega)))
        have HE := hide (And.intro hE he)
        clear hE he
        go_wp2
        go_returns
        exact .inl ⟨e, HE.out.1, rfl, s5, G1, HN5.out.ga, HN5.out.D.trans HF.out.1, HN5.out.bad.trans HF.out.2.1, fun m hm => (HN5.out.far m hm).trans (HF.out.2.2 m hm), HT5.out⟩
    · have haz : decide ((a : Int) < (dl : Int)) = false := by simp; omega
      have hae : a = dl := by omega
      subst hae
      have hfin := HP.out
      rw [← HDL.out] at hfin
      obtain ⟨hd, hsz2, hkl, hck⟩ := HFI.out Ga na Ka hfin
      rw [HN0.out] at hsz2
      have hsz3 : na.size.toNat = sz := by rw [hsz2]; exact HSZ.out
      have q3 := (HQ.out.cell 3).trans (node_cells_at na).2.2.2
      have f3 := HQ.out.frozen 3
      have ql := HQ.out.lt
      rw [hsz3] at q3
      have c1 : IntKind.i64.wrap ((off : Int) + (a : Int)) = (off : Int) + (a : Int) := IntWalk.i64_in _ (by omega)
      have c2 : IntKind.u32.wrap ((off : Int) + (a : Int)) = (off : Int) + (a : Int) := by rw [IntKind.wrap_u32]; omega
      obtain ⟨mx, hmx⟩ : ∃ mx, max sz (off + a) = mx := ⟨_, rfl⟩
      have m1 : max (sz : Int) ((off : Int) + (a : Int)) = (mx : Int) := by omega
      have hg3 := node_grow na (x := mx) (by omega)
      have hgr : ({ na with size := UInt32.ofNat mx } : NodeV) = na.grow (off + data.length) := by unfold NodeV.grow; rw [hsz3, HDL.out, hmx]
      rw [hgr] at hg3
      obtain ⟨n2, hn2⟩ : ∃ n2, na.grow (off + data.length) = n2 := ⟨_, rfl⟩
      rw [hn2] at hg3 hck
      have hd2 : n2.dir.length = 6 := by rw [← hn2]; exact hd
      have HG3 := hide hg3
      have HCK := hide hck
      have HD2 := hide hd2
      have HKL := hide hkl
      have HPF := hide hfin
      have HN2 := hide hn2
      clear hfin hd hsz2 hsz3 hck hkl hmx hg3 hgr hn2 hd2
      go_upto_region 23 with (fail)
      have hts : Tch wr.heap.size (· = q) wr (wr.setCell ⟨q, 3, none⟩ (.int .u32 (mx : Int))) := Tch.setCell fun _ => rfl
      have hga := HA.out.apart hts (fun k hk => by
        subst hk
        exact ⟨HQO.out.1, by have := H.out.tx.log.log.lt; have := HQO.out.2; omega, by have := H.out.gp.lt; have := HQO.out.2; omega⟩)
      have hqn := HQ.out.set_ 3 (.int .u32 (mx : Int))
      rw [HG3.out] at hqn
      have hT := HT.out.trans (hts.mono HT.out.size fun k hk e => by have := HQO.out.2; omega)
      refine at_world (fun W => GAt W i sa gg g lab Ga ∧ Blk W q 130 n2.cells.toArray ∧ Tch w.heap.size i.own w W) ⟨hga, hqn, hT⟩ (fun w9 hw9 => ?_)
      have HW9 := hide hw9
      have hm := HI.out.len HW9.out.1.tx.ok
      have hset := gs_set (num := num) (n := n2) HW9.out.1 (by have := HKL.out; omega) HNM.out.1 HNM.out.2 HD2.out HCK.out
      have HSET := hide hset
      clear hts hga hqn hT hw9 hm hset q3 f3 ql c1 c2 m1 HA HT HQ
      go_wp2_with (first | ((with_reducible refine at_load 130 (.tmp 9) ?_); refine wpList_load_blk rfl 130 (.tmp 9) rfl q _ _ _ (by rfl) HW9.out.2.1 Tryz.underlying130 rfl (size_nodeOf HD2.out) ?_) | fail)
      refine HSET.out.mono ?_
      rintro e w10 ⟨rfl, s10, ha10, hst10, ht10⟩
      have HF10 := hide (And.intro ha10 (And.intro hst10 (HW9.out.2.2.trans (ht10.mono HW9.out.2.2.size fun _ _ h => h))))
      clear ha10 hst10 ht10 HSET
      go_wp2
      go_returns
      refine .inr ⟨rfl, s10, Ga, na, Ka, by have h := HPF.out; rw [HDL.out] at h; exact h, ?_, HF10.out.2.1.in_ HI.out, HF10.out.2.1.D.trans HF.out.1, HF10.out.2.1.bad.trans HF.out.2.1, fun m hm => (HF10.out.2.1.far m hm).trans (HF.out.2.2 m hm), HF10.out.2.2⟩
      have h := HF10.out.1
      rw [← HN2.out, HDL.out] at h
      exact h
end
end Go.Proofs.YthmkgohfeahdhaaGreat
namespace Go.Proofs.YthmkgohfeahdhaaGreat
open Go.RowKit
set_option linter.unusedSimpArgs false
set_option linter.unusedVariables false

/-- of a file's blocks by name (data: 0 to 255; 256: the single block of pointers; 257: the double one; from 258 on: those below it): where its pointer stands: in which block (none: in the node), at which place -/
def par (c : Nat) : Option (Nat × Nat) :=
  if c < 6 then none else if c < 38 then some (256, c - 6) else if c < 256 then some (258 + (c - 38) / 32, (c - 38) % 32) else if c < 258 then none else some (257, c - 258)
theorem par_lt {c p j : Nat} (hc : c < 265) (h : par c = some (p, j)) : p < 265 ∧ j < 32 ∧ 256 ≤ p ∧ p ≠ c := by
  unfold par at h
  split at h
  · cases h
  · split at h
    · simp only [Option.some.injEq, Prod.mk.injEq] at h; omega
    · split at h
      · simp only [Option.some.injEq, Prod.mk.injEq] at h; omega
      · split at h
        · cases h
        · simp only [Option.some.injEq, Prod.mk.injEq] at h; omega
theorem par_inj {c c' p j : Nat} (hc : c < 265) (hc' : c' < 265) (h : par c = some (p, j)) (h' : par c' = some (p, j)) : c = c' := by
  unfold par at h h'
  split at h
  · cases h
  split at h
  all_goals try (split at h)
  all_goals try (split at h)
  all_goals try (cases h; done)
  all_goals (split at h')
  all_goals try (cases h'; done)
  all_goals (split at h')
  all_goals try (split at h')
  all_goals try (split at h')
  all_goals try (cases h'; done)
  all_goals (simp only [Option.some.injEq, Prod.mk.injEq] at h h'; omega)
/-- a node's pointer of a name -/
def NodeV.slot (n : NodeV) (c : Nat) : Nat := if c < 6 then (n.dir.getD c 0).toNat else if c = 256 then n.single.toNat else n.double.toNat
/-- a file's blocks: which there are, where they are -/
structure Tree (G : GS) (m : Nat) (n : NodeV) (pr : Nat → Bool) (κ : Nat → Nat) : Prop where
  dir : n.dir.length = 6
  rng : ∀ c, pr c = true → c < 265
  cls : ∀ c p j, pr c = true → par c = some (p, j) → pr p = true
  top : ∀ c, c < 265 → par c = none → n.slot c = if pr c then κ c + 1 else 0
  sub : ∀ c p j, c < 265 → par c = some (p, j) → pr p = true → ptrB (G.by_ (κ p)) j = if pr c then κ c + 1 else 0
  own : ∀ c, pr c = true → κ c < m ∧ G.tk (κ c) = true
  inj : ∀ c c', pr c = true → pr c' = true → κ c = κ c' → c = c'
theorem free_spec {G : GS} {m k : Nat} (h : G.free m = some k) : k < m ∧ G.tk k = false := by
  refine ⟨gs_free_lt h, ?_⟩
  have := List.find?_some h
  simpa using this
theorem take_cnt {G : GS} {k : Nat} (hk : G.tk k = false) : ∀ m, (G.take k).cnt m = G.cnt m + if k < m then 1 else 0
  | 0 => rfl
  | m + 1 => by
    have ih := take_cnt hk m
    unfold GS.cnt at ih ⊢
    rw [List.range_succ, List.filter_append, List.filter_append, List.length_append, List.length_append, ih]
    by_cases e : m = k
    · subst e
      have h1 : (G.take m).tk m = true := by simp [GS.take, upd]
      simp [h1, hk]
    · have : (G.take k).tk m = G.tk m := by simp [GS.take, upd, e]
      simp only [List.filter_cons, List.filter_nil, this]
      by_cases h1 : k < m
      · have h2 : k < m + 1 := by omega
        simp only [h1, h2, if_true]; omega
      · have h2 : ¬ k < m + 1 := by omega
        simp only [h1, h2, if_false]; omega
theorem put_cnt (G : GS) (k : Nat) (b : BlkV) (m : Nat) : (G.put k b).cnt m = G.cnt m := rfl
theorem free_full {G : GS} {m : Nat} (h : G.free m = none) : G.cnt m = m := by
  unfold GS.cnt
  unfold GS.free at h
  rw [List.find?_eq_none] at h
  rw [List.filter_eq_self.2 (fun x hx => by have := h x hx; simpa using this), List.length_range]
theorem cnt_le_ (G : GS) (m : Nat) : G.cnt m ≤ m := by
  have := List.length_filter_le G.tk (List.range m)
  rwa [List.length_range] at this
/-- a block more, its pointer in a block -/
theorem Tree.add {G : GS} {m : Nat} {n : NodeV} {pr : Nat → Bool} {κ : Nat → Nat} {c p j k : Nat} (h : Tree G m n pr κ) (hG : G.Ok) (hm : m ≤ 512) (hc : c < 265) (hp : par c = some (p, j)) (hpp : pr p = true) (hnc : pr c = false) (hf : G.free m = some k) :
    Tree ((G.take k).put (κ p) (pointB (G.by_ (κ p)) j (k + 1))) m n (upd pr c true) (upd κ c k) := by
  obtain ⟨hk, hkf⟩ := free_spec hf
  obtain ⟨hp5, hj, -, hpc⟩ := par_lt hc hp
  have hkp : κ p ≠ k := fun e => by have := (h.own p hpp).2; rw [e, hkf] at this; cases this
  have hby : ∀ x, ((G.take k).put (κ p) (pointB (G.by_ (κ p)) j (k + 1))).by_ x = if x = κ p then pointB (G.by_ (κ p)) j (k + 1) else if x = k then zeroB else G.by_ x := fun x => rfl
  have htk : ∀ x, ((G.take k).put (κ p) (pointB (G.by_ (κ p)) j (k + 1))).tk x = if x = k then true else G.tk x := fun x => rfl
  refine ⟨h.dir, fun c' h' => ?_, fun c' p' j' h' hp' => ?_, fun c' hc' hp' => ?_, fun c' p' j' hc' hp' hpr => ?_, fun c' h' => ?_, fun c1 c2 h1 h2 he => ?_⟩
  · simp only [upd] at h'
    split at h'
    · omega
    · exact h.rng c' h'
  · simp only [upd] at h' ⊢
    split at h'
    · rename_i e; subst e; rw [hp] at hp'; cases hp'; rw [if_neg hpc]; exact hpp
    · have := h.cls c' p' j' h' hp'
      split
      · rfl
      · exact this
  · have hne : c' ≠ c := fun e => by rw [e, hp] at hp'; cases hp'
    simp only [upd, if_neg hne]
    exact h.top c' hc' hp'
  · rw [hby]
    by_cases e1 : p' = c
    · subst e1
      rw [upd_same, if_neg (fun e => hkp e.symm), if_pos rfl, ptr_zero]
      have hne : c' ≠ p' := (par_lt hc' hp').2.2.2.symm
      have hnp : pr c' = false := by
        cases hx : pr c' with
        | false => rfl
        | true => have := h.cls c' p' j' hx hp'; rw [hnc] at this; cases this
      simp only [upd, if_neg hne, hnp]
      rfl
    · rw [upd_other _ _ e1] at hpr
      rw [upd_other _ _ e1]
      by_cases e2 : p' = p
      · subst e2
        rw [if_pos rfl, ptr_point (hG.len _) hj (by omega)]
        by_cases e3 : j' = j
        · subst e3
          have := par_inj hc' hc hp' hp
          subst this
          rw [if_pos rfl, upd_same, upd_same]
          rfl
        · rw [if_neg e3]
          have hne : c' ≠ c := fun e => by subst e; rw [hp] at hp'; cases hp'; exact e3 rfl
          simp only [upd, if_neg hne]
          exact h.sub c' p' j' hc' hp' hpr
      · have e4 : κ p' ≠ κ p := fun e => e2 (h.inj p' p hpr hpp e)
        have e5 : κ p' ≠ k := fun e => by have := (h.own p' hpr).2; rw [e, hkf] at this; cases this
        rw [if_neg e4, if_neg e5]
        have hne : c' ≠ c := fun e => by subst e; rw [hp] at hp'; cases hp'; exact e2 rfl
        simp only [upd, if_neg hne]
        exact h.sub c' p' j' hc' hp' hpr
  · by_cases e : c' = c
    · have e1 : upd κ c k c' = k := by simp [upd, e]
      rw [e1, htk]
      exact ⟨hk, by rw [if_pos rfl]⟩
    · have e1 : upd κ c k c' = κ c' := by simp [upd, e]
      rw [upd_other _ _ e] at h'
      rw [e1, htk]
      have := h.own c' h'
      exact ⟨this.1, by split; rfl; exact this.2⟩
  · simp only [upd] at h1 h2 he
    by_cases e1 : c1 = c
    · by_cases e2 : c2 = c
      · rw [e1, e2]
      · rw [if_neg e2] at h2 he
        rw [if_pos e1] at he
        have := (h.own c2 h2).2
        rw [← he, hkf] at this
        cases this
    · rw [if_neg e1] at h1 he
      by_cases e2 : c2 = c
      · rw [if_pos e2] at he
        have := (h.own c1 h1).2
        rw [he, hkf] at this
        cases this
      · rw [if_neg e2] at h2 he
        exact h.inj c1 c2 h1 h2 he
/-- a block more, its pointer in the node -/
theorem Tree.addTop {G : GS} {m : Nat} {n : NodeV} {pr : Nat → Bool} {κ : Nat → Nat} {c k : Nat} {n' : NodeV} (h : Tree G m n pr κ) (hc : c < 265) (hp : par c = none) (hnc : pr c = false) (hf : G.free m = some k)
    (hd : n'.dir.length = 6) (hn : ∀ c', c' < 265 → par c' = none → n'.slot c' = if c' = c then k + 1 else n.slot c') :
    Tree (G.take k) m n' (upd pr c true) (upd κ c k) := by
  obtain ⟨hk, hkf⟩ := free_spec hf
  have hby : ∀ x, (G.take k).by_ x = if x = k then zeroB else G.by_ x := fun x => rfl
  have htk : ∀ x, (G.take k).tk x = if x = k then true else G.tk x := fun x => rfl
  refine ⟨hd, fun c' h' => ?_, fun c' p' j' h' hp' => ?_, fun c' hc' hp' => ?_, fun c' p' j' hc' hp' hpr => ?_, fun c' h' => ?_, fun c1 c2 h1 h2 he => ?_⟩
  · simp only [upd] at h'
    split at h'
    · omega
    · exact h.rng c' h'
  · simp only [upd] at h' ⊢
    split at h'
    · rename_i e; subst e; rw [hp] at hp'; cases hp'
    · have := h.cls c' p' j' h' hp'
      split
      · rfl
      · exact this
  · rw [hn c' hc' hp']
    simp only [upd]
    by_cases e : c' = c
    · simp [e]
    · simp only [if_neg e]; exact h.top c' hc' hp'
  · have hne : c' ≠ c := fun e => by subst e; rw [hp] at hp'; cases hp'
    rw [hby]
    by_cases e1 : p' = c
    · subst e1
      rw [upd_same, if_pos rfl, ptr_zero]
      have hnp : pr c' = false := by
        cases hx : pr c' with
        | false => rfl
        | true => have := h.cls c' p' j' hx hp'; rw [hnc] at this; cases this
      simp only [upd, if_neg hne, hnp]
      rfl
    · rw [upd_other _ _ e1] at hpr
      rw [upd_other _ _ e1]
      have e5 : κ p' ≠ k := fun e => by have := (h.own p' hpr).2; rw [e, hkf] at this; cases this
      rw [if_neg e5]
      simp only [upd, if_neg hne]
      exact h.sub c' p' j' hc' hp' hpr
  · by_cases e : c' = c
    · have e1 : upd κ c k c' = k := by simp [upd, e]
      rw [e1, htk]
      exact ⟨hk, by rw [if_pos rfl]⟩
    · have e1 : upd κ c k c' = κ c' := by simp [upd, e]
      rw [upd_other _ _ e] at h'
      rw [e1, htk]
      have := h.own c' h'
      exact ⟨this.1, by split; rfl; exact this.2⟩
  · simp only [upd] at h1 h2 he
    by_cases e1 : c1 = c
    · by_cases e2 : c2 = c
      · rw [e1, e2]
      · rw [if_neg e2] at h2 he
        rw [if_pos e1] at he
        have := (h.own c2 h2).2
        rw [← he, hkf] at this
        cases this
    · rw [if_neg e1] at h1 he
      by_cases e2 : c2 = c
      · rw [if_pos e2] at he
        have := (h.own c1 h1).2
        rw [he, hkf] at this
        cases this
      · rw [if_neg e2] at h2 he
        exact h.inj c1 c2 h1 h2 he
end Go.Proofs.YthmkgohfeahdhaaGreat

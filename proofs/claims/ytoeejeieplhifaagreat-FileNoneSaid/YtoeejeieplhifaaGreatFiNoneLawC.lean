/- FileNone: a nil group, a node that there isn't, a free one: for every input the law returns true, and its arguments read as they did. -/
import Derived.Test.YtoeejeieplhifaaGreatMFib
import Derived.Test.YtoeejeieplhifaaGreatMFsc
import Derived.Test.YtoeejeieplhifaaGreatRows
import Derived.WalkKit
import Derived.ProofKit
import Derived.OpenShut
import Derived.ShutString
import Derived.ChangeOld
import Derived.Below
import Derived.Lib.SmallJoins
import Derived.Test.YtoeejeieplhifaaGreatMArg
namespace Go.Proofs.YtoeejeieplhifaaGreat
open Go.RowKit
set_option linter.unusedSimpArgs false
set_option linter.unusedVariables false

/-- what a call says of a node's error, or of a node that is free -/
def GoneR (r : Int) (n : NodeV) (r' : Int) : Prop := (r ≠ 0 ∧ r' = r) ∨ (r = 0 ∧ n.kind = 0 ∧ r' = 14)
section
variable {w : World} {A : Value} {num : Int} {n : NodeV} {r r' : Int} {P : World → Prop}
set_option maxRecDepth 100000 in
theorem read_gone (off many : Int) (hd : n.dir.length = 6) (hr : GoneR r n r') (hP : ∀ a b : World, P a → Below a.heap.size a b → P b) (hn : Calls Tryz.prog 46 #[A, .int .i64 num] w fun e w' => e = .returned (.tuple #[n.val, .int .i64 r]) ∧ P w') :
    Calls Tryz.prog 29 #[A, .int .i64 num, .int .i64 off, .int .i64 many] w fun e w' => e = .returned (.tuple #[.slice none 0 0, .int .i64 r']) ∧ P w' := by
  have HP := hide hP
  have HD := hide hd
  have HN := hide hn
  clear hP hd hn
  go_enter Tryz.func29, Tryz.ntmps29
  go_wp2_with fail
  refine HN.out.mono ?_
  rintro e w1 ⟨rfl, hp1⟩
  go_upto_region 2 with (first | ((with_reducible refine at_alloc 91 ?_); refine wpList_alloc_as rfl 91 rfl _ (zero_node _) ?_) | ((with_reducible refine at_store 91 (.tmp 10) (.tmp 23) ?_); refine wpList_store_blk rfl 91 (.tmp 10) (.tmp 23) rfl w1.heap.size _ _ _ (by rfl) (by rfl) (Blk.new _ _ _) (size_nodeOf HD.out) (by rw [List.size_toArray, List.size_toArray, NodeV.cells_length HD.out]; rfl) (NodeV.cells_one _) (fun _ => ?_)) | fail)
  refine at_world (fun W => ∃ q, q = w1.heap.size ∧ Below w1.heap.size w1 W ∧ Blk W q 91 n.cells.toArray) ⟨_, rfl, below_setRow ((Below.refl _ _).alloc (Nat.le_refl _) _) (Nat.le_refl _) _, (Blk.new _ _ _).setRow_same _⟩ (fun w2 h2 => ?_)
  obtain ⟨q, hq, hb2, hQ2⟩ := h2
  rw [← hq]
  have HP2 := hide (HP.out _ _ hp1 hb2)
  have q0 := (hQ2.cell 0).trans (node_cells_at n).1
  have ql := hQ2.lt
  clear hq hb2 hQ2 hp1 HN
  rcases hr with ⟨h0, rfl⟩ | ⟨rfl, hk, rfl⟩
  · have t0 : (r' != 0) = true := by simp [h0]
    have t0' : (r' == 0) = false := by simp [h0]
    clear q0 ql
    go_wp2
    go_returns
    exact ⟨rfl, HP2.out⟩
  · rw [hk] at q0
    go_wp2
    go_returns
    exact ⟨rfl, HP2.out⟩
set_option maxRecDepth 100000 in
theorem write_gone {C : Option Addr} {m c : Nat} (off : Int) (hd : n.dir.length = 6) (hr : GoneR r n r') (hP : ∀ a b : World, P a → Below a.heap.size a b → P b) (hn : Calls Tryz.prog 46 #[A, .int .i64 num] w fun e w' => e = .returned (.tuple #[n.val, .int .i64 r]) ∧ P w') :
    Calls Tryz.prog 26 #[A, .int .i64 num, .int .i64 off, .slice C m c] w fun e w' => e = .returned (.int .i64 r') ∧ P w' := by
  have HP := hide hP
  have HD := hide hd
  have HN := hide hn
  clear hP hd hn
  go_enter Tryz.func26, Tryz.ntmps26
  go_wp2_with fail
  refine HN.out.mono ?_
  rintro e w1 ⟨rfl, hp1⟩
  go_upto_region 2 with (first | ((with_reducible refine at_alloc 91 ?_); refine wpList_alloc_as rfl 91 rfl _ (zero_node _) ?_) | ((with_reducible refine at_store 91 (.tmp 9) (.tmp 20) ?_); refine wpList_store_blk rfl 91 (.tmp 9) (.tmp 20) rfl w1.heap.size _ _ _ (by rfl) (by rfl) (Blk.new _ _ _) (size_nodeOf HD.out) (by rw [List.size_toArray, List.size_toArray, NodeV.cells_length HD.out]; rfl) (NodeV.cells_one _) (fun _ => ?_)) | fail)
  refine at_world (fun W => ∃ q, q = w1.heap.size ∧ Below w1.heap.size w1 W ∧ Blk W q 91 n.cells.toArray) ⟨_, rfl, below_setRow ((Below.refl _ _).alloc (Nat.le_refl _) _) (Nat.le_refl _) _, (Blk.new _ _ _).setRow_same _⟩ (fun w2 h2 => ?_)
  obtain ⟨q, hq, hb2, hQ2⟩ := h2
  rw [← hq]
  have HP2 := hide (HP.out _ _ hp1 hb2)
  have q0 := (hQ2.cell 0).trans (node_cells_at n).1
  have ql := hQ2.lt
  clear hq hb2 hQ2 hp1 HN
  rcases hr with ⟨h0, rfl⟩ | ⟨rfl, hk, rfl⟩
  · have t0 : (r' != 0) = true := by simp [h0]
    have t0' : (r' == 0) = false := by simp [h0]
    clear q0 ql
    go_wp2
    go_returns
    exact ⟨rfl, HP2.out⟩
  · rw [hk] at q0
    go_wp2
    go_returns
    exact ⟨rfl, HP2.out⟩
set_option maxRecDepth 100000 in
theorem cut_gone (off : Int) (hd : n.dir.length = 6) (hr : GoneR r n r') (hP : ∀ a b : World, P a → Below a.heap.size a b → P b) (hn : Calls Tryz.prog 46 #[A, .int .i64 num] w fun e w' => e = .returned (.tuple #[n.val, .int .i64 r]) ∧ P w') :
    Calls Tryz.prog 27 #[A, .int .i64 num, .int .i64 off] w fun e w' => e = .returned (.int .i64 r') ∧ P w' := by
  have HP := hide hP
  have HD := hide hd
  have HN := hide hn
  clear hP hd hn
  go_enter Tryz.func27, Tryz.ntmps27
  go_wp2_with fail
  refine HN.out.mono ?_
  rintro e w1 ⟨rfl, hp1⟩
  go_upto_region 2 with (first | ((with_reducible refine at_alloc 91 ?_); refine wpList_alloc_as rfl 91 rfl _ (zero_node _) ?_) | ((with_reducible refine at_store 91 (.tmp 7) (.tmp 20) ?_); refine wpList_store_blk rfl 91 (.tmp 7) (.tmp 20) rfl w1.heap.size _ _ _ (by rfl) (by rfl) (Blk.new _ _ _) (size_nodeOf HD.out) (by rw [List.size_toArray, List.size_toArray, NodeV.cells_length HD.out]; rfl) (NodeV.cells_one _) (fun _ => ?_)) | fail)
  refine at_world (fun W => ∃ q, q = w1.heap.size ∧ Below w1.heap.size w1 W ∧ Blk W q 91 n.cells.toArray) ⟨_, rfl, below_setRow ((Below.refl _ _).alloc (Nat.le_refl _) _) (Nat.le_refl _) _, (Blk.new _ _ _).setRow_same _⟩ (fun w2 h2 => ?_)
  obtain ⟨q, hq, hb2, hQ2⟩ := h2
  rw [← hq]
  have HP2 := hide (HP.out _ _ hp1 hb2)
  have q0 := (hQ2.cell 0).trans (node_cells_at n).1
  have ql := hQ2.lt
  clear hq hb2 hQ2 hp1 HN
  rcases hr with ⟨h0, rfl⟩ | ⟨rfl, hk, rfl⟩
  · have t0 : (r' != 0) = true := by simp [h0]
    have t0' : (r' == 0) = false := by simp [h0]
    clear q0 ql
    go_wp2
    go_returns
    exact ⟨rfl, HP2.out⟩
  · rw [hk] at q0
    go_wp2
    go_returns
    exact ⟨rfl, HP2.out⟩
set_option maxRecDepth 100000 in
theorem remove_gone (hd : n.dir.length = 6) (hr : GoneR r n r') (hP : ∀ a b : World, P a → Below a.heap.size a b → P b) (hn : Calls Tryz.prog 46 #[A, .int .i64 num] w fun e w' => e = .returned (.tuple #[n.val, .int .i64 r]) ∧ P w') :
    Calls Tryz.prog 34 #[A, .int .i64 num] w fun e w' => e = .returned (.int .i64 r') ∧ P w' := by
  have HP := hide hP
  have HD := hide hd
  have HN := hide hn
  clear hP hd hn
  go_enter Tryz.func34, Tryz.ntmps34
  go_wp2_with fail
  refine HN.out.mono ?_
  rintro e w1 ⟨rfl, hp1⟩
  go_upto_region 2 with (first | ((with_reducible refine at_alloc 91 ?_); refine wpList_alloc_as rfl 91 rfl _ (zero_node _) ?_) | ((with_reducible refine at_store 91 (.tmp 5) (.tmp 13) ?_); refine wpList_store_blk rfl 91 (.tmp 5) (.tmp 13) rfl w1.heap.size _ _ _ (by rfl) (by rfl) (Blk.new _ _ _) (size_nodeOf HD.out) (by rw [List.size_toArray, List.size_toArray, NodeV.cells_length HD.out]; rfl) (NodeV.cells_one _) (fun _ => ?_)) | fail)
  refine at_world (fun W => ∃ q, q = w1.heap.size ∧ Below w1.heap.size w1 W ∧ Blk W q 91 n.cells.toArray) ⟨_, rfl, below_setRow ((Below.refl _ _).alloc (Nat.le_refl _) _) (Nat.le_refl _) _, (Blk.new _ _ _).setRow_same _⟩ (fun w2 h2 => ?_)
  obtain ⟨q, hq, hb2, hQ2⟩ := h2
  rw [← hq]
  have HP2 := hide (HP.out _ _ hp1 hb2)
  have q0 := (hQ2.cell 0).trans (node_cells_at n).1
  have ql := hQ2.lt
  clear hq hb2 hQ2 hp1 HN
  rcases hr with ⟨h0, rfl⟩ | ⟨rfl, hk, rfl⟩
  · have t0 : (r' != 0) = true := by simp [h0]
    have t0' : (r' == 0) = false := by simp [h0]
    clear q0 ql
    go_wp2
    go_returns
    exact ⟨rfl, HP2.out⟩
  · rw [hk] at q0
    go_wp2
    go_returns
    exact ⟨rfl, HP2.out⟩
end
end Go.Proofs.YtoeejeieplhifaaGreat
namespace Go.Proofs.YtoeejeieplhifaaGreat
open Go.RowKit
set_option linter.unusedSimpArgs false
set_option linter.unusedVariables false

def u16k (k : Fin 65536) : Value := .int .u16 (k.val : Int)
theorem uEnc : KeyEnc Tryz.prog 37 u16k where
  keyed := Go.Maps.int_keyed Tryz.underlying37
  reads a := ⟨_, Go.Maps.keyOf_int_mk Tryz.underlying37 (by
    have := a.isLt
    simp [Lit.wf, IntKind.min, IntKind.max, IntKind.signed, IntKind.bits]
    omega)⟩
  inj a b h := by
    simp only [u16k, Value.int.injEq, true_and] at h
    exact Fin.ext (by omega)
theorem spread448 (w : World) : Calls Tryz.prog 59 #[.int .i64 448] w fun e w' => e = .returned (.tuple #[.int .i64 7, .int .i64 1]) ∧ w = w' := by
  go_enter Tryz.func59, Tryz.ntmps59
  go_wp2
  go_returns
  exact ⟨rfl, rfl⟩
/-- a node of seven blocks -/
def sevN : NodeV := { NodeV.zero with kind := 1, links := 1, size := 448, single := 1 }
theorem build_sev (w : World) : (Instr.build 91 #[(0, .int .u8 1), (1, .int .u8 1), (3, .int .u32 448), (5, .int .u16 1)]).run Tryz.prog w = .ok sevN.val w := by kernel_rfl
theorem info_u16 : ∃ i, Tryz.prog.info? 37 = some i ∧ i.zero = some (.int .u16 0) ∧ i.size = 1 ∧ i.bytes = 2 := by
  have h : (Tryz.prog.info? 37).map (fun i => (i.zero, i.size, i.bytes)) = some (some (.int .u16 0), 1, 2) := by kernel_rfl
  cases hi : Tryz.prog.info? 37 with
  | none => rw [hi] at h; cases h
  | some i =>
    rw [hi] at h
    simp only [Option.map_some, Option.some.injEq, Prod.mk.injEq] at h
    exact ⟨i, rfl, h.1, h.2.1, h.2.2⟩
set_option maxRecDepth 100000 in
set_option maxHeartbeats 1600000 in
theorem blocks_nil (w : World) : Calls Tryz.prog 33 #[.pointer none, sevN.val] w fun e w' => e = .returned (.tuple #[.slice none 0 0, .slice none 0 0, .int .i64 1]) ∧ Below w.heap.size w w' := by
  obtain ⟨i0, hi0, i1, i2, i3⟩ := info_u16
  have HI := hide (And.intro hi0 (And.intro i1 (And.intro i2 i3)))
  clear hi0 i1 i2 i3
  go_enter Tryz.func33, Tryz.ntmps33
  go_upto_region 1 with (fail)
  refine at_world (fun W => ∃ p, p = w.heap.size ∧ Below w.heap.size w W ∧ Blk W p 91 sevN.cells.toArray) ⟨_, rfl, (Below.refl _ _).alloc (Nat.le_refl _) _, Blk.new _ _ _⟩ (fun w1 hw1 => ?_)
  obtain ⟨p, hp, hb1, hP⟩ := hw1
  rw [← hp]
  have HB1 := hide (And.intro hb1 (show w.heap.size ≤ p from Nat.le_of_eq hp.symm))
  have HP1 := hide hP
  have y3 := hP.cell 3
  have yl := hP.lt
  rw [show sevN.cells.toArray[3]? = some (.int .u32 448) from rfl] at y3
  clear hp hb1 hP
  go_wp2_with fail
  refine (spread448 w1).mono ?_
  rintro e w_ ⟨rfl, hw_⟩
  subst hw_
  clear y3 yl
  have hmm := @run_makeMap Tryz.prog
  go_upto_region 3 with (fail)
  refine at_world (fun W => ∃ mq, mq = w1.heap.size ∧ Below w1.heap.size w1 W ∧ MapIs u16k W mq []) ⟨_, rfl, (Below.refl _ _).alloc (Nat.le_refl _) _, MapIs.made _ _⟩ (fun w2 h2 => ?_)
  obtain ⟨mq, hmq, hb2, hM2⟩ := h2
  rw [← hmq]
  have HB2 := hide (HB1.out.1.trans (hb2.mono HB1.out.1.size))
  have HP2 := hide (HP1.out.below hb2 HP1.out.lt)
  have HM2 := hide hM2
  have HMW := hide (show w.heap.size ≤ mq from by have := HB1.out.1.size; omega)
  clear hmm hmq hb2 hM2 HP1 HB1
  go_wp2_with fail
  have HPM := hide (show p < w2.heap.size ∧ mq < w2.heap.size from ⟨HP2.out.lt, HM2.out.lt⟩)
  go_loopg [4, 5, 26] 7 (fun gh x4 x5 x26 wr => ∃ (i : Nat) (C : Option Addr) (c : Nat) (xs : List Value), i ≤ 6 ∧ gh = 7 - i ∧ x26 = .int .i64 (i : Int) ∧ x4 = .slice C i c ∧ x5 = .slice none 0 0 ∧ Hid (wr.ownsRow w2.heap.size 37 1 (.slice C i c) i xs) ∧ Hid (Below w2.heap.size w2 wr))
  case atStart => exact ⟨0, none, 0, [], by omega, rfl, rfl, rfl, rfl, hide ⟨rfl, .inl ⟨rfl, rfl⟩⟩, hide (Below.refl _ _)⟩
  case round =>
    obtain ⟨i, C, c, xs, hi, hgh, rfl, rfl, rfl, HO, HW⟩ := hrel
    have HGH := hide hgh
    clear hgh
    have hkz : decide ((i : Int) < 7) = true := by simp; omega
    have hkz2 : (i : Int) < 7 := by omega
    go_wp2_with fail
    refine (place_ok' wr (n := i) (by omega)).mono ?_
    rintro e w3 ⟨rfl, hb3⟩
    have HW3 := hide (HW.out.trans (hb3.mono HW.out.size))
    have HO3 := hide (own_below HO.out hb3)
    clear hb3 HO hkz hkz2
    obtain ⟨v, hv⟩ : ∃ v, wayOf i = v := ⟨_, rfl⟩
    have hvo : v.Ok := by rw [← hv]; exact wayOf_ok (by omega)
    have hvc : (i < 6 ∧ v.steps = 0 ∧ sevN.cells.toArray[v.root]? = some (.int .u16 0)) ∨ (i = 6 ∧ v = ⟨1, 0, 0⟩ ∧ sevN.cells.toArray[v.root]? = some (.int .u16 1)) := by
      rw [← hv]
      have : i = 0 ∨ i = 1 ∨ i = 2 ∨ i = 3 ∨ i = 4 ∨ i = 5 ∨ i = 6 := by omega
      rcases this with rfl | rfl | rfl | rfl | rfl | rfl | rfl
      all_goals first
      | exact .inl ⟨by decide, rfl, rfl⟩
      | exact .inr ⟨rfl, rfl, rfl⟩
    rw [hv]
    have HVO := hide (And.intro hvo hvc)
    clear hv hvo hvc
    go_upto_region 7 with (first | ((with_reducible refine at_alloc 161 ?_); refine wpList_alloc_as rfl 161 rfl _ (zero_way _) ?_) | ((with_reducible refine at_store 161 (.tmp 11) (.tmp 32) ?_); refine wpList_store_blk rfl 161 (.tmp 11) (.tmp 32) rfl w3.heap.size _ _ _ (by rfl) (by rfl) (Blk.new _ _ _) (size_way v) rfl (way_one v) (fun _ => ?_)) | fail)
    refine at_world (fun W => ∃ q, q = w3.heap.size ∧ Below w3.heap.size w3 W ∧ Blk W q 161 v.cells) ⟨_, rfl, below_setRow ((Below.refl _ _).alloc (Nat.le_refl _) _) (Nat.le_refl _) _, (Blk.new _ _ _).setRow_same _⟩ (fun w4 hw4 => ?_)
    obtain ⟨q, hq, hb4, hQ4⟩ := hw4
    rw [← hq]
    have HW4 := hide (HW3.out.trans (hb4.mono HW3.out.size))
    have HO4 := hide (own_below HO3.out hb4)
    have HQ4 := hide hQ4
    clear hq hb4 hQ4 HW3 HO3
    go_wp2_with (first | ((with_reducible refine at_load 161 (.tmp 11) ?_); refine wpList_load_blk rfl 161 (.tmp 11) rfl q _ _ _ (by rfl) HQ4.out Tryz.underlying161 rfl (size_way v) ?_) | fail)
    refine (root_ok w4 (nb := p) HVO.out.1).mono ?_
    rintro e w5 ⟨rfl, hb5⟩
    have HW5 := hide (HW4.out.trans (hb5.mono HW4.out.size))
    have HO5 := hide (own_below HO4.out hb5)
    have HQ5 := hide (HQ4.out.below hb5 HQ4.out.lt)
    have hP5 := HP2.out.below HW5.out HPM.out.1
    have hM5 : MapIs u16k w5 mq [] := HM2.out.keep (HW5.out.block mq HPM.out.2)
    have pl := hP5.lt
    have ql := HQ5.out.lt
    have c0 : w5.cell? ⟨q, 0, none⟩ = some (.int .i64 (v.steps : Int)) := HQ5.out.cell 0
    clear hb5 HW4 HO4 HQ4
    rcases HVO.out.2 with ⟨hi6, hs, hc⟩ | ⟨rfl, rfl, hc⟩
    · have cr : w5.cell? ⟨p, v.root, none⟩ = some (.int .u16 0) := (hP5.cell v.root).trans hc
      rw [hs] at c0
      clear hc hP5 hM5
      go_upto_region 11 with (fail)
      clear cr c0 pl ql
      go_loopg [4, 5, 13, 42] 1 (fun gh x4 x5 x13 x42 wr => gh = 1 ∧ x4 = .slice C i c ∧ x5 = .slice none 0 0 ∧ x13 = .int .u16 0 ∧ x42 = .int .i64 0 ∧ Hid (wr.ownsRow w2.heap.size 37 1 (.slice C i c) i xs) ∧ Hid (Below w2.heap.size w2 wr))
      case atStart => exact ⟨rfl, rfl, rfl, rfl, rfl, HO5, HW5⟩
      case round =>
        obtain ⟨hg1, rfl, rfl, rfl, rfl, HOr, HWr⟩ := hrel
        have HG1 := hide hg1
        clear hg1
        go_wp2_with (first | (at_builtin; refine wpList_append_one rfl (.tmp 75) (.tmp 77) 72 rfl w2.heap.size 37 i0 (.int .u16 0) 1 2 Tryz.underlying72 HI.out.1 HI.out.2.1 HI.out.2.2.1 HI.out.2.2.2 rfl (by decide) C c i xs [.int .u16 0] wr rfl HOr.out rfl rfl rfl (by simp [Value.oneCell']) (by omega) (by decide) HWr.out.size ?_; intro A6 c6 w6 hown6 hg6 hb6 hat6) | fail)
        have HO6 := hide hown6
        have HW6 := hide (HWr.out.trans hb6)
        have e1 : IntKind.i64.wrap ((i : Int) + 1) = (i : Int) + 1 := IntWalk.i64_in _ (by omega)
        clear hown6 hg6 hb6 hat6
        go_wp2
        go_roundg (7 - (i + 1))
        case rel => exact ⟨i + 1, A6, c6, _, by omega, rfl, by first | rfl | go_num, rfl, rfl, HO6, HW6⟩
        case measure => have := HGH.out; omega
    · have cr : w5.cell? ⟨p, (WayV.mk 1 0 0).root, none⟩ = some (.int .u16 1) := (hP5.cell _).trans hc
      have hl : (Instr.lookup 158 (.map (some mq)) (.int .u16 1) false).run Tryz.prog w5 = .ok (.bool false) w5 := hM5.lookup uEnc Tryz.underlying158 (z := .bool false) (by kernel_rfl) ⟨1, by decide⟩ false
      have hu : ∃ w', (Instr.mapUpdate 158 (.map (some mq)) (.int .u16 1) (.bool true)).run Tryz.prog w5 = .ok () w' ∧ OnlyMap w5 w' mq := by
        obtain ⟨w', h1, -, h2⟩ := hM5.update uEnc Tryz.underlying158 ⟨1, by decide⟩ (.bool true)
        exact ⟨w', h1, h2⟩
      obtain ⟨w6, hur, hou⟩ := hu
      have HOU := hide hou
      clear hou hM5 hP5 hc
      go_upto_region 11 with (fail)
      clear cr c0 pl ql
      go_loopg [5, 13, 42] 1 (fun gh x5 x13 x42 wr => gh = 1 ∧ x5 = .slice none 0 0 ∧ x13 = .int .u16 1 ∧ x42 = .int .i64 0 ∧ wr = w5)
      case atStart => exact ⟨rfl, rfl, rfl, rfl, rfl⟩
      case round =>
        obtain ⟨hg1, rfl, rfl, rfl, rfl⟩ := hrel
        go_upto_region 15 with (fail)
        clear hl hur
        go_wp2_with fail
        have hbw5 := HB2.out.trans (HW5.out.mono HB2.out.size)
        have hbw6 : Below w.heap.size w w6 := hbw5.trans (((Tch.of_only HOU.out hbw5.size).mono (Nat.le_refl _) (S' := fun _ => False) (fun k hk h => by have := HMW.out; subst h; omega)).below fun _ _ h => h)
        have HBW := hide hbw6
        clear hbw5 hbw6
        refine (none_get _ 1).mono ?_
        rintro e w7 ⟨rfl, hb7⟩
        have HB7 := hide ((((HBW.out.alloc HBW.out.size _).alloc (by have := HBW.out.size; simp; omega) _).drew).trans (hb7.mono (by have := HBW.out.size; simp; omega)))
        clear hb7
        go_upto_region 17 with (first | ((with_reducible refine at_alloc 136 ?_); refine wpList_alloc_as rfl 136 rfl _ (zero_block _) ?_) | ((with_reducible refine at_store 136 (.tmp 15) (.tmp 63) ?_); refine wpList_store_blk rfl 136 (.tmp 15) (.tmp 63) rfl w7.heap.size 136 _ _ (by rfl) (by rfl) (Blk.new _ _ _) (size_blockOf zeroB_length) ((bvs_size zeroB_length).trans (bvs_size zeroB_length).symm) (bvs_oneCell _) (fun _ => ?_)) | fail)
        refine at_world (fun W => Below w7.heap.size w7 W) (below_setRow ((Below.refl _ _).alloc (Nat.le_refl _) _) (Nat.le_refl _) _) (fun w8 hb8 => ?_)
        have HB8 := hide (HB7.out.trans (hb8.mono HB7.out.size))
        clear hb8
        go_wp2
        go_returns
        exact ⟨rfl, HB8.out⟩
end Go.Proofs.YtoeejeieplhifaaGreat
namespace Go.Proofs.YtoeejeieplhifaaGreat
open Go.RowKit
set_option linter.unusedSimpArgs false
set_option linter.unusedVariables false

theorem fresh_nd {k : Nat} (h : 4 ≤ k) : GS.fresh.nd k = NodeV.zero := by
  have h1 : k ≠ 1 := by omega
  have h2 : k ≠ 2 := by omega
  have h3 : k ≠ 3 := by omega
  show upd (upd (upd (fun _ => NodeV.zero) 1 (freshN 2)) 2 (freshN 1)) 3 (freshN 1) k = NodeV.zero
  rw [upd_other _ _ h3, upd_other _ _ h2, upd_other _ _ h1]
section
variable {w w' : World} {i : Ids} {s : Sto} {gg : Nat} {g : GeoN}
/-- what is left of a fresh group's transaction -/
def FreshP (i : Ids) (gg : Nat) (g : GeoN) (w w' : World) : Prop := ∃ s', GAt w' i s' gg g 0 GS.fresh ∧ Tch w.heap.size i.own w w'
theorem freshP_below (a b : World) (h : FreshP i gg g w a) (hb : Below a.heap.size a b) : FreshP i gg g w b := by
  obtain ⟨s', ha, ht⟩ := h
  exact ⟨s', ha.below hb, ht.trans ((Tch.of_below hb).mono ht.size fun _ _ h => h)⟩
/-- a node that isn't there, or is free -/
theorem node_gone {num : Int} {r r' : Int} (h : GAt w i s gg g 0 GS.fresh) (hn : num < 1 ∨ 3 < num) (hr : (3 < num ∧ num ≤ (g.nodes : Int) ∧ r = 0 ∧ r' = 14) ∨ ((num < 1 ∨ (g.nodes : Int) < num) ∧ r = 27 ∧ r' = 27)) :
    GoneR r NodeV.zero r' ∧ Calls Tryz.prog 46 #[.pointer (some ⟨gg, 0, none⟩), .int .i64 num] w fun e w' => e = .returned (.tuple #[NodeV.zero.val, .int .i64 r]) ∧ FreshP i gg g w w' := by
  rcases hr with ⟨h1, h2, rfl, rfl⟩ | ⟨h1, rfl, rfl⟩
  · obtain ⟨k, rfl⟩ : ∃ k : Nat, num = (k : Int) := ⟨num.toNat, by omega⟩
    have := gs_node' (num := k) h (by omega) (by omega)
    rw [fresh_nd (by omega)] at this
    exact ⟨.inr ⟨rfl, rfl, rfl⟩, this.mono fun e w' ⟨he, ha, ht⟩ => ⟨he, s, ha, ht⟩⟩
  · exact ⟨.inl ⟨by decide, rfl⟩, (gs_node_none h h1).mono fun e w' ⟨he, s', ha, _, ht⟩ => ⟨he, s', ha, ht⟩⟩
end
theorem belowP_below {w : World} (a b : World) (h : Below w.heap.size w a) (hb : Below a.heap.size a b) : Below w.heap.size w b := h.trans (hb.mono h.size)
theorem gone1 : GoneR 1 NodeV.zero 1 := .inl ⟨by decide, rfl⟩
set_option maxRecDepth 100000 in
theorem fnone_long (w : World) (num off many : Int) (A : Option Addr) (n c : Nat) (hn : 100 < n) :
    Calls Tryz.prog 5 #[.int .i64 num, .int .i64 off, .int .i64 many, .slice A n c] w fun e w' => e = .returned (.bool true) ∧ Below w.heap.size w w' := by
  go_enter Tryz.func5, Tryz.ntmps5
  go_wp2_with fail
  refine (awake8_ok w).mono ?_
  rintro e w1 ⟨rfl, hb1⟩
  have HB1 := hide hb1
  have hz : (100 : Int) < (n : Int) := by omega
  clear hb1
  go_wp2
  go_returns
  exact ⟨rfl, HB1.out⟩
set_option maxRecDepth 100000 in
set_option maxHeartbeats 4000000 in
theorem fnone_short (w : World) (num off many : Int) (A : Option Addr) (n c : Nat) (hn : n ≤ 100) :
    Calls Tryz.prog 5 #[.int .i64 num, .int .i64 off, .int .i64 many, .slice A n c] w fun e w' => e = .returned (.bool true) ∧ Below w.heap.size w w' := by
  go_enter Tryz.func5, Tryz.ntmps5
  go_wp2_with fail
  refine (awake8_ok w).mono ?_
  rintro e w1 ⟨rfl, hb1⟩
  have HB1 := hide hb1
  have hz : ¬ (100 : Int) < (n : Int) := by omega
  have hz2 : decide ((100 : Int) < (n : Int)) = false := by simp; omega
  clear hb1
  go_wp2_with fail
  refine (small_ok w1).mono ?_
  rintro e w2 ⟨cc, K, tb, nb, lb, B1, B2, B3, d1, d2, d3, rfl, hb2, hin⟩
  have hb12 : Below w.heap.size w w2 := HB1.out.trans (hb2.mono HB1.out.size)
  obtain ⟨nn, hF⟩ := cf_facts hin.ok (by rw [small_len]; omega)
  obtain ⟨v, r, hv, hr, hgo, hval, hbl, hnd, -⟩ := hF.geo 0 (by rw [small_len]; omega)
  have hfr := fresh_all (w := w2) hin hF (by rw [small_len]; omega)
  have hreg := fun W (hW : ConfIn w1.heap.size W cc smallR K tb nb lb B1 B2 B3 d1 d2 d3) => reg_ok hW hr
  rw [← hnd, show ((0 : Nat) : Int) = 0 from rfl] at hreg
  obtain ⟨u, hu⟩ : ∃ u, geoN v = u := ⟨_, rfl⟩
  rw [hu] at hreg hgo
  have hnod : u.nodes = 8 := by
    obtain ⟨v', u', hv', hu', -, -, -, h8⟩ := small_geo hF
    rw [hv'] at hv
    cases hv
    rw [← hu, hu']
    exact h8
  have HC := hide (And.intro hin (And.intro hv (And.intro hu (And.intro hval hb12))))
  have HGO := hide (And.intro hgo hnod)
  have HFR := hide hfr
  have HREG := hide hreg
  clear hin hv hu hval hgo hbl hnd hnod hfr hb12 hF hb2 HB1 hz hz2 hreg hr
  go_wp2_with fail
  refine HFR.out.mono ?_
  rintro e w3 ⟨i, D, rfl, hx, hDn, hall, hown, hll, hb3⟩
  have his := hall 0 v HC.out.2.1
  rw [HC.out.2.2.1] at his
  have HX3 := hide hx
  have HW23 := hide hb3
  have HOWN := hide (show ∀ k, i.own k → w2.heap.size ≤ k from hown)
  have HIS := hide (And.intro his (show u.Ok D.length by rw [hDn]; exact HGO.out.1))
  have hop := gopen_yes (tt := i.tt) (HC.out.1.below HW23.out) HC.out.2.1 HC.out.2.2.2.1
  rw [HC.out.2.2.1, show ((0 : Nat) : Int) = 0 from rfl] at hop
  have HOP := hide hop
  clear hb3 hx hown his hall hll hDn HFR hop
  go_wp2_with fail
  refine HOP.out.mono ?_
  rintro e w4 ⟨gg, rfl, hgg, hG, hb4⟩
  have HA4 : Hid (GAt w4 i ⟨D, [], 0⟩ gg u 0 GS.fresh) := hide ⟨HX3.out.below hb4, hG, HIS.out.2, HIS.out.1, GS.fresh_ok⟩
  have HW24 := hide (HW23.out.trans (hb4.mono HW23.out.size))
  have HIN4 := hide (HC.out.1.below HW24.out)
  clear hG hb4 HX3 hgg
  go_wp2_with fail
  refine (HREG.out w4 HIN4.out).mono ?_
  rintro e w5 ⟨rfl, hb5⟩
  have HA5 := hide (HA4.out.below hb5)
  have HW25 := hide (HW24.out.trans (hb5.mono HW24.out.size))
  clear hb5 HA4 HW24 HIN4 HREG
  go_upto_region 9 with (fail)
  refine at_world (fun W => ∃ rg, rg = w5.heap.size ∧ rg < W.heap.size ∧ W.cell? ⟨rg, 4, none⟩ = some (.int .i64 (u.nodes : Int)) ∧ Below w5.heap.size w5 W) ⟨_, rfl, by simp, (Blk.new w5 _ _).cell 4, (Below.refl _ _).alloc (Nat.le_refl _) _⟩ (fun w6 h6 => ?_)
  obtain ⟨rg, hrg, rgl, y4, hb6⟩ := h6
  rw [← hrg]
  have HA6 := hide (HA5.out.below hb6)
  have HW26 := hide (HW25.out.trans (hb6.mono HW25.out.size))
  have HBW := hide (HC.out.2.2.2.2.trans (HW26.out.mono HC.out.2.2.2.2.size))
  rw [HGO.out.2] at y4
  clear hrg hb6 HA5 HW25
  -- TAIL
  have HOWZ := hide (show ∀ k, i.own k → w.heap.size ≤ k from fun k hk => by have := HOWN.out k hk; have := HC.out.2.2.2.2.size; omega)
  have HB6 := hide HBW.out
  by_cases h13 : 1 ≤ num ∧ num ≤ 3
  · have t1 : decide ((3 : Int) < num) = false := by simp; omega
    have t2 : decide ((1 : Int) ≤ num) = true := by simp; omega
    have t3 : decide (num ≤ (3 : Int)) = true := by simp; omega
    clear h13
    go_wp2
    go_returns
    exact ⟨rfl, HB6.out⟩
  have hng := fun {r r' : Int} (hr : (3 < num ∧ num ≤ (u.nodes : Int) ∧ r = 0 ∧ r' = 14) ∨ ((num < 1 ∨ (u.nodes : Int) < num) ∧ r = 27 ∧ r' = 27)) => (show GoneR r NodeV.zero r' ∧ ∀ W, (∃ s', GAt W i s' gg u 0 GS.fresh) → Calls Tryz.prog 46 #[.pointer (some ⟨gg, 0, none⟩), .int .i64 num] W fun e w' => e = .returned (.tuple #[NodeV.zero.val, .int .i64 r]) ∧ FreshP i gg u W w' from ⟨(node_gone HA6.out (by omega) hr).1, fun W ⟨s', h⟩ => (node_gone h (by omega) hr).2⟩)
  have hcase : num < 1 ∨ (3 < num ∧ num ≤ 8) ∨ 8 < num := by omega
  have hn8 := HGO.out.2
  clear h13
  rcases hcase with h | h | h
  · have t1 : decide ((3 : Int) < num) = false := by simp; omega
    have t2 : decide ((1 : Int) ≤ num) = false := by simp; omega
    have HGN := hide (hng (r := 27) (r' := 27) (.inr ⟨.inl h, rfl, rfl⟩))
    go_upto_region 14 with (fail)
    clear y4 rgl
    clear t1 t2 hng
    go_wp2_with fail
    refine (read_gone off many rfl HGN.out.1 freshP_below (HGN.out.2 w6 ⟨_, HA6.out⟩)).mono ?_
    rintro e w7 ⟨rfl, s7, ha7, ht7⟩
    have HA7 := hide ha7
    have HB7 := hide (HB6.out.trans ((ht7.mono HB6.out.size (S' := fun _ => False) (fun k hk h => by have := HOWZ.out k h; omega)).below fun _ _ h => h))
    clear ha7 ht7 HA6 HB6
    go_wp2_with fail
    refine (read_gone off many rfl gone1 (belowP_below (w := w7)) (none_node w7 num)).mono ?_
    rintro e w8 ⟨rfl, hb8⟩
    have HA8 := hide (HA7.out.below hb8)
    have HB8 := hide (HB7.out.trans (hb8.mono HB7.out.size))
    clear hb8 HA7 HB7
    go_wp2_with (first | ((with_reducible refine at_build 91 #[(0, .const (.int .u8 1)), (1, .const (.int .u8 1)), (3, .const (.int .u32 448)), (5, .const (.int .u16 1))] ?_); refine wpList_run rfl _ (exec_build 91 #[(0, .const (.int .u8 1)), (1, .const (.int .u8 1)), (3, .const (.int .u32 448)), (5, .const (.int .u16 1))] rfl #[(0, .int .u8 1), (1, .int .u8 1), (3, .int .u32 448), (5, .int .u16 1)] (by simp only [List.map_toArray, List.map_cons, List.map_nil]; rfl) _ (build_sev _)) ?_) | fail)
    refine (blocks_nil w8).mono ?_
    rintro e w9 ⟨rfl, hb9⟩
    have HA9 := hide (HA8.out.below hb9)
    have HB9 := hide (HB8.out.trans (hb9.mono HB8.out.size))
    clear hb9 HA8 HB8
    go_wp2_with fail
    refine (write_gone off rfl HGN.out.1 freshP_below (HGN.out.2 w9 ⟨_, HA9.out⟩)).mono ?_
    rintro e w10 ⟨rfl, s10, ha10, ht10⟩
    have HA10 := hide ha10
    have HB10 := hide (HB9.out.trans ((ht10.mono HB9.out.size (S' := fun _ => False) (fun k hk h => by have := HOWZ.out k h; omega)).below fun _ _ h => h))
    clear ha10 ht10 HA9 HB9
    go_wp2_with fail
    refine (cut_gone off rfl HGN.out.1 freshP_below (HGN.out.2 w10 ⟨_, HA10.out⟩)).mono ?_
    rintro e w11 ⟨rfl, s11, ha11, ht11⟩
    have HA11 := hide ha11
    have HB11 := hide (HB10.out.trans ((ht11.mono HB10.out.size (S' := fun _ => False) (fun k hk h => by have := HOWZ.out k h; omega)).below fun _ _ h => h))
    clear ha11 ht11 HA10 HB10
    go_wp2_with fail
    refine (remove_gone rfl HGN.out.1 freshP_below (HGN.out.2 w11 ⟨_, HA11.out⟩)).mono ?_
    rintro e w12 ⟨rfl, s12, ha12, ht12⟩
    have HA12 := hide ha12
    have HB12 := hide (HB11.out.trans ((ht12.mono HB11.out.size (S' := fun _ => False) (fun k hk h => by have := HOWZ.out k h; omega)).below fun _ _ h => h))
    clear ha12 ht12 HA11 HB11
    go_wp2_with fail
    refine (write_gone off rfl gone1 (belowP_below (w := w12)) (none_node w12 num)).mono ?_
    rintro e w13 ⟨rfl, hb13⟩
    have HA13 := hide (HA12.out.below hb13)
    have HB13 := hide (HB12.out.trans (hb13.mono HB12.out.size))
    clear hb13 HA12 HB12
    go_wp2_with fail
    refine (cut_gone off rfl gone1 (belowP_below (w := w13)) (none_node w13 num)).mono ?_
    rintro e w14 ⟨rfl, hb14⟩
    have HA14 := hide (HA13.out.below hb14)
    have HB14 := hide (HB13.out.trans (hb14.mono HB13.out.size))
    clear hb14 HA13 HB13
    go_wp2_with fail
    refine (remove_gone rfl gone1 (belowP_below (w := w14)) (none_node w14 num)).mono ?_
    rintro e w15 ⟨rfl, hb15⟩
    have HA15 := hide (HA14.out.below hb15)
    have HB15 := hide (HB14.out.trans (hb15.mono HB14.out.size))
    clear hb15 HA14 HB14
    go_wp2
    go_returns
    exact ⟨rfl, HB15.out⟩
  · have t1 : decide ((3 : Int) < num) = true := by simp; omega
    have t2 : decide (num ≤ (8 : Int)) = true := by simp; omega
    have t3 : decide ((1 : Int) ≤ num) = true := by simp; omega
    have t4 : decide (num ≤ (3 : Int)) = false := by simp; omega
    have HGN := hide (hng (r := 0) (r' := 14) (.inl ⟨h.1, by rw [hn8]; exact h.2, rfl, rfl⟩))
    go_upto_region 14 with (fail)
    clear y4 rgl
    clear t1 t2 t3 t4 hng
    go_wp2_with fail
    refine (read_gone off many rfl HGN.out.1 freshP_below (HGN.out.2 w6 ⟨_, HA6.out⟩)).mono ?_
    rintro e w7 ⟨rfl, s7, ha7, ht7⟩
    have HA7 := hide ha7
    have HB7 := hide (HB6.out.trans ((ht7.mono HB6.out.size (S' := fun _ => False) (fun k hk h => by have := HOWZ.out k h; omega)).below fun _ _ h => h))
    clear ha7 ht7 HA6 HB6
    go_wp2_with fail
    refine (read_gone off many rfl gone1 (belowP_below (w := w7)) (none_node w7 num)).mono ?_
    rintro e w8 ⟨rfl, hb8⟩
    have HA8 := hide (HA7.out.below hb8)
    have HB8 := hide (HB7.out.trans (hb8.mono HB7.out.size))
    clear hb8 HA7 HB7
    go_wp2_with (first | ((with_reducible refine at_build 91 #[(0, .const (.int .u8 1)), (1, .const (.int .u8 1)), (3, .const (.int .u32 448)), (5, .const (.int .u16 1))] ?_); refine wpList_run rfl _ (exec_build 91 #[(0, .const (.int .u8 1)), (1, .const (.int .u8 1)), (3, .const (.int .u32 448)), (5, .const (.int .u16 1))] rfl #[(0, .int .u8 1), (1, .int .u8 1), (3, .int .u32 448), (5, .int .u16 1)] (by simp only [List.map_toArray, List.map_cons, List.map_nil]; rfl) _ (build_sev _)) ?_) | fail)
    refine (blocks_nil w8).mono ?_
    rintro e w9 ⟨rfl, hb9⟩
    have HA9 := hide (HA8.out.below hb9)
    have HB9 := hide (HB8.out.trans (hb9.mono HB8.out.size))
    clear hb9 HA8 HB8
    go_wp2_with fail
    refine (write_gone off rfl HGN.out.1 freshP_below (HGN.out.2 w9 ⟨_, HA9.out⟩)).mono ?_
    rintro e w10 ⟨rfl, s10, ha10, ht10⟩
    have HA10 := hide ha10
    have HB10 := hide (HB9.out.trans ((ht10.mono HB9.out.size (S' := fun _ => False) (fun k hk h => by have := HOWZ.out k h; omega)).below fun _ _ h => h))
    clear ha10 ht10 HA9 HB9
    go_wp2_with fail
    refine (cut_gone off rfl HGN.out.1 freshP_below (HGN.out.2 w10 ⟨_, HA10.out⟩)).mono ?_
    rintro e w11 ⟨rfl, s11, ha11, ht11⟩
    have HA11 := hide ha11
    have HB11 := hide (HB10.out.trans ((ht11.mono HB10.out.size (S' := fun _ => False) (fun k hk h => by have := HOWZ.out k h; omega)).below fun _ _ h => h))
    clear ha11 ht11 HA10 HB10
    go_wp2_with fail
    refine (remove_gone rfl HGN.out.1 freshP_below (HGN.out.2 w11 ⟨_, HA11.out⟩)).mono ?_
    rintro e w12 ⟨rfl, s12, ha12, ht12⟩
    have HA12 := hide ha12
    have HB12 := hide (HB11.out.trans ((ht12.mono HB11.out.size (S' := fun _ => False) (fun k hk h => by have := HOWZ.out k h; omega)).below fun _ _ h => h))
    clear ha12 ht12 HA11 HB11
    go_wp2_with fail
    refine (write_gone off rfl gone1 (belowP_below (w := w12)) (none_node w12 num)).mono ?_
    rintro e w13 ⟨rfl, hb13⟩
    have HA13 := hide (HA12.out.below hb13)
    have HB13 := hide (HB12.out.trans (hb13.mono HB12.out.size))
    clear hb13 HA12 HB12
    go_wp2_with fail
    refine (cut_gone off rfl gone1 (belowP_below (w := w13)) (none_node w13 num)).mono ?_
    rintro e w14 ⟨rfl, hb14⟩
    have HA14 := hide (HA13.out.below hb14)
    have HB14 := hide (HB13.out.trans (hb14.mono HB13.out.size))
    clear hb14 HA13 HB13
    go_wp2_with fail
    refine (remove_gone rfl gone1 (belowP_below (w := w14)) (none_node w14 num)).mono ?_
    rintro e w15 ⟨rfl, hb15⟩
    have HA15 := hide (HA14.out.below hb15)
    have HB15 := hide (HB14.out.trans (hb15.mono HB14.out.size))
    clear hb15 HA14 HB14
    go_wp2
    go_returns
    exact ⟨rfl, HB15.out⟩
  · have t1 : decide ((3 : Int) < num) = true := by simp; omega
    have t2 : decide (num ≤ (8 : Int)) = false := by simp; omega
    have t3 : decide ((1 : Int) ≤ num) = true := by simp; omega
    have t4 : decide (num ≤ (3 : Int)) = false := by simp; omega
    have HGN := hide (hng (r := 27) (r' := 27) (.inr ⟨.inr (by rw [hn8]; exact h), rfl, rfl⟩))
    go_upto_region 14 with (fail)
    clear y4 rgl
    clear t1 t2 t3 t4 hng
    go_wp2_with fail
    refine (read_gone off many rfl HGN.out.1 freshP_below (HGN.out.2 w6 ⟨_, HA6.out⟩)).mono ?_
    rintro e w7 ⟨rfl, s7, ha7, ht7⟩
    have HA7 := hide ha7
    have HB7 := hide (HB6.out.trans ((ht7.mono HB6.out.size (S' := fun _ => False) (fun k hk h => by have := HOWZ.out k h; omega)).below fun _ _ h => h))
    clear ha7 ht7 HA6 HB6
    go_wp2_with fail
    refine (read_gone off many rfl gone1 (belowP_below (w := w7)) (none_node w7 num)).mono ?_
    rintro e w8 ⟨rfl, hb8⟩
    have HA8 := hide (HA7.out.below hb8)
    have HB8 := hide (HB7.out.trans (hb8.mono HB7.out.size))
    clear hb8 HA7 HB7
    go_wp2_with (first | ((with_reducible refine at_build 91 #[(0, .const (.int .u8 1)), (1, .const (.int .u8 1)), (3, .const (.int .u32 448)), (5, .const (.int .u16 1))] ?_); refine wpList_run rfl _ (exec_build 91 #[(0, .const (.int .u8 1)), (1, .const (.int .u8 1)), (3, .const (.int .u32 448)), (5, .const (.int .u16 1))] rfl #[(0, .int .u8 1), (1, .int .u8 1), (3, .int .u32 448), (5, .int .u16 1)] (by simp only [List.map_toArray, List.map_cons, List.map_nil]; rfl) _ (build_sev _)) ?_) | fail)
    refine (blocks_nil w8).mono ?_
    rintro e w9 ⟨rfl, hb9⟩
    have HA9 := hide (HA8.out.below hb9)
    have HB9 := hide (HB8.out.trans (hb9.mono HB8.out.size))
    clear hb9 HA8 HB8
    go_wp2_with fail
    refine (write_gone off rfl HGN.out.1 freshP_below (HGN.out.2 w9 ⟨_, HA9.out⟩)).mono ?_
    rintro e w10 ⟨rfl, s10, ha10, ht10⟩
    have HA10 := hide ha10
    have HB10 := hide (HB9.out.trans ((ht10.mono HB9.out.size (S' := fun _ => False) (fun k hk h => by have := HOWZ.out k h; omega)).below fun _ _ h => h))
    clear ha10 ht10 HA9 HB9
    go_wp2_with fail
    refine (cut_gone off rfl HGN.out.1 freshP_below (HGN.out.2 w10 ⟨_, HA10.out⟩)).mono ?_
    rintro e w11 ⟨rfl, s11, ha11, ht11⟩
    have HA11 := hide ha11
    have HB11 := hide (HB10.out.trans ((ht11.mono HB10.out.size (S' := fun _ => False) (fun k hk h => by have := HOWZ.out k h; omega)).below fun _ _ h => h))
    clear ha11 ht11 HA10 HB10
    go_wp2_with fail
    refine (remove_gone rfl HGN.out.1 freshP_below (HGN.out.2 w11 ⟨_, HA11.out⟩)).mono ?_
    rintro e w12 ⟨rfl, s12, ha12, ht12⟩
    have HA12 := hide ha12
    have HB12 := hide (HB11.out.trans ((ht12.mono HB11.out.size (S' := fun _ => False) (fun k hk h => by have := HOWZ.out k h; omega)).below fun _ _ h => h))
    clear ha12 ht12 HA11 HB11
    go_wp2_with fail
    refine (write_gone off rfl gone1 (belowP_below (w := w12)) (none_node w12 num)).mono ?_
    rintro e w13 ⟨rfl, hb13⟩
    have HA13 := hide (HA12.out.below hb13)
    have HB13 := hide (HB12.out.trans (hb13.mono HB12.out.size))
    clear hb13 HA12 HB12
    go_wp2_with fail
    refine (cut_gone off rfl gone1 (belowP_below (w := w13)) (none_node w13 num)).mono ?_
    rintro e w14 ⟨rfl, hb14⟩
    have HA14 := hide (HA13.out.below hb14)
    have HB14 := hide (HB13.out.trans (hb14.mono HB13.out.size))
    clear hb14 HA13 HB13
    go_wp2_with fail
    refine (remove_gone rfl gone1 (belowP_below (w := w14)) (none_node w14 num)).mono ?_
    rintro e w15 ⟨rfl, hb15⟩
    have HA15 := hide (HA14.out.below hb15)
    have HB15 := hide (HB14.out.trans (hb15.mono HB14.out.size))
    clear hb15 HA14 HB14
    go_wp2
    go_returns
    exact ⟨rfl, HB15.out⟩
theorem fnone_all (w : World) (num off many : Int) (A : Option Addr) (n c : Nat) :
    Calls Tryz.prog 5 #[.int .i64 num, .int .i64 off, .int .i64 many, .slice A n c] w fun e w' => e = .returned (.bool true) ∧ Below w.heap.size w w' := by
  rcases Nat.lt_or_ge 100 n with h | h
  · exact fnone_long w num off many A n c h
  · exact fnone_short w num off many A n c h
end Go.Proofs.YtoeejeieplhifaaGreat
namespace Go.Proofs.YtoeejeieplhifaaGreat.lawFileNone
open Go.ChangeShapes Go.WideShapes Go.ChangeAt Go.RowKit Go.Joins
open Go.ChangeMaps (open_string shut_string)
set_option linter.unusedVariables false

theorem own : ownKnob Tryz.prog.godebug = none := by kernel_rfl
theorem laidOut : laidOutB Tryz.prog = true := by kernel_rfl

set_option maxRecDepth 100000 in
theorem lifted (os : Os) (started : os.Started) (H0 : Type) (enc : TypeId × Value → H0) :
    ReturnsInHanded {} Tryz.checked os 5 .any (Rows.fileNoneSpec.pre6 enc Tryz.prog Tryz.f5 Rows.fileNoneRow.domain false) (Rows.fileNoneSpec.post enc Tryz.prog Tryz.f5 false true false false) := by
  refine returnsInHanded_of_change (C := Tryz.checked) own started (by kernel_rfl) Tryz.func5
    (ChangeSpec.witness6 (enc := enc) (C := Tryz.checked) false ⟨#[], #[.int .i64 0, .int .i64 0, .int .i64 0, .slice none 0 0], []⟩ 8 (by kernel_rfl) (by kernel_rfl) (by kernel_rfl) (by kernel_rfl)) ?_
  intro W base args ds gs before hval0 hW hcnd _
  have hval : ∀ (j : Nat) t v, Tryz.f5.params[j]? = some t → args[j]? = some v → Value.okWide Tryz.prog W .any base t v := hval0
  have hW' := hW
  obtain ⟨p, q, hA0, hV, rfl, hfz, hnd⟩ := hW
  have hA : DataW.TrodAll enc Tryz.prog W 0 (fun _ => true) true Tryz.f5.params.toList args.toList ds p := hA0
  rw [Tryz.params5] at hA hval
  obtain ⟨v0, vs0, d0, ds0, p0, q0, hargs, rfl, rfl, h0, r0⟩ := trodAll_cons hA
  obtain ⟨v1, vs1, d1, ds1, p1, q1, rfl, rfl, rfl, h1, r1⟩ := trodAll_cons r0
  obtain ⟨v2, vs2, d2, ds2, p2, q2, rfl, rfl, rfl, h2, r2⟩ := trodAll_cons r1
  obtain ⟨v3, vs3, d3, ds3, p3, q3, rfl, rfl, rfl, h3, r3⟩ := trodAll_cons r2
  obtain ⟨rfl, rfl, rfl⟩ := trodAll_nil r3
  obtain rfl : args = #[v0, v1, v2, v3] := by cases args; simp_all
  obtain ⟨rfl, rfl⟩ := trodVars_none hV
  have k0 := h0
  have lt0 : ∀ x ∈ p0, x.block < W.heap.size := by obtain ⟨m, hm⟩ := k0; exact DataW.trod_lt m _ _ _ hm
  have k1 := h1
  have lt1 : ∀ x ∈ p1, x.block < W.heap.size := by obtain ⟨m, hm⟩ := k1; exact DataW.trod_lt m _ _ _ hm
  have k2 := h2
  have lt2 : ∀ x ∈ p2, x.block < W.heap.size := by obtain ⟨m, hm⟩ := k2; exact DataW.trod_lt m _ _ _ hm
  have k3 := h3
  have lt3 : ∀ x ∈ p3, x.block < W.heap.size := by obtain ⟨m, hm⟩ := k3; exact DataW.trod_lt m _ _ _ hm
  obtain ⟨num, rfl, _⟩ := open_i64 Tryz.underlying3 (hval 0 3 v0 rfl rfl) h0
  obtain ⟨off, rfl, _⟩ := open_i64 Tryz.underlying3 (hval 1 3 v1 rfl rfl) h1
  obtain ⟨many, rfl, _⟩ := open_i64 Tryz.underlying3 (hval 2 3 v2 rfl rfl) h2
  obtain ⟨A, n, c, l, rfl, hr, hnc⟩ := open_bytes Tryz.underlying24 Tryz.underlying5 (by kernel_rfl) (hval 3 24 v3 rfl rfl) h3
  clear hA0 hval0
  refine (fnone_all _ num off many A n c).mono fun e W' ⟨he, bel⟩ => ?_
  subst he
  exact ⟨_, rfl, _, _, _, [], _, [], hW', trodAll_mk1 (shut_bool Tryz.underlying4 _), (trodAll_cons_mk (Below.trod laidOut (by kernel_rfl) (of_decide_eq_true (by kernel_rfl)) k0 bel lt0) (trodAll_cons_mk (Below.trod laidOut (by kernel_rfl) (of_decide_eq_true (by kernel_rfl)) k1 bel lt1) (trodAll_cons_mk (Below.trod laidOut (by kernel_rfl) (of_decide_eq_true (by kernel_rfl)) k2 bel lt2) (trodAll_cons_mk (Below.trod laidOut (by kernel_rfl) (of_decide_eq_true (by kernel_rfl)) k3 bel lt3) trodAll_mk0)))), rfl, bel.frame _, fun h => by cases h⟩

theorem over : Rows.fileNoneRow.holds Tryz.pinned (OpenSpec.ofChange Rows.fileNoneSpec) :=
  OpenClaim.holds_of_wide 5 Tryz.f5 rfl rfl rfl rfl rfl rfl rfl ⟨rfl, rfl, rfl, rfl, rfl⟩ rfl rfl rfl rfl rfl (by kernel_rfl) Tryz.func5 (by kernel_rfl)
    (of_decide_eq_true (by kernel_rfl)) (by unfold Func.isWrapper; first | (rw [if_pos (by decide +kernel)]; kernel_rfl) | (rw [if_neg (by decide +kernel)]; exact ⟨rfl, rfl⟩))
    (fun os started H0 enc _ => lifted os started H0 enc)

theorem proved : Rows.FileNoneSaid := over
#print axioms proved
end Go.Proofs.YtoeejeieplhifaaGreat.lawFileNone

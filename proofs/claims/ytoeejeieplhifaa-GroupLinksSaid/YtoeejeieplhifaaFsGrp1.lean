/- Groups, walked: taken, has, Take, Give. -/
import Derived.Test.YtoeejeieplhifaaFsBit3
import Derived.Test.YtoeejeieplhifaaFsNode5
namespace Go.Proofs.Ytoeejeieplhifaa
open Go.RowKit
set_option linter.unusedSimpArgs false
set_option linter.unusedVariables false

/-- a group of a label, over a transaction -/
abbrev gpcells (tt : Nat) (g : GeoN) (lab : Int) : Array Value := #[.pointer (some ⟨tt, 0, none⟩), .int .i64 (g.base : Int), .int .i64 (g.bitmap : Int), .int .i64 (g.table : Int), .int .i64 (g.data : Int), .int .i64 (g.blocks : Int), .int .i64 (g.nodes : Int), .int .i64 lab]
def GroupAt (w : World) (gg tt : Nat) (g : GeoN) (lab : Int) : Prop := Blk w gg 118 (gpcells tt g lab)
theorem can_of {s : Sto} {n : Nat} (h1 : n < s.D.length) (h2 : 32 ≤ n) (h3 : s.M.length < 30) : s.Can n := ⟨h1, .inr (by omega), .inr h3⟩
theorem setBit_len (s : Sto) (f k : Nat) (on : Bool) : (s.setBit f k on).M.length ≤ s.M.length + 1 := by
  unfold Sto.setBit
  split
  · omega
  · exact Sto.put_len _ _ _
theorem setBit_D (s : Sto) (f k : Nat) (on : Bool) : (s.setBit f k on).D = s.D := by
  unfold Sto.setBit
  split <;> rfl

section
variable {w w' : World} {i : Ids} {s : Sto} {gg : Nat} {g : GeoN} {lab : Int}
theorem GroupAt.not_own (h : TxAt w i s) (hG : GroupAt w gg i.tt g lab) : ¬ i.own gg := h.other hG (by decide) (by decide) (by decide)
theorem GroupAt.tch (h : TxAt w i s) (hG : GroupAt w gg i.tt g lab) (ht : Tch w.heap.size i.own w w') : GroupAt w' gg i.tt g lab := Blk.tch hG ht hG.lt (hG.not_own h)
theorem GroupAt.below {tt : Nat} (hG : GroupAt w gg tt g lab) (hb : Below w.heap.size w w') : GroupAt w' gg tt g lab := Blk.below hG hb hG.lt

set_option maxRecDepth 100000 in
theorem taken_ok {tt : Nat} (hG : GroupAt w gg tt g lab) (hf : g.base ≤ 65536) (hm : g.blocks ≤ 65536) :
    Calls Try.prog 50 #[.pointer (some ⟨gg, 0, none⟩)] w fun e w' => ∃ bm, e = .returned (.pointer (some ⟨bm, 0, none⟩)) ∧ w.heap.size ≤ bm ∧ BitsAt w' bm tt g.base g.blocks ∧ Below w.heap.size w w' := by
  have c0 := hG.cell 0
  have c1 := hG.cell 1
  have c5 := hG.cell 5
  have cl := hG.lt
  go_enter Try.func50, Try.ntmps50
  go_wp2
  refine wp_region_text [0, 0, 0, 0, 0, 0, 0, 0, 0, 0, 0, 0, 0, 0, 1, 0, 0, 0, 0, 0] (Below w.heap.size w) (by kernel_rfl) (by kernel_rfl) (Below.refl _ _).drew ?_
  iterate 14 (refine wpOrd_q (v := ?_) (by rfl) (fun W hW => ?_) ?_; rotate_left; (focus ((obtain ⟨hWc, hWf⟩ := bcell hW; go_simp); try with_reducible rfl)); try simp only [Act.put, List.setIfInBounds_toArray, List.set_cons_zero, List.set_cons_succ])
  refine wpOrd_x (by rfl) (fun K hK => ?_)
  go_simp
  refine (bits_new tt hf hm w.drew).mono ?_
  rintro e w1 ⟨bm, rfl, hbm, hB, hb1⟩
  have hb1 : Below w.heap.size w w1 := (Below.refl _ _).drew.trans hb1
  refine hK _ _ _ (fun _ h => h) hb1 ?_
  clear hK K
  try simp only [Act.put, List.setIfInBounds_toArray, List.set_cons_zero, List.set_cons_succ]
  iterate 5 (refine wpOrd_q (v := ?_) (by rfl) (fun W hW => ?_) ?_; rotate_left; (focus ((obtain ⟨hWc, hWf⟩ := bcell hW; go_simp); try with_reducible rfl)); try simp only [Act.put, List.setIfInBounds_toArray, List.set_cons_zero, List.set_cons_succ])
  refine wpOrd_nil ?_
  have HB := hide (And.intro hB hb1)
  have HBM := hide hbm
  clear hB hb1 hbm c0 c1 c5
  go_wp2
  go_returns
  exact ⟨bm, rfl, HBM.out, HB.out.1, HB.out.2⟩

theorem has_yes {tt n : Nat} (hG : GroupAt w gg tt g lab) (hn : n < 65536) (h1 : 1 ≤ n) (h2 : n ≤ g.blocks) :
    Calls Try.prog 64 #[.pointer (some ⟨gg, 0, none⟩), .int .u16 (n : Int)] w fun e w' => e = .returned (.bool true) ∧ w = w' := by
  have c5 := hG.cell 5
  have cl := hG.lt
  have hz : (n : Int) ≤ 65535 := by omega
  have k1 : decide ((1 : Int) ≤ (n : Int)) = true := by simp; omega
  have k2 : decide (n ≤ g.blocks) = true := by simpa using h2
  go_enter Try.func64, Try.ntmps64
  go_wp2
  go_returns
  exact ⟨rfl, rfl⟩
theorem has_not {tt n : Nat} (hG : GroupAt w gg tt g lab) (hn : n < 65536) (h : n < 1 ∨ g.blocks < n) :
    Calls Try.prog 64 #[.pointer (some ⟨gg, 0, none⟩), .int .u16 (n : Int)] w fun e w' => e = .returned (.bool false) ∧ w = w' := by
  have c5 := hG.cell 5
  have cl := hG.lt
  have hz : (n : Int) ≤ 65535 := by omega
  by_cases h1 : 1 ≤ n
  · have k1 : decide ((1 : Int) ≤ (n : Int)) = true := by simp; omega
    have k2 : decide (n ≤ g.blocks) = false := by simp; omega
    clear h
    go_enter Try.func64, Try.ntmps64
    go_wp2
    go_returns
    exact ⟨rfl, rfl⟩
  · have k1 : decide ((1 : Int) ≤ (n : Int)) = false := by simp; omega
    clear h
    go_enter Try.func64, Try.ntmps64
    go_wp2
    go_returns
    exact ⟨rfl, rfl⟩

/-- what Take comes to -/
def Sto.take (s : Sto) (g : GeoN) (k : Nat) : Sto := (s.setBit g.base k true).put (g.data + k) zeroB
theorem geo_room {s : Sto} {k : Nat} (hg : g.Ok s.D.length) (hk : k < g.blocks) (hr : s.M.length ≤ 28) : s.Can (g.base + k / 512) ∧ ∀ on, (s.setBit g.base k on).Can (g.data + k) := by
  have := hg.fits; have := hg.data; have := hg.map; have := hg.base
  refine ⟨can_of (by omega) (by omega) (by omega), fun on => can_of (by rw [setBit_D]; omega) (by omega) (by have := setBit_len s g.base k on; omega)⟩
theorem geo_bits {s : Sto} (hg : g.Ok s.D.length) : g.base ≤ 65536 ∧ g.blocks ≤ 65536 ∧ ∀ n, n * 512 < g.blocks → g.base + n < s.D.length := by
  have := hg.fits; have := hg.data; have := hg.map; have := hg.small
  exact ⟨by omega, by omega, fun n hn => by omega⟩

set_option maxRecDepth 100000 in
set_option maxHeartbeats 800000 in
theorem take_full (h : TxAt w i s) (hG : GroupAt w gg i.tt g lab) (hg : g.Ok s.D.length) (hf : s.freeBit g.base g.blocks = none) :
    Calls Try.prog 20 #[.pointer (some ⟨gg, 0, none⟩)] w fun e w' => e = .returned (.tuple #[.int .u16 0, .int .i64 10]) ∧ TxAt w' i s ∧ Tch w.heap.size i.own w w' := by
  obtain ⟨b1, b2, b3⟩ := geo_bits hg
  have H := hide h
  have HG := hide hG
  have HF := hide hf
  have HB := hide (And.intro b1 (And.intro b2 b3))
  clear h hG hf b1 b2 b3 hg
  go_enter Try.func20, Try.ntmps20
  go_wp2_with fail
  refine (taken_ok HG.out HB.out.1 HB.out.2.1).mono ?_
  rintro e w1 ⟨bm, rfl, -, hbm, hb1⟩
  have HW := hide (And.intro (H.out.below hb1) (And.intro hbm hb1))
  clear hbm hb1
  go_wp2_with fail
  refine (free_ok HW.out.1 HW.out.2.1 HB.out.1 HB.out.2.1 HB.out.2.2).mono ?_
  rw [HF.out]
  rintro e w2 ⟨rfl, hx2, ht2⟩
  have HF2 := hide (And.intro hx2 ((Tch.of_below (S := i.own) HW.out.2.2).trans (ht2.mono HW.out.2.2.size fun _ _ h => h)))
  clear hx2 ht2
  simp only [optI]
  go_wp2
  go_returns
  exact ⟨rfl, HF2.out.1, HF2.out.2⟩

set_option maxRecDepth 100000 in
set_option maxHeartbeats 1600000 in
theorem take_ok {k : Nat} (h : TxAt w i s) (hG : GroupAt w gg i.tt g lab) (hg : g.Ok s.D.length) (hr : s.M.length ≤ 28) (hf : s.freeBit g.base g.blocks = some k) (hk : k < g.blocks) :
    Calls Try.prog 20 #[.pointer (some ⟨gg, 0, none⟩)] w fun e w' => e = .returned (.tuple #[.int .u16 ((k + 1 : Nat) : Int), .int .i64 0]) ∧ TxAt w' i (s.take g k) ∧ Tch w.heap.size i.own w w' := by
  obtain ⟨b1, b2, b3⟩ := geo_bits hg
  obtain ⟨c1, c2⟩ := geo_room hg hk hr
  have hdk : g.data + k < s.D.length := by have := hg.fits; omega
  have hdl := h.ok.most
  have e1 : IntKind.i64.wrap ((g.data : Int) + (k : Int)) = ((g.data + k : Nat) : Int) := by rw [IntWalk.i64_in _ (by omega)]; omega
  obtain ⟨q, hq⟩ : ∃ q, g.data + k = q := ⟨_, rfl⟩
  have hkz : (k : Int) ≤ 65503 := by have := hg.map1; have := hg.data; have := hg.fits; have := hg.small; have := hg.base; have := hg.map; omega
  have ew : IntKind.u16.wrap ((k : Int) + 1) = (k : Int) + 1 := by rw [IntKind.wrap_u16]; omega
  have HPUT := hide (show s.take g k = (s.setBit g.base k true).put q zeroB by rw [← hq]; rfl)
  rw [hq] at e1 c2
  have H := hide h
  have HG := hide hG
  have HF := hide hf
  have HB := hide (And.intro b1 (And.intro b2 b3))
  have HC := hide (And.intro c1 c2)
  have HK := hide hk
  clear h hG hf b1 b2 b3 c1 c2 hg hq hdk hdl hr hk
  go_enter Try.func20, Try.ntmps20
  go_wp2_with fail
  refine (taken_ok HG.out HB.out.1 HB.out.2.1).mono ?_
  rintro e w1 ⟨bm, rfl, -, hbm, hb1⟩
  have HW := hide (And.intro (H.out.below hb1) (And.intro hbm (And.intro hb1 (HG.out.below hb1))))
  clear hbm hb1
  go_wp2_with fail
  refine (free_ok HW.out.1 HW.out.2.1 HB.out.1 HB.out.2.1 HB.out.2.2).mono ?_
  rw [HF.out]
  rintro e w2 ⟨rfl, hx2, ht2⟩
  have HF2 := hide (And.intro hx2 (And.intro ((Tch.of_below (S := i.own) HW.out.2.2.1).trans (ht2.mono HW.out.2.2.1.size fun _ _ h => h)) (And.intro (Blk.tch HW.out.2.1 ht2 HW.out.2.1.lt (HW.out.2.1.not_own HW.out.1)) (HW.out.2.2.2.tch HW.out.1 ht2))))
  clear hx2 ht2
  simp only [optI]
  go_wp2_with fail
  refine (set_ok HF2.out.1 HF2.out.2.2.1 HB.out.1 HB.out.2.1 HK.out HC.out.1).mono ?_
  rintro e w3 ⟨rfl, hx3, ht3⟩
  have HF3 := hide (And.intro hx3 (And.intro (HF2.out.2.1.trans (ht3.mono HF2.out.2.1.size fun _ _ h => h)) (HF2.out.2.2.2.tch HF2.out.1 ht3)))
  clear hx3 ht3
  have c0 := HF3.out.2.2.cell 0
  have c4 := HF3.out.2.2.cell 4
  have cl := HF3.out.2.2.lt
  go_upto_region 12 with (fail)
  refine wp_region_text [0, 0, 0, 0, 0, 0, 0, 0, 0, 0, 0, 0, 2, 0] (· = w3.drew) (by kernel_rfl) (by kernel_rfl) rfl ?_
  iterate 11 (refine wpOrd_q (v := ?_) (by rfl) (fun W hW => ?_) ?_; rotate_left; (focus ((cases hW; go_simp); try with_reducible rfl)); try simp only [Act.put, List.setIfInBounds_toArray, List.set_cons_zero, List.set_cons_succ])
  refine wpOrd_q (v := bval zeroB) (by rfl) (fun W hW => exec_build 67 #[] rfl #[] (by simp) _ (build_block W)) ?_
  try simp only [Act.put, List.setIfInBounds_toArray, List.set_cons_zero, List.set_cons_succ]
  refine wpOrd_b (by rfl) (fun K hK => ?_)
  go_simp
  refine (put_ok (HF3.out.1.below (Below.refl _ _).drew) (k := q) (b := zeroB) zeroB_length (HC.out.2 true).lt (HC.out.2 true).free (HC.out.2 true).room).mono ?_
  rintro e w5 ⟨rfl, hx5, ht5⟩
  rw [← HPUT.out] at hx5
  refine hK (fun _ => True) _ _ trivial ?_
  have HF5 := hide (And.intro hx5 (HF3.out.2.1.drew.trans ((ht5.sub fun _ h => Ids.own_mm h).mono HF3.out.2.1.size fun _ _ h => h)))
  clear hK K c0 c4 cl hx5 ht5
  try simp only [Act.put, List.setIfInBounds_toArray, List.set_cons_zero, List.set_cons_succ]
  iterate 1 (refine wpOrd_q (v := ?_) (by rfl) (fun W hW => ?_) ?_; rotate_left; (focus (go_simp; try with_reducible rfl)); try simp only [Act.put, List.setIfInBounds_toArray, List.set_cons_zero, List.set_cons_succ])
  refine wpOrd_nil ?_
  go_wp2
  go_returns
  exact ⟨by simp, HF5.out.1, HF5.out.2⟩
end
end Go.Proofs.Ytoeejeieplhifaa

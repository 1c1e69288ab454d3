/- Configurations in small numbers: the walks of a size. -/
import Derived.Test.YtoeejeieplhifaaConfRows
import Derived.Test.YtoeejeieplhifaaOrd
import Derived.Test.YtoeejeieplhifaaConfSize
import Derived.Deep.LoopGhost
import Derived.Deep.Cut
import Derived.Deep.CutRange
import Derived.Deep.CutBlock
namespace Go.Proofs.Ytoeejeieplhifaa
open Go.RowKit Go.WideMaps
set_option linter.unusedSimpArgs false
set_option linter.unusedVariables false

def szNames : List Value := [.string ⟨#[108, 111, 119]⟩, .string ⟨#[114, 101, 100]⟩, .string ⟨#[98, 108, 117, 101]⟩, .string ⟨#[116, 111, 112]⟩, .string ⟨#[104, 105, 103, 104]⟩]
def szLabels : List Value := [.int .u8 0, .int .u16 0, .int .u8 1, .int .u16 1, .int .u8 1, .int .u16 2, .int .u8 2, .int .u16 3, .int .u8 9, .int .u16 7]
theorem names_ok (w : World) : Calls Try.prog 77 #[] w fun e w' => ∃ g, w.heap.size ≤ g ∧ e = .returned (.slice (some ⟨g, 0, none⟩) 5 5) ∧ Below w.heap.size w w' ∧ g < w'.heap.size ∧ ∀ j v, szNames[j]? = some v → w'.cell? ⟨g, j, none⟩ = some v := by
  go_enter Try.func77, Try.ntmps77
  go_wp2
  go_returns
  refine ⟨w.heap.size, Nat.le_refl _, rfl, (Below.refl _ _).alloc (Nat.le_refl _) _, by simp, fun j v hj => ?_⟩
  rw [(Blk.new w _ _).cell j]
  simpa [szNames] using hj
theorem build_lab2 (W : World) (a b : Int) : (Instr.build 41 #[(0, .int .u8 a), (1, .int .u16 b)]).run Try.prog W = .ok (.agg #[.int .u8 a, .int .u16 b]) W := by kernel_rfl
section
attribute [-go_sem] Instr.build
attribute [local go_sem] build_lab0 build_lab2
theorem labels_ok (w : World) : Calls Try.prog 78 #[] w fun e w' => ∃ g, w.heap.size ≤ g ∧ e = .returned (.slice (some ⟨g, 0, none⟩) 5 5) ∧ Below w.heap.size w w' ∧ g < w'.heap.size ∧ ∀ j v, szLabels[j]? = some v → w'.cell? ⟨g, j, none⟩ = some v := by
  go_enter Try.func78, Try.ntmps78
  go_wp2
  go_returns
  refine ⟨w.heap.size, Nat.le_refl _, rfl, (Below.refl _ _).alloc (Nat.le_refl _) _, by simp, fun j v hj => ?_⟩
  rw [(Blk.new w _ _).cell j]
  simpa [szLabels] using hj
end


/-! ### labels and marks -/
def szCells (m : UInt8) (H : List UInt8) (A : Option Addr) (n c : Nat) : Array Value := (Value.int .u8 (m.toNat : Int) :: (bvs H ++ [Value.slice A n c])).toArray
def szClear0 (many i : Nat) : Nat := if many = 2 then 1 else if many < 4 ∧ 0 < i then i else many - 1
def szReg0 (many : Nat) (H : List UInt8) (i : Nat) : RegV := { szReg many H i with clear := (szClear0 many i : Nat) }
theorem szCells_size {m : UInt8} {H : List UInt8} {A : Option Addr} {n c : Nat} (h : H.length = 25) : (szCells m H A n c).size = 27 := by simp [szCells, h, bvs_length]
theorem szCells_many {m : UInt8} {H : List UInt8} {A : Option Addr} {n c : Nat} : (szCells m H A n c)[0]? = some (.int .u8 (m.toNat : Int)) := by simp [szCells]
theorem szCells_have {m : UInt8} {H : List UInt8} {A : Option Addr} {n c j : Nat} (h : H.length = 25) (hj : j < 25) : (szCells m H A n c)[1 + j]? = some (.int .u8 ((H.getD j 0).toNat : Int)) := by
  rw [szCells, List.getElem?_toArray, Nat.add_comm 1 j, List.getElem?_cons_succ, List.getElem?_append_left (by rw [bvs_length]; omega), bvs_get]
  simp [List.getElem?_eq_getElem (show j < H.length by omega), bv]
theorem szCells_trust {m : UInt8} {H : List UInt8} {A : Option Addr} {n c : Nat} (h : H.length = 25) : (szCells m H A n c)[26]? = some (.slice A n c) := by
  rw [szCells, List.getElem?_toArray, List.getElem?_cons_succ, List.getElem?_append_right (by rw [bvs_length]; omega), bvs_length, h]
  rfl
def MarksOk (M : Nat) (K : List MarkV) : Prop := (∀ x ∈ K, x.1.toNat < M ∧ 1 ≤ x.2.toNat ∧ x.2.toNat ≤ 8) ∧ K.Nodup ∧ K.length ≤ 9
theorem szReg0_eq {M : Nat} {H : List UInt8} (h2 : 2 ≤ M) (h3 : M ≠ 3) : (List.range M).map (szReg0 M H) = (List.range M).map (szReg M H) := by
  apply List.map_congr_left
  intro i hi
  have hc : szClear0 M i = szClear M i := by
    unfold szClear0 szClear
    by_cases e2 : M = 2
    · rw [if_pos e2, if_pos e2]
    · rw [if_neg e2, if_neg e2, if_neg h3, if_neg (by omega)]
  unfold szReg0
  rw [hc]
  rfl
theorem szReg0_three (H : List UInt8) : ((List.range 3).map (szReg0 3 H)).set 0 { szReg0 3 H 0 with clear := (1 : Int) } = (List.range 3).map (szReg 3 H) := rfl
theorem szNames_at {k : Nat} (h : k < 5) : szNames[k]? = some (.string ⟨(szName k).toArray⟩) := by
  rcases k with _ | _ | _ | _ | _ | k <;> first | rfl | omega
theorem szLabels_at {k : Nat} (h : k < 5) : szLabels[k * 2]? = some (.int .u8 ((szLev k).toNat : Int)) ∧ szLabels[k * 2 + 1]? = some (.int .u16 ((szCat k).toNat : Int)) := by
  rcases k with _ | _ | _ | _ | _ | k <;> first | exact ⟨rfl, rfl⟩ | omega

section
variable {m : UInt8} {H : List UInt8} {A : Option Addr} {n c : Nat} {T : List UInt8} {w : World}
set_option maxRecDepth 100000 in
set_option maxHeartbeats 4000000 in
theorem size_regs (hH : H.length = 25) (hT : Rd w w.heap.size 1 A n (bvs T)) (hnm : n ≤ 9223372036854775807) :
    Calls Try.prog 44 #[.agg (szCells m H A n c)] w fun e w' => ∃ (K : List MarkV) (A1 A2 : Option Addr) (c1 c2 : Nat), e = .returned (.tuple #[.slice A1 (szMany m) c1, .slice A2 K.length c2]) ∧ Below w.heap.size w w' ∧
      w'.ownsRow w.heap.size 43 9 (.slice A1 (szMany m) c1) (szMany m) (rcellsOf (szRegs m H)) ∧ w'.ownsRow w.heap.size 161 2 (.slice A2 K.length c2) K.length (mcellsOf K) ∧ MarksOk (szMany m) K := by
  have hsz : (szCells m H A n c).size = 27 := szCells_size hH
  go_enter Try.func44, Try.ntmps44
  go_upto_region 1 with (fail)
  refine at_world (fun W => ∃ bx, bx = w.heap.size ∧ Below w.heap.size w W ∧ Blk W bx 26 (szCells m H A n c)) ⟨_, rfl, (Below.refl _ _).alloc (Nat.le_refl _) _, Blk.new _ _ _⟩ (fun w1 h1 => ?_)
  obtain ⟨bx, hbx, hb1, hX1⟩ := h1
  rw [← hbx]
  have HBX := hide hbx
  clear hbx
  have x0 := (hX1.cell 0).trans szCells_many
  have x26 := (hX1.cell 26).trans (szCells_trust hH)
  have xl := hX1.lt
  have hm4 : (m.toNat : Int).tmod 4 = ((m.toNat % 4 : Nat) : Int) := by rw [IntWalk.rem_in _ _ (by omega)]; rfl
  have hm5 : wrap64 ((m.toNat % 4 : Nat) : Int) = ((m.toNat % 4 : Nat) : Int) := IntWalk.wrap64_in _ (by omega)
  obtain ⟨M, hM⟩ : ∃ M, M = szMany m := ⟨_, rfl⟩
  have hM2 := szMany_ge m
  have hM5 := szMany_le m
  rw [← hM] at hM2 hM5
  have hm6 : (2 : Int) + (m.toNat : Int) % 4 = (M : Int) := by rw [hM]; unfold szMany; omega
  have HM := hide hM
  have HX1 := hide hX1
  have HB1 := hide hb1
  clear hM hX1 hb1
  go_upto_region 4 with (fail)
  clear hm4 hm5 hm6 x0 x26 xl hsz
  go_loopg [5, 6, 7, 8, 22] M (fun g x5 x6 x7 x8 x22 wr => ∃ (k : Nat) (Ak : Option Addr) (ck : Nat), k ≤ M ∧ g = M - k ∧ x22 = .int .i64 k ∧ x5 = .slice Ak k ck ∧ Aside (Below w1.heap.size w1 wr ∧ wr.ownsRow w1.heap.size 43 9 (.slice Ak k ck) k (rcellsOf ((List.range k).map (szReg0 M H)))))
  case atStart => exact ⟨0, none, 0, Nat.zero_le _, rfl, rfl, rfl, Below.refl _ _, World.ownsRow_nil _ _ _ _⟩
  case round =>
    obtain ⟨k, Ak, ck, hk, hg, rfl, rfl, hA⟩ := hrel
    by_cases hkM : k < M
    · have hkz : (k : Int) < M := by omega
      obtain ⟨hbr, hor⟩ := hA.out
      have HBR := hide hbr
      have HOR := hide hor
      have hX := HX1.out.below hbr HX1.out.lt
      have y (j : Nat) (hj : j < 5) : wr.cell? ⟨bx, 1 + k * 5 + j, none⟩ = some (.int .u8 ((H.getD (5 * k + j) 0).toNat : Int)) := by
        rw [show 1 + k * 5 + j = 1 + (5 * k + j) from by omega]
        exact (hX.cell _).trans (szCells_have hH (by omega))
      have y0 := y 0 (by omega)
      have y1 := y 1 (by omega)
      have y2 := y 2 (by omega)
      have y3 := y 3 (by omega)
      have y4 := y 4 (by omega)
      simp only [Nat.add_zero] at y0
      have hk5 : k < 5 := by omega
      have hk5z : (k : Int) < 5 := by omega
      have xl := hX.lt
      clear y hA hbr hor hX
      generalize hh0 : (H.getD (5 * k) 0) = h0 at y0
      generalize hh1 : (H.getD (5 * k + 1) 0) = h1 at y1
      generalize hh2 : (H.getD (5 * k + 2) 0) = h2 at y2
      generalize hh3 : (H.getD (5 * k + 3) 0) = h3 at y3
      generalize hh4 : (H.getD (5 * k + 4) 0) = h4 at y4
      have HHS := hide (And.intro hh0 (And.intro hh1 (And.intro hh2 (And.intro hh3 hh4))))
      clear hh0 hh1 hh2 hh3 hh4
      go_upto_region 7 with (fail)
      refine at_world (fun W => ∃ b7, b7 = wr.heap.size ∧ Below wr.heap.size wr W ∧ Blk W b7 22 #[.int .u8 (h0.toNat : Int), .int .u8 (h1.toNat : Int), .int .u8 (h2.toNat : Int), .int .u8 (h3.toNat : Int), .int .u8 (h4.toNat : Int)]) ⟨_, rfl, (Below.refl _ _).alloc (Nat.le_refl _) _, Blk.new _ _ _⟩ (fun w4 h4 => ?_)
      obtain ⟨b7, e7, hb4, hk7⟩ := h4
      rw [← e7]
      have z0 := hk7.cell 0
      have z1 := hk7.cell 1
      have z2 := hk7.cell 2
      have z3 := hk7.cell 3
      have z4 := hk7.cell 4
      have zl := hk7.lt
      have HB4 := hide hb4
      clear e7 hb4 hk7 y0 y1 y2 y3 y4 xl
      obtain ⟨a0, ha0⟩ : ∃ a0, a0 = h0.toNat % 60 := ⟨_, rfl⟩
      have fa0 : (h0.toNat : Int).tmod 60 = (a0 : Int) := by rw [IntWalk.rem_in _ _ (by omega)]; omega
      have fb0 : IntKind.i64.wrap (a0 : Int) = (a0 : Int) := IntWalk.i64_in _ (by omega)
      obtain ⟨a1, ha1⟩ : ∃ a1, a1 = h1.toNat % 12 := ⟨_, rfl⟩
      have fa1 : (h1.toNat : Int).tmod 12 = (a1 : Int) := by rw [IntWalk.rem_in _ _ (by omega)]; omega
      have fb1 : IntKind.i64.wrap (a1 : Int) = (a1 : Int) := IntWalk.i64_in _ (by omega)
      obtain ⟨a2, ha2⟩ : ∃ a2, a2 = h2.toNat % 40 := ⟨_, rfl⟩
      have fa2 : (h2.toNat : Int).tmod 40 = (a2 : Int) := by rw [IntWalk.rem_in _ _ (by omega)]; omega
      have fb2 : IntKind.i64.wrap (a2 : Int) = (a2 : Int) := IntWalk.i64_in _ (by omega)
      obtain ⟨a3, ha3⟩ : ∃ a3, a3 = h3.toNat % 6 := ⟨_, rfl⟩
      have fa3 : (h3.toNat : Int).tmod 6 = (a3 : Int) := by rw [IntWalk.rem_in _ _ (by omega)]; omega
      have fb3 : IntKind.i64.wrap (a3 : Int) = (a3 : Int) := IntWalk.i64_in _ (by omega)
      obtain ⟨a4, ha4⟩ : ∃ a4, a4 = h4.toNat % 14 := ⟨_, rfl⟩
      have fa4 : (h4.toNat : Int).tmod 14 = (a4 : Int) := by rw [IntWalk.rem_in _ _ (by omega)]; omega
      have fb4 : IntKind.i64.wrap (a4 : Int) = (a4 : Int) := IntWalk.i64_in _ (by omega)
      have fc0 : IntKind.i64.wrap (8 + (a0 : Int)) = 8 + (a0 : Int) := IntWalk.i64_in _ (by omega)
      have fc1 : IntKind.i64.wrap (2 * (a1 : Int)) = 2 * (a1 : Int) := IntWalk.i64_in _ (by omega)
      have fd1 : IntKind.i64.wrap (8 + 2 * (a1 : Int)) = 8 + 2 * (a1 : Int) := IntWalk.i64_in _ (by omega)
      have fc2 : IntKind.i64.wrap (4 + (a2 : Int)) = 4 + (a2 : Int) := IntWalk.i64_in _ (by omega)
      have fc3 : IntKind.i64.wrap (1 + (a3 : Int)) = 1 + (a3 : Int) := IntWalk.i64_in _ (by omega)
      have fc4 : IntKind.i64.wrap (2 + (a4 : Int)) = 2 + (a4 : Int) := IntWalk.i64_in _ (by omega)
      have fM : IntKind.i64.wrap ((M : Int) - 1) = (M : Int) - 1 := IntWalk.i64_in _ (by omega)
      have HA := hide (And.intro ha0 (And.intro ha1 (And.intro ha2 (And.intro ha3 ha4))))
      clear ha0 ha1 ha2 ha3 ha4
      go_cut [8] from 29 to 65 (fun x8 wc => ∃ g8, x8 = .pointer (some ⟨g8, 0, none⟩) ∧ Below w4.heap.size w4 wc ∧ w4.heap.size ≤ g8 ∧ Blk wc g8 43 #[.string ⟨(szName k).toArray⟩, .int .u8 ((szLev k).toNat : Int), .int .u16 ((szCat k).toNat : Int), .int .i64 (8 + (a0 : Int)), .int .i64 (8 + 2 * (a1 : Int)), .int .i64 (4 + (a2 : Int)), .int .i64 (1 + (a3 : Int)), .int .i64 (2 + (a4 : Int)), .int .i64 ((M : Int) - 1)])
      case first =>
        refine wp_region_tree (.q 1 (.q 5 (.q 8 (.q 9 (.q 10 (.q 11 (.q 12 (.q 13 (.q 14 (.q 15 (.q 16 (.q 17 (.q 18 (.q 19 (.q 20 (.q 21 (.q 22 (.q 23 (.q 24 (.q 25 (.q 26 (.q 27 (.q 28 (.q 29 (.q 30 (.q 31 (.q 32 (.q 33 (.q 34 (.q 35 (.br 0 (.q 2 (.q 3 (.br 4 (.q 6 (.q 7 (.q 36 (.x 37 (.x 38 .nil))))) 37 (.x 4 (.q 6 (.q 7 (.q 36 (.x 38 .nil)))))))) 37 (.x 0 (.q 2 (.q 3 (.x 4 (.q 6 (.q 7 (.q 36 (.x 38 .nil))))))))))))))))))))))))))))))))))))))) (Below w4.heap.size w4) (by kernel_rfl) (by kernel_rfl) (Below.refl _ _).drew ?_
        iterate 30 (refine wpT_q (v := ?_) (by simp only [List.getElem?_toArray, List.getElem?_cons_succ, List.getElem?_cons_zero]; try rfl) (by rfl) (fun W hW => ?_) ?_; rotate_left; (focus ((obtain ⟨hWc, hWf⟩ := bcell hW); go_simp; try with_reducible rfl)); try simp only [Act.put, List.setIfInBounds_toArray, List.set_cons_zero, List.set_cons_succ])
        refine at_world (fun W => Below w4.heap.size w4 W) (Below.refl _ _).drew (fun w20 hbx => ?_)
        have Bw20 := hide hbx
        clear hbx
        refine wpT_br ?_ ?_
        · refine wpT_x (by simp only [List.getElem?_toArray, List.getElem?_cons_succ, List.getElem?_cons_zero]; try rfl) (by rfl) (fun K hK => ?_)
          go_simp
          refine (names_ok _).mono ?_
          rintro e w21 ⟨g29, hge, rfl, hbx, hgl, hcell⟩
          have hN := hcell k _ (szNames_at hk5)
          have Bw21 := hide (Bw20.out.trans (hbx.mono Bw20.out.size))
          have Nw21 : Hid (w21.cell? ⟨g29, k, none⟩ = some (.string ⟨(szName k).toArray⟩)) := hide hN; have G29w21 := hide hgl
          refine hK (fun W => Below w4.heap.size w4 W ∧ W.cell? ⟨g29, k, none⟩ = some (.string ⟨(szName k).toArray⟩)) _ _ (fun _ h => h.1) ⟨Bw21.out, hN⟩ ?_
          clear hK K hbx hcell hN hge; try simp only [Act.put, List.setIfInBounds_toArray, List.set_cons_zero, List.set_cons_succ]
          iterate 2 (refine wpT_q (v := ?_) (by simp only [List.getElem?_toArray, List.getElem?_cons_succ, List.getElem?_cons_zero]; try rfl) (by rfl) (fun W hW => ?_) ?_; rotate_left; (focus ((obtain ⟨hWB, hW1⟩ := hW; obtain ⟨hWc, hWf⟩ := bcell hWB); go_simp; try with_reducible rfl)); try simp only [Act.put, List.setIfInBounds_toArray, List.set_cons_zero, List.set_cons_succ])
          refine wpT_br ?_ ?_
          · refine wpT_x (by simp only [List.getElem?_toArray, List.getElem?_cons_succ, List.getElem?_cons_zero]; try rfl) (by rfl) (fun K hK => ?_)
            go_simp
            refine (labels_ok _).mono ?_
            rintro e w22 ⟨g33, hge, rfl, hbx, hgl, hcell⟩
            have hL1 := hcell _ _ (szLabels_at hk5).1
            have hL2 := hcell _ _ (szLabels_at hk5).2
            have Bw22 := hide (Bw21.out.trans (hbx.mono Bw21.out.size))
            have Nw22 : Hid (w22.cell? ⟨g29, k, none⟩ = some (.string ⟨(szName k).toArray⟩)) := hide ((hbx.cell (p := ⟨g29, k, none⟩) G29w21.out).trans Nw21.out); have G29w22 := hide (Nat.lt_of_lt_of_le G29w21.out hbx.size)
            have Lw22 : Hid (w22.cell? ⟨g33, k * 2, none⟩ = some (.int .u8 ((szLev k).toNat : Int)) ∧ w22.cell? ⟨g33, k * 2 + 1, none⟩ = some (.int .u16 ((szCat k).toNat : Int))) := hide ⟨hL1, hL2⟩; have G33w22 := hide hgl
            refine hK (fun W => Below w4.heap.size w4 W ∧ W.cell? ⟨g29, k, none⟩ = some (.string ⟨(szName k).toArray⟩) ∧ W.cell? ⟨g33, k * 2, none⟩ = some (.int .u8 ((szLev k).toNat : Int)) ∧ W.cell? ⟨g33, k * 2 + 1, none⟩ = some (.int .u16 ((szCat k).toNat : Int))) _ _ (fun _ h => ⟨h.1, h.2.1⟩) ⟨Bw22.out, Nw22.out, hL1, hL2⟩ ?_
            clear hK K hbx hcell hL1 hL2 hge; try simp only [Act.put, List.setIfInBounds_toArray, List.set_cons_zero, List.set_cons_succ]
            iterate 3 (refine wpT_q (v := ?_) (by simp only [List.getElem?_toArray, List.getElem?_cons_succ, List.getElem?_cons_zero]; try rfl) (by rfl) (fun W hW => ?_) ?_; rotate_left; (focus ((obtain ⟨hWB, hW1, hW2, hW3⟩ := hW; obtain ⟨hWc, hWf⟩ := bcell hWB); go_simp; try with_reducible rfl)); try simp only [Act.put, List.setIfInBounds_toArray, List.set_cons_zero, List.set_cons_succ])
            refine wpT_x (by simp only [List.getElem?_toArray, List.getElem?_cons_succ, List.getElem?_cons_zero]; try rfl) (by rfl) (fun K hK => ?_)
            go_simp
            have hbx : Below w22.heap.size w22 (w22.alloc (.cells #[.string ByteArray.empty, .int .u8 0, .int .u16 0, .int .i64 0, .int .i64 0, .int .i64 0, .int .i64 0, .int .i64 0, .int .i64 0] 43)) := (Below.refl _ _).alloc (Nat.le_refl _) _
            refine hK (fun W => Below w4.heap.size w4 W ∧ W.cell? ⟨g29, k, none⟩ = some (.string ⟨(szName k).toArray⟩) ∧ W.cell? ⟨g33, k * 2, none⟩ = some (.int .u8 ((szLev k).toNat : Int)) ∧ W.cell? ⟨g33, k * 2 + 1, none⟩ = some (.int .u16 ((szCat k).toNat : Int))) _ _ (fun _ h => h) ⟨Bw22.out.trans (hbx.mono Bw22.out.size), (hbx.cell (p := ⟨g29, k, none⟩) G29w22.out).trans Nw22.out, (hbx.cell (p := ⟨g33, k * 2, none⟩) G33w22.out).trans Lw22.out.1, (hbx.cell (p := ⟨g33, k * 2 + 1, none⟩) G33w22.out).trans Lw22.out.2⟩ ?_
            clear hK K hbx; try simp only [Act.put, List.setIfInBounds_toArray, List.set_cons_zero, List.set_cons_succ]
            refine at_world (fun W => ∃ g8, g8 = w22.heap.size ∧ Below w22.heap.size w22 W ∧ Blk W g8 43 #[.string ByteArray.empty, .int .u8 0, .int .u16 0, .int .i64 0, .int .i64 0, .int .i64 0, .int .i64 0, .int .i64 0, .int .i64 0]) ⟨_, rfl, (Below.refl _ _).alloc (Nat.le_refl _) _, Blk.new _ _ _⟩ (fun w23 h9 => ?_)
            obtain ⟨g8, e8, hbx, hk8⟩ := h9
            rw [← e8]
            have Bw23 := hide (Bw22.out.trans (hbx.mono Bw22.out.size))
            have Nw23 : Hid (w23.cell? ⟨g29, k, none⟩ = some (.string ⟨(szName k).toArray⟩)) := hide ((hbx.cell (p := ⟨g29, k, none⟩) G29w22.out).trans Nw22.out); have G29w23 := hide (Nat.lt_of_lt_of_le G29w22.out hbx.size)
            have Lw23 : Hid (w23.cell? ⟨g33, k * 2, none⟩ = some (.int .u8 ((szLev k).toNat : Int)) ∧ w23.cell? ⟨g33, k * 2 + 1, none⟩ = some (.int .u16 ((szCat k).toNat : Int))) := hide ⟨(hbx.cell (p := ⟨g33, k * 2, none⟩) G33w22.out).trans Lw22.out.1, (hbx.cell (p := ⟨g33, k * 2 + 1, none⟩) G33w22.out).trans Lw22.out.2⟩; have G33w23 := hide (Nat.lt_of_lt_of_le G33w22.out hbx.size)
            have Kw23 := hide hk8
            have hg8 : w4.heap.size ≤ g8 := by rw [e8]; exact Bw22.out.size
            have ne29 : g8 ≠ g29 := by have := G29w22.out; omega
            have ne33 : g8 ≠ g33 := by have := G33w22.out; omega
            clear hbx hk8 e8
            refine wpT_x (by simp only [List.getElem?_toArray, List.getElem?_cons_succ, List.getElem?_cons_zero]; try rfl) (by rfl) (fun K hK => ?_)
            refine wp_store_row 43 (.tmp 8) (.tmp 65) (by rfl) g8 #[.string ⟨(szName k).toArray⟩, .int .u8 ((szLev k).toNat : Int), .int .u16 ((szCat k).toNat : Int), .int .i64 (8 + (a0 : Int)), .int .i64 (8 + 2 * (a1 : Int)), .int .i64 (4 + (a2 : Int)), .int .i64 (1 + (a3 : Int)), .int .i64 (2 + (a4 : Int)), .int .i64 ((M : Int) - 1)] (by rfl) (by rfl) 43 _ Kw23.out (by kernel_rfl) (by rfl) (by simp [Value.oneCell']) ?_
            refine hK (fun W => Below w4.heap.size w4 W ∧ W.cell? ⟨g29, k, none⟩ = some (.string ⟨(szName k).toArray⟩) ∧ W.cell? ⟨g33, k * 2, none⟩ = some (.int .u8 ((szLev k).toNat : Int)) ∧ W.cell? ⟨g33, k * 2 + 1, none⟩ = some (.int .u16 ((szCat k).toNat : Int))) _ _ (fun _ h => h) ⟨below_setRow Bw23.out hg8 _, (World.cell?_of_block (a := ⟨g29, k, none⟩) (setRow_other _ g8 g29 _ (fun e => ne29 e.symm))).trans Nw23.out, (World.cell?_of_block (a := ⟨g33, k * 2, none⟩) (setRow_other _ g8 g33 _ (fun e => ne33 e.symm))).trans Lw23.out.1, (World.cell?_of_block (a := ⟨g33, k * 2 + 1, none⟩) (setRow_other _ g8 g33 _ (fun e => ne33 e.symm))).trans Lw23.out.2⟩ ?_
            clear hK K; try simp only [Act.put, List.setIfInBounds_toArray, List.set_cons_zero, List.set_cons_succ]
            refine wpT_nil ?_
            go_wp2
            go_meet
            case rel => exact ⟨g8, rfl, below_setRow Bw23.out hg8 _, hg8, setRow_heap _ _ _ _ _ _ Kw23.out⟩
          · refine wpT_x (by simp only [List.getElem?_toArray, List.getElem?_cons_succ, List.getElem?_cons_zero]; try rfl) (by rfl) (fun K hK => ?_)
            go_simp
            have hbx : Below w21.heap.size w21 (w21.alloc (.cells #[.string ByteArray.empty, .int .u8 0, .int .u16 0, .int .i64 0, .int .i64 0, .int .i64 0, .int .i64 0, .int .i64 0, .int .i64 0] 43)) := (Below.refl _ _).alloc (Nat.le_refl _) _
            refine hK (fun W => Below w4.heap.size w4 W ∧ W.cell? ⟨g29, k, none⟩ = some (.string ⟨(szName k).toArray⟩)) _ _ (fun _ h => h) ⟨Bw21.out.trans (hbx.mono Bw21.out.size), (hbx.cell (p := ⟨g29, k, none⟩) G29w21.out).trans Nw21.out⟩ ?_
            clear hK K hbx; try simp only [Act.put, List.setIfInBounds_toArray, List.set_cons_zero, List.set_cons_succ]
            refine at_world (fun W => ∃ g8, g8 = w21.heap.size ∧ Below w21.heap.size w21 W ∧ Blk W g8 43 #[.string ByteArray.empty, .int .u8 0, .int .u16 0, .int .i64 0, .int .i64 0, .int .i64 0, .int .i64 0, .int .i64 0, .int .i64 0]) ⟨_, rfl, (Below.refl _ _).alloc (Nat.le_refl _) _, Blk.new _ _ _⟩ (fun w22 h9 => ?_)
            obtain ⟨g8, e8, hbx, hk8⟩ := h9
            rw [← e8]
            have Bw22 := hide (Bw21.out.trans (hbx.mono Bw21.out.size))
            have Nw22 : Hid (w22.cell? ⟨g29, k, none⟩ = some (.string ⟨(szName k).toArray⟩)) := hide ((hbx.cell (p := ⟨g29, k, none⟩) G29w21.out).trans Nw21.out); have G29w22 := hide (Nat.lt_of_lt_of_le G29w21.out hbx.size)
            have Kw22 := hide hk8
            have hg8 : w4.heap.size ≤ g8 := by rw [e8]; exact Bw21.out.size
            have ne29 : g8 ≠ g29 := by have := G29w21.out; omega
            clear hbx hk8 e8
            refine wpT_x (by simp only [List.getElem?_toArray, List.getElem?_cons_succ, List.getElem?_cons_zero]; try rfl) (by rfl) (fun K hK => ?_)
            go_simp
            refine (labels_ok _).mono ?_
            rintro e w23 ⟨g33, hge, rfl, hbx, hgl, hcell⟩
            have hL1 := hcell _ _ (szLabels_at hk5).1
            have hL2 := hcell _ _ (szLabels_at hk5).2
            have Bw23 := hide (Bw22.out.trans (hbx.mono Bw22.out.size))
            have Nw23 : Hid (w23.cell? ⟨g29, k, none⟩ = some (.string ⟨(szName k).toArray⟩)) := hide ((hbx.cell (p := ⟨g29, k, none⟩) G29w22.out).trans Nw22.out); have G29w23 := hide (Nat.lt_of_lt_of_le G29w22.out hbx.size)
            have Kw23 := hide (Kw22.out.below hbx Kw22.out.lt)
            have Lw23 : Hid (w23.cell? ⟨g33, k * 2, none⟩ = some (.int .u8 ((szLev k).toNat : Int)) ∧ w23.cell? ⟨g33, k * 2 + 1, none⟩ = some (.int .u16 ((szCat k).toNat : Int))) := hide ⟨hL1, hL2⟩; have G33w23 := hide hgl
            have ne33 : g8 ≠ g33 := by have := Kw22.out.lt; omega
            refine hK (fun W => Below w4.heap.size w4 W ∧ W.cell? ⟨g29, k, none⟩ = some (.string ⟨(szName k).toArray⟩) ∧ W.cell? ⟨g33, k * 2, none⟩ = some (.int .u8 ((szLev k).toNat : Int)) ∧ W.cell? ⟨g33, k * 2 + 1, none⟩ = some (.int .u16 ((szCat k).toNat : Int))) _ _ (fun _ h => ⟨h.1, h.2.1⟩) ⟨Bw23.out, Nw23.out, hL1, hL2⟩ ?_
            clear hK K hbx hcell hL1 hL2 hge; try simp only [Act.put, List.setIfInBounds_toArray, List.set_cons_zero, List.set_cons_succ]
            iterate 3 (refine wpT_q (v := ?_) (by simp only [List.getElem?_toArray, List.getElem?_cons_succ, List.getElem?_cons_zero]; try rfl) (by rfl) (fun W hW => ?_) ?_; rotate_left; (focus ((obtain ⟨hWB, hW1, hW2, hW3⟩ := hW; obtain ⟨hWc, hWf⟩ := bcell hWB); go_simp; try with_reducible rfl)); try simp only [Act.put, List.setIfInBounds_toArray, List.set_cons_zero, List.set_cons_succ])
            refine wpT_x (by simp only [List.getElem?_toArray, List.getElem?_cons_succ, List.getElem?_cons_zero]; try rfl) (by rfl) (fun K hK => ?_)
            refine wp_store_row 43 (.tmp 8) (.tmp 65) (by rfl) g8 #[.string ⟨(szName k).toArray⟩, .int .u8 ((szLev k).toNat : Int), .int .u16 ((szCat k).toNat : Int), .int .i64 (8 + (a0 : Int)), .int .i64 (8 + 2 * (a1 : Int)), .int .i64 (4 + (a2 : Int)), .int .i64 (1 + (a3 : Int)), .int .i64 (2 + (a4 : Int)), .int .i64 ((M : Int) - 1)] (by rfl) (by rfl) 43 _ Kw23.out (by kernel_rfl) (by rfl) (by simp [Value.oneCell']) ?_
            refine hK (fun W => Below w4.heap.size w4 W ∧ W.cell? ⟨g29, k, none⟩ = some (.string ⟨(szName k).toArray⟩) ∧ W.cell? ⟨g33, k * 2, none⟩ = some (.int .u8 ((szLev k).toNat : Int)) ∧ W.cell? ⟨g33, k * 2 + 1, none⟩ = some (.int .u16 ((szCat k).toNat : Int))) _ _ (fun _ h => h) ⟨below_setRow Bw23.out hg8 _, (World.cell?_of_block (a := ⟨g29, k, none⟩) (setRow_other _ g8 g29 _ (fun e => ne29 e.symm))).trans Nw23.out, (World.cell?_of_block (a := ⟨g33, k * 2, none⟩) (setRow_other _ g8 g33 _ (fun e => ne33 e.symm))).trans Lw23.out.1, (World.cell?_of_block (a := ⟨g33, k * 2 + 1, none⟩) (setRow_other _ g8 g33 _ (fun e => ne33 e.symm))).trans Lw23.out.2⟩ ?_
            clear hK K; try simp only [Act.put, List.setIfInBounds_toArray, List.set_cons_zero, List.set_cons_succ]
            refine wpT_nil ?_
            go_wp2
            go_meet
            case rel => exact ⟨g8, rfl, below_setRow Bw23.out hg8 _, hg8, setRow_heap _ _ _ _ _ _ Kw23.out⟩
        · refine wpT_x (by simp only [List.getElem?_toArray, List.getElem?_cons_succ, List.getElem?_cons_zero]; try rfl) (by rfl) (fun K hK => ?_)
          go_simp
          have hbx : Below w20.heap.size w20 (w20.alloc (.cells #[.string ByteArray.empty, .int .u8 0, .int .u16 0, .int .i64 0, .int .i64 0, .int .i64 0, .int .i64 0, .int .i64 0, .int .i64 0] 43)) := (Below.refl _ _).alloc (Nat.le_refl _) _
          refine hK (fun W => Below w4.heap.size w4 W) _ _ (fun _ h => h) (Bw20.out.trans (hbx.mono Bw20.out.size)) ?_
          clear hK K hbx; try simp only [Act.put, List.setIfInBounds_toArray, List.set_cons_zero, List.set_cons_succ]
          refine at_world (fun W => ∃ g8, g8 = w20.heap.size ∧ Below w20.heap.size w20 W ∧ Blk W g8 43 #[.string ByteArray.empty, .int .u8 0, .int .u16 0, .int .i64 0, .int .i64 0, .int .i64 0, .int .i64 0, .int .i64 0, .int .i64 0]) ⟨_, rfl, (Below.refl _ _).alloc (Nat.le_refl _) _, Blk.new _ _ _⟩ (fun w21 h9 => ?_)
          obtain ⟨g8, e8, hbx, hk8⟩ := h9
          rw [← e8]
          have Bw21 := hide (Bw20.out.trans (hbx.mono Bw20.out.size))
          have Kw21 := hide hk8
          have hg8 : w4.heap.size ≤ g8 := by rw [e8]; exact Bw20.out.size
          clear hbx hk8 e8
          refine wpT_x (by simp only [List.getElem?_toArray, List.getElem?_cons_succ, List.getElem?_cons_zero]; try rfl) (by rfl) (fun K hK => ?_)
          go_simp
          refine (names_ok _).mono ?_
          rintro e w22 ⟨g29, hge, rfl, hbx, hgl, hcell⟩
          have hN := hcell k _ (szNames_at hk5)
          have Bw22 := hide (Bw21.out.trans (hbx.mono Bw21.out.size))
          have Kw22 := hide (Kw21.out.below hbx Kw21.out.lt)
          have Nw22 : Hid (w22.cell? ⟨g29, k, none⟩ = some (.string ⟨(szName k).toArray⟩)) := hide hN; have G29w22 := hide hgl
          have ne29 : g8 ≠ g29 := by have := Kw21.out.lt; omega
          refine hK (fun W => Below w4.heap.size w4 W ∧ W.cell? ⟨g29, k, none⟩ = some (.string ⟨(szName k).toArray⟩)) _ _ (fun _ h => h.1) ⟨Bw22.out, hN⟩ ?_
          clear hK K hbx hcell hN hge; try simp only [Act.put, List.setIfInBounds_toArray, List.set_cons_zero, List.set_cons_succ]
          iterate 2 (refine wpT_q (v := ?_) (by simp only [List.getElem?_toArray, List.getElem?_cons_succ, List.getElem?_cons_zero]; try rfl) (by rfl) (fun W hW => ?_) ?_; rotate_left; (focus ((obtain ⟨hWB, hW1⟩ := hW; obtain ⟨hWc, hWf⟩ := bcell hWB); go_simp; try with_reducible rfl)); try simp only [Act.put, List.setIfInBounds_toArray, List.set_cons_zero, List.set_cons_succ])
          refine wpT_x (by simp only [List.getElem?_toArray, List.getElem?_cons_succ, List.getElem?_cons_zero]; try rfl) (by rfl) (fun K hK => ?_)
          go_simp
          refine (labels_ok _).mono ?_
          rintro e w23 ⟨g33, hge, rfl, hbx, hgl, hcell⟩
          have hL1 := hcell _ _ (szLabels_at hk5).1
          have hL2 := hcell _ _ (szLabels_at hk5).2
          have Bw23 := hide (Bw22.out.trans (hbx.mono Bw22.out.size))
          have Nw23 : Hid (w23.cell? ⟨g29, k, none⟩ = some (.string ⟨(szName k).toArray⟩)) := hide ((hbx.cell (p := ⟨g29, k, none⟩) G29w22.out).trans Nw22.out); have G29w23 := hide (Nat.lt_of_lt_of_le G29w22.out hbx.size)
          have Kw23 := hide (Kw22.out.below hbx Kw22.out.lt)
          have Lw23 : Hid (w23.cell? ⟨g33, k * 2, none⟩ = some (.int .u8 ((szLev k).toNat : Int)) ∧ w23.cell? ⟨g33, k * 2 + 1, none⟩ = some (.int .u16 ((szCat k).toNat : Int))) := hide ⟨hL1, hL2⟩; have G33w23 := hide hgl
          have ne33 : g8 ≠ g33 := by have := Kw22.out.lt; omega
          refine hK (fun W => Below w4.heap.size w4 W ∧ W.cell? ⟨g29, k, none⟩ = some (.string ⟨(szName k).toArray⟩) ∧ W.cell? ⟨g33, k * 2, none⟩ = some (.int .u8 ((szLev k).toNat : Int)) ∧ W.cell? ⟨g33, k * 2 + 1, none⟩ = some (.int .u16 ((szCat k).toNat : Int))) _ _ (fun _ h => ⟨h.1, h.2.1⟩) ⟨Bw23.out, Nw23.out, hL1, hL2⟩ ?_
          clear hK K hbx hcell hL1 hL2 hge; try simp only [Act.put, List.setIfInBounds_toArray, List.set_cons_zero, List.set_cons_succ]
          iterate 3 (refine wpT_q (v := ?_) (by simp only [List.getElem?_toArray, List.getElem?_cons_succ, List.getElem?_cons_zero]; try rfl) (by rfl) (fun W hW => ?_) ?_; rotate_left; (focus ((obtain ⟨hWB, hW1, hW2, hW3⟩ := hW; obtain ⟨hWc, hWf⟩ := bcell hWB); go_simp; try with_reducible rfl)); try simp only [Act.put, List.setIfInBounds_toArray, List.set_cons_zero, List.set_cons_succ])
          refine wpT_x (by simp only [List.getElem?_toArray, List.getElem?_cons_succ, List.getElem?_cons_zero]; try rfl) (by rfl) (fun K hK => ?_)
          refine wp_store_row 43 (.tmp 8) (.tmp 65) (by rfl) g8 #[.string ⟨(szName k).toArray⟩, .int .u8 ((szLev k).toNat : Int), .int .u16 ((szCat k).toNat : Int), .int .i64 (8 + (a0 : Int)), .int .i64 (8 + 2 * (a1 : Int)), .int .i64 (4 + (a2 : Int)), .int .i64 (1 + (a3 : Int)), .int .i64 (2 + (a4 : Int)), .int .i64 ((M : Int) - 1)] (by rfl) (by rfl) 43 _ Kw23.out (by kernel_rfl) (by rfl) (by simp [Value.oneCell']) ?_
          refine hK (fun W => Below w4.heap.size w4 W ∧ W.cell? ⟨g29, k, none⟩ = some (.string ⟨(szName k).toArray⟩) ∧ W.cell? ⟨g33, k * 2, none⟩ = some (.int .u8 ((szLev k).toNat : Int)) ∧ W.cell? ⟨g33, k * 2 + 1, none⟩ = some (.int .u16 ((szCat k).toNat : Int))) _ _ (fun _ h => h) ⟨below_setRow Bw23.out hg8 _, (World.cell?_of_block (a := ⟨g29, k, none⟩) (setRow_other _ g8 g29 _ (fun e => ne29 e.symm))).trans Nw23.out, (World.cell?_of_block (a := ⟨g33, k * 2, none⟩) (setRow_other _ g8 g33 _ (fun e => ne33 e.symm))).trans Lw23.out.1, (World.cell?_of_block (a := ⟨g33, k * 2 + 1, none⟩) (setRow_other _ g8 g33 _ (fun e => ne33 e.symm))).trans Lw23.out.2⟩ ?_
          clear hK K; try simp only [Act.put, List.setIfInBounds_toArray, List.set_cons_zero, List.set_cons_succ]
          refine wpT_nil ?_
          go_wp2
          go_meet
          case rel => exact ⟨g8, rfl, below_setRow Bw23.out hg8 _, hg8, setRow_heap _ _ _ _ _ _ Kw23.out⟩
      case rest =>
        obtain ⟨g8, rfl, hbc, hg8, hk8⟩ := hcut
        clear z0 z1 z2 z3 z4 zl fa0 fa1 fa2 fa3 fa4 fb0 fb1 fb2 fb3 fb4 fc0 fc1 fd1 fc2 fc3 fc4 fM
        have B8 := hide (Below.then_ HB4.out HB4.out.size hbc)
        have hrow := own_below HOR.out B8.out
        have hnob : (Value.slice Ak k ck).ownBlock ≠ some g8 := fun e => by have := (own_block_ge HOR.out e).2; have := HB4.out.size; omega
        have c0 := hk8.cell 0
        have c1 := hk8.cell 1
        have c2 := hk8.cell 2
        have c3 := hk8.cell 3
        have c4 := hk8.cell 4
        have c5 := hk8.cell 5
        have c6 := hk8.cell 6
        have c7 := hk8.cell 7
        have c8 := hk8.cell 8
        have f8 := hk8.frozen 8
        have l8 := hk8.lt
        have HROW := hide hrow
        have HNOB := hide hnob
        have hg8w : wr.heap.size ≤ g8 := Nat.le_trans HB4.out.size hg8
        have hBW := HBR.out.size
        clear hbc hk8 hrow hnob
        obtain ⟨r0, hr0, r1, r2, r3⟩ := info_parts info_reg
        have HCELLS : Hid ((szReg0 M H k).cells = (#[.string ⟨(szName k).toArray⟩, .int .u8 ((szLev k).toNat : Int), .int .u16 ((szCat k).toNat : Int), .int .i64 (8 + (a0 : Int)), .int .i64 (8 + 2 * (a1 : Int)), .int .i64 (4 + (a2 : Int)), .int .i64 (1 + (a3 : Int)), .int .i64 (2 + (a4 : Int)), .int .i64 ((szClear0 M k : Nat) : Int)] : Array Value).toList) := by
          obtain ⟨ha0, ha1, ha2, ha3, ha4⟩ := HA.out
          obtain ⟨hh0, hh1, hh2, hh3, hh4⟩ := HHS.out
          have e0 : (h0.toNat : Int) % 60 = (a0 : Int) := by omega
          have e1 : (h1.toNat : Int) % 12 = (a1 : Int) := by omega
          have e2 : (h2.toNat : Int) % 40 = (a2 : Int) := by omega
          have e3 : (h3.toNat : Int) % 6 = (a3 : Int) := by omega
          have e4 : (h4.toNat : Int) % 14 = (a4 : Int) := by omega
          simp only [RegV.cells, szReg0, szReg, hh0, hh1, hh2, hh3, hh4, e0, e1, e2, e3, e4]
          exact hide trivial
        by_cases m4 : M < 4
        · by_cases k0 : 0 < k
          · by_cases m2 : M = 2
            · have u1 : decide ((M : Int) < 4) = true := by simp; omega
              have u1' : (M : Int) < 4 := by omega
              have u2 : decide ((0 : Int) < (k : Int)) = true := by simp; omega
              have u2' : 0 < k := by omega
              have u3 : ((M : Int) == 2) = true := by simp; omega
              have HM2 := hide m2
              clear m2
              have hown9 := hide (ownsRow_setCell_other (a := ⟨g8, 8, none⟩) (ownsRow_setCell_other (a := ⟨g8, 8, none⟩) HROW.out HNOB.out (.int .i64 (k : Int))) HNOB.out (.int .i64 1))
              have hb9 := hide ((B8.out.setCell (p := ⟨g8, 8, none⟩) hg8w (.int .i64 (k : Int))).setCell (p := ⟨g8, 8, none⟩) hg8w (.int .i64 1))
              go_wp2_with (at_builtin; refine wpList_append_one rfl (.tmp 77) (.tmp 79) 94 rfl w1.heap.size 43 r0 (.agg #[.string ByteArray.empty, .int .u8 0, .int .u16 0, .int .i64 0, .int .i64 0, .int .i64 0, .int .i64 0, .int .i64 0, .int .i64 0]) 9 72 Try.underlying94 hr0 r1 r2 r3 rfl (by decide) Ak ck k (rcellsOf ((List.range k).map (szReg0 M H))) (#[.string ⟨(szName k).toArray⟩, .int .u8 ((szLev k).toNat : Int), .int .u16 ((szCat k).toNat : Int), .int .i64 (8 + (a0 : Int)), .int .i64 (8 + 2 * (a1 : Int)), .int .i64 (4 + (a2 : Int)), .int .i64 (1 + (a3 : Int)), .int .i64 (2 + (a4 : Int)), .int .i64 1]).toList ((wc.setCell ⟨g8, 8, none⟩ (.int .i64 (k : Int))).setCell ⟨g8, 8, none⟩ (.int .i64 1)) rfl hown9.out (by simp [World.setCell]) (by simp [Act.eval]) rfl (by simp [Value.oneCell']) (by omega) (by decide) (by first | exact Nat.le_trans hBW hb9.out.size | omega) ?_; intro A' c' w9 hown hg hb hat)
              go_roundg (M - (k + 1))
              case measure => omega
              case rel =>
                have hcl : ((szClear0 M k : Nat) : Int) = 1 := by unfold szClear0; rw [if_pos HM2.out]; rfl
                have hrw := HCELLS.out
                rw [hcl] at hrw
                refine ⟨k + 1, A', c', by omega, rfl, by go_num, rfl, HBR.out.trans ((hb9.out.mono hBW).trans hb), ?_⟩
                rw [List.range_succ, List.map_append, List.map_singleton, rcellsOf_snoc, hrw]
                exact hown
            · have u1 : decide ((M : Int) < 4) = true := by simp; omega
              have u1' : (M : Int) < 4 := by omega
              have u2 : decide ((0 : Int) < (k : Int)) = true := by simp; omega
              have u2' : 0 < k := by omega
              have u3 : ((M : Int) == 2) = false := by simp; omega
              have hown9 := hide (ownsRow_setCell_other (a := ⟨g8, 8, none⟩) HROW.out HNOB.out (.int .i64 (k : Int)))
              have hb9 := hide (B8.out.setCell (p := ⟨g8, 8, none⟩) hg8w (.int .i64 (k : Int)))
              go_wp2_with (at_builtin; refine wpList_append_one rfl (.tmp 77) (.tmp 79) 94 rfl w1.heap.size 43 r0 (.agg #[.string ByteArray.empty, .int .u8 0, .int .u16 0, .int .i64 0, .int .i64 0, .int .i64 0, .int .i64 0, .int .i64 0, .int .i64 0]) 9 72 Try.underlying94 hr0 r1 r2 r3 rfl (by decide) Ak ck k (rcellsOf ((List.range k).map (szReg0 M H))) (#[.string ⟨(szName k).toArray⟩, .int .u8 ((szLev k).toNat : Int), .int .u16 ((szCat k).toNat : Int), .int .i64 (8 + (a0 : Int)), .int .i64 (8 + 2 * (a1 : Int)), .int .i64 (4 + (a2 : Int)), .int .i64 (1 + (a3 : Int)), .int .i64 (2 + (a4 : Int)), .int .i64 (k : Int)]).toList (wc.setCell ⟨g8, 8, none⟩ (.int .i64 (k : Int))) rfl hown9.out (by simp [World.setCell]) (by simp [Act.eval]) rfl (by simp [Value.oneCell']) (by omega) (by decide) (by first | exact Nat.le_trans hBW hb9.out.size | omega) ?_; intro A' c' w9 hown hg hb hat)
              go_roundg (M - (k + 1))
              case measure => omega
              case rel =>
                have hcl : ((szClear0 M k : Nat) : Int) = (k : Int) := by unfold szClear0; rw [if_neg m2, if_pos ⟨m4, k0⟩]
                have hrw := HCELLS.out
                rw [hcl] at hrw
                refine ⟨k + 1, A', c', by omega, rfl, by go_num, rfl, HBR.out.trans ((hb9.out.mono hBW).trans hb), ?_⟩
                rw [List.range_succ, List.map_append, List.map_singleton, rcellsOf_snoc, hrw]
                exact hown
          · by_cases m2 : M = 2
            · have u1 : decide ((M : Int) < 4) = true := by simp; omega
              have u1' : (M : Int) < 4 := by omega
              have u2 : decide ((0 : Int) < (k : Int)) = false := by have hk0 : k = 0 := (by omega); rw [hk0]; rfl
              have u2' : ¬ 0 < k := by omega
              have u3 : ((M : Int) == 2) = true := by simp; omega
              have HM2 := hide m2
              clear m2
              have hown9 := hide (ownsRow_setCell_other (a := ⟨g8, 8, none⟩) HROW.out HNOB.out (.int .i64 1))
              have hb9 := hide (B8.out.setCell (p := ⟨g8, 8, none⟩) hg8w (.int .i64 1))
              go_wp2_with (at_builtin; refine wpList_append_one rfl (.tmp 77) (.tmp 79) 94 rfl w1.heap.size 43 r0 (.agg #[.string ByteArray.empty, .int .u8 0, .int .u16 0, .int .i64 0, .int .i64 0, .int .i64 0, .int .i64 0, .int .i64 0, .int .i64 0]) 9 72 Try.underlying94 hr0 r1 r2 r3 rfl (by decide) Ak ck k (rcellsOf ((List.range k).map (szReg0 M H))) (#[.string ⟨(szName k).toArray⟩, .int .u8 ((szLev k).toNat : Int), .int .u16 ((szCat k).toNat : Int), .int .i64 (8 + (a0 : Int)), .int .i64 (8 + 2 * (a1 : Int)), .int .i64 (4 + (a2 : Int)), .int .i64 (1 + (a3 : Int)), .int .i64 (2 + (a4 : Int)), .int .i64 1]).toList (wc.setCell ⟨g8, 8, none⟩ (.int .i64 1)) rfl hown9.out (by simp [World.setCell]) (by simp [Act.eval]) rfl (by simp [Value.oneCell']) (by omega) (by decide) (by first | exact Nat.le_trans hBW hb9.out.size | omega) ?_; intro A' c' w9 hown hg hb hat)
              go_roundg (M - (k + 1))
              case measure => omega
              case rel =>
                have hcl : ((szClear0 M k : Nat) : Int) = 1 := by unfold szClear0; rw [if_pos HM2.out]; rfl
                have hrw := HCELLS.out
                rw [hcl] at hrw
                refine ⟨k + 1, A', c', by omega, rfl, by go_num, rfl, HBR.out.trans ((hb9.out.mono hBW).trans hb), ?_⟩
                rw [List.range_succ, List.map_append, List.map_singleton, rcellsOf_snoc, hrw]
                exact hown
            · have u1 : decide ((M : Int) < 4) = true := by simp; omega
              have u1' : (M : Int) < 4 := by omega
              have u2 : decide ((0 : Int) < (k : Int)) = false := by have hk0 : k = 0 := (by omega); rw [hk0]; rfl
              have u2' : ¬ 0 < k := by omega
              have u3 : ((M : Int) == 2) = false := by simp; omega
              have hown9 := hide HROW.out
              have hb9 := hide B8.out
              go_wp2_with (at_builtin; refine wpList_append_one rfl (.tmp 77) (.tmp 79) 94 rfl w1.heap.size 43 r0 (.agg #[.string ByteArray.empty, .int .u8 0, .int .u16 0, .int .i64 0, .int .i64 0, .int .i64 0, .int .i64 0, .int .i64 0, .int .i64 0]) 9 72 Try.underlying94 hr0 r1 r2 r3 rfl (by decide) Ak ck k (rcellsOf ((List.range k).map (szReg0 M H))) (#[.string ⟨(szName k).toArray⟩, .int .u8 ((szLev k).toNat : Int), .int .u16 ((szCat k).toNat : Int), .int .i64 (8 + (a0 : Int)), .int .i64 (8 + 2 * (a1 : Int)), .int .i64 (4 + (a2 : Int)), .int .i64 (1 + (a3 : Int)), .int .i64 (2 + (a4 : Int)), .int .i64 ((M : Int) - 1)]).toList wc rfl hown9.out (by simp [World.setCell]) (by simp [Act.eval]) rfl (by simp [Value.oneCell']) (by omega) (by decide) (by first | exact Nat.le_trans hBW hb9.out.size | omega) ?_; intro A' c' w9 hown hg hb hat)
              go_roundg (M - (k + 1))
              case measure => omega
              case rel =>
                have hcl : ((szClear0 M k : Nat) : Int) = ((M : Int) - 1) := by unfold szClear0; rw [if_neg m2, if_neg (by omega)]; omega
                have hrw := HCELLS.out
                rw [hcl] at hrw
                refine ⟨k + 1, A', c', by omega, rfl, by go_num, rfl, HBR.out.trans ((hb9.out.mono hBW).trans hb), ?_⟩
                rw [List.range_succ, List.map_append, List.map_singleton, rcellsOf_snoc, hrw]
                exact hown
        · have m2 : ¬ M = 2 := by omega
          have u1 : decide ((M : Int) < 4) = false := by simp; omega
          have u1' : ¬ (M : Int) < 4 := by omega
          have u3 : ((M : Int) == 2) = false := by simp; omega
          have hown9 := hide HROW.out
          have hb9 := hide B8.out
          go_wp2_with (at_builtin; refine wpList_append_one rfl (.tmp 77) (.tmp 79) 94 rfl w1.heap.size 43 r0 (.agg #[.string ByteArray.empty, .int .u8 0, .int .u16 0, .int .i64 0, .int .i64 0, .int .i64 0, .int .i64 0, .int .i64 0, .int .i64 0]) 9 72 Try.underlying94 hr0 r1 r2 r3 rfl (by decide) Ak ck k (rcellsOf ((List.range k).map (szReg0 M H))) (#[.string ⟨(szName k).toArray⟩, .int .u8 ((szLev k).toNat : Int), .int .u16 ((szCat k).toNat : Int), .int .i64 (8 + (a0 : Int)), .int .i64 (8 + 2 * (a1 : Int)), .int .i64 (4 + (a2 : Int)), .int .i64 (1 + (a3 : Int)), .int .i64 (2 + (a4 : Int)), .int .i64 ((M : Int) - 1)]).toList wc rfl hown9.out (by simp [World.setCell]) (by simp [Act.eval]) rfl (by simp [Value.oneCell']) (by omega) (by decide) (by first | exact Nat.le_trans hBW hb9.out.size | omega) ?_; intro A' c' w9 hown hg hb hat)
          go_roundg (M - (k + 1))
          case measure => omega
          case rel =>
            have hcl : ((szClear0 M k : Nat) : Int) = ((M : Int) - 1) := by unfold szClear0; rw [if_neg m2, if_neg (by omega)]; omega
            have hrw := HCELLS.out
            rw [hcl] at hrw
            refine ⟨k + 1, A', c', by omega, rfl, by go_num, rfl, HBR.out.trans ((hb9.out.mono hBW).trans hb), ?_⟩
            rw [List.range_succ, List.map_append, List.map_singleton, rcellsOf_snoc, hrw]
            exact hown
    · obtain rfl : k = M := by omega
      obtain ⟨hbr, hor⟩ := hA.out
      have HX2 := HX1.out.below hbr HX1.out.lt
      have HBR := hide hbr
      have HOR := hide hor
      clear hA hbr hor
      obtain ⟨g5, hA5, hg5b, hg5, hcr5⟩ := own_base HOR.out (by omega)
      have hr0 : ((List.range k).map (szReg0 k H))[0]? = some (szReg0 k H 0) := by rw [List.getElem?_map, List.getElem?_range (by omega)]; rfl
      have y5 := hcr5 _ _ (flat_get RegV.cells 9 (fun _ => rfl) _ 0 _ hr0 8 _ rfl)
      simp only [Nat.zero_mul, Nat.zero_add] at y5
      subst hA5
      have f5 := own_frozen (i := 8) HOR.out
      have hk0z : (0 : Int) < (k : Int) := by omega
      clear hcr5 hr0
      go_upto_if 83 with (fail)
      go_cut [] from 84 to 86 (fun wd => Below w1.heap.size w1 wd ∧ wd.ownsRow w1.heap.size 43 9 (.slice (some ⟨g5, 0, none⟩) k ck) k (rcellsOf ((List.range k).map (szReg k H))))
      case first =>
        by_cases m3 : k = 3
        · have u3 : ((k : Int) == 3) = true := by simp; omega
          go_wp2
          go_meet
          case rel =>
            refine ⟨HBR.out.setCell hg5b _, ?_⟩
            have h2 := own_set (i := 8) (u := .int .i64 1) HOR.out
            subst m3
            rw [show (8 : Nat) = 0 * 9 + 8 from rfl, rcells_set _ 0 (szReg0 3 H 0) 1 rfl, szReg0_three] at h2
            exact h2
        · have u3 : ((k : Int) == 3) = false := by simp; omega
          go_wp2
          go_meet
          case rel => exact ⟨HBR.out, by rw [← szReg0_eq hM2 m3]; exact HOR.out⟩
      case rest =>
        clear y5 f5
        obtain ⟨hbr, hor⟩ := hcut
        have hX := HX1.out.below hbr HX1.out.lt
        have x26 := (hX.cell 26).trans (szCells_trust hH)
        have xl := hX.lt
        have hTn : T.length = n := by have := hT.1; rw [bvs_length] at this; omega
        have HTN := hide hTn
        have HBR2 := hide hbr
        have HOR2 := hide hor
        have HT := hide hT
        clear hX hbr hor hTn hT HBR HOR
        go_wp2_with fail
        go_loopg [9, 90] n (fun g x9 x90 wr => ∃ (i : Nat) (K : List MarkV) (A2 : Option Addr) (c2 : Nat), i ≤ n ∧ g = n - i ∧ x9 = .slice A2 K.length c2 ∧ x90 = .int .i64 (i : Int) ∧ Below w1.heap.size w1 wr ∧
          wr.ownsRow w1.heap.size 43 9 (.slice (some ⟨g5, 0, none⟩) k ck) k (rcellsOf ((List.range k).map (szReg k H))) ∧ wr.ownsRow w1.heap.size 161 2 (.slice A2 K.length c2) K.length (mcellsOf K) ∧ Hid (MarksOk k K ∧ K.length ≤ i))
        case atStart => exact ⟨0, [], none, 0, Nat.zero_le _, rfl, rfl, rfl, HBR2.out, HOR2.out, ⟨rfl, .inl ⟨rfl, rfl⟩⟩, hide ⟨⟨by simp, by simp, by simp⟩, Nat.zero_le _⟩⟩
        case round =>
          obtain ⟨i, K, A2, c2, hi, hg, rfl, rfl, hbr, o1, o2, hK⟩ := hrel
          rcases Nat.lt_or_ge i n with hin | hin
          · have hiz : (i : Int) < n := by omega
            have hbw := HB1.out.trans (hbr.mono HB1.out.size)
            obtain ⟨bt, ot, hA, hbt, hcell⟩ := (HT.out.below hbw).byte hin
            have hbt2 : bt < wr.heap.size := Nat.lt_of_lt_of_le hbt hbw.size
            have jx := hcell i hin
            subst hA
            generalize T.getD i 0 = x at jx
            have hx256 := x.toNat_lt
            obtain ⟨p, hp⟩ : ∃ p, p = x.toNat % k := ⟨_, rfl⟩
            obtain ⟨q, hq⟩ : ∃ q, q = x.toNat / 8 % 4 := ⟨_, rfl⟩
            obtain ⟨r8, hr8⟩ : ∃ r8, r8 = x.toNat / 8 := ⟨_, rfl⟩
            have hpk : p < k := by rw [hp]; exact Nat.mod_lt _ (by omega)
            have hq4 : q < 4 := by rw [hq]; exact Nat.mod_lt _ (by omega)
            have e1 : IntKind.u8.wrap (k : Int) = (k : Int) := by rw [IntKind.wrap_u8]; omega
            have e2 : (x.toNat : Int).tmod (k : Int) = (p : Int) := by rw [IntWalk.rem_in _ _ (by omega), hp]; rfl
            have e3 : ((k : Int) == 0) = false := by simp; omega
            have e4 : (x.toNat : Int).tdiv 8 = (r8 : Int) := by rw [Int.tdiv_eq_ediv_of_nonneg (by omega), hr8]; rfl
            have e5 : (r8 : Int).tmod 4 = (q : Int) := by rw [IntWalk.rem_in _ _ (by omega), hq, ← hr8]; rfl
            have e6 : IntKind.u16.wrap (q : Int) = (q : Int) := by rw [IntKind.wrap_u16]; omega
            have e7 : IntKind.u16.wrap (4 + (q : Int)) = 4 + (q : Int) := by rw [IntKind.wrap_u16]; omega
            have BB := hide hbr
            have O1 := hide o1
            have O2 := hide o2
            have HQ8 : Hid ((r8 : Int) % 4 = (q : Int)) := hide (by rw [hq, ← hr8]; rfl)
            clear hp hq hr8 hbr o1 o2 hcell hbw x26 xl hx256
            go_wp2_with fail
            refine at_world (fun W => ∃ b12, b12 = wr.heap.size ∧ Below wr.heap.size wr W ∧ Blk W b12 161 #[.int .u8 (p : Int), .int .u16 (4 + (q : Int))]) ⟨_, rfl, (Below.refl _ _).alloc (Nat.le_refl _) _, by rw [← HQ8.out]; exact Blk.new _ _ _⟩ (fun w7 h7 => ?_)
            obtain ⟨b12, e12, hb7, hk7⟩ := h7
            rw [← e12]
            have B7 := hide (BB.out.trans (hb7.mono BB.out.size))
            have P1 := hide (own_below O1.out hb7)
            have P2 := hide (own_below O2.out hb7)
            have z0 := hk7.cell 0
            have z1 := hk7.cell 1
            have zl := hk7.lt
            have hpu : (UInt8.ofNat p).toNat = p := by simp; omega
            have hqu : (UInt16.ofNat (4 + q)).toNat = 4 + q := by simp; omega
            obtain ⟨mk, hmk⟩ : ∃ mk : MarkV, mk = (UInt8.ofNat p, UInt16.ofNat (4 + q)) := ⟨_, rfl⟩
            have HPQ := hide (And.intro hpu (And.intro hqu hmk))
            clear hmk
            clear e12 hb7 hk7 jx e1 e2 e3 e4 e5 e6 e7 hbt hbt2 hpu hqu
            have hK9 : K.length ≤ 9 := hK.out.1.2.2
            go_loopg [13, 109] K.length (fun g x13 x109 wr => ∃ (j : Nat) (bb : Bool), j ≤ K.length ∧ g = K.length - j ∧ x13 = .bool bb ∧ x109 = .int .i64 (j : Int) ∧ Below w7.heap.size w7 wr ∧ Hid (bb = (decide (8 < i) || decide (mk ∈ K.take j))))
            case atStart => exact ⟨0, decide (8 < i), Nat.zero_le _, rfl, by congr 1; simp; omega, rfl, Below.refl _ _, hide (by simp)⟩
            case round =>
              obtain ⟨j, bb, hj, hg2, rfl, rfl, hbx, hbb⟩ := hrel
              rcases Nat.lt_or_ge j K.length with hjK | hjK
              · have hjz : (j : Int) < K.length := by omega
                obtain ⟨y, hy⟩ : ∃ y, K[j]? = some y := ⟨_, List.getElem?_eq_getElem hjK⟩
                obtain ⟨g2, hA2, _, hg2l, hcr2⟩ := own_base (own_below P2.out hbx) (by omega)
                have v0 := hcr2 _ _ (flat_get markCells 2 (fun _ => rfl) K j y hy 0 _ rfl)
                have v1 := hcr2 _ _ (flat_get markCells 2 (fun _ => rfl) K j y hy 1 _ rfl)
                simp only [Nat.add_zero] at v0
                have zz0 := (hbx.cell (p := ⟨b12, 0, none⟩) zl).trans z0
                have zz1 := (hbx.cell (p := ⟨b12, 1, none⟩) zl).trans z1
                have zzl := Nat.lt_of_lt_of_le zl hbx.size
                have htk : K.take (j + 1) = K.take j ++ [y] := by rw [List.take_add_one, hy]; rfl
                have HBX3 := hide (hbx.alloc hbx.size (.cells #[.int .u8 (y.1.toNat : Int), .int .u16 (y.2.toNat : Int)] 161))
                have HTK := hide htk
                subst hA2
                clear hcr2 hbx htk hy
                cases bb with
                | true =>
                  go_wp2
                  go_roundg (K.length - (j + 1))
                  case measure => omega
                  case rel =>
                    refine ⟨j + 1, true, by omega, rfl, rfl, by go_num, HBX3.out, hide ?_⟩
                    have h := hbb.out
                    rw [HTK.out]
                    simp only [List.mem_append]
                    rcases Bool.or_eq_true_iff.1 h.symm with h | h
                    · rw [h]; rfl
                    · have h2 := of_decide_eq_true h; simp only [h2, true_or, decide_true, Bool.or_true]
                | false =>
                  obtain ⟨hpu, hqu, hmk⟩ := HPQ.out
                  by_cases hym : y = mk
                  · have ey1 : (y.1.toNat : Int) = (p : Int) := by rw [hym, hmk, hpu]
                    have ey2 : (y.2.toNat : Int) = 4 + (q : Int) := by rw [hym, hmk, hqu]; simp
                    rw [ey1, ey2] at HBX3
                    change wr.cell? _ = some (Value.int .u8 (y.1.toNat : Int)) at v0
                    change wr.cell? _ = some (Value.int .u16 (y.2.toNat : Int)) at v1
                    rw [ey1] at v0
                    rw [ey2] at v1
                    have HYM := hide hym
                    clear hym hpu hqu hmk ey1 ey2
                    go_wp2
                    go_roundg (K.length - (j + 1))
                    case measure => omega
                    case rel =>
                      refine ⟨j + 1, true, by omega, rfl, rfl, by go_num, HBX3.out, hide ?_⟩
                      rw [HTK.out, HYM.out]
                      simp
                  · have hbb2 : false = (decide (8 < i) || decide (mk ∈ K.take (j + 1))) := by
                      have h := hbb.out
                      have h2 := Bool.or_eq_false_iff.1 h.symm
                      have h3 : mk ∉ K.take j := of_decide_eq_false h2.2
                      rw [HTK.out, h2.1]
                      simp only [List.mem_append, List.mem_singleton, h3, false_or, Bool.false_or]
                      simp only [show (mk = y) ↔ False from ⟨fun e => hym e.symm, False.elim⟩, decide_false]
                    have HBB2 := hide hbb2
                    change wr.cell? _ = some (Value.int .u8 (y.1.toNat : Int)) at v0
                    change wr.cell? _ = some (Value.int .u16 (y.2.toNat : Int)) at v1
                    by_cases ey1 : y.1.toNat = p
                    · have ey2 : ¬ y.2.toNat = 4 + q := fun e => hym (by
                        rw [hmk]
                        exact Prod.ext (UInt8.toNat_inj.1 (ey1.trans hpu.symm)) (UInt16.toNat_inj.1 (e.trans hqu.symm)))
                      have u1 : ((y.2.toNat : Int) == 4 + (q : Int)) = false := by simp; omega
                      rw [ey1] at HBX3 v0
                      clear hym hpu hqu hmk ey1 ey2 hbb2
                      go_wp2
                      go_roundg (K.length - (j + 1))
                      case measure => omega
                      case rel => exact ⟨j + 1, false, by omega, rfl, rfl, by go_num, HBX3.out, HBB2⟩
                    · have u1 : ((y.1.toNat : Int) == (p : Int)) = false := by simp; omega
                      clear hym hpu hqu hmk ey1 hbb2
                      go_wp2
                      go_roundg (K.length - (j + 1))
                      case measure => omega
                      case rel => exact ⟨j + 1, false, by omega, rfl, rfl, by go_num, HBX3.out, HBB2⟩
              · obtain rfl : j = K.length := by omega
                have hb9 := B7.out.trans (hbx.mono B7.out.size)
                have q1 := own_below P1.out hbx
                have q2 := own_below P2.out hbx
                have hKo := hK.out
                have h := hbb.out
                rw [List.take_length] at h
                cases bb with
                | true =>
                  clear hbx h
                  go_wp2
                  go_roundg (n - (i + 1))
                  case measure => omega
                  case rel => exact ⟨i + 1, K, A2, c2, by omega, rfl, rfl, by go_num, hb9, q1, q2, hide ⟨hKo.1, by have := hKo.2; omega⟩⟩
                | false =>
                  have h2 := Bool.or_eq_false_iff.1 h.symm
                  have hi8 : ¬ 8 < i := of_decide_eq_false h2.1
                  have hmK : mk ∉ K := of_decide_eq_false h2.2
                  have zz0 := (hbx.cell (p := ⟨b12, 0, none⟩) zl).trans z0
                  have zz1 := (hbx.cell (p := ⟨b12, 1, none⟩) zl).trans z1
                  have zzl := Nat.lt_of_lt_of_le zl hbx.size
                  have hBW := hb9.size
                  have hKl6 : K.length ≤ 1000000 := by omega
                  obtain ⟨m0, hm0, m1, m2, m3⟩ := info_parts info_mark
                  clear hbx h h2
                  have Q1 := hide q1
                  have Q2 := hide q2
                  have HB9 := hide hb9
                  clear q1 q2 hb9
                  go_wp2_with (at_builtin; refine wpList_append_one rfl (.tmp 122) (.tmp 124) 108 rfl w1.heap.size 161 m0 (.agg #[.int .u8 0, .int .u16 0]) 2 4 Try.underlying108 hm0 m1 m2 m3 rfl (by decide) A2 c2 K.length (mcellsOf K) [.int .u8 (p : Int), .int .u16 (4 + (q : Int))] wr rfl Q2.out rfl rfl rfl (by simp [Value.oneCell']) hKl6 (by decide) hBW ?_; intro A' c' w34 hown hg3 hb3 hat3)
                  go_roundg (n - (i + 1))
                  case measure => omega
                  case rel =>
                    obtain ⟨hpu, hqu, hmk⟩ := HPQ.out
                    have hmc : markCells mk = [.int .u8 (p : Int), .int .u16 (4 + (q : Int))] := by rw [hmk]; simp only [markCells, hpu, hqu]; simp
                    refine ⟨i + 1, K ++ [mk], A', c', by omega, rfl, by simp, by go_num, HB9.out.trans hb3, own_besides Q1.out Q2.out (by decide) hg3, ?_, hide ⟨⟨?_, ?_, ?_⟩, ?_⟩⟩
                    · rw [mcellsOf_snoc, List.length_append, List.length_singleton, hmc]; exact hown
                    · intro x hx
                      rcases List.mem_append.1 hx with hx | hx
                      · exact hKo.1.1 x hx
                      · simp only [List.mem_singleton] at hx
                        rw [hx, hmk]
                        simp only [hpu, hqu]
                        omega
                    · rw [List.nodup_append]
                      exact ⟨hKo.1.2.1, by simp, fun a ha b hb e => by simp only [List.mem_singleton] at hb; exact hmK (by rw [← hb, ← e]; exact ha)⟩
                    · have := hKo.2; simp; omega
                    · have := hKo.2; simp; omega
          · obtain rfl : i = n := by omega
            go_wp2
            go_returns
            have hs := HB1.out.size
            exact ⟨K, some ⟨g5, 0, none⟩, A2, ck, c2, by rw [← HM.out]; rfl, HB1.out.trans (hbr.mono hs), own_mono (by have h := o1; rw [HM.out] at h; exact h) hs, own_mono o2 hs, by rw [← HM.out]; exact hK.out.1⟩
end

end Go.Proofs.Ytoeejeieplhifaa

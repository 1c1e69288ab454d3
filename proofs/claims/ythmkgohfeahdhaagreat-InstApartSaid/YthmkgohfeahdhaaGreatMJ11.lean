/- An own directory dropped: walked. The fixed fact of the own directories: walked. Own directories apart: the table and the nodes, plain. Own directories apart: a call of Need and of Drop: walked. -/
import Derived.Test.YthmkgohfeahdhaaGreatMJ1
import Derived.Test.YthmkgohfeahdhaaGreatMJ2
import Derived.Test.YthmkgohfeahdhaaGreatMJ3
import Derived.Test.YthmkgohfeahdhaaGreatMJ4
import Derived.Test.YthmkgohfeahdhaaGreatMJ5
import Derived.Test.YthmkgohfeahdhaaGreatMJ6
import Derived.Test.YthmkgohfeahdhaaGreatMJ7
import Derived.Test.YthmkgohfeahdhaaGreatMJ8
import Derived.Test.YthmkgohfeahdhaaGreatMJ9
import Derived.Test.YthmkgohfeahdhaaGreatMJ10
import Derived.Test.YthmkgohfeahdhaaGreatProg
import Derived.Deep.RegionHeld3
import Derived.Deep.RegionLaw
import Derived.Deep.QuietTactic
import Derived.BigQuiet
import Derived.Handy
import Derived.WalkKit
import Derived.WalkSpells
import Derived.WalkLawsBesides
import Derived.Maps.AppendAt
import Derived.Deep.Draws
import Derived.Lib.SlBytesConst
import Derived.Deep.LoopGhost
import Derived.Deep.Cut
import Derived.Deep.CutRange
import Derived.Lib.IndexBytes
import Derived.ProofKit
import Derived.OpenShut
import Derived.Lib.SmallJoins
import Derived.StringKeys
import Derived.Deep.Slices
import Derived.Deep.Fields
import Derived.Deep.Strs
import Derived.Laws.Tables
import Derived.Laws.Rows
import Derived.Deep.CutBlock
import Derived.Lib.BufferWrite
import Derived.Handed
import Derived.Sort.OwnSortedInts
import Derived.DeepKeys
import Derived.Great.FillDense
import Derived.Laws.CopyRow
import Derived.Deep.MidRow
import Derived.OwnWalk
import Derived.Shelf.Small.Bits
import Derived.Shelf.Small.Wraps
import Derived.Shelf.Strconv.Itoa0
import Derived.Shelf.Sort.Plain
import Derived.Ground.Names2Prog
import Derived.Shelf.Slices.SearchI
import Derived.Shelf.Slices.In.SortNone
import Derived.Maps.Keyed
import Derived.DeepKeys4
import Derived.Carry
import Derived.Maps.RangeWalk
import Derived.Lib.SplitLaws
namespace Go.Proofs.YthmkgohfeahdhaaGreat
open Go.RowKit
set_option linter.unusedSimpArgs false
set_option linter.unusedVariables false

section
variable {w w' : World} {i : Ids} {s : Sto} {gg : Nat} {g : GeoN} {lab : Int} {G : GS}
set_option maxRecDepth 100000 in
set_option maxHeartbeats 2000000 in
theorem erase_main {K own : Nat} {P : Sto → GS → Prop} {R : Int → World → Prop} (h : GAt w i s gg g lab G) (hK : K ≤ 4096)
    (hr : ∀ W, GAt W i s gg g lab G → Calls Tryz.prog 41 #[.pointer (some ⟨gg, 0, none⟩), .int .i64 (own : Int)] W fun e w' => e = .returned (.int .i64 0) ∧ ∃ s1 G1, P s1 G1 ∧ GAt w' i s1 gg g lab G1 ∧ Tch W.heap.size i.own W w')
    (hw : ∀ s1 G1, P s1 G1 → ∀ W z, GAt W i s1 gg g lab G1 → Tch w.heap.size i.own w W → w.heap.size ≤ z → Rd W W.heap.size 1 (some ⟨z, 0, none⟩) 8 (bvs (List.replicate 8 0)) →
      Calls Tryz.prog 33 #[.pointer (some ⟨gg, 0, none⟩), .int .i64 2, .int .i64 ((8 * K : Nat) : Int), .slice (some ⟨z, 0, none⟩) 8 8] W fun e w' => ∃ x, e = .returned (.int .i64 x) ∧ R x w') :
    Calls Tryz.prog 126 #[.pointer (some ⟨gg, 0, none⟩), .int .i64 (K : Int), .int .i64 (own : Int)] w fun e w' => ∃ x, e = .returned (.int .i64 x) ∧ R x w' := by
  obtain ⟨i0, hi0, i1, i2, i3⟩ := info_byte
  have HI := hide (And.intro hi0 (And.intro i1 (And.intro i2 i3)))
  have H := hide h
  have HR := hide hr
  have HW := hide hw
  obtain ⟨y, hy⟩ : ∃ y : Nat, 8 * K = y := ⟨_, rfl⟩
  have e16 : IntKind.i64.wrap ((K : Int) * 8) = (y : Int) := by rw [IntWalk.i64_in _ (by omega)]; omega
  have HY := hide hy
  clear h hr hw hi0 i1 i2 i3 hy hK
  go_enter Tryz.func126, Tryz.ntmps126
  go_wp2_with fail
  refine (HR.out w H.out).mono ?_
  rintro e w1 ⟨rfl, s1, G1, hp1, ha1, ht1⟩
  have HP1 := hide hp1
  have HA1 := hide ha1
  have HT1 := hide ht1
  clear hp1 ha1 ht1 HR
  go_wp2_with (first | (refine wpList_make_full w1 rfl (.const (.int .i64 8)) (.const (.int .i64 8)) 24 rfl w1.heap.size 5 i0 (.int .u8 0) 1 Tryz.underlying24 HI.out.1 HI.out.2.1 HI.out.2.2.1 .i64 .i64 8 8 8 (by rfl) (by rfl) rfl rfl (by rw [HI.out.2.2.2]; omega) (by unfold maxLen; omega) (Nat.le_refl _) (fun w4 ho hg => ?_)) | fail)
  have hB := own_blk ho
  rw [made_bytes] at hB
  have hb4 : Below w1.heap.size w1 w4 := grown_none hg
  have HA4 := hide (HA1.out.below hb4)
  have HT4 := hide (HT1.out.trans ((Tch.of_below hb4).mono HT1.out.size fun _ _ h => h))
  have HB4 := hide (Rd.of_bytes hB (by simp) : Rd w4 w4.heap.size 1 (some ⟨w1.heap.size, 0, none⟩) 8 (bvs (List.replicate 8 0)))
  clear ho hg hB hb4 HI HA1
  have hres := HW.out s1 G1 HP1.out w4 w1.heap.size HA4.out HT4.out HT1.out.size HB4.out
  rw [HY.out] at hres
  have HRES := hide hres
  clear hres
  refine HRES.out.mono ?_
  rintro _ w8 ⟨x, rfl, hr⟩
  have HR := hide hr
  clear hr HRES
  go_wp2_with fail
  go_returns
  exact ⟨x, rfl, HR.out⟩
set_option maxRecDepth 100000 in
set_option maxHeartbeats 4000000 in
theorem indrop_main {l : List InR} {o : InR} {R : Int → World → Prop} (h : GAt w i s gg g lab G) (hop : InOpens i s gg g lab G l) (hln : l.length ≤ 2048)
    (hx : (∀ x ∈ l, hitB o x = false) → ∀ w', GAt w' i s gg g lab G → Tch w.heap.size i.own w w' → R 0 w')
    (hem : ∀ (K : Nat) (r : InR), l[K]? = some r → hitB o r = true → ∀ W, GAt W i s gg g lab G → Calls Tryz.prog 65 #[.pointer (some ⟨gg, 0, none⟩), .int .i64 (r.own.toNat : Int)] W fun e w' => e = .returned (.tuple #[.bool true, .int .i64 0]) ∧ GAt w' i s gg g lab G ∧ Tch W.heap.size i.own W w')
    (her : ∀ (K : Nat) (r : InR), l[K]? = some r → hitB o r = true → (∀ j, j < K → ∀ x, l[j]? = some x → hitB o x = false) → ∀ W, GAt W i s gg g lab G → Tch w.heap.size i.own w W →
      Calls Tryz.prog 126 #[.pointer (some ⟨gg, 0, none⟩), .int .i64 (K : Int), .int .i64 (r.own.toNat : Int)] W fun e w' => ∃ x, e = .returned (.int .i64 x) ∧ R x w') :
    Calls Tryz.prog 73 #[.pointer (some ⟨gg, 0, none⟩), .agg o.ino.toArray] w fun e w' => ∃ x, e = .returned (.int .i64 x) ∧ R x w' := by
  have H := hide h
  have HOP := hide hop
  have HLN := hide hln
  have HX := hide hx
  have HEM := hide hem
  have HER := hide her
  clear h hop hln hx hem her
  go_enter Tryz.func73, Tryz.ntmps73
  go_upto_region 1 with (fail)
  refine at_world (fun W => ∃ q, q = w.heap.size ∧ Below w.heap.size w W ∧ Blk W q 152 o.ino.toArray) ⟨_, rfl, (Below.refl _ _).alloc (Nat.le_refl _) _, Blk.new _ _ _⟩ (fun w0 h0 => ?_)
  obtain ⟨q, hq, hb0, hQ0⟩ := h0
  rw [← hq]
  have HA0 := hide (H.out.below hb0)
  have HT0 := hide (Tch.of_below (S := i.own) hb0)
  have HQ0 := hide hQ0
  have HQN := hide (show ¬ i.own q from H.out.tx.other_new (Nat.le_of_eq hq.symm))
  clear hq hb0 hQ0
  go_wp2_with fail
  refine (HOP.out w0 HA0.out).mono ?_
  rintro e w1 ⟨A, c, rfl, hown, ha1, ht1⟩
  obtain ⟨N, hN⟩ : ∃ N, l.length = N := ⟨_, rfl⟩
  have HN := hide hN
  rw [hN] at hown ⊢
  have HO1 := hide hown
  have HA1 := hide ha1
  have HT1 := hide (HT0.out.trans (ht1.mono HT0.out.size fun _ _ h => h))
  have HQ1 := hide (Blk.tch HQ0.out ht1 HQ0.out.lt HQN.out)
  clear hown ha1 ht1 hN HA0 HT0 HQ0
  go_wp2_with fail
  go_loopg [7, 8, 9, 10, 21] N (fun gh x7 x8 x9 x10 x21 wr => ∃ k : Nat, k ≤ N ∧ gh = N - k ∧ x21 = .int .i64 (k : Int) ∧ Hid (GAt wr i s gg g lab G) ∧ Hid (Tch w.heap.size i.own w wr) ∧ Hid (wr.ownsRow w0.heap.size 244 4 (.slice A N c) N (flatI l)) ∧ Hid (Blk wr q 152 o.ino.toArray) ∧ Hid (∀ j, j < k → ∀ x, l[j]? = some x → hitB o x = false))
  case atStart => exact ⟨0, Nat.zero_le _, rfl, rfl, HA1, HT1, HO1, HQ1, hide fun j hj => absurd hj (Nat.not_lt_zero _)⟩
  case round =>
    clear HA1 HT1 HO1 HQ1
    obtain ⟨k, hk, hgh, rfl, HA, HT, HO, HQ, HNO⟩ := hrel
    have HGH := hide hgh
    have hln := HLN.out
    have hnn := HN.out
    clear hgh
    rcases Nat.lt_or_ge k N with hkl | hkl
    · obtain ⟨e, he⟩ : ∃ e, l[k]? = some e := ⟨_, List.getElem?_eq_getElem (by omega)⟩
      obtain ⟨ga, rfl, hga, hrg⟩ := inr_range HO.out (by omega)
      have hrg' := hrg k e he
      have HRG := hide hrg'
      have HE := hide he
      have t1 : decide ((k : Int) < (N : Int)) = true := by simp; omega
      have t1' : (k : Int) < (N : Int) := by omega
      have e64 : IntKind.i64.wrap ((k : Int) + 1) = (k : Int) + 1 := IntWalk.i64_in _ (by omega)
      have hsz : (Tryz.prog.info? 244).map (·.size) = some e.cells.length := size_inr
      have HSZ := hide hsz
      clear hrg hrg' he hsz hln hnn
      go_upto_region 7 with (first | ((with_reducible refine at_load 244 (.tmp 24) ?_); refine wpList_load_mid rfl 244 (.tmp 24) rfl ga (k * 4) (by rfl) e.cells _ HRG.out Tryz.underlying244 rfl HSZ.out ?_) | ((with_reducible refine at_alloc 244 ?_); refine wpList_alloc_as rfl 244 rfl _ (zero_inr' _) ?_) | ((with_reducible refine at_store 244 (.tmp 8) (.tmp 25) ?_); refine wpList_store_blk rfl 244 (.tmp 8) (.tmp 25) rfl wr.heap.size _ _ _ (by rfl) (by rfl) (Blk.new _ _ _) (size_inrc e) rfl (inr_one e) (fun _ => ?_)) | fail)
      refine at_world (fun W => ∃ z, z = wr.heap.size ∧ Below wr.heap.size wr W ∧ Blk W z 244 e.cells.toArray) ⟨_, rfl, below_setRow ((Below.refl _ _).alloc (Nat.le_refl _) _) (Nat.le_refl _) _, (Blk.new _ _ _).setRow_same _⟩ (fun w5 h5 => ?_)
      obtain ⟨z, hz, hb5, hZ5⟩ := h5
      rw [← hz]
      have HA5 := hide (HA.out.below hb5)
      have HT5 := hide (HT.out.trans ((Tch.of_below hb5).mono HT.out.size fun _ _ h => h))
      have HO5 := hide (own_below HO.out hb5)
      have HQ5 := hide (HQ.out.below hb5 HQ.out.lt)
      have HZ5 := hide hZ5
      have HZO := hide (show ¬ i.own z from HA.out.tx.other_new (Nat.le_of_eq hz.symm))
      have zl := hZ5.lt
      have HRI := hide (show w5.rangeAt z 0 e.ino from fun j v hj => by
        have hj3 : j < 3 := by have := (List.getElem?_eq_some_iff.1 hj).1; simpa [InR.ino] using this
        have h0 := hZ5.cell j
        rw [Nat.zero_add, h0, List.getElem?_toArray, ← hj]
        have : j = 0 ∨ j = 1 ∨ j = 2 := by omega
        rcases this with rfl | rfl | rfl <;> rfl)
      have HSI := hide (show (Tryz.prog.info? 152).map (·.size) = some e.ino.length from size_inoc e)
      have hzq : ∀ W, (Op.equalIn 10000 244 (.agg e.cells.toArray) (.agg InR.zero.cells.toArray)).run Tryz.prog W = .ok e.isZ W := fun W => inr_eq W e InR.zero e.isZ isZ_iff
      have z3 : w5.cell? ⟨z, 3, none⟩ = some (.int .u16 (e.own.toNat : Int)) := hZ5.cell 3
      clear hz hb5 hZ5 HA HT HO HQ HRG
      obtain ⟨zb, hzb⟩ : ∃ zb, e.isZ = zb := ⟨_, rfl⟩
      obtain ⟨ib, hib⟩ : ∃ ib, inoB o e = ib := ⟨_, rfl⟩
      have hiq := fun W => ino_eq W e o
      rw [hzb] at hzq
      rw [hib] at hiq
      have HZQ := hide hzq
      have HIQ := hide hiq
      have hht : hitB o e = (!zb && ib) := by unfold hitB; rw [hzb, hib]
      have HHT := hide hht
      clear hzq hiq hzb hib hht
      have hno' : hitB o e = false → ∀ j, j < k + 1 → ∀ x, l[j]? = some x → hitB o x = false := fun h0 j hj x hx => by
        rcases Nat.lt_succ_iff_lt_or_eq.1 hj with h1 | rfl
        · exact HNO.out j h1 x hx
        · rw [HE.out] at hx
          cases hx
          exact h0
      have HNO' := hide hno'
      clear hno'
      cases zb with
      | true =>
        go_wp2_with (first | ((with_reducible refine at_load 244 (.tmp 8) ?_); refine wpList_load_blk rfl 244 (.tmp 8) rfl z _ _ _ (by rfl) HZ5.out Tryz.underlying244 rfl (size_inrc e) ?_) | ((with_reducible refine at_build 244 #[] ?_); refine wpList_zero_as rfl 244 rfl _ (zero_inr _) ?_) | ((with_reducible refine at_binop .eql 244 (.tmp 26) (.tmp 27) 244 ?_); refine wpList_run rfl _ (exec_eql_agg 244 (.tmp 26) (.tmp 27) 244 rfl _ _ rfl rfl (by kernel_rfl) _ (HZQ.out _)) ?_) | fail)
        go_roundg (N - (k + 1))
        case rel => exact ⟨k + 1, by omega, rfl, by first | rfl | go_num, HA5, HT5, HO5, HQ5, hide (HNO'.out HHT.out)⟩
        case measure => have := HGH.out; omega
      | false =>
        cases ib with
        | false =>
          go_wp2_with (first | (refine wpList_take (by kernel_rfl) ?_) | ((with_reducible refine at_load 244 (.tmp 8) ?_); refine wpList_load_blk rfl 244 (.tmp 8) rfl z _ _ _ (by rfl) HZ5.out Tryz.underlying244 rfl (size_inrc e) ?_) | ((with_reducible refine at_build 244 #[] ?_); refine wpList_zero_as rfl 244 rfl _ (zero_inr _) ?_) | ((with_reducible refine at_binop .eql 244 (.tmp 26) (.tmp 27) 244 ?_); refine wpList_run rfl _ (exec_eql_agg 244 (.tmp 26) (.tmp 27) 244 rfl _ _ rfl rfl (by kernel_rfl) _ (HZQ.out _)) ?_) | ((with_reducible refine at_load 152 (.tmp 30) ?_); refine wpList_load_mid rfl 152 (.tmp 30) rfl z 0 (by rfl) e.ino _ HRI.out Tryz.underlying152 rfl HSI.out ?_) | ((with_reducible refine at_load 152 (.tmp 3) ?_); refine wpList_load_blk rfl 152 (.tmp 3) rfl q _ _ _ (by rfl) HQ5.out Tryz.underlying152 rfl (size_inoc o) ?_) | ((with_reducible refine at_binop .neq 152 (.tmp 31) (.tmp 32) 152 ?_); refine wpList_run rfl _ (exec_neq_agg 152 (.tmp 31) (.tmp 32) 152 rfl _ _ rfl rfl (by kernel_rfl) _ (HIQ.out _)) ?_) | fail)
          go_roundg (N - (k + 1))
          case rel => exact ⟨k + 1, by omega, rfl, by first | rfl | go_num, HA5, HT5, HO5, HQ5, hide (HNO'.out HHT.out)⟩
          case measure => have := HGH.out; omega
        | true =>
          have e7 : IntKind.i64.wrap (e.own.toNat : Int) = (e.own.toNat : Int) := IntWalk.i64_in _ (by have := e.own.toNat_lt; omega)
          have hcall := HEM.out k e HE.out HHT.out w5 HA5.out
          have HCALL := hide hcall
          clear hcall
          go_wp2_with (first | (refine wpList_take (by kernel_rfl) ?_) | ((with_reducible refine at_load 244 (.tmp 8) ?_); refine wpList_load_blk rfl 244 (.tmp 8) rfl z _ _ _ (by rfl) HZ5.out Tryz.underlying244 rfl (size_inrc e) ?_) | ((with_reducible refine at_build 244 #[] ?_); refine wpList_zero_as rfl 244 rfl _ (zero_inr _) ?_) | ((with_reducible refine at_binop .eql 244 (.tmp 26) (.tmp 27) 244 ?_); refine wpList_run rfl _ (exec_eql_agg 244 (.tmp 26) (.tmp 27) 244 rfl _ _ rfl rfl (by kernel_rfl) _ (HZQ.out _)) ?_) | ((with_reducible refine at_load 152 (.tmp 30) ?_); refine wpList_load_mid rfl 152 (.tmp 30) rfl z 0 (by rfl) e.ino _ HRI.out Tryz.underlying152 rfl HSI.out ?_) | ((with_reducible refine at_load 152 (.tmp 3) ?_); refine wpList_load_blk rfl 152 (.tmp 3) rfl q _ _ _ (by rfl) HQ5.out Tryz.underlying152 rfl (size_inoc o) ?_) | ((with_reducible refine at_binop .neq 152 (.tmp 31) (.tmp 32) 152 ?_); refine wpList_run rfl _ (exec_neq_agg 152 (.tmp 31) (.tmp 32) 152 rfl _ _ rfl rfl (by kernel_rfl) _ (HIQ.out _)) ?_) | fail)
          refine HCALL.out.mono ?_
          rintro e_ w6 ⟨rfl, ha6, ht6⟩
          have HA6 := hide ha6
          have HT6 := hide (HT5.out.trans (ht6.mono HT5.out.size fun _ _ h => h))
          have hz6 := HZ5.out.tch ht6 HZ5.out.lt HZO.out
          have z3 : w6.cell? ⟨z, 3, none⟩ = some (.int .u16 (e.own.toNat : Int)) := hz6.cell 3
          have zl := hz6.lt
          have hres := HER.out k e HE.out HHT.out HNO.out w6 HA6.out HT6.out
          have HRES := hide hres
          clear ha6 ht6 HCALL HA5 HO5 HQ5 HZ5 hz6 hres
          go_wp2_with fail
          refine HRES.out.mono ?_
          rintro _ w8 ⟨x, rfl, hr⟩
          have HR := hide hr
          clear hr HRES z3 zl
          go_wp2_with fail
          go_returns
          exact ⟨x, rfl, HR.out⟩
    · have t1 : decide ((k : Int) < (N : Int)) = false := by simp; omega
      have t1' : ¬ (k : Int) < (N : Int) := by omega
      have hno : ∀ x ∈ l, hitB o x = false := fun x hx => by
        obtain ⟨j, hj⟩ := List.getElem?_of_mem hx
        exact HNO.out j (by have := (List.getElem?_eq_some_iff.1 hj).1; omega) x hj
      have HNO' := hide hno
      clear hkl hk hln hnn hno
      go_wp2
      go_returns
      exact ⟨0, rfl, HX.out HNO'.out _ HA.out HT.out⟩
end
end Go.Proofs.YthmkgohfeahdhaaGreat
namespace Go.Proofs.YthmkgohfeahdhaaGreat
open Go.RowKit
set_option linter.unusedSimpArgs false
set_option linter.unusedVariables false

def tenH : List UInt8 := [30, 10, 0, 0, 0, 40, 11, 0, 0, 0, 0, 0, 0, 0, 0, 0, 0, 0, 0, 0, 0, 0, 0, 0, 0]
def tenR : List RegV := szRegs 0 tenH
theorem build_fv2 (w : World) (a b : Int) : (Instr.build 22 #[(0, .int .u8 a), (1, .int .u8 b)]).run Tryz.prog w = .ok (.agg #[.int .u8 a, .int .u8 b, .int .u8 0, .int .u8 0, .int .u8 0]) w := by kernel_rfl
theorem build_fvs2 (w : World) (a b c d : Int) : (Instr.build 23 #[(0, .agg #[.int .u8 a, .int .u8 b, .int .u8 0, .int .u8 0, .int .u8 0]), (1, .agg #[.int .u8 c, .int .u8 d, .int .u8 0, .int .u8 0, .int .u8 0])]).run Tryz.prog w = .ok (.agg #[.int .u8 a, .int .u8 b, .int .u8 0, .int .u8 0, .int .u8 0, .int .u8 c, .int .u8 d, .int .u8 0, .int .u8 0, .int .u8 0, .int .u8 0, .int .u8 0, .int .u8 0, .int .u8 0, .int .u8 0, .int .u8 0, .int .u8 0, .int .u8 0, .int .u8 0, .int .u8 0, .int .u8 0, .int .u8 0, .int .u8 0, .int .u8 0, .int .u8 0]) w := by kernel_rfl
theorem build_ten (w : World) : (Instr.build 26 #[(1, .agg #[.int .u8 30, .int .u8 10, .int .u8 0, .int .u8 0, .int .u8 0, .int .u8 40, .int .u8 11, .int .u8 0, .int .u8 0, .int .u8 0, .int .u8 0, .int .u8 0, .int .u8 0, .int .u8 0, .int .u8 0, .int .u8 0, .int .u8 0, .int .u8 0, .int .u8 0, .int .u8 0, .int .u8 0, .int .u8 0, .int .u8 0, .int .u8 0, .int .u8 0])]).run Tryz.prog w = .ok (.agg (szCells 0 tenH none 0 0)) w := by kernel_rfl
set_option maxRecDepth 100000 in
set_option maxHeartbeats 1000000 in
theorem ten_ok (w : World) : Calls Tryz.prog 68 #[] w fun e w' => ∃ (cc : Nat) (K : List MarkV) (tb nb lb : Nat) (A1 A2 A3 : Option Addr) (c1 c2 c3 : Nat), e = .returned (.pointer (some ⟨cc, 0, none⟩)) ∧ Below w.heap.size w w' ∧ ConfIn w.heap.size w' cc tenR K tb nb lb A1 A2 A3 c1 c2 c3 := by
  go_enter Tryz.func68, Tryz.ntmps68
  go_wp2_with (first | ((with_reducible refine at_build 22 #[(0, .const (.int .u8 30)), (1, .const (.int .u8 10))] ?_); refine wpList_run rfl _ (exec_build 22 #[(0, .const (.int .u8 30)), (1, .const (.int .u8 10))] rfl #[(0, .int .u8 30), (1, .int .u8 10)] (by simp only [List.map_toArray, List.map_cons, List.map_nil]; rfl) _ (build_fv2 _ _ _)) ?_) | ((with_reducible refine at_build 22 #[(0, .const (.int .u8 40)), (1, .const (.int .u8 11))] ?_); refine wpList_run rfl _ (exec_build 22 #[(0, .const (.int .u8 40)), (1, .const (.int .u8 11))] rfl #[(0, .int .u8 40), (1, .int .u8 11)] (by simp only [List.map_toArray, List.map_cons, List.map_nil]; rfl) _ (build_fv2 _ _ _)) ?_) | ((with_reducible refine at_build 23 #[(0, .tmp 1), (1, .tmp 2)] ?_); refine wpList_run rfl _ (exec_build 23 #[(0, .tmp 1), (1, .tmp 2)] rfl #[(0, .agg #[.int .u8 30, .int .u8 10, .int .u8 0, .int .u8 0, .int .u8 0]), (1, .agg #[.int .u8 40, .int .u8 11, .int .u8 0, .int .u8 0, .int .u8 0])] (by simp only [List.map_toArray, List.map_cons, List.map_nil]; rfl) _ (build_fvs2 _ _ _ _ _)) ?_) | ((with_reducible refine at_build 26 #[(1, .tmp 3)] ?_); refine wpList_run rfl _ (exec_build 26 #[(1, .tmp 3)] rfl #[(1, .agg #[.int .u8 30, .int .u8 10, .int .u8 0, .int .u8 0, .int .u8 0, .int .u8 40, .int .u8 11, .int .u8 0, .int .u8 0, .int .u8 0, .int .u8 0, .int .u8 0, .int .u8 0, .int .u8 0, .int .u8 0, .int .u8 0, .int .u8 0, .int .u8 0, .int .u8 0, .int .u8 0, .int .u8 0, .int .u8 0, .int .u8 0, .int .u8 0, .int .u8 0])] (by simp only [List.map_toArray, List.map_cons, List.map_nil]; rfl) _ (build_ten _)) ?_) | fail)
  refine (size_conf (w := w) (m := 0) (H := tenH) (A := none) (n := 0) (c := 0) (T := []) rfl (Rd.nil _ _ _ _) (by decide)).mono ?_
  rintro e w1 ⟨cc, K, tb, nb, lb, B1, B2, B3, d1, d2, d3, rfl, hb1, hin, hK⟩
  have HF := hide (And.intro hb1 hin)
  clear hb1 hin hK
  go_wp2
  go_returns
  exact ⟨cc, K, tb, nb, lb, B1, B2, B3, d1, d2, d3, rfl, HF.out.1, HF.out.2⟩
theorem ten_len : tenR.length = 2 := rfl
theorem ten_geo {n k b d : Nat} (hF : CfFacts tenR n) (hk : k < 2) (hb : (szReg 2 tenH k).blocks = (b : Int)) (hd : (szReg 2 tenH k).nodes = (d : Int)) : ∃ v u, (geosOf 32 tenR)[k]? = some v ∧ geoN v = u ∧ u.val = .agg v.cells.toArray ∧ u.Ok n ∧ u.blocks = b ∧ u.nodes = d ∧ v.nodes = (u.nodes : Int) := by
  obtain ⟨v, r, hv, hr, hgo, hval, hbl, hnd, -⟩ := hF.geo k (by rw [ten_len]; omega)
  have h0 : tenR[k]? = some (szReg 2 tenH k) := by
    have : k = 0 ∨ k = 1 := by omega
    rcases this with rfl | rfl <;> rfl
  rw [h0] at hr
  cases hr
  rw [hb] at hbl
  rw [hd] at hnd
  have hvn : v.nodes = ((geoN v).nodes : Int) := by
    have h1 := hval
    simp [GeoN.val, GeoN.cells, GeoV.cells] at h1
    omega
  exact ⟨v, _, hv, rfl, hval, hgo, by omega, by omega, hvn⟩
theorem ten_b0 : (szReg 2 tenH 0).blocks = ((38 : Nat) : Int) ∧ (szReg 2 tenH 0).nodes = ((28 : Nat) : Int) := ⟨by decide +kernel, by decide +kernel⟩
theorem ten_b1 : (szReg 2 tenH 1).blocks = ((48 : Nat) : Int) ∧ (szReg 2 tenH 1).nodes = ((30 : Nat) : Int) := ⟨by decide +kernel, by decide +kernel⟩
theorem fresh_make {g : GeoN} {k : UInt8} (h : 4 ≤ g.nodes) : GS.fresh.makeR g.nodes = (4, 0) ∧ GS.fresh.makeS g.nodes (newN k) = GS.fresh.set 4 (freshN k) ∧ GS.fresh.makeL g = [g.base + g.bitmap + (4 - 1) / 2] := by
  have h0 : GS.fresh.freeN g.nodes = some 4 := by
    unfold GS.freeN
    obtain ⟨k, hk⟩ : ∃ k, g.nodes = k + 4 := ⟨g.nodes - 4, by omega⟩
    rw [hk]
    rfl
  refine ⟨?_, ?_, ?_⟩
  · unfold GS.makeR; rw [h0]; rfl
  · unfold GS.makeS; rw [h0]; rfl
  · unfold GS.makeL; rw [h0]
theorem made_tab (g : GeoN) (n : NodeV) (κ : Nat → Nat) : TabN (GS.fresh.set 4 n) g [] κ := by
  have e : (GS.fresh.set 4 n).nd 2 = GS.fresh.nd 2 := upd_other (f := GS.fresh.nd) (k := 4) (j := 2) n (by decide)
  exact ⟨by rw [e]; rfl, by rw [e]; decide, by rw [e]; rfl, by rw [e]; exact file_empty κ _ rfl (fresh_slot 1), by decide, fun e he => absurd he (by simp)⟩
theorem GAt.two {w w' : World} {i : Ids} {s s' : Sto} {g0 g1 : Nat} {u0 u1 : GeoN} {l0 l1 : Int} {G1 G0' : GS} {L : List Nat} (h1 : GAt w i s g1 u1 l1 G1) (h0 : GAt w' i s' g0 u0 l0 G0') (hs : s.Step s' u0 L) (ht : Tch w.heap.size i.own w w') (hap : u1.data + u1.blocks ≤ u0.base ∨ u0.data + u0.blocks ≤ u1.base) : GAt w' i s' g1 u1 l1 G1 :=
  ⟨h0.tx, h1.gp.tch h1.tx ht, by rw [hs.D]; exact h1.ok, h1.is.far h1.ok hs hap, h1.gok⟩
/-- the first own directory -/
def inr4 : InR := ⟨0, 4, 1, 4⟩
theorem inr4_good : InR.Good inr4 := .inr ⟨by decide, by decide⟩
set_option maxRecDepth 100000 in
set_option maxHeartbeats 1000000 in
theorem inneed_old {w : World} {t p c : Option Addr} {n : Int} {o : InR} {R : World → Prop} (hn0 : 0 < n) (hn : ∀ W, Below w.heap.size w W → Calls Tryz.prog 69 #[.pointer p, .agg o.ino.toArray] W fun e w' => e = .returned (.tuple #[.int .i64 n, .int .i64 0]) ∧ R w') :
    Calls Tryz.prog 72 #[.pointer t, .pointer c, .pointer p, .agg o.ino.toArray] w fun e w' => e = .returned (.tuple #[.int .i64 n, .int .i64 0]) ∧ R w' := by
  have HN := hide hn
  have t1 : decide (0 < n) = true := by simpa using hn0
  clear hn
  go_enter Tryz.func72, Tryz.ntmps72
  go_upto_region 1 with (fail)
  refine at_world (fun W => ∃ q, q = w.heap.size ∧ Below w.heap.size w W ∧ Blk W q 152 o.ino.toArray) ⟨_, rfl, (Below.refl _ _).alloc (Nat.le_refl _) _, Blk.new _ _ _⟩ (fun w0 h0 => ?_)
  obtain ⟨q, hq, hb0, hQ0⟩ := h0
  rw [← hq]
  have HB0 := hide hb0
  have HQ0 := hide hQ0
  clear hq hb0 hQ0
  go_wp2_with (first | ((with_reducible refine at_load 152 (.tmp 7) ?_); refine wpList_load_blk rfl 152 (.tmp 7) rfl q _ _ _ (by rfl) HQ0.out Tryz.underlying152 rfl (size_inoc o) ?_) | fail)
  refine (HN.out w0 HB0.out).mono ?_
  rintro e w1 ⟨rfl, hr⟩
  have HR := hide hr
  clear hr HN
  go_wp2_with fail
  go_returns
  exact ⟨rfl, HR.out⟩
set_option maxRecDepth 100000 in
set_option maxHeartbeats 8000000 in
theorem awake10_ok (w : World) : Calls Tryz.prog 67 #[] w fun e w' => e = .returned (.bool true) ∧ Below w.heap.size w w' := by
  go_enter Tryz.func67, Tryz.ntmps67
  go_wp2_with fail
  refine (ten_ok w).mono ?_
  rintro e w1 ⟨cc, K, tb, nb, lb, B1, B2, B3, d1, d2, d3, rfl, hb1, hin⟩
  obtain ⟨n0, hF⟩ := cf_facts hin.ok (by rw [ten_len]; omega)
  obtain ⟨v0, u0, hv0, hu0, hval0, hgo0, hub0, hun0, -⟩ := ten_geo hF (k := 0) (by omega) ten_b0.1 ten_b0.2
  obtain ⟨v1, u1, hv1, hu1, hval1, hgo1, hub1, hun1, -⟩ := ten_geo hF (k := 1) (by omega) ten_b1.1 ten_b1.2
  have hap := hF.apart 0 1 v0 v1 hv0 hv1 (by omega)
  rw [hu0, hu1] at hap
  have hfr := fresh_all (w := w1) hin hF (by rw [ten_len]; omega)
  have HC := hide (And.intro hin (And.intro hv0 (And.intro hv1 hb1)))
  have HU := hide (And.intro hu0 (And.intro hu1 (And.intro hval0 hval1)))
  have HGO := hide (And.intro hgo0 (And.intro hgo1 (And.intro hub0 (And.intro hub1 (And.intro hun0 (And.intro hun1 hap))))))
  have HFR := hide hfr
  clear hin hv0 hu0 hval0 hgo0 hub0 hun0 hv1 hu1 hval1 hgo1 hub1 hun1 hap hfr hb1 hF
  go_wp2_with fail
  refine HFR.out.mono ?_
  rintro e w2 ⟨i, D, rfl, hx, hDn, hall, hown, hll, hb2⟩
  have his0 := hall 0 v0 HC.out.2.1
  have his1 := hall 1 v1 HC.out.2.2.1
  rw [HU.out.1] at his0
  rw [HU.out.2.1] at his1
  have HX2 := hide hx
  have HB12 := hide hb2
  have HOWN := hide (show ∀ k, i.own k → w1.heap.size ≤ k from hown)
  have HIS := hide (And.intro his0 (And.intro his1 hDn))
  have hop0 := fun (W : World) (hW : Below w1.heap.size w1 W) => gopen_yes (tt := i.tt) (HC.out.1.below hW) HC.out.2.1 (by rw [HU.out.1]; exact HU.out.2.2.1)
  have hop1 := fun (W : World) (hW : Below w1.heap.size w1 W) => gopen_yes (tt := i.tt) (HC.out.1.below hW) HC.out.2.2.1 (by rw [HU.out.2.1]; exact HU.out.2.2.2)
  rw [HU.out.1, show ((0 : Nat) : Int) = 0 from rfl] at hop0
  rw [HU.out.2.1, show ((1 : Nat) : Int) = 1 from rfl] at hop1
  have HOP0 := hide hop0
  have HOP1 := hide hop1
  clear hb2 hx hown his0 his1 hall hll hDn HFR hop0 hop1
  go_wp2_with fail
  refine (HOP1.out w2 HB12.out).mono ?_
  rintro e w3 ⟨g1, rfl, -, hG1, hb3⟩
  have HA3 : Hid (GAt w3 i ⟨D, [], 0⟩ g1 u1 1 GS.fresh) := hide ⟨HX2.out.below hb3, hG1, by simp only; rw [HIS.out.2.2]; exact HGO.out.2.1, HIS.out.2.1, GS.fresh_ok⟩
  have HB13 := hide (HB12.out.trans (hb3.mono HB12.out.size))
  clear hG1 hb3 HX2 HOP1
  go_wp2_with fail
  refine (HOP0.out w3 HB13.out).mono ?_
  rintro e w4 ⟨g0, rfl, -, hG0, hb4⟩
  have HA4 := hide (HA3.out.below hb4)
  have HL4 : Hid (GAt w4 i ⟨D, [], 0⟩ g0 u0 0 GS.fresh) := hide ⟨HA4.out.tx, hG0, by simp only; rw [HIS.out.2.2]; exact HGO.out.1, HIS.out.1, GS.fresh_ok⟩
  have HB14 := hide (HB13.out.trans (hb4.mono HB13.out.size))
  clear hG0 hb4 HA3 HOP0
  have hmk := gs_make (k := 3) HL4.out (by simp) rfl
  obtain ⟨m1, m2, m3⟩ := fresh_make (g := u0) (k := 3) (by rw [HGO.out.2.2.2.2.1]; omega)
  rw [m1, m2, m3, show (((3 : UInt8).toNat : Nat) : Int) = 3 from rfl] at hmk
  have HMK := hide hmk
  clear hmk m1 m2 m3
  go_wp2_with fail
  refine HMK.out.mono ?_
  rintro e w5 ⟨rfl, s5, hl5, hs5, ht5⟩
  have HL5 := hide hl5
  have HA5 := hide (HA4.out.two hl5 hs5 ht5 (.inr HGO.out.2.2.2.2.2.2))
  have HT5 := hide ht5
  have HS5 := hide (show s5.In [u0.base + u0.bitmap + (4 - 1) / 2] ∧ s5.D = D ∧ s5.bad = 0 from ⟨(hs5.in_ (K := []) (fun x hx => absurd hx (by simp))).mono (fun x hx => by simpa using hx), hs5.D, hs5.bad⟩)
  have hino := gs_ino (num := 4) hl5 (by omega) (by rw [HGO.out.2.2.2.2.1]; omega)
  rw [show (GS.fresh.set 4 (freshN 3)).ino 0 4 = inr4.ino.toArray from rfl, show (GS.fresh.set 4 (freshN 3)).inoE 4 = 0 from rfl, show ((4 : Nat) : Int) = 4 from rfl] at hino
  have HINO := hide hino
  clear hl5 hs5 ht5 hino HMK HA4 HL4
  go_wp2_with fail
  refine HINO.out.mono ?_
  rintro e w6 ⟨rfl, s6, hl6, hs6, ht6⟩
  have HA6 := hide (HA5.out.two hl6 hs6 ht6 (.inr HGO.out.2.2.2.2.2.2))
  have HT6 := hide (HT5.out.trans (ht6.mono HT5.out.size fun _ _ h => h))
  have HS6 := hide (show s6.In [u0.base + u0.bitmap + (4 - 1) / 2] ∧ s6.D = D ∧ s6.bad = 0 from ⟨(hs6.in_ HS5.out.1).mono (fun x hx => by simpa using hx), hs6.D.trans HS5.out.2.1, hs6.bad.trans HS5.out.2.2⟩)
  clear hl6 hs6 ht6 HINO HA5 HL5 HT5 HS5
  go_upto_region 7 with (first | ((with_reducible refine at_alloc 152 ?_); refine wpList_alloc_as rfl 152 rfl _ (zero_ino _) ?_) | ((with_reducible refine at_store 152 (.tmp 11) (.tmp 45) ?_); refine wpList_store_blk rfl 152 (.tmp 11) (.tmp 45) rfl w6.heap.size _ _ _ (by rfl) (by rfl) (Blk.new _ _ _) (size_inoc inr4) rfl (by simp [InR.ino, Value.oneCell']) (fun _ => ?_)) | fail)
  refine at_world (fun W => ∃ q, q = w6.heap.size ∧ Below w6.heap.size w6 W ∧ Blk W q 152 inr4.ino.toArray) ⟨_, rfl, below_setRow ((Below.refl _ _).alloc (Nat.le_refl _) _) (Nat.le_refl _) _, (Blk.new _ _ _).setRow_same _⟩ (fun w7 h7 => ?_)
  obtain ⟨q, hq, hb7, hQ7⟩ := h7
  rw [← hq]
  have HA7 := hide (HA6.out.below hb7)
  have HT7 := hide (HT6.out.trans ((Tch.of_below hb7).mono HT6.out.size fun _ _ h => h))
  have HQ7 := hide hQ7
  have HQN := hide (show ¬ i.own q from HA6.out.tx.other_new (Nat.le_of_eq hq.symm))
  clear hq hb7 hQ7 HA6 HT6
  have h30 : 2 ≤ u1.nodes := by rw [HGO.out.2.2.2.2.2.1]; omega
  have h48 : u1.blocks = 48 := HGO.out.2.2.2.1
  obtain ⟨m1, m2, m3⟩ := fresh_make (g := u1) (k := 2) (by rw [HGO.out.2.2.2.2.2.1]; omega)
  have hneed := inneed_main (t := some ⟨i.tt, 0, none⟩) (p := some ⟨cc, 0, none⟩) (l := []) (o := inr4) (num := 4) (ow := 4) (P := fun s1 => s1.In [u0.base + u0.bitmap + (4 - 1) / 2, u1.base + u1.bitmap + (4 - 1) / 2] ∧ s1.D = D ∧ s1.bad = 0) (G1 := GS.fresh.set 4 (freshN 2))
    (R := fun x w' => x = 0 ∧ ∃ s' G' κ', GAt w' i s' g1 u1 1 G' ∧ TabN G' u1 [inr4] κ' ∧ Tch w7.heap.size i.own w7 w') HA7.out (inopens h30 (fresh_tab u1 fun _ => 0)) (by decide) (by simp) rfl
    (fun W hW _ => inreap_none hW (inopens h30 (fresh_tab u1 fun _ => 0)) (by decide) (fun r hr => absurd hr (by simp)))
    (fun W hW => by
      have hlen := HS6.out.1.len hW.tx.ok
      simp only [List.length_cons, List.length_nil] at hlen
      have hm := gs_make (k := 2) hW (by omega) rfl
      rw [m1, m2, m3] at hm
      exact hm.mono fun e w' ⟨he, s1, ha, hst, ht⟩ => ⟨he, s1, ⟨(hst.in_ HS6.out.1).mono (fun x hx => by simpa using hx), hst.D.trans HS6.out.2.1, hst.bad.trans HS6.out.2.2⟩, ha, ht⟩)
    (fun s1 _ => inopens h30 (made_tab u1 _ fun _ => 0))
    (fun s1 hs1 W z hA hT hzw hZ => (twrite (at_ := 0) (l := []) (l' := [inr4]) (d := recP inr4) hA hs1.1 (by simp) h30 (by omega) (made_tab u1 _ fun _ => 0) rfl (by simp) (by omega) rfl (fun e he => by rw [List.mem_singleton.1 he]; exact inr4_good) (by decide +kernel) (fresh_own HA7.out hzw) (Rd.of_bytes hZ rfl)).mono fun e w' hr => by
      rcases hr with ⟨rfl, hr⟩ | ⟨rfl, s', G', κ', T, ha, hst, ht⟩
      · exfalso
        have h0 := hr.1
        rw [show (GS.fresh.set 4 (freshN 2)).cnt u1.blocks = 0 from fresh_cnt _, h48] at h0
        revert h0
        decide
      · exact ⟨0, rfl, rfl, s', G', κ', ha, hst.tab, hT.trans (ht.mono hT.size fun _ _ h => h)⟩)
  rw [show ((4 : Nat) : Int) = 4 from rfl] at hneed
  have HNEED := hide hneed
  clear hneed m1 m2 m3
  go_wp2_with (first | ((with_reducible refine at_load 152 (.tmp 11) ?_); refine wpList_load_blk rfl 152 (.tmp 11) rfl q _ _ _ (by rfl) HQ7.out Tryz.underlying152 rfl (size_inoc inr4) ?_) | fail)
  refine HNEED.out.mono ?_
  rintro e w8 ⟨x, rfl, rfl, s8, G8, κ8, ha8, htab, ht8⟩
  have hold := inneed_old (w := w8) (t := some ⟨i.tt, 0, none⟩) (p := some ⟨g1, 0, none⟩) (c := some ⟨cc, 0, none⟩) (n := 4) (o := inr4) (R := fun w' => Tch w8.heap.size i.own w8 w') (by decide)
    (fun W hW => (infind_ok (o := inr4) (ha8.below hW) (inopens h30 htab) (by decide)).mono fun e w' hr => by
      rcases hr with ⟨K, r, hK, -, -, rfl, -, ht⟩ | ⟨hno, -⟩
      · have : K = 0 := by have := (List.getElem?_eq_some_iff.1 hK).1; simpa using this
        subst this
        cases hK
        exact ⟨rfl, (Tch.of_below hW).trans (ht.mono hW.size fun _ _ h => h)⟩
      · exact absurd (hno inr4 (by simp)) (by decide))
  have HOLD := hide hold
  have HQ8 := hide (HQ7.out.tch ht8 HQ7.out.lt HQN.out)
  have HT8 := hide (HT7.out.trans (ht8.mono HT7.out.size fun _ _ h => h))
  clear hold ha8 htab ht8 HNEED HA7 HT7 HQ7
  go_wp2_with (first | ((with_reducible refine at_load 152 (.tmp 11) ?_); refine wpList_load_blk rfl 152 (.tmp 11) rfl q _ _ _ (by rfl) HQ8.out Tryz.underlying152 rfl (size_inoc inr4) ?_) | fail)
  refine HOLD.out.mono ?_
  rintro e w9 ⟨rfl, ht9⟩
  have HT9 := hide (HT8.out.trans (ht9.mono HT8.out.size fun _ _ h => h))
  clear ht9 HOLD HT8
  go_wp2
  go_returns
  have h14 := HC.out.2.2.2.trans (HB14.out.mono HC.out.2.2.2.size)
  exact ⟨rfl, h14.trans ((HT9.out.mono h14.size (S' := fun _ => False) (fun k hk h => by have := HOWN.out k h; have := HC.out.2.2.2.size; omega)).below fun _ _ h => h)⟩
end Go.Proofs.YthmkgohfeahdhaaGreat
namespace Go.Proofs.YthmkgohfeahdhaaGreat
open Go.RowKit
set_option linter.unusedSimpArgs false
set_option linter.unusedVariables false

theorem pls_getD {l : List InR} {k : Nat} {e : InR} (h : l[k]? = some e) {j : Nat} (hj : j < 8) : (pls l).getD (8 * k + j) 0 = (placeR e).getD j 0 := by
  have := pls_piece h
  rw [List.getD_eq_getElem?_getD, List.getD_eq_getElem?_getD, ← this, List.getElem?_take_of_lt hj, List.getElem?_drop]
theorem pls_set {l : List InR} {k j : Nat} {x : InR} (hk : k < l.length) (hj : j < 8 * l.length) : over (fun j => (pls l).getD j 0) (8 * k) (placeR x) 8 j = (pls (l.set k x)).getD j 0 := by
  obtain ⟨q, r, hr, rfl⟩ : ∃ q r, r < 8 ∧ j = 8 * q + r := ⟨j / 8, j % 8, Nat.mod_lt _ (by omega), by omega⟩
  have hq : q < l.length := by omega
  unfold over
  by_cases h : q = k
  · subst h
    rw [if_pos ⟨by omega, by omega⟩, pls_getD (l := l.set q x) (e := x) (by rw [List.getElem?_set_self hq]) hr, Nat.add_sub_cancel_left]
  · rw [if_neg (by omega), pls_getD (l := l.set k x) (e := l[q]) (by rw [List.getElem?_set_ne (fun e => h e.symm), List.getElem?_eq_getElem hq]) hr]
    exact pls_getD (List.getElem?_eq_getElem hq) hr
theorem pls_snoc {l : List InR} {j : Nat} {x : InR} (hj : j < 8 * (l.length + 1)) : over (fun j => (pls l).getD j 0) (8 * l.length) (placeR x) 8 j = (pls (l ++ [x])).getD j 0 := by
  obtain ⟨q, r, hr, rfl⟩ : ∃ q r, r < 8 ∧ j = 8 * q + r := ⟨j / 8, j % 8, Nat.mod_lt _ (by omega), by omega⟩
  unfold over
  by_cases h : q = l.length
  · subst h
    rw [if_pos ⟨by omega, by omega⟩, pls_getD (l := l ++ [x]) (e := x) (by simp) hr, Nat.add_sub_cancel_left]
  · have hq : q < l.length := by omega
    rw [if_neg (by omega), pls_getD (l := l ++ [x]) (e := l[q]) (by rw [List.getElem?_append_left hq, List.getElem?_eq_getElem hq]) hr]
    exact pls_getD (List.getElem?_eq_getElem hq) hr
/-- the j-th own directory -/
def ar (j : Nat) : InR := ⟨0, UInt16.ofNat (4 + j), 1, UInt16.ofNat (4 + j)⟩
def arS (S : Nat → Bool) (j : Nat) : InR := if S j = true then ar j else InR.zero
def arL (S : Nat → Bool) (q : Nat) : List InR := (List.range q).map (arS S)
theorem arL_len (S : Nat → Bool) (q : Nat) : (arL S q).length = q := by simp [arL]
theorem arL_get {S : Nat → Bool} {q j : Nat} (h : j < q) : (arL S q)[j]? = some (arS S j) := by simp [arL, h]
theorem arL_mem {S : Nat → Bool} {q : Nat} {e : InR} (h : e ∈ arL S q) : ∃ j, j < q ∧ e = arS S j := by
  obtain ⟨j, hj, rfl⟩ := List.mem_map.1 h
  exact ⟨j, List.mem_range.1 hj, rfl⟩
theorem arL_snoc (S : Nat → Bool) (q : Nat) (h : S q = true) : arL S (q + 1) = arL S q ++ [ar q] := by
  simp [arL, List.range_succ, arS, h]
theorem arL_set (S : Nat → Bool) (q k : Nat) : (arL S q).set k InR.zero = arL (upd S k false) q := by
  apply List.ext_getElem?
  intro j
  by_cases hj : j < q
  · rw [List.getElem?_set, arL_get hj, arL_get hj, arL_len]
    by_cases h : k = j
    · subst h
      rw [if_pos rfl, if_pos hj]
      simp [arS, upd]
    · rw [if_neg h]
      have h' : ¬ j = k := fun e => h e.symm
      simp [arS, upd, h']
  · rw [List.getElem?_eq_none (by rw [List.length_set, arL_len]; omega), List.getElem?_eq_none (by rw [arL_len]; omega)]
theorem ar_facts : ∀ j, j < 10 → (ar j).isZ = false ∧ (ar j).own.toNat = 4 + j ∧ (ar j).num.toNat = 4 + j ∧ placeR (ar j) = recP (ar j) ∧ (ar j).num ≠ 0 := by decide +kernel
theorem ar_hit : ∀ j, j < 10 → ∀ k, k < 10 → hitB (ar j) (ar k) = decide (j = k) := by decide +kernel
theorem ar_good {j : Nat} (h : j < 10) : (ar j).Good := .inr ⟨(ar_facts j h).2.2.2.2, by rw [(ar_facts j h).2.1]; omega⟩
theorem arS_good {S : Nat → Bool} {j : Nat} (h : j < 10) : (arS S j).Good := by
  unfold arS
  split
  · exact ar_good h
  · exact .inl rfl
theorem zero_hit (o : InR) : hitB o InR.zero = false := rfl
theorem arS_hit {S : Nat → Bool} {j k : Nat} (hj : j < 10) (hk : k < 10) : hitB (ar j) (arS S k) = (S k && decide (j = k)) := by
  unfold arS
  cases S k
  · exact zero_hit _
  · rw [if_pos rfl, ar_hit j hj k hk]; rfl
theorem ar_zAt {S : Nat → Bool} {q : Nat} (hS : ∀ j, j < q → S j = true) (hq : q ≤ 9) : zAt (arL S q) = q :=
  zAt_eq (fun j hj e he => by
    rw [arL_get hj, Option.some.injEq] at he
    subst he
    unfold arS
    rw [if_pos (hS j hj)]
    exact (ar_facts j (by omega)).1) (.inl (arL_len _ _).symm)
/-- the group that has the own directories -/
structure UpS (G : GS) (g : GeoN) (S : Nat → Bool) (q : Nat) (κ : Nat → Nat) : Prop where
  tab : TabN G g (arL S q) κ
  own : ∀ j, j < q → S j = true → G.nd (4 + j) = freshN 2
/-- while they are made -/
structure UpN (G : GS) (g : GeoN) (q : Nat) (κ : Nat → Nat) : Prop where
  up : UpS G g (fun _ => true) q κ
  low : ∀ num, 1 ≤ num → num < 4 + q → (G.nd num).kind ≠ 0
  free : ∀ num, 4 + q ≤ num → G.nd num = NodeV.zero
  cnt : G.cnt g.blocks = nkeys (blks (8 * q))
theorem free_at {G : GS} {p : Nat} (h0 : ∀ num, 1 ≤ num → num < p → (G.nd num).kind ≠ 0) (h1 : (G.nd p).kind = 0) : ∀ (m num : Nat), 1 ≤ num → num ≤ p → p < num + m → G.freeFrom num m = some p
  | 0, num, a, b, c => by omega
  | m + 1, num, a, b, c => by
    rw [GS.freeFrom]
    by_cases e : num = p
    · subst e; rw [if_pos h1]
    · rw [if_neg (h0 num a (by omega))]; exact free_at h0 h1 m (num + 1) (by omega) (by omega) (by omega)
/-- a group's first nodes are there, the others are not -/
structure Firsts (G : GS) (p : Nat) : Prop where
  low : ∀ num, 1 ≤ num → num < p → (G.nd num).kind ≠ 0
  free : ∀ num, p ≤ num → G.nd num = NodeV.zero
theorem firsts_fresh : Firsts GS.fresh 4 where
  low num h1 h2 := by
    have : num = 1 ∨ num = 2 ∨ num = 3 := by omega
    rcases this with rfl | rfl | rfl <;> decide
  free num h := by
    simp only [GS.fresh, GS.freshTo, GS.set, GS.none, upd]
    rw [if_neg (by omega), if_neg (by omega), if_neg (by omega)]
theorem Firsts.make {G : GS} {p : Nat} {g : GeoN} {k : UInt8} (h : Firsts G p) (h1 : 1 ≤ p) (h2 : p ≤ g.nodes) : G.makeR g.nodes = ((p : Int), 0) ∧ G.makeS g.nodes (newN k) = G.set p (freshN k) ∧ G.makeL g = [g.base + g.bitmap + (p - 1) / 2] := by
  have h0 : G.freeN g.nodes = some p := free_at h.low (by rw [h.free p (Nat.le_refl _)]; rfl) _ _ (Nat.le_refl _) h1 (by omega)
  refine ⟨?_, ?_, ?_⟩
  · unfold GS.makeR; rw [h0]
  · unfold GS.makeS; rw [h0]; simp only; rw [h.free p (Nat.le_refl _)]; rfl
  · unfold GS.makeL; rw [h0]
theorem Firsts.next {G : GS} {p : Nat} {n : NodeV} (h : Firsts G p) (hn : n.kind ≠ 0) : Firsts (G.set p n) (p + 1) where
  low num h1 h2 := by
    simp only [GS.set, upd]
    by_cases e : num = p
    · rw [if_pos e]; exact hn
    · rw [if_neg e]; exact h.low num h1 (by omega)
  free num h1 := by
    simp only [GS.set, upd]
    rw [if_neg (by omega)]
    exact h.free num (by omega)
theorem UpN.firsts {G : GS} {g : GeoN} {q : Nat} {κ : Nat → Nat} (h : UpN G g q κ) : Firsts G (4 + q) := ⟨h.low, h.free⟩
theorem upn_fresh (g : GeoN) (κ : Nat → Nat) : UpN GS.fresh g 0 κ :=
  ⟨⟨fresh_tab g κ, fun j hj => absurd hj (Nat.not_lt_zero _)⟩, firsts_fresh.low, firsts_fresh.free, fresh_cnt _⟩
theorem TabN.put {G : GS} {g : GeoN} {l : List InR} {κ : Nat → Nat} (h : TabN G g l κ) {k : Nat} (n : NodeV) (hk : 2 ≠ k) : TabN (G.set k n) g l κ := by
  have e : (G.set k n).nd 2 = G.nd 2 := upd_other (f := G.nd) (k := k) (j := 2) n hk
  exact ⟨by rw [e]; exact h.kind, by rw [e]; exact h.links, by rw [e]; exact h.size, by rw [e]; exact h.file.other (fun _ _ => rfl) (fun c hc => (h.file.tree.own c hc).2), h.len, h.good⟩
theorem prOf_zero (c : Nat) : prOf (blks 0) c = false := by
  unfold prOf blks
  rw [decide_eq_false_iff_not]
  omega
theorem TabN.lost {G G' : GS} {g : GeoN} {l : List InR} {κ κ1 : Nat → Nat} {num : Nat} (h : TabN G g l κ) (hl : Lost G G' num (prOf (blks 0)) κ1) (hk : 2 ≠ num) : TabN G' g l κ := by
  have e : G'.nd 2 = G.nd 2 := hl.nd 2 hk
  have hz : ∀ x, ∀ c, prOf (blks 0) c = true → κ1 c ≠ x := fun x c hc => by rw [prOf_zero] at hc; cases hc
  exact ⟨by rw [e]; exact h.kind, by rw [e]; exact h.links, by rw [e]; exact h.size, by rw [e]; exact h.file.other (fun k _ => hl.by_ _ (hz _)) (fun k hk => by rw [hl.tk _ (hz _)]; exact (h.file.tree.own k hk).2), h.len, h.good⟩
/-- one more own directory -/
theorem UpN.step {s s' : Sto} {G G' : GS} {g : GeoN} {q : Nat} {κ κ' : Nat → Nat} {K0 T : List Nat} (h : UpN G g q κ) (hst : TStep s s' g (G.set (4 + q) (freshN 2)) G' (arL (fun _ => true) q) (arL (fun _ => true) (q + 1)) κ κ' K0 T) : UpN G' g (q + 1) κ' := by
  have hf := h.firsts.next (n := freshN 2) (by decide)
  have hnd : ∀ k, k ≠ 2 → G'.nd k = (G.set (4 + q) (freshN 2)).nd k := hst.mov.nd
  refine ⟨⟨hst.tab, fun j hj _ => ?_⟩, fun num h1 h2 => ?_, fun num h1 => ?_, ?_⟩
  · rw [hnd _ (by omega)]
    simp only [GS.set, upd]
    by_cases e : 4 + j = 4 + q
    · rw [if_pos e]
    · rw [if_neg e]; exact h.up.own j (by omega) rfl
  · by_cases e : num = 2
    · subst e; rw [hst.tab.kind]; decide
    · rw [hnd _ e]; exact hf.low num h1 (by omega)
  · rw [hnd _ (by omega)]; exact hf.free num (by omega)
  · have hc := hst.cnt
    rw [arL_len, arL_len] at hc
    have : (G.set (4 + q) (freshN 2)).cnt g.blocks = G.cnt g.blocks := rfl
    rw [this, h.cnt] at hc
    omega
/-- an own directory less -/
theorem UpS.step {s s' : Sto} {G G1 G' : GS} {g : GeoN} {S : Nat → Bool} {q k : Nat} {κ κ' κ1 : Nat → Nat} {K0 T : List Nat} (h : UpS G g S q κ) (hl : Lost G G1 (4 + k) (prOf (blks 0)) κ1) (hst : TStep s s' g G1 G' (arL S q) (arL (upd S k false) q) κ κ' K0 T) : UpS G' g (upd S k false) q κ' := by
  refine ⟨hst.tab, fun j hj hS => ?_⟩
  have hjk : j ≠ k := fun e => by subst e; simp [upd] at hS
  rw [hst.mov.nd _ (by omega), hl.nd _ (by omega)]
  exact h.own j hj (by simpa [upd, hjk] using hS)
end Go.Proofs.YthmkgohfeahdhaaGreat
namespace Go.Proofs.YthmkgohfeahdhaaGreat
open Go.RowKit
set_option linter.unusedSimpArgs false
set_option linter.unusedVariables false

theorem nk_few : ∀ q, q < 9 → nkeys (blks (8 * (q + 1))) ≤ 48 := by decide +kernel
section
variable {w w' : World} {i : Ids} {D : List BlkV} {g1 cc : Nat} {u1 : GeoN} {G : GS}
theorem need_ap {q : Nat} {κ : Nat → Nat} (h : GAt w i ⟨D, [], 0⟩ g1 u1 1 G) (hup : UpN G u1 q κ) (hq : q < 9) (h30 : u1.nodes = 30) (h48 : u1.blocks = 48)
    (hal : ∀ j, j < q → ∀ W, GAt W i ⟨D, [], 0⟩ g1 u1 1 G → Tch w.heap.size i.own w W → Calls Tryz.prog 70 #[.pointer (some ⟨i.tt, 0, none⟩), .pointer (some ⟨cc, 0, none⟩), .agg (ar j).ino.toArray] W fun e w' => e = .returned (.tuple #[.bool true, .int .i64 0]) ∧ GAt w' i ⟨D, [], 0⟩ g1 u1 1 G ∧ Tch W.heap.size i.own W w') :
    Calls Tryz.prog 72 #[.pointer (some ⟨i.tt, 0, none⟩), .pointer (some ⟨cc, 0, none⟩), .pointer (some ⟨g1, 0, none⟩), .agg (ar q).ino.toArray] w fun e w' => e = .returned (.tuple #[.int .i64 ((4 + q : Nat) : Int), .int .i64 0]) ∧
      ∃ s' G' κ', GAt w' i s' g1 u1 1 G' ∧ UpN G' u1 (q + 1) κ' ∧ Stay ⟨D, [], 0⟩ s' u1 ∧ Tch w.heap.size i.own w w' := by
  obtain ⟨m1, m2, m3⟩ := hup.firsts.make (g := u1) (k := 2) (by omega) (by omega)
  have h2 : 2 ≤ u1.nodes := by omega
  have hop := inopens (i := i) (s := ⟨D, [], 0⟩) (gg := g1) (lab := 1) h2 hup.up.tab
  have hln : (arL (fun _ => true) q).length ≤ 2048 := by rw [arL_len]; omega
  have hln' : (arL (fun _ => true) (q + 1)).length = q + 1 := arL_len _ _
  have hfa := ar_facts q (by omega)
  have htp : TabN (G.set (4 + q) (freshN 2)) u1 (arL (fun _ => true) q) κ := hup.up.tab.put _ (by omega)
  refine (inneed_main (t := some ⟨i.tt, 0, none⟩) (p := some ⟨cc, 0, none⟩) (l := arL (fun _ => true) q) (o := ar q) (num := 4 + q) (ow := UInt16.ofNat (4 + q))
    (P := fun s1 => s1.In [u1.base + u1.bitmap + (4 + q - 1) / 2] ∧ Stay ⟨D, [], 0⟩ s1 u1) (G1 := G.set (4 + q) (freshN 2))
    (R := fun x w' => x = 0 ∧ ∃ s' G' κ', GAt w' i s' g1 u1 1 G' ∧ UpN G' u1 (q + 1) κ' ∧ Stay ⟨D, [], 0⟩ s' u1 ∧ Tch w.heap.size i.own w w')
    h hop hln (fun x hx => ?_) hfa.2.1 (fun W hW hT => ?_) (fun W hW => ?_) (fun s1 _ => inopens h2 htp) (fun s1 hs1 W z hA hT hzw hZ => ?_)).mono ?_
  · obtain ⟨j, hj, rfl⟩ := arL_mem hx
    rw [arS_hit (by omega) (by omega)]
    have : ¬ q = j := by omega
    simp [this]
  · refine inreap_none hW hop hln (fun r hr hz W' hW' hT' => ?_)
    obtain ⟨j, hj, rfl⟩ := arL_mem hr
    exact hal j hj W' hW' (hT.trans (hT'.mono hT.size fun _ _ h => h))
  · have hm := gs_make (k := 2) hW (by simp) rfl
    rw [m1, m2, m3] at hm
    exact hm.mono fun e w' ⟨he, s1, ha, hst, ht⟩ => ⟨he, s1, ⟨(hst.in_ (K := []) (fun x hx => absurd hx (by simp))).mono (fun x hx => by simpa using hx), hst.D, hst.bad, hst.far⟩, ha, ht⟩
  · rw [ar_zAt (fun _ _ => rfl) (by omega)]
    have hby : ∀ j, j < 8 * (arL (fun _ => true) (q + 1)).length → over (fun j => (pls (arL (fun _ => true) q)).getD j 0) (8 * q) (recP (ar q)) 8 j = (pls (arL (fun _ => true) (q + 1))).getD j 0 := fun j hj => by
      have := pls_snoc (l := arL (fun _ => true) q) (x := ar q) (j := j) (by rw [arL_len]; omega)
      rw [arL_len, hfa.2.2.2.1] at this
      rw [arL_snoc _ _ rfl]
      exact this
    refine (twrite (at_ := q) (l := arL (fun _ => true) q) (l' := arL (fun _ => true) (q + 1)) (d := recP (ar q)) hA hs1.1 (by simp) h2 (by omega) htp rfl (by rw [arL_len]; omega) (by omega) (by rw [arL_len, arL_len]; omega) (fun e he => ?_) hby (fresh_own h hzw) (Rd.of_bytes hZ rfl)).mono fun e w' hr => ?_
    · obtain ⟨j, hj, rfl⟩ := arL_mem he
      exact arS_good (by omega)
    · rcases hr with ⟨rfl, hr⟩ | ⟨rfl, s', G', κ', T, ha, hst, ht⟩
      · exfalso
        have h0 := hr.1
        have h1 : (G.set (4 + q) (freshN 2)).cnt u1.blocks = G.cnt u1.blocks := rfl
        rw [h1, hup.cnt, arL_len, arL_len, h48] at h0
        have := nk_few q hq
        omega
      · exact ⟨0, rfl, rfl, s', G', κ', ha, hup.step hst, hs1.2.trans hst.stay, hT.trans (ht.mono hT.size fun _ _ h => h)⟩
  · rintro e w' ⟨x, rfl, rfl, hr⟩
    exact ⟨rfl, hr⟩
theorem drop_ap {q k : Nat} {S : Nat → Bool} {κ : Nat → Nat} (h : GAt w i ⟨D, [], 0⟩ g1 u1 1 G) (hup : UpS G u1 S q κ) (hq : q ≤ 9) (hk : k < q) (h30 : u1.nodes = 30) (h48 : u1.blocks = 48) :
    Calls Tryz.prog 73 #[.pointer (some ⟨g1, 0, none⟩), .agg (ar k).ino.toArray] w fun e w' => ∃ x, e = .returned (.int .i64 x) ∧
      ∃ s' G' κ', GAt w' i s' g1 u1 1 G' ∧ UpS G' u1 (upd S k false) q κ' ∧ Stay ⟨D, [], 0⟩ s' u1 ∧ Tch w.heap.size i.own w w' := by
  have h2 : 2 ≤ u1.nodes := by omega
  have hop := inopens (i := i) (s := ⟨D, [], 0⟩) (gg := g1) (lab := 1) h2 hup.tab
  have hln : (arL S q).length ≤ 2048 := by rw [arL_len]; omega
  have hat : ∀ (K : Nat) (r : InR), (arL S q)[K]? = some r → hitB (ar k) r = true → K = k ∧ r = ar k ∧ S k = true := fun K r hK hh => by
    have hKq : K < q := by
      have := (List.getElem?_eq_some_iff.1 hK).1
      rwa [arL_len] at this
    rw [arL_get hKq, Option.some.injEq] at hK
    subst hK
    rw [arS_hit (by omega) (by omega), Bool.and_eq_true, decide_eq_true_eq] at hh
    obtain ⟨h3, rfl⟩ := hh
    exact ⟨rfl, if_pos h3, h3⟩
  have hfa := ar_facts k (by omega)
  have hfile : ∀ κ0 : Nat → Nat, S k = true → FileAt G u1.blocks (G.nd (4 + k)) (blks 0) κ0 0 (fun j => (pks []).getD j 0) := fun κ0 hS => by
    rw [hup.own k hk hS]
    exact file_empty κ0 _ rfl (fresh_slot 2)
  refine indrop_main (R := fun x w' => ∃ s' G' κ', GAt w' i s' g1 u1 1 G' ∧ UpS G' u1 (upd S k false) q κ' ∧ Stay ⟨D, [], 0⟩ s' u1 ∧ Tch w.heap.size i.own w w') h hop hln (fun hno w' ha ht => ?_) (fun K r hK hh W hW => ?_) (fun K r hK hh _ W hW hT => ?_)
  · have hS : S k = false := by
      have := hno (arS S k) (List.mem_of_getElem? (arL_get hk))
      rw [arS_hit (by omega) (by omega)] at this
      simpa using this
    have e : upd S k false = S := by
      funext j
      unfold upd
      by_cases h : j = k
      · rw [if_pos h, h, hS]
      · rw [if_neg h]
    exact ⟨_, G, κ, ha, by rw [e]; exact hup, ⟨rfl, rfl, fun _ _ => rfl⟩, ht⟩
  · obtain ⟨rfl, rfl, hS⟩ := hat K r hK hh
    rw [hfa.2.1]
    have hd : DirN G u1 (4 + K) [] κ := ⟨by rw [hup.own K hk hS]; rfl, by rw [hup.own K hk hS]; decide, by rw [hup.own K hk hS]; rfl, hfile κ hS, by decide, fun e he => absurd he (by simp)⟩
    exact dempty_ok hW (dlists hd (by omega) (by omega))
  · obtain ⟨rfl, rfl, hS⟩ := hat K r hK hh
    rw [hfa.2.1]
    have hn := hup.own K hk hS
    have hl : (arL (upd S K false) q).length = q := arL_len _ _
    have hnd := hup.own K hk hS
    refine erase_main (P := fun s1 G1 => ∃ T, Gone ⟨D, [], 0⟩ s1 u1 G G1 (4 + K) (blks 0) κ [] T) (R := _) hW (by omega) (fun W' hW' => ?_) (fun s1 G1 hp W' z hA hT' hzw hZ => ?_)
    · refine (remove_file (num := 4 + K) (sz := 0) (κ := κ) (K0 := []) hW' (fun x hx => absurd hx (by simp)) (by simp) (by omega) (by omega) (by omega) (by rw [hnd]; decide) (by rw [hnd]; decide) (by rw [hnd]; rfl) (by omega) (hfile κ hS) (fun n' hs _ => check_dsize hs (by rw [hnd]; rfl) (by rw [hnd]; decide) (by omega) (by omega))).mono ?_
      rintro e w' ⟨he, s', G', T, ha, hg, ht⟩
      exact ⟨he, s', G', ⟨T, hg⟩, ha, ht⟩
    · obtain ⟨T, hp⟩ := hp
      have htl := hp.tlen
      have htb : TabN G1 u1 (arL S q) κ := hup.tab.lost hp.lost (by omega)
      have hby : ∀ j, j < 8 * (arL (upd S K false) q).length → over (fun j => (pls (arL S q)).getD j 0) (8 * K) (List.replicate 8 0) 8 j = (pls (arL (upd S K false) q)).getD j 0 := fun j hj => by
        have := pls_set (l := arL S q) (k := K) (x := InR.zero) (j := j) (by rw [arL_len]; exact hk) (by rw [arL_len]; omega)
        rw [arL_set] at this
        exact this
      refine (twrite (at_ := K) (l := arL S q) (l' := arL (upd S K false) q) (d := List.replicate 8 0) hA hp.inn (by simp; omega) h2 (by omega) htb rfl (by rw [arL_len]; omega) (by omega) (by rw [arL_len, arL_len]; omega) (fun e he => ?_) hby (fresh_own hW hzw) hZ).mono fun e w' hr => ?_
      · obtain ⟨j, hj, rfl⟩ := arL_mem he
        exact arS_good (by omega)
      · rcases hr with ⟨rfl, hr⟩ | ⟨rfl, s', G', κ', T', ha, hst, ht⟩
        · exfalso
          have h0 := hr.1
          rw [arL_len, arL_len] at h0
          have := cnt_le_ G1 u1.blocks
          omega
        · exact ⟨0, rfl, s', G', κ', ha, hup.step hp.lost hst, hp.stay.trans hst.stay, hT.trans ((hT'.trans (ht.mono hT'.size fun _ _ h => h)).mono hT.size fun _ _ h => h)⟩
end
end Go.Proofs.YthmkgohfeahdhaaGreat

/- InstNone: nil groups, nodes that there aren't: for every input the law returns true, and its arguments read as they did. -/
import Derived.Test.YthmkgohfeahdhaaGreatMI1
import Derived.Test.YthmkgohfeahdhaaGreatMI2
import Derived.Test.YthmkgohfeahdhaaGreatMI3
import Derived.Test.YthmkgohfeahdhaaGreatMI4
import Derived.Test.YthmkgohfeahdhaaGreatMI5
import Derived.Test.YthmkgohfeahdhaaGreatMI6
import Derived.Test.YthmkgohfeahdhaaGreatMI7
import Derived.Test.YthmkgohfeahdhaaGreatMI8
import Derived.Test.YthmkgohfeahdhaaGreatMI9
import Derived.Test.YthmkgohfeahdhaaGreatRows
import Derived.WalkKit
import Derived.ProofKit
import Derived.OpenShut
import Derived.ShutString
import Derived.ChangeOld
import Derived.Below
import Derived.Lib.SmallJoins
namespace Go.Proofs.YthmkgohfeahdhaaGreat
open Go.RowKit
set_option linter.unusedSimpArgs false
set_option linter.unusedVariables false

def tenH : List UInt8 := [30, 10, 0, 0, 0, 40, 11, 0, 0, 0, 0, 0, 0, 0, 0, 0, 0, 0, 0, 0, 0, 0, 0, 0, 0]
def tenR : List RegV := szRegs 0 tenH
theorem build_fv2 (w : World) (a b : Int) : (Instr.build 22 #[(0, .int .u8 a), (1, .int .u8 b)]).run Tryz.prog w = .ok (.agg #[.int .u8 a, .int .u8 b, .int .u8 0, .int .u8 0, .int .u8 0]) w := by kernel_rfl
theorem build_fvs2 (w : World) (a b c d : Int) : (Instr.build 23 #[(0, .agg #[.int .u8 a, .int .u8 b, .int .u8 0, .int .u8 0, .int .u8 0]), (1, .agg #[.int .u8 c, .int .u8 d, .int .u8 0, .int .u8 0, .int .u8 0])]).run Tryz.prog w = .ok (.agg #[.int .u8 a, .int .u8 b, .int .u8 0, .int .u8 0, .int .u8 0, .int .u8 c, .int .u8 d, .int .u8 0, .int .u8 0, .int .u8 0, .int .u8 0, .int .u8 0, .int .u8 0, .int .u8 0, .int .u8 0, .int .u8 0, .int .u8 0, .int .u8 0, .int .u8 0, .int .u8 0, .int .u8 0, .int .u8 0, .int .u8 0, .int .u8 0, .int .u8 0]) w := by kernel_rfl
theorem build_ten (w : World) : (Instr.build 26 #[(1, .agg #[.int .u8 30, .int .u8 10, .int .u8 0, .int .u8 0, .int .u8 0, .int .u8 40, .int .u8 11, .int .u8 0, .int .u8 0, .int .u8 0, .int .u8 0, .int .u8 0, .int .u8 0, .int .u8 0, .int .u8 0, .int .u8 0, .int .u8 0, .int .u8 0, .int .u8 0, .int .u8 0, .int .u8 0, .int .u8 0, .int .u8 0, .int .u8 0, .int .u8 0])]).run Tryz.prog w = .ok (.agg (szCells 0 tenH none 0 0)) w := by kernel_rfl
set_option maxRecDepth 100000 in
set_option maxHeartbeats 1000000 in
theorem ten_ok (w : World) : Calls Tryz.prog 68 #[] w fun e w' => ∃ (cc : Nat) (K : List MarkV) (tb nb lb : Nat) (A1 A2 A3 : Option Addr) (c1 c2 c3 : Nat), e = .returned (.pointer (some ⟨cc, 0, none⟩)) ∧ Below w.heap.size w w' ∧ ConfIn w.heap.size w' cc tenR K tb nb lb A1 A2 A3 c1 c2 c3 := by
  go_enter Tryz.func68, Tryz.ntmps68
  go_wp2_with (first | ((with_reducible refine at_build 22 #[(0, .const (.int .u8 30)), (1, .const (.int .u8 10))] ?_); refine wpList_run rfl _ (exec_build 22 #[(0, .const (.int .u8 30)), (1, .const (.int .u8 10))] rfl #[(0, .int .u8 30), (1, .int .u8 10)] (by simp only [List.map_toArray, List.map_cons, List.map_nil]; rfl) _ (build_fv2 _ _ _)) ?_) | ((with_reducible refine at_build 22 #[(0, .const (.int .u8 40)), (1, .const (.int .u8 11))] ?_); refine wpList_run rfl _ (exec_build 22 #[(0, .const (.int .u8 40)), (1, .const (.int .u8 11))] rfl #[(0, .int .u8 40), (1, .int .u8 11)] (by simp only [List.map_toArray, List.map_cons, List.map_nil]; rfl) _ (build_fv2 _ _ _)) ?_) | ((with_reducible refine at_build 23 #[(0, .tmp 1), (1, .tmp 2)] ?_); refine wpList_run rfl _ (exec_build 23 #[(0, .tmp 1), (1, .tmp 2)] rfl #[(0, .agg #[.int .u8 30, .int .u8 10, .int .u8 0, .int .u8 0, .int .u8 0]), (1, .agg #[.int .u8 40, .int .u8 11, .int .u8 0, .int .u8 0, .int .u8 0])] (by simp only [List.map_toArray, List.map_cons, List.map_nil]; rfl) _ (build_fvs2 _ _ _ _ _)) ?_) | ((with_reducible refine at_build 26 #[(1, .tmp 3)] ?_); refine wpList_run rfl _ (exec_build 26 #[(1, .tmp 3)] rfl #[(1, .agg #[.int .u8 30, .int .u8 10, .int .u8 0, .int .u8 0, .int .u8 0, .int .u8 40, .int .u8 11, .int .u8 0, .int .u8 0, .int .u8 0, .int .u8 0, .int .u8 0, .int .u8 0, .int .u8 0, .int .u8 0, .int .u8 0, .int .u8 0, .int .u8 0, .int .u8 0, .int .u8 0, .int .u8 0, .int .u8 0, .int .u8 0, .int .u8 0, .int .u8 0])] (by simp only [List.map_toArray, List.map_cons, List.map_nil]; rfl) _ (build_ten _)) ?_) | fail)
  refine (size_conf (w := w) (m := 0) (H := tenH) (A := none) (n := 0) (c := 0) (T := []) rfl (Rd.nil _ _ _ _) (by decide)).mono ?_
  rintro e w1 ⟨cc, K, tb, nb, lb, B1, B2, B3, d1, d2, d3, rfl, hb1, hin, hK⟩
  have HF := hide (And.intro hb1 hin)
  clear hb1 hin hK
  go_wp2
  go_returns
  exact ⟨cc, K, tb, nb, lb, B1, B2, B3, d1, d2, d3, rfl, HF.out.1, HF.out.2⟩
theorem ten_len : tenR.length = 2 := rfl
theorem ten_geo {n k b d : Nat} (hF : CfFacts tenR n) (hk : k < 2) (hb : (szReg 2 tenH k).blocks = (b : Int)) (hd : (szReg 2 tenH k).nodes = (d : Int)) : ∃ v u, (geosOf 32 tenR)[k]? = some v ∧ geoN v = u ∧ u.val = .agg v.cells.toArray ∧ u.Ok n ∧ u.blocks = b ∧ u.nodes = d ∧ v.nodes = (u.nodes : Int) := by
  obtain ⟨v, r, hv, hr, hgo, hval, hbl, hnd, -⟩ := hF.geo k (by rw [ten_len]; omega)
  have h0 : tenR[k]? = some (szReg 2 tenH k) := by
    have : k = 0 ∨ k = 1 := by omega
    rcases this with rfl | rfl <;> rfl
  rw [h0] at hr
  cases hr
  rw [hb] at hbl
  rw [hd] at hnd
  have hvn : v.nodes = ((geoN v).nodes : Int) := by
    have h1 := hval
    simp [GeoN.val, GeoN.cells, GeoV.cells] at h1
    omega
  exact ⟨v, _, hv, rfl, hval, hgo, by omega, by omega, hvn⟩
theorem ten_b0 : (szReg 2 tenH 0).blocks = ((38 : Nat) : Int) ∧ (szReg 2 tenH 0).nodes = ((28 : Nat) : Int) := ⟨by decide +kernel, by decide +kernel⟩
theorem ten_b1 : (szReg 2 tenH 1).blocks = ((48 : Nat) : Int) ∧ (szReg 2 tenH 1).nodes = ((30 : Nat) : Int) := ⟨by decide +kernel, by decide +kernel⟩
theorem fresh_make {g : GeoN} {k : UInt8} (h : 4 ≤ g.nodes) : GS.fresh.makeR g.nodes = (4, 0) ∧ GS.fresh.makeS g.nodes (newN k) = GS.fresh.set 4 (freshN k) ∧ GS.fresh.makeL g = [g.base + g.bitmap + (4 - 1) / 2] := by
  have h0 : GS.fresh.freeN g.nodes = some 4 := by
    unfold GS.freeN
    obtain ⟨k, hk⟩ : ∃ k, g.nodes = k + 4 := ⟨g.nodes - 4, by omega⟩
    rw [hk]
    rfl
  refine ⟨?_, ?_, ?_⟩
  · unfold GS.makeR; rw [h0]; rfl
  · unfold GS.makeS; rw [h0]; rfl
  · unfold GS.makeL; rw [h0]
theorem made_tab (g : GeoN) (n : NodeV) (κ : Nat → Nat) : TabN (GS.fresh.set 4 n) g [] κ := by
  have e : (GS.fresh.set 4 n).nd 2 = GS.fresh.nd 2 := upd_other (f := GS.fresh.nd) (k := 4) (j := 2) n (by decide)
  exact ⟨by rw [e]; rfl, by rw [e]; decide, by rw [e]; rfl, by rw [e]; exact file_empty κ _ rfl (fresh_slot 1), by decide, fun e he => absurd he (by simp)⟩
theorem GAt.two {w w' : World} {i : Ids} {s s' : Sto} {g0 g1 : Nat} {u0 u1 : GeoN} {l0 l1 : Int} {G1 G0' : GS} {L : List Nat} (h1 : GAt w i s g1 u1 l1 G1) (h0 : GAt w' i s' g0 u0 l0 G0') (hs : s.Step s' u0 L) (ht : Tch w.heap.size i.own w w') (hap : u1.data + u1.blocks ≤ u0.base ∨ u0.data + u0.blocks ≤ u1.base) : GAt w' i s' g1 u1 l1 G1 :=
  ⟨h0.tx, h1.gp.tch h1.tx ht, by rw [hs.D]; exact h1.ok, h1.is.far h1.ok hs hap, h1.gok⟩
/-- the first own directory -/
def inr4 : InR := ⟨0, 4, 1, 4⟩
theorem inr4_good : InR.Good inr4 := .inr ⟨by decide, by decide⟩
set_option maxRecDepth 100000 in
set_option maxHeartbeats 1000000 in
theorem inneed_old {w : World} {t p c : Option Addr} {n : Int} {o : InR} {R : World → Prop} (hn0 : 0 < n) (hn : ∀ W, Below w.heap.size w W → Calls Tryz.prog 69 #[.pointer p, .agg o.ino.toArray] W fun e w' => e = .returned (.tuple #[.int .i64 n, .int .i64 0]) ∧ R w') :
    Calls Tryz.prog 72 #[.pointer t, .pointer c, .pointer p, .agg o.ino.toArray] w fun e w' => e = .returned (.tuple #[.int .i64 n, .int .i64 0]) ∧ R w' := by
  have HN := hide hn
  have t1 : decide (0 < n) = true := by simpa using hn0
  clear hn
  go_enter Tryz.func72, Tryz.ntmps72
  go_upto_region 1 with (fail)
  refine at_world (fun W => ∃ q, q = w.heap.size ∧ Below w.heap.size w W ∧ Blk W q 152 o.ino.toArray) ⟨_, rfl, (Below.refl _ _).alloc (Nat.le_refl _) _, Blk.new _ _ _⟩ (fun w0 h0 => ?_)
  obtain ⟨q, hq, hb0, hQ0⟩ := h0
  rw [← hq]
  have HB0 := hide hb0
  have HQ0 := hide hQ0
  clear hq hb0 hQ0
  go_wp2_with (first | ((with_reducible refine at_load 152 (.tmp 7) ?_); refine wpList_load_blk rfl 152 (.tmp 7) rfl q _ _ _ (by rfl) HQ0.out Tryz.underlying152 rfl (size_inoc o) ?_) | fail)
  refine (HN.out w0 HB0.out).mono ?_
  rintro e w1 ⟨rfl, hr⟩
  have HR := hide hr
  clear hr HN
  go_wp2_with fail
  go_returns
  exact ⟨rfl, HR.out⟩
set_option maxRecDepth 100000 in
set_option maxHeartbeats 8000000 in
theorem awake10_ok (w : World) : Calls Tryz.prog 67 #[] w fun e w' => e = .returned (.bool true) ∧ Below w.heap.size w w' := by
  go_enter Tryz.func67, Tryz.ntmps67
  go_wp2_with fail
  refine (ten_ok w).mono ?_
  rintro e w1 ⟨cc, K, tb, nb, lb, B1, B2, B3, d1, d2, d3, rfl, hb1, hin⟩
  obtain ⟨n0, hF⟩ := cf_facts hin.ok (by rw [ten_len]; omega)
  obtain ⟨v0, u0, hv0, hu0, hval0, hgo0, hub0, hun0, -⟩ := ten_geo hF (k := 0) (by omega) ten_b0.1 ten_b0.2
  obtain ⟨v1, u1, hv1, hu1, hval1, hgo1, hub1, hun1, -⟩ := ten_geo hF (k := 1) (by omega) ten_b1.1 ten_b1.2
  have hap := hF.apart 0 1 v0 v1 hv0 hv1 (by omega)
  rw [hu0, hu1] at hap
  have hfr := fresh_all (w := w1) hin hF (by rw [ten_len]; omega)
  have HC := hide (And.intro hin (And.intro hv0 (And.intro hv1 hb1)))
  have HU := hide (And.intro hu0 (And.intro hu1 (And.intro hval0 hval1)))
  have HGO := hide (And.intro hgo0 (And.intro hgo1 (And.intro hub0 (And.intro hub1 (And.intro hun0 (And.intro hun1 hap))))))
  have HFR := hide hfr
  clear hin hv0 hu0 hval0 hgo0 hub0 hun0 hv1 hu1 hval1 hgo1 hub1 hun1 hap hfr hb1 hF
  go_wp2_with fail
  refine HFR.out.mono ?_
  rintro e w2 ⟨i, D, rfl, hx, hDn, hall, hown, hll, hb2⟩
  have his0 := hall 0 v0 HC.out.2.1
  have his1 := hall 1 v1 HC.out.2.2.1
  rw [HU.out.1] at his0
  rw [HU.out.2.1] at his1
  have HX2 := hide hx
  have HB12 := hide hb2
  have HOWN := hide (show ∀ k, i.own k → w1.heap.size ≤ k from hown)
  have HIS := hide (And.intro his0 (And.intro his1 hDn))
  have hop0 := fun (W : World) (hW : Below w1.heap.size w1 W) => gopen_yes (tt := i.tt) (HC.out.1.below hW) HC.out.2.1 (by rw [HU.out.1]; exact HU.out.2.2.1)
  have hop1 := fun (W : World) (hW : Below w1.heap.size w1 W) => gopen_yes (tt := i.tt) (HC.out.1.below hW) HC.out.2.2.1 (by rw [HU.out.2.1]; exact HU.out.2.2.2)
  rw [HU.out.1, show ((0 : Nat) : Int) = 0 from rfl] at hop0
  rw [HU.out.2.1, show ((1 : Nat) : Int) = 1 from rfl] at hop1
  have HOP0 := hide hop0
  have HOP1 := hide hop1
  clear hb2 hx hown his0 his1 hall hll hDn HFR hop0 hop1
  go_wp2_with fail
  refine (HOP1.out w2 HB12.out).mono ?_
  rintro e w3 ⟨g1, rfl, -, hG1, hb3⟩
  have HA3 : Hid (GAt w3 i ⟨D, [], 0⟩ g1 u1 1 GS.fresh) := hide ⟨HX2.out.below hb3, hG1, by simp only; rw [HIS.out.2.2]; exact HGO.out.2.1, HIS.out.2.1, GS.fresh_ok⟩
  have HB13 := hide (HB12.out.trans (hb3.mono HB12.out.size))
  clear hG1 hb3 HX2 HOP1
  go_wp2_with fail
  refine (HOP0.out w3 HB13.out).mono ?_
  rintro e w4 ⟨g0, rfl, -, hG0, hb4⟩
  have HA4 := hide (HA3.out.below hb4)
  have HL4 : Hid (GAt w4 i ⟨D, [], 0⟩ g0 u0 0 GS.fresh) := hide ⟨HA4.out.tx, hG0, by simp only; rw [HIS.out.2.2]; exact HGO.out.1, HIS.out.1, GS.fresh_ok⟩
  have HB14 := hide (HB13.out.trans (hb4.mono HB13.out.size))
  clear hG0 hb4 HA3 HOP0
  have hmk := gs_make (k := 3) HL4.out (by simp) rfl
  obtain ⟨m1, m2, m3⟩ := fresh_make (g := u0) (k := 3) (by rw [HGO.out.2.2.2.2.1]; omega)
  rw [m1, m2, m3, show (((3 : UInt8).toNat : Nat) : Int) = 3 from rfl] at hmk
  have HMK := hide hmk
  clear hmk m1 m2 m3
  go_wp2_with fail
  refine HMK.out.mono ?_
  rintro e w5 ⟨rfl, s5, hl5, hs5, ht5⟩
  have HL5 := hide hl5
  have HA5 := hide (HA4.out.two hl5 hs5 ht5 (.inr HGO.out.2.2.2.2.2.2))
  have HT5 := hide ht5
  have HS5 := hide (show s5.In [u0.base + u0.bitmap + (4 - 1) / 2] ∧ s5.D = D ∧ s5.bad = 0 from ⟨(hs5.in_ (K := []) (fun x hx => absurd hx (by simp))).mono (fun x hx => by simpa using hx), hs5.D, hs5.bad⟩)
  have hino := gs_ino (num := 4) hl5 (by omega) (by rw [HGO.out.2.2.2.2.1]; omega)
  rw [show (GS.fresh.set 4 (freshN 3)).ino 0 4 = inr4.ino.toArray from rfl, show (GS.fresh.set 4 (freshN 3)).inoE 4 = 0 from rfl, show ((4 : Nat) : Int) = 4 from rfl] at hino
  have HINO := hide hino
  clear hl5 hs5 ht5 hino HMK HA4 HL4
  go_wp2_with fail
  refine HINO.out.mono ?_
  rintro e w6 ⟨rfl, s6, hl6, hs6, ht6⟩
  have HA6 := hide (HA5.out.two hl6 hs6 ht6 (.inr HGO.out.2.2.2.2.2.2))
  have HT6 := hide (HT5.out.trans (ht6.mono HT5.out.size fun _ _ h => h))
  have HS6 := hide (show s6.In [u0.base + u0.bitmap + (4 - 1) / 2] ∧ s6.D = D ∧ s6.bad = 0 from ⟨(hs6.in_ HS5.out.1).mono (fun x hx => by simpa using hx), hs6.D.trans HS5.out.2.1, hs6.bad.trans HS5.out.2.2⟩)
  clear hl6 hs6 ht6 HINO HA5 HL5 HT5 HS5
  go_upto_region 7 with (first | ((with_reducible refine at_alloc 152 ?_); refine wpList_alloc_as rfl 152 rfl _ (zero_ino _) ?_) | ((with_reducible refine at_store 152 (.tmp 11) (.tmp 45) ?_); refine wpList_store_blk rfl 152 (.tmp 11) (.tmp 45) rfl w6.heap.size _ _ _ (by rfl) (by rfl) (Blk.new _ _ _) (size_inoc inr4) rfl (by simp [InR.ino, Value.oneCell']) (fun _ => ?_)) | fail)
  refine at_world (fun W => ∃ q, q = w6.heap.size ∧ Below w6.heap.size w6 W ∧ Blk W q 152 inr4.ino.toArray) ⟨_, rfl, below_setRow ((Below.refl _ _).alloc (Nat.le_refl _) _) (Nat.le_refl _) _, (Blk.new _ _ _).setRow_same _⟩ (fun w7 h7 => ?_)
  obtain ⟨q, hq, hb7, hQ7⟩ := h7
  rw [← hq]
  have HA7 := hide (HA6.out.below hb7)
  have HT7 := hide (HT6.out.trans ((Tch.of_below hb7).mono HT6.out.size fun _ _ h => h))
  have HQ7 := hide hQ7
  have HQN := hide (show ¬ i.own q from HA6.out.tx.other_new (Nat.le_of_eq hq.symm))
  clear hq hb7 hQ7 HA6 HT6
  have h30 : 2 ≤ u1.nodes := by rw [HGO.out.2.2.2.2.2.1]; omega
  have h48 : u1.blocks = 48 := HGO.out.2.2.2.1
  obtain ⟨m1, m2, m3⟩ := fresh_make (g := u1) (k := 2) (by rw [HGO.out.2.2.2.2.2.1]; omega)
  have hneed := inneed_main (t := some ⟨i.tt, 0, none⟩) (p := some ⟨cc, 0, none⟩) (l := []) (o := inr4) (num := 4) (ow := 4) (P := fun s1 => s1.In [u0.base + u0.bitmap + (4 - 1) / 2, u1.base + u1.bitmap + (4 - 1) / 2] ∧ s1.D = D ∧ s1.bad = 0) (G1 := GS.fresh.set 4 (freshN 2))
    (R := fun x w' => x = 0 ∧ ∃ s' G' κ', GAt w' i s' g1 u1 1 G' ∧ TabN G' u1 [inr4] κ' ∧ Tch w7.heap.size i.own w7 w') HA7.out (inopens h30 (fresh_tab u1 fun _ => 0)) (by decide) (by simp) rfl
    (fun W hW => inreap_none hW (inopens h30 (fresh_tab u1 fun _ => 0)) (by decide) (fun r hr => absurd hr (by simp)))
    (fun W hW => by
      have hlen := HS6.out.1.len hW.tx.ok
      simp only [List.length_cons, List.length_nil] at hlen
      have hm := gs_make (k := 2) hW (by omega) rfl
      rw [m1, m2, m3] at hm
      exact hm.mono fun e w' ⟨he, s1, ha, hst, ht⟩ => ⟨he, s1, ⟨(hst.in_ HS6.out.1).mono (fun x hx => by simpa using hx), hst.D.trans HS6.out.2.1, hst.bad.trans HS6.out.2.2⟩, ha, ht⟩)
    (fun s1 _ => inopens h30 (made_tab u1 _ fun _ => 0))
    (fun s1 hs1 W z hA hT hzw hZ => (twrite (at_ := 0) (l := []) (l' := [inr4]) (d := recP inr4) hA hs1.1 (by simp) h30 (by omega) (made_tab u1 _ fun _ => 0) rfl (by simp) (by omega) rfl (fun e he => by rw [List.mem_singleton.1 he]; exact inr4_good) (by decide +kernel) (fresh_own HA7.out hzw) (Rd.of_bytes hZ rfl)).mono fun e w' hr => by
      rcases hr with ⟨rfl, hr⟩ | ⟨rfl, s', G', κ', T, ha, hst, ht⟩
      · exfalso
        have h0 := hr.1
        rw [show (GS.fresh.set 4 (freshN 2)).cnt u1.blocks = 0 from fresh_cnt _, h48] at h0
        revert h0
        decide
      · exact ⟨0, rfl, rfl, s', G', κ', ha, hst.tab, hT.trans (ht.mono hT.size fun _ _ h => h)⟩)
  rw [show ((4 : Nat) : Int) = 4 from rfl] at hneed
  have HNEED := hide hneed
  clear hneed m1 m2 m3
  go_wp2_with (first | ((with_reducible refine at_load 152 (.tmp 11) ?_); refine wpList_load_blk rfl 152 (.tmp 11) rfl q _ _ _ (by rfl) HQ7.out Tryz.underlying152 rfl (size_inoc inr4) ?_) | fail)
  refine HNEED.out.mono ?_
  rintro e w8 ⟨x, rfl, rfl, s8, G8, κ8, ha8, htab, ht8⟩
  have hold := inneed_old (w := w8) (t := some ⟨i.tt, 0, none⟩) (p := some ⟨g1, 0, none⟩) (c := some ⟨cc, 0, none⟩) (n := 4) (o := inr4) (R := fun w' => Tch w8.heap.size i.own w8 w') (by decide)
    (fun W hW => (infind_ok (o := inr4) (ha8.below hW) (inopens h30 htab) (by decide)).mono fun e w' hr => by
      rcases hr with ⟨K, r, hK, -, -, rfl, -, ht⟩ | ⟨hno, -⟩
      · have : K = 0 := by have := (List.getElem?_eq_some_iff.1 hK).1; simpa using this
        subst this
        cases hK
        exact ⟨rfl, (Tch.of_below hW).trans (ht.mono hW.size fun _ _ h => h)⟩
      · exact absurd (hno inr4 (by simp)) (by decide))
  have HOLD := hide hold
  have HQ8 := hide (HQ7.out.tch ht8 HQ7.out.lt HQN.out)
  have HT8 := hide (HT7.out.trans (ht8.mono HT7.out.size fun _ _ h => h))
  clear hold ha8 htab ht8 HNEED HA7 HT7 HQ7
  go_wp2_with (first | ((with_reducible refine at_load 152 (.tmp 11) ?_); refine wpList_load_blk rfl 152 (.tmp 11) rfl q _ _ _ (by rfl) HQ8.out Tryz.underlying152 rfl (size_inoc inr4) ?_) | fail)
  refine HOLD.out.mono ?_
  rintro e w9 ⟨rfl, ht9⟩
  have HT9 := hide (HT8.out.trans (ht9.mono HT8.out.size fun _ _ h => h))
  clear ht9 HOLD HT8
  go_wp2
  go_returns
  have h14 := HC.out.2.2.2.trans (HB14.out.mono HC.out.2.2.2.size)
  exact ⟨rfl, h14.trans ((HT9.out.mono h14.size (S' := fun _ => False) (fun k hk h => by have := HOWN.out k h; have := HC.out.2.2.2.size; omega)).below fun _ _ h => h)⟩
end Go.Proofs.YthmkgohfeahdhaaGreat
namespace Go.Proofs.YthmkgohfeahdhaaGreat
open Go.RowKit
set_option linter.unusedSimpArgs false
set_option linter.unusedVariables false

theorem alive_fresh (nodes : Nat) (o : InR) : aliveB GS.fresh nodes o = false := by
  unfold aliveB
  rw [decide_eq_false_iff_not]
  rintro ⟨h1, -, h2, -⟩
  by_cases h : 4 ≤ o.num.toNat
  · rw [fresh_nd' h] at h2
    exact absurd h2 (by decide)
  · have : o.num.toNat = 1 ∨ o.num.toNat = 2 ∨ o.num.toNat = 3 := by omega
    rcases this with e | e | e <;> rw [e] at h2 <;> exact absurd h2 (by decide)
theorem nil_iopen (W : World) : Calls Tryz.prog 125 #[.pointer none] W fun e w' => e = .returned (.tuple #[.slice none 0 0, .int .i64 1]) ∧ Below W.heap.size W w' :=
  (inopen_bad (R := fun w' => Below W.heap.size W w') (by decide) (none_node W 2)).mono fun e w' ⟨he, w1, hr, hb⟩ => ⟨he, hr.trans (hb.mono hr.size)⟩
theorem nil_ifind (W : World) (o : InR) : Calls Tryz.prog 69 #[.pointer none, .agg o.ino.toArray] W fun e w' => e = .returned (.tuple #[.int .i64 0, .int .i64 1]) ∧ Below W.heap.size W w' :=
  infind_bad (by decide) (fun w1 w2 h hb => h.trans (hb.mono h.size)) (fun W' hb => (nil_iopen W').mono fun e w' ⟨he, h⟩ => ⟨he, hb.trans (h.mono hb.size)⟩)
theorem nil_ireap (W : World) (t c : Option Addr) : Calls Tryz.prog 71 #[.pointer t, .pointer c, .pointer none] W fun e w' => e = .returned (.tuple #[.int .i64 0, .int .i64 1]) ∧ Below W.heap.size W w' :=
  inreap_bad (by decide) (nil_iopen W)
theorem nil_ineed (W : World) (t c : Option Addr) (o : InR) : Calls Tryz.prog 72 #[.pointer t, .pointer c, .pointer none, .agg o.ino.toArray] W fun e w' => e = .returned (.tuple #[.int .i64 0, .int .i64 1]) ∧ Below W.heap.size W w' :=
  inneed_bad (by decide) (fun W' hb => (nil_ifind W' o).mono fun e w' ⟨he, h⟩ => ⟨he, hb.trans (h.mono hb.size)⟩)
theorem nil_idrop (W : World) (o : InR) : Calls Tryz.prog 73 #[.pointer none, .agg o.ino.toArray] W fun e w' => e = .returned (.int .i64 1) ∧ Below W.heap.size W w' :=
  indrop_bad (by decide) (fun W' hb => (nil_iopen W').mono fun e w' ⟨he, h⟩ => ⟨he, hb.trans (h.mono hb.size)⟩)
set_option maxRecDepth 100000 in
set_option maxHeartbeats 8000000 in
theorem inone_all (w : World) (o : InR) :
    Calls Tryz.prog 12 #[.agg o.ino.toArray] w fun e w' => e = .returned (.bool true) ∧ Below w.heap.size w w' := by
  go_enter Tryz.func12, Tryz.ntmps12
  go_upto_region 1 with (fail)
  refine at_world (fun W => ∃ q, q = w.heap.size ∧ Below w.heap.size w W ∧ Blk W q 152 o.ino.toArray) ⟨_, rfl, (Below.refl _ _).alloc (Nat.le_refl _) _, Blk.new _ _ _⟩ (fun w0 h0 => ?_)
  obtain ⟨q, hq, hb0, hQ0⟩ := h0
  rw [← hq]
  have HB0 := hide hb0
  have HQ0 := hide hQ0
  clear hq hb0 hQ0
  go_wp2_with fail
  refine (awake10_ok w0).mono ?_
  rintro e w1 ⟨rfl, hb1⟩
  have HB1 := hide (HB0.out.trans (hb1.mono HB0.out.size))
  have HQ1 := hide (HQ0.out.below hb1 HQ0.out.lt)
  clear hb1 HB0 HQ0
  go_wp2_with fail
  refine (ten_ok w1).mono ?_
  rintro e w2 ⟨cc, K, tb, nb, lb, B1, B2, B3, d1, d2, d3, rfl, hb2, hin⟩
  have hb12 : Below w.heap.size w w2 := HB1.out.trans (hb2.mono HB1.out.size)
  have HQ2 := hide (HQ1.out.below hb2 HQ1.out.lt)
  obtain ⟨n0, hF⟩ := cf_facts hin.ok (by rw [ten_len]; omega)
  obtain ⟨v0, u0, hv0, hu0, hval0, hgo0, hub0, hun0, hvn0⟩ := ten_geo hF (k := 0) (by omega) ten_b0.1 ten_b0.2
  obtain ⟨v1, u1, hv1, hu1, hval1, hgo1, hub1, hun1, hvn1⟩ := ten_geo hF (k := 1) (by omega) ten_b1.1 ten_b1.2
  have hfr := fresh_all (w := w2) hin hF (by rw [ten_len]; omega)
  have HC := hide (And.intro hin (And.intro hv0 (And.intro hv1 hb12)))
  have HU := hide (And.intro hu0 (And.intro hu1 (And.intro hval0 (And.intro hval1 (And.intro hvn0 hvn1)))))
  have HGO := hide (And.intro hgo0 (And.intro hgo1 hun1))
  have HFR := hide hfr
  clear hin hv0 hu0 hval0 hgo0 hub0 hun0 hv1 hu1 hval1 hgo1 hub1 hun1 hfr hb12 hF hb2 HB1 HQ1 hvn0 hvn1
  go_wp2_with fail
  refine HFR.out.mono ?_
  rintro e w3 ⟨i, D, rfl, hx, hDn, hall, hown, hll, hb3⟩
  have his0 := hall 0 v0 HC.out.2.1
  have his1 := hall 1 v1 HC.out.2.2.1
  rw [HU.out.1] at his0
  rw [HU.out.2.1] at his1
  have HX3 := hide hx
  have HB23 := hide hb3
  have HQ3 := hide (HQ2.out.below hb3 HQ2.out.lt)
  have HOWN := hide (show ∀ k, i.own k → w2.heap.size ≤ k from hown)
  have HQO := hide (show ¬ i.own q from fun h => by have := hown q h; have := HQ2.out.lt; omega)
  have HIS := hide (And.intro his0 (And.intro his1 hDn))
  have hop1 := fun (W : World) (hW : Below w2.heap.size w2 W) => gopen_yes (tt := i.tt) (HC.out.1.below hW) HC.out.2.2.1 (by rw [HU.out.2.1]; exact HU.out.2.2.2.1)
  rw [HU.out.2.1, show ((1 : Nat) : Int) = 1 from rfl] at hop1
  have HOP1 := hide hop1
  clear hb3 hx hown his0 his1 hall hll hDn HFR hop1 HQ2
  go_wp2_with fail
  refine (HOP1.out w3 HB23.out).mono ?_
  rintro e w4 ⟨g1, rfl, -, hG1, hb4⟩
  have HA4 : Hid (GAt w4 i ⟨D, [], 0⟩ g1 u1 1 GS.fresh) := hide ⟨HX3.out.below hb4, hG1, by simp only; rw [HIS.out.2.2]; exact HGO.out.2.1, HIS.out.2.1, GS.fresh_ok⟩
  have HB24 := hide (HB23.out.trans (hb4.mono HB23.out.size))
  have HQ4 := hide (HQ3.out.below hb4 HQ3.out.lt)
  have HOPI := hide (show InOpens i ⟨D, [], 0⟩ g1 u1 1 GS.fresh [] from inopens (by rw [HGO.out.2.2]; omega) (fresh_tab u1 fun _ => 0))
  clear hG1 hb4 HX3 HOP1 HQ3 HB23
  go_wp2_with (first | ((with_reducible refine at_load 152 (.tmp 1) ?_); refine wpList_load_blk rfl 152 (.tmp 1) rfl q _ _ _ (by rfl) HQ4.out Tryz.underlying152 rfl (size_inoc o) ?_) | fail)
  refine (infind_ok (o := o) HA4.out HOPI.out (by decide)).mono ?_
  rintro e w5 (⟨K', r, hK, -⟩ | ⟨-, rfl, ha5, ht5⟩)
  · simp at hK
  have HA5 := hide ha5
  have HB25 := hide (HB24.out.trans ((ht5.mono HB24.out.size (S' := fun _ => False) (fun k hk h => by have := HOWN.out k h; omega)).below fun _ _ h => h))
  have HQ5 := hide (HQ4.out.tch ht5 HQ4.out.lt HQO.out)
  clear ha5 ht5 HA4 HB24 HQ4
  -- is it alive?
  obtain ⟨xa, hxa, hxr⟩ : ∃ xa : Int, (Calls Tryz.prog 70 #[.pointer (some ⟨i.tt, 0, none⟩), .pointer (some ⟨cc, 0, none⟩), .agg o.ino.toArray] w5 fun e w' => e = .returned (.tuple #[.bool false, .int .i64 xa]) ∧ GAt w' i ⟨D, [], 0⟩ g1 u1 1 GS.fresh ∧ Tch w5.heap.size i.own w5 w') ∧ xa = if 1 < o.lab.toNat then 27 else 0 := by
    have hin5 := HC.out.1.below HB25.out
    have hback : ∀ {w' : World}, TxAt w' i ⟨D, [], 0⟩ → Tch w5.heap.size i.own w5 w' → GAt w' i ⟨D, [], 0⟩ g1 u1 1 GS.fresh := fun hx ht => ⟨hx, HA5.out.gp.tch HA5.out.tx ht, HA5.out.ok, HA5.out.is, HA5.out.gok⟩
    by_cases h1 : 1 < o.lab.toNat
    · refine ⟨27, ?_, by rw [if_pos h1]⟩
      refine (alive_bad (o := o) (x := 27) (by decide) (fun W hW => gopen_no (hin5.below hW) (by unfold hasB; rw [ten_len]; simp; omega))).mono fun e w' ⟨he, hb⟩ => ⟨he, HA5.out.below hb, Tch.of_below hb⟩
    · refine ⟨0, ?_, by rw [if_neg h1]⟩
      rcases (show o.lab.toNat = 0 ∨ o.lab.toNat = 1 by omega) with h0 | h0
      · have := alive_ok (o := o) (u := u0) (G := GS.fresh) hin5 (by rw [h0]; exact HC.out.2.1) HU.out.1 HU.out.2.2.1 HU.out.2.2.2.2.1 HA5.out.tx (by simp only; rw [HIS.out.2.2]; exact HGO.out.1) HIS.out.1 GS.fresh_ok
        rw [alive_fresh] at this
        exact this.mono fun e w' ⟨he, hx, ht⟩ => ⟨he, hback hx ht, ht⟩
      · have := alive_ok (o := o) (u := u1) (G := GS.fresh) hin5 (by rw [h0]; exact HC.out.2.2.1) HU.out.2.1 HU.out.2.2.2.1 HU.out.2.2.2.2.2 HA5.out.tx HA5.out.ok HIS.out.2.1 GS.fresh_ok
        rw [alive_fresh] at this
        exact this.mono fun e w' ⟨he, hx, ht⟩ => ⟨he, hback hx ht, ht⟩
  have HXA := hide hxa
  have HXR := hide hxr
  clear hxa hxr
  go_wp2_with (first | ((with_reducible refine at_load 152 (.tmp 1) ?_); refine wpList_load_blk rfl 152 (.tmp 1) rfl q _ _ _ (by rfl) HQ5.out Tryz.underlying152 rfl (size_inoc o) ?_) | fail)
  refine HXA.out.mono ?_
  rintro e w6 ⟨rfl, ha6, ht6⟩
  have HA6 := hide ha6
  have HB26 := hide (HB25.out.trans ((ht6.mono HB25.out.size (S' := fun _ => False) (fun k hk h => by have := HOWN.out k h; omega)).below fun _ _ h => h))
  have HQ6 := hide (HQ5.out.tch ht6 HQ5.out.lt HQO.out)
  clear ha6 ht6 HA5 HB25 HQ5 HXA
  go_wp2_with (first | ((with_reducible refine at_load 152 (.tmp 1) ?_); refine wpList_load_blk rfl 152 (.tmp 1) rfl q _ _ _ (by rfl) HQ6.out Tryz.underlying152 rfl (size_inoc o) ?_) | fail)
  refine (nil_ifind w6 o).mono ?_
  rintro e w7 ⟨rfl, hb7⟩
  have HA7 := hide (HA6.out.below hb7)
  have HB27 := hide (HB26.out.trans (hb7.mono HB26.out.size))
  have HQ7 := hide (HQ6.out.below hb7 HQ6.out.lt)
  clear hb7 HA6 HB26 HQ6
  go_wp2_with (first | ((with_reducible refine at_load 152 (.tmp 1) ?_); refine wpList_load_blk rfl 152 (.tmp 1) rfl q _ _ _ (by rfl) HQ7.out Tryz.underlying152 rfl (size_inoc o) ?_) | fail)
  refine (alive_bad (o := o) (x := 1) (by decide) (fun W hW => gopen_nil_txn (HC.out.1.below (HB27.out.trans (hW.mono HB27.out.size))))).mono ?_
  rintro e w8 ⟨rfl, hb8⟩
  have HA8 := hide (HA7.out.below hb8)
  have HB28 := hide (HB27.out.trans (hb8.mono HB27.out.size))
  have HQ8 := hide (HQ7.out.below hb8 HQ7.out.lt)
  clear hb8 HA7 HB27 HQ7
  go_wp2_with fail
  refine (nil_ireap w8 _ _).mono ?_
  rintro e w9 ⟨rfl, hb9⟩
  have HA9 := hide (HA8.out.below hb9)
  have HB29 := hide (HB28.out.trans (hb9.mono HB28.out.size))
  have HQ9 := hide (HQ8.out.below hb9 HQ8.out.lt)
  clear hb9 HA8 HB28 HQ8
  go_wp2_with (first | ((with_reducible refine at_load 152 (.tmp 1) ?_); refine wpList_load_blk rfl 152 (.tmp 1) rfl q _ _ _ (by rfl) HQ9.out Tryz.underlying152 rfl (size_inoc o) ?_) | fail)
  refine (nil_ineed w9 _ _ o).mono ?_
  rintro e w10 ⟨rfl, hb10⟩
  have HA10 := hide (HA9.out.below hb10)
  have HB210 := hide (HB29.out.trans (hb10.mono HB29.out.size))
  have HQ10 := hide (HQ9.out.below hb10 HQ9.out.lt)
  clear hb10 HA9 HB29 HQ9
  have q0 := (HQ10.out.cell 0).trans (show o.ino.toArray[0]? = some (.int .u8 (o.lab.toNat : Int)) from rfl)
  have ql := HQ10.out.lt
  by_cases h1 : 1 < o.lab.toNat
  · have t1 : decide ((1 : Int) < (o.lab.toNat : Int)) = true := by simp; omega
    have t1' : (1 : Int) < (o.lab.toNat : Int) := by omega
    have hx27 : xa = 27 := by have := HXR.out; rwa [if_pos h1] at this
    subst hx27
    clear h1
    go_wp2_with (first | ((with_reducible refine at_load 152 (.tmp 1) ?_); refine wpList_take (by kernel_rfl) ?_; refine wpList_load_blk rfl 152 (.tmp 1) rfl q _ _ _ (by rfl) HQ10.out Tryz.underlying152 rfl (size_inoc o) ?_) | fail)
    refine (nil_idrop w10 o).mono ?_
    rintro e w11 ⟨rfl, hb11⟩
    have HA11 := hide (HA10.out.below hb11)
    have HB211 := hide (HB210.out.trans (hb11.mono HB210.out.size))
    have HQ11 := hide (HQ10.out.below hb11 HQ10.out.lt)
    clear hb11 HA10 HB210 HQ10 q0 ql
    go_wp2_with (first | ((with_reducible refine at_load 152 (.tmp 1) ?_); refine wpList_take (by kernel_rfl) ?_; refine wpList_load_blk rfl 152 (.tmp 1) rfl q _ _ _ (by rfl) HQ11.out Tryz.underlying152 rfl (size_inoc o) ?_) | fail)
    refine (indrop_empty (o := o) HA11.out HOPI.out).mono ?_
    rintro e w12 ⟨rfl, ha12, ht12⟩
    have HB212 := hide (HB211.out.trans ((ht12.mono HB211.out.size (S' := fun _ => False) (fun k hk h => by have := HOWN.out k h; omega)).below fun _ _ h => h))
    clear ha12 ht12
    go_wp2
    go_returns
    exact ⟨rfl, HC.out.2.2.2.trans (HB212.out.mono HC.out.2.2.2.size)⟩
  · have t1 : decide ((1 : Int) < (o.lab.toNat : Int)) = false := by simp; omega
    have t1' : ¬ (1 : Int) < (o.lab.toNat : Int) := by omega
    have hx0 : xa = 0 := by have := HXR.out; rwa [if_neg h1] at this
    subst hx0
    clear h1
    go_wp2_with (first | ((with_reducible refine at_load 152 (.tmp 1) ?_); refine wpList_take (by kernel_rfl) ?_; refine wpList_load_blk rfl 152 (.tmp 1) rfl q _ _ _ (by rfl) HQ10.out Tryz.underlying152 rfl (size_inoc o) ?_) | fail)
    refine (nil_idrop w10 o).mono ?_
    rintro e w11 ⟨rfl, hb11⟩
    have HA11 := hide (HA10.out.below hb11)
    have HB211 := hide (HB210.out.trans (hb11.mono HB210.out.size))
    have HQ11 := hide (HQ10.out.below hb11 HQ10.out.lt)
    clear hb11 HA10 HB210 HQ10 q0 ql
    go_wp2_with (first | ((with_reducible refine at_load 152 (.tmp 1) ?_); refine wpList_take (by kernel_rfl) ?_; refine wpList_load_blk rfl 152 (.tmp 1) rfl q _ _ _ (by rfl) HQ11.out Tryz.underlying152 rfl (size_inoc o) ?_) | fail)
    refine (indrop_empty (o := o) HA11.out HOPI.out).mono ?_
    rintro e w12 ⟨rfl, ha12, ht12⟩
    have HB212 := hide (HB211.out.trans ((ht12.mono HB211.out.size (S' := fun _ => False) (fun k hk h => by have := HOWN.out k h; omega)).below fun _ _ h => h))
    clear ha12 ht12
    go_wp2
    go_returns
    exact ⟨rfl, HC.out.2.2.2.trans (HB212.out.mono HC.out.2.2.2.size)⟩
end Go.Proofs.YthmkgohfeahdhaaGreat
namespace Go.Proofs.YthmkgohfeahdhaaGreat.lawInstNone
open Go.ChangeShapes Go.WideShapes Go.ChangeAt Go.RowKit Go.Joins
open Go.ChangeMaps (open_string shut_string)
set_option linter.unusedVariables false

theorem own : ownKnob Tryz.prog.godebug = none := by kernel_rfl
theorem laidOut : laidOutB Tryz.prog = true := by kernel_rfl

set_option maxRecDepth 100000 in
theorem lifted (os : Os) (started : os.Started) (H0 : Type) (enc : TypeId × Value → H0) :
    ReturnsInHanded {} Tryz.checked os 12 .any (Rows.instNoneSpec.pre6 enc Tryz.prog Tryz.f12 Rows.instNoneRow.domain false) (Rows.instNoneSpec.post enc Tryz.prog Tryz.f12 false true false false) := by
  refine returnsInHanded_of_change (C := Tryz.checked) own started (by kernel_rfl) Tryz.func12
    (ChangeSpec.witness6 (enc := enc) (C := Tryz.checked) false ⟨#[], #[.agg #[.int .u8 0, .int .u16 0, .int .u16 0]], []⟩ 8 (by kernel_rfl) (by kernel_rfl) (by kernel_rfl) (by kernel_rfl)) ?_
  intro W base args ds gs before hval0 hW hcnd _
  have hval : ∀ (j : Nat) t v, Tryz.f12.params[j]? = some t → args[j]? = some v → Value.okWide Tryz.prog W .any base t v := hval0
  have hW' := hW
  obtain ⟨p, q, hA0, hV, rfl, hfz, hnd⟩ := hW
  have hA : DataW.TrodAll enc Tryz.prog W 0 (fun _ => true) true Tryz.f12.params.toList args.toList ds p := hA0
  rw [Tryz.params12] at hA hval
  obtain ⟨v0, vs0, d0, ds0, p0, q0, hargs, rfl, rfl, h0, r0⟩ := trodAll_cons hA
  obtain ⟨rfl, rfl, rfl⟩ := trodAll_nil r0
  obtain rfl : args = #[v0] := by cases args; simp_all
  obtain ⟨rfl, rfl⟩ := trodVars_none hV
  have k0 := h0
  have lt0 : ∀ x ∈ p0, x.block < W.heap.size := by obtain ⟨m, hm⟩ := k0; exact DataW.trod_lt m _ _ _ hm
  obtain ⟨ic0, ic1, ic2, iy0, iy1, iy2, ifuel, rfl, _, _, it0, it1, it2⟩ := open_agg3 Tryz.underlying152 (by kernel_rfl) (by kernel_rfl) (hval 0 152 v0 rfl rfl) h0
  obtain ⟨lab0, rfl, hlab0⟩ := open_u8_cell Tryz.underlying5 it0
  obtain ⟨num0, rfl, hnum0⟩ := open_u16_cell Tryz.underlying37 it1
  obtain ⟨gen0, rfl, hgen0⟩ := open_u16_cell Tryz.underlying37 it2
  obtain ⟨b, rfl⟩ : ∃ c : UInt8, lab0 = c.toNat := ⟨UInt8.ofNat lab0, by rw [UInt8.toNat_ofNat', Nat.mod_eq_of_lt hlab0]⟩
  obtain ⟨c, rfl⟩ : ∃ c : UInt16, num0 = c.toNat := ⟨UInt16.ofNat num0, by rw [UInt16.toNat_ofNat', Nat.mod_eq_of_lt hnum0]⟩
  obtain ⟨d, rfl⟩ : ∃ c : UInt16, gen0 = c.toNat := ⟨UInt16.ofNat gen0, by rw [UInt16.toNat_ofNat', Nat.mod_eq_of_lt hgen0]⟩
  clear hA0 hval0
  refine (inone_all _ ⟨b, c, d, 0⟩).mono fun e W' ⟨he, bel⟩ => ?_
  subst he
  exact ⟨_, rfl, _, _, _, [], _, [], hW', trodAll_mk1 (shut_bool Tryz.underlying4 _), (trodAll_cons_mk (Below.trod laidOut (by kernel_rfl) (of_decide_eq_true (by kernel_rfl)) k0 bel lt0) trodAll_mk0), rfl, bel.frame _, fun h => by cases h⟩

theorem over : Rows.instNoneRow.holds Tryz.pinned (OpenSpec.ofChange Rows.instNoneSpec) :=
  OpenClaim.holds_of_wide 12 Tryz.f12 rfl rfl rfl rfl rfl rfl rfl ⟨rfl, rfl, rfl, rfl, rfl⟩ rfl rfl rfl rfl rfl (by kernel_rfl) Tryz.func12 (by kernel_rfl)
    (of_decide_eq_true (by kernel_rfl)) (by unfold Func.isWrapper; first | (rw [if_pos (by decide +kernel)]; kernel_rfl) | (rw [if_neg (by decide +kernel)]; exact ⟨rfl, rfl⟩))
    (fun os started H0 enc _ => lifted os started H0 enc)

theorem proved : Rows.InstNoneSaid := over
#print axioms proved
end Go.Proofs.YthmkgohfeahdhaaGreat.lawInstNone

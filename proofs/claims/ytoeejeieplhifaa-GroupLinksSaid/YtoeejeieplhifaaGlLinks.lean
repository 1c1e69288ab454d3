/- GroupLinks: the law, walked. -/
import Derived.Test.YtoeejeieplhifaaFsFresh
namespace Go.Proofs.Ytoeejeieplhifaa
open Go.RowKit
set_option linter.unusedSimpArgs false
set_option linter.unusedVariables false

theorem build_lnk (w : World) (s : UInt32) (b : UInt16) : (Instr.build 52 #[(0, .int .u8 4), (1, .int .u8 1), (2, .int .u16 1), (3, .int .u32 (s.toNat : Int)), (4, .agg (([b, 0, 0, 0, 0, 0] : List UInt16).map u16v).toArray)]).run Try.prog w = .ok (nextN (newL s b) NodeV.zero).val w := by kernel_rfl
theorem fresh_freeN {m : Nat} (h : 4 ≤ m) : GS.fresh.freeN m = some 4 := by
  unfold GS.freeN
  obtain ⟨k, rfl⟩ : ∃ k, m = k + 4 := ⟨m - 4, by omega⟩
  rfl
section
variable {m : UInt8} {H : List UInt8} {A : Option Addr} {n c : Nat} {T : List UInt8} {w : World}
set_option maxRecDepth 100000 in
set_option maxHeartbeats 4000000 in
theorem links_all (hH : H.length = 25) (hT : Rd w w.heap.size 1 A n (bvs T)) (hnm : n ≤ 9223372036854775807) (size block : Int) :
    Calls Try.prog 3 #[.agg (szCells m H A n c), .int .i64 size, .int .i64 block] w fun e w' => e = .returned (.bool true) ∧ Below w.heap.size w w' := by
  have hsz : (szCells m H A n c).size = 27 := szCells_size hH
  go_enter Try.func3, Try.ntmps3
  go_upto_region 1 with (fail)
  refine at_world (fun W => ∃ bx, bx = w.heap.size ∧ Below w.heap.size w W ∧ Blk W bx 26 (szCells m H A n c)) ⟨_, rfl, (Below.refl _ _).alloc (Nat.le_refl _) _, Blk.new _ _ _⟩ (fun w1 h1 => ?_)
  obtain ⟨bx, hbx, hb1, hX1⟩ := h1
  rw [← hbx]
  have hS : ((Try.prog.info? 26).map (·.size)) = some (szCells m H A n c).size := by rw [hsz]; kernel_rfl
  have HS := hide hS
  have HB1 := hide hb1
  have HX1 := hide hX1
  clear hbx hX1 hS hsz hb1
  go_wp2_with fail
  refine (awake7_ok w1).mono ?_
  rintro e w2 ⟨rfl, hb2⟩
  have HX2 := hide (HX1.out.below hb2 HX1.out.lt)
  have HB2 := hide (HB1.out.trans (hb2.mono HB1.out.size))
  have HT2 := hide ((hT.below HB2.out).more HB2.out.size)
  have HH := hide (And.intro hH hnm)
  clear hb2 HX1 HB1 hT hH hnm
  go_wp2_with (first | (refine wpList_load_row rfl 26 (.tmp 3) (by rfl) bx (by rfl) 26 (szCells m H A n c) (0, 0) _ HX2.out Try.underlying26 rfl HS.out ?_) | fail)
  refine (size_conf (w := w2) HH.out.1 HT2.out HH.out.2).mono ?_
  rintro e w3 ⟨cc, K, tb, nb, lb, B1, B2, B3, d1, d2, d3, rfl, hb3, hin, hK⟩
  obtain ⟨n0, hsf⟩ := sz_facts (m := m) (H := H) hin.ok
  have hF := hsf.cf hin.ok
  have hfr := fresh_all (w := w3) hin hF hsf.five
  have HIN := hide hin
  have HF := hide hF
  have HB3 := hide (HB2.out.trans (hb3.mono HB2.out.size))
  have hR2 := hsf.two
  generalize szRegs m H = R at *
  clear hin hK hF hb3 HX2 HB2 HT2 HS HH hsf
  go_wp2_with fail
  refine hfr.mono ?_
  rintro e w4 ⟨i, D, rfl, hx, hDn, hall, hown, hll, hb4⟩
  have HIN4 := hide (HIN.out.below hb4)
  have HB4 := hide (HB3.out.trans (hb4.mono HB3.out.size))
  have HX4 := hide hx
  have HOWN := hide (show ∀ k, i.own k → w.heap.size ≤ k from fun k hk => Nat.le_trans HB3.out.size (hown k hk))
  obtain ⟨v, r, hv, hr, hgo, hval, hbl, -, g4, g512, n4, n128⟩ := HF.out.geo 0 (by omega)
  have his := hall 0 v hv
  have hop := gopen_yes (tt := i.tt) HIN4.out hv hval
  have hreg := fun W (hW : ConfIn w2.heap.size W cc R K tb nb lb B1 B2 B3 d1 d2 d3) => reg_ok hW hr
  rw [← hbl] at hreg
  generalize hu : geoN v = u at *
  rw [show ((0 : Nat) : Int) = 0 from rfl] at hop hreg
  have HOP := hide hop
  have HREG := hide hreg
  have HGO := hide (show u.Ok D.length by rw [hDn]; exact hgo)
  have HN := hide (And.intro g4 (And.intro g512 n4))
  have HIS := hide his
  clear hx hDn hall hown hll hb4 hfr hv hr hgo hval hbl g4 g512 n4 n128 his hop hreg hu hR2 HF HB3 HIN
  go_wp2_with fail
  refine HOP.out.mono ?_
  rintro e w5 ⟨gg, rfl, -, hG5, hb5⟩
  have HA5 : Hid (GAt w5 i ⟨D, [], 0⟩ gg u 0 GS.fresh) := hide ⟨HX4.out.below hb5, hG5, HGO.out, HIS.out, GS.fresh_ok⟩
  have HB5 := hide (HB4.out.trans (hb5.mono HB4.out.size))
  have HIN5 := hide (HIN4.out.below hb5)
  clear hb5 hG5 HOP HX4 HB4 HIN4
  go_wp2_with fail
  refine (HREG.out w5 HIN5.out).mono ?_
  rintro e w6 ⟨rfl, hb6⟩
  have HA6 := hide (HA5.out.below hb6)
  have HB6 := hide (HB5.out.trans (hb6.mono HB5.out.size))
  clear hb6 HREG HA5 HB5 HIN5
  go_upto_region 7 with (fail)
  refine at_world (fun W => ∃ rg, rg = w6.heap.size ∧ rg < W.heap.size ∧ W.cell? ⟨rg, 3, none⟩ = some (.int .i64 (u.blocks : Int)) ∧ Below w6.heap.size w6 W) ⟨_, rfl, by simp, (Blk.new w6 _ _).cell 3, (Below.refl _ _).alloc (Nat.le_refl _) _⟩ (fun w7 h7 => ?_)
  obtain ⟨rg, hrg, rgl, y3, hb7⟩ := h7
  rw [← hrg]
  have HA7 := hide (HA6.out.below hb7)
  have HB7 := hide (HB6.out.trans (hb7.mono HB6.out.size))
  have HRO := hide (show ¬ i.own rg from fun hk => HA6.out.tx.other_new (Nat.le_of_eq hrg.symm) hk)
  have HY3 := hide y3
  clear hrg hb7 y3 HA6 HB6
  by_cases hyes : 1 ≤ size ∧ size ≤ 60 ∧ 1 ≤ block ∧ block ≤ (u.blocks : Int)
  · obtain ⟨h1, h2, h3, h4⟩ := hyes
    obtain ⟨sz, rfl⟩ : ∃ k : Nat, size = (k : Int) := ⟨size.toNat, by omega⟩
    obtain ⟨bk, rfl⟩ : ∃ k : Nat, block = (k : Int) := ⟨block.toNat, by omega⟩
    have hmk := gs_link (size := sz) (block := bk) HA7.out (by simp) (by omega) (by omega) (by omega) (by omega)
    have e1 : GS.fresh.makeR u.nodes = (4, 0) := by unfold GS.makeR; rw [fresh_freeN HN.out.2.2]; rfl
    have hs : (UInt32.ofNat sz).toNat = sz := by rw [UInt32.toNat_ofNat', Nat.mod_eq_of_lt (by omega)]
    have hbk : (UInt16.ofNat bk).toNat = bk := by rw [UInt16.toNat_ofNat', Nat.mod_eq_of_lt (by have := HN.out.2.1; omega)]
    have e2 : (GS.fresh.makeS u.nodes (newL (UInt32.ofNat sz) (UInt16.ofNat bk))).nd 4 = nextN (newL (UInt32.ofNat sz) (UInt16.ofNat bk)) NodeV.zero := by
      unfold GS.makeS; rw [fresh_freeN HN.out.2.2]; simp only [GS.set, upd_same]; rfl
    have hbd := fun W => build_dir W (UInt16.ofNat bk)
    have hbl := fun W => build_lnk W (UInt32.ofNat sz) (UInt16.ofNat bk)
    rw [e1] at hmk
    rw [hbk] at hbd
    rw [hs] at hbl
    generalize GS.fresh.makeS u.nodes (newL (UInt32.ofNat sz) (UInt16.ofNat bk)) = G2 at *
    have hnl : (nextN (newL (UInt32.ofNat sz) (UInt16.ofNat bk)) NodeV.zero).dir.length = 6 := rfl
    generalize nextN (newL (UInt32.ofNat sz) (UInt16.ofNat bk)) NodeV.zero = nl at *
    generalize List.map u16v [UInt16.ofNat bk, 0, 0, 0, 0, 0] = dl at *
    have HMK := hide hmk
    have HE2 := hide e2
    have HBD := hide hbd
    have HBL := hide hbl
    have HNL := hide hnl
    have t1 : decide ((sz : Int) < 1) = false := by simp; omega
    have t2 : decide ((60 : Int) < (sz : Int)) = false := by simp; omega
    have t3 : decide ((bk : Int) < 1) = false := by simp; omega
    have t4 : decide (u.blocks < bk) = false := by simp; omega
    have c1 : IntKind.u32.wrap (sz : Int) = (sz : Int) := by rw [IntKind.wrap_u32]; omega
    have c2 : IntKind.u16.wrap (bk : Int) = (bk : Int) := by rw [IntKind.wrap_u16]; have := HN.out.2.1; omega
    clear h1 h2 h3 h4 hmk e1 e2 hs hbk hbd hbl hnl
    go_wp2_with fail
    refine HMK.out.mono ?_
    rintro e w8 ⟨rfl, s8, ha8, hst8, ht8⟩
    have y8 := (World.cell?_of_block (w := w7) (a := ⟨rg, 3, none⟩) (ht8.block rg rgl HRO.out)).trans HY3.out
    have rgl8 : rg < w8.heap.size := Nat.lt_of_lt_of_le rgl ht8.size
    have hnd := gs_node (num := 4) ha8 (by omega) HN.out.2.2
    rw [HE2.out] at hnd
    have HND := hide hnd
    have HA8 := hide ha8
    have HT8 := hide ((Tch.of_below (S := i.own) HB7.out).trans (ht8.mono HB7.out.size fun _ _ h => h))
    clear ha8 hst8 ht8 hnd HMK
    go_wp2_with fail
    refine HND.out.mono ?_
    rintro e w9 ⟨rfl, s9, ha9, hst9, ht9⟩
    have HT9 := hide (HT8.out.trans (ht9.mono HT8.out.size fun _ _ h => h))
    clear ha9 hst9 ht9 HND HT8
    go_upto_region 11 with (first | ((with_reducible refine at_alloc 52 ?_); refine wpList_alloc_as rfl 52 rfl _ (zero_node _) ?_) | ((with_reducible refine at_store 52 (.tmp 17) (.tmp 73) ?_); refine wpList_store_blk rfl 52 (.tmp 17) (.tmp 73) rfl w9.heap.size _ _ _ (by rfl) (by rfl) (Blk.new _ _ _) (size_nodeOf HNL.out) (by rw [List.size_toArray, List.size_toArray, NodeV.cells_length HNL.out]; rfl) (NodeV.cells_one _) (fun _ => ?_)) | fail)
    refine at_world (fun W => ∃ q, q = w9.heap.size ∧ Below w9.heap.size w9 W ∧ Blk W q 52 nl.cells.toArray) ⟨_, rfl, below_setRow ((Below.refl _ _).alloc (Nat.le_refl _) _) (Nat.le_refl _) _, (Blk.new _ _ _).setRow_same _⟩ (fun w10 h10 => ?_)
    obtain ⟨q, hq, hb10, hQ10⟩ := h10
    rw [← hq]
    have HT10 := hide (HT9.out.trans ((Tch.of_below hb10).mono HT9.out.size fun _ _ h => h))
    have HQ10 := hide hQ10
    clear hq hb10 hQ10 HT9 y8 rgl8
    go_wp2_with (first | (refine wpList_take (by kernel_rfl) ?_) | ((with_reducible refine at_load 52 (.tmp 17) ?_); refine wpList_load_blk rfl 52 (.tmp 17) rfl q _ _ _ (by rfl) HQ10.out Try.underlying52 rfl (size_nodeOf HNL.out) ?_) | ((with_reducible refine at_build 50 #[(0, .tmp 90)] ?_); refine wpList_run rfl _ (exec_build 50 #[(0, .tmp 90)] rfl #[(0, .int .u16 (bk : Int))] (by simp only [List.map_toArray, List.map_cons, List.map_nil]; rfl) _ (HBD.out _)) ?_) | ((with_reducible refine at_build 52 #[(0, .const (.int .u8 4)), (1, .const (.int .u8 1)), (2, .const (.int .u16 1)), (3, .tmp 88), (4, .tmp 91)] ?_); refine wpList_run rfl _ (exec_build 52 #[(0, .const (.int .u8 4)), (1, .const (.int .u8 1)), (2, .const (.int .u16 1)), (3, .tmp 88), (4, .tmp 91)] rfl #[(0, .int .u8 4), (1, .int .u8 1), (2, .int .u16 1), (3, .int .u32 (sz : Int)), (4, .agg dl.toArray)] (by simp only [List.map_toArray, List.map_cons, List.map_nil]; rfl) _ (HBL.out _)) ?_) | ((with_reducible refine at_binop .eql 52 (.tmp 86) (.tmp 92) 52 ?_); refine wpList_run rfl _ (exec_eql_agg 52 (.tmp 86) (.tmp 92) 52 rfl _ _ rfl rfl (by kernel_rfl) _ (node_eq _ HNL.out HNL.out)) ?_) | fail)
    go_returns
    exact ⟨by simp, HT10.out.below fun k hk h => by have := HOWN.out k h; have := HB7.out.size; omega⟩
  · have hno : size < 1 ∨ 60 < size ∨ block < 1 ∨ (u.blocks : Int) < block := by omega
    have hmk := glink_no HA7.out.gp hno
    have HMK := hide hmk
    clear hmk
    go_wp2_with fail
    refine HMK.out.mono ?_
    rintro e w_ ⟨rfl, rfl⟩
    have y8 := HY3.out
    by_cases a1 : size < 1
    · have t1 : decide (size < 1) = true := by simpa using a1
      clear hno hyes a1
      go_wp2
      go_returns
      exact ⟨rfl, HB7.out⟩
    · have t1 : decide (size < 1) = false := by simpa using a1
      by_cases a2 : 60 < size
      · have t2 : decide ((60 : Int) < size) = true := by simpa using a2
        clear hno hyes a1 a2
        go_wp2
        go_returns
        exact ⟨rfl, HB7.out⟩
      · have t2 : decide ((60 : Int) < size) = false := by simpa using a2
        by_cases a3 : block < 1
        · have t3 : decide (block < 1) = true := by simpa using a3
          clear hno hyes a1 a2 a3
          go_wp2
          go_returns
          exact ⟨rfl, HB7.out⟩
        · have t3 : decide (block < 1) = false := by simpa using a3
          have t4 : decide ((u.blocks : Int) < block) = true := by simp; omega
          clear hno hyes a1 a2 a3
          go_wp2
          go_returns
          exact ⟨rfl, HB7.out⟩
end
end Go.Proofs.Ytoeejeieplhifaa

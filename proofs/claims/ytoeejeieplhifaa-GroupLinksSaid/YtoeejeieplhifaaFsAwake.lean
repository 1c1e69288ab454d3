/- The fixed facts of layer 7's laws: walked. -/
import Derived.Test.YtoeejeieplhifaaFsLaw
namespace Go.Proofs.Ytoeejeieplhifaa
open Go.RowKit
set_option linter.unusedSimpArgs false
set_option linter.unusedVariables false

theorem build_size (w : World) : (Instr.build 26 #[]).run Try.prog w = .ok (.agg (szCells 0 (List.replicate 25 0) none 0 0)) w := by kernel_rfl
/-- a configuration of small numbers: what the laws need of it -/
structure SzFacts (R : List RegV) (n : Nat) : Prop where
  tot : totalOf 32 R = (n : Int)
  ge : 32 ≤ n
  le : n ≤ 65536
  two : 2 ≤ R.length
  five : R.length ≤ 5
  geo : ∀ (k : Nat), k < R.length → ∃ (v : GeoV) (r : RegV), (geosOf 32 R)[k]? = some v ∧ R[k]? = some r ∧ (geoN v).Ok n ∧ (geoN v).val = .agg v.cells.toArray ∧ ((geoN v).blocks : Int) = r.blocks ∧ ((geoN v).nodes : Int) = r.nodes ∧ 4 ≤ (geoN v).blocks ∧ (geoN v).blocks ≤ 512 ∧ 4 ≤ (geoN v).nodes ∧ (geoN v).nodes ≤ 128
theorem sz_facts {m : UInt8} {H : List UInt8} (hok : ∀ r ∈ szRegs m H, okReg r) : ∃ n, SzFacts (szRegs m H) n := by
  have h2 := szMany_ge m
  have h5 := szMany_le m
  have hl := szRegs_length m H
  have htb := total_bounds hok 32 (by omega)
  have hge := tot_ge hok 32
  generalize szRegs m H = R at *
  refine ⟨(totalOf 32 R).toNat, by omega, by omega, by omega, by omega, by omega, fun k hk => ?_⟩
  have hv : (geosOf 32 R)[k]? = some ((geosOf 32 R)[k]'(by rw [geosOf_length]; exact hk)) := List.getElem?_eq_getElem _
  obtain ⟨h1, h2, r, hr, h3, h4⟩ := geos_ok hok 32 k _ (by omega) (by omega) hv
  obtain ⟨_, b1, b2, b3, b4⟩ := hok r (List.mem_of_getElem? hr)
  exact ⟨_, r, hv, hr, h1, h2, h3, h4, by omega, by omega, by omega, by omega⟩

set_option maxRecDepth 100000 in
set_option maxHeartbeats 1600000 in
theorem awake7_ok (w : World) : Calls Try.prog 10 #[] w fun e w' => e = .returned (.bool true) ∧ Below w.heap.size w w' := by
  go_enter Try.func10, Try.ntmps10
  go_wp2_with (first | ((with_reducible refine at_build 26 #[] ?_); refine wpList_zero_as rfl 26 rfl _ (build_size _) ?_) | fail)
  refine (size_conf (w := w) (m := 0) (H := List.replicate 25 0) (A := none) (n := 0) (c := 0) (T := []) (by simp) (Rd.nil _ _ _ _) (by decide)).mono ?_
  rintro e w1 ⟨cc, K, tb, nb, lb, B1, B2, B3, d1, d2, d3, rfl, hb1, hin, hK⟩
  obtain ⟨n, hF⟩ := sz_facts (m := 0) (H := List.replicate 25 0) hin.ok
  obtain ⟨v, r, hv, hr, hgo, hval, -, -, g4, -, -, -⟩ := hF.geo 0 (by have := hF.two; omega)
  have hbeg := begun_ok (w := w1) hin hF.tot hF.ge hF.le
  have HC := hide (And.intro hin (And.intro hv (And.intro hval hb1)))
  clear hin hr hv hval hK hb1
  generalize szRegs 0 (List.replicate 25 0) = R at *
  generalize hu : geoN v = u at *
  have HU := hide hu
  have HGO := hide (And.intro hgo g4)
  clear hu hgo g4 hF
  go_wp2_with fail
  refine hbeg.mono ?_
  rintro e w2 ⟨i, rfl, hx, hown, -, hb2⟩
  have hin2 := HC.out.1.below hb2
  have hgop := gopen_yes (tt := i.tt) hin2 HC.out.2.1 (by rw [HU.out]; exact HC.out.2.2.1)
  rw [HU.out, show ((0 : Nat) : Int) = 0 from rfl] at hgop
  have HB2 := hide (HC.out.2.2.2.trans (hb2.mono HC.out.2.2.2.size))
  have HX2 := hide hx
  have HOWN := hide (show ∀ k, i.own k → w.heap.size ≤ k from fun k hk => Nat.le_trans HC.out.2.2.2.size (hown k hk))
  have HGP := hide hgop
  clear hin2 hgop hb2 hx hown hbeg
  go_wp2_with fail
  refine HGP.out.mono ?_
  rintro e w3 ⟨gg, rfl, -, hG, hb3⟩
  have hg0 : u.Ok (begD n).length := by rw [begD_length]; exact HGO.out.1
  have hu4 : 4 ≤ u.blocks := HGO.out.2
  have hub := HGO.out.1.base
  have hx3 := HX2.out.below hb3
  have hf3 : Sto.freeBit ⟨begD n, [], 0⟩ u.base u.blocks = some 0 := free_cons (by omega) (begD_bit (by omega)) (fun j hj => by omega)
  have HT3 := hide (And.intro hx3 (And.intro hG (Tch.of_below (S := i.own) (HB2.out.trans (hb3.mono HB2.out.size)))))
  have ht1 := take_ok hx3 hG hg0 (by simp) hf3 (by omega)
  have HT := hide ht1
  clear hx3 hG hb3 hf3 ht1 hg0 hu4 hub HGP
  go_wp2_with fail
  refine HT.out.mono ?_
  rintro e w4 ⟨rfl, hx4, ht4⟩
  obtain ⟨s1, hs1⟩ : ∃ s1, Sto.take ⟨begD n, [], 0⟩ u 0 = s1 := ⟨_, rfl⟩
  have hok0 := HT3.out.1.ok
  have hg0 : u.Ok (begD n).length := by rw [begD_length]; exact HGO.out.1
  have hu4 : 4 ≤ u.blocks := HGO.out.2
  have hub := HGO.out.1.base
  have hD1 : s1.D = begD n := by rw [← hs1]; exact take_D _ _
  have hM1 : s1.M.length ≤ 2 := by rw [← hs1]; exact take_len _ _
  have hbit1 : ∀ j, j < u.blocks → s1.bit u.base j = decide (j = 0) := fun j hj => by
    rw [← hs1, bit_take hok0 hg0 hj, begD_bit (by omega)]
    by_cases h : j = 0 <;> simp [h]
  rw [hs1] at hx4
  have hG4 := GroupAt.tch HT3.out.1 HT3.out.2.1 ht4
  have hf4 : s1.freeBit u.base u.blocks = some 1 := free_cons (by omega) (by rw [hbit1 1 (by omega)]; rfl) (fun j hj => by rw [hbit1 j (by omega)]; simp; omega)
  have HX4 := hide (And.intro hx4 (And.intro hG4 (HT3.out.2.2.trans (ht4.mono HT3.out.2.2.size fun _ _ h => h))))
  have ht1 := take_ok hx4 hG4 (by rw [hD1]; exact hg0) (by omega) hf4 (by omega)
  have HT := hide ht1
  have HS1 := hide (And.intro hD1 (And.intro hM1 hbit1))
  clear hx4 hG4 ht4 hf4 ht1 hD1 hM1 hbit1 hs1 hok0 hg0 hu4 hub HT3
  go_wp2_with fail
  refine HT.out.mono ?_
  rintro e w5 ⟨rfl, hx5, ht5⟩
  obtain ⟨s2, hs2⟩ : ∃ s2, Sto.take s1 u 1 = s2 := ⟨_, rfl⟩
  obtain ⟨hD1, hM1, hbit1⟩ := HS1.out
  have hg0 : u.Ok (begD n).length := by rw [begD_length]; exact HGO.out.1
  have hu4 : 4 ≤ u.blocks := HGO.out.2
  have hub := HGO.out.1.base
  have hD2 : s2.D = begD n := by rw [← hs2, take_D]; exact hD1
  have hM2 : s2.M.length ≤ 4 := by rw [← hs2]; have := take_len (s := s1) u 1; omega
  have hbit2 : ∀ j, j < u.blocks → s2.bit u.base j = decide (j ≤ 1) := fun j hj => by
    rw [← hs2, bit_take HX4.out.1.ok (by rw [hD1]; exact hg0) hj, hbit1 j hj]
    by_cases h : j = 1
    · simp [h]
    · rw [if_neg h]; simp; omega
  rw [hs2] at hx5
  have hG5 := GroupAt.tch HX4.out.1 HX4.out.2.1 ht5
  have ht1 := give_ok (k := 0) hx5 hG5 (by rw [hD2]; exact hg0) (by omega) (by omega) (by rw [hbit2 0 (by omega)]; rfl)
  rw [show ((0 + 1 : Nat) : Int) = 1 from rfl] at ht1
  have HX5 := hide (And.intro hx5 (And.intro hG5 (HX4.out.2.2.trans (ht5.mono HX4.out.2.2.size fun _ _ h => h))))
  have HT := hide ht1
  have HS2 := hide (And.intro hD2 (And.intro hM2 hbit2))
  clear hx5 hG5 ht5 ht1 hD2 hM2 hbit2 hs2 hg0 hu4 hub hD1 hM1 hbit1 HS1 HX4
  go_wp2_with fail
  refine HT.out.mono ?_
  rintro e w6 ⟨rfl, hx6, ht6⟩
  obtain ⟨s3, hs3⟩ : ∃ s3, Sto.setBit s2 u.base 0 false = s3 := ⟨_, rfl⟩
  obtain ⟨hD2, hM2, hbit2⟩ := HS2.out
  have hg0 : u.Ok (begD n).length := by rw [begD_length]; exact HGO.out.1
  have hu4 : 4 ≤ u.blocks := HGO.out.2
  have hub := HGO.out.1.base
  have hD3 : s3.D = begD n := by rw [← hs3, setBit_D]; exact hD2
  have hM3 : s3.M.length ≤ 5 := by rw [← hs3]; have := setBit_len s2 u.base 0 false; omega
  have hb3 : s3.bit u.base 0 = false := by rw [← hs3, bit_setBit HX5.out.1.ok, if_pos rfl]
  rw [hs3] at hx6
  have hG6 := GroupAt.tch HX5.out.1 HX5.out.2.1 ht6
  have ht1 := take_ok hx6 hG6 (by rw [hD3]; exact hg0) (by omega) (free_cons (k := 0) (by omega) hb3 (fun j hj => by omega)) (by omega)
  have HX6 := hide (And.intro hx6 (And.intro hG6 (HX5.out.2.2.trans (ht6.mono HX5.out.2.2.size fun _ _ h => h))))
  have HT := hide ht1
  clear hx6 hG6 ht6 ht1 hD3 hM3 hb3 hs3 hg0 hu4 hub hD2 hM2 hbit2 HS2 HX5
  go_wp2_with fail
  refine HT.out.mono ?_
  rintro e w7 ⟨rfl, hx7, ht7⟩
  have htc := HX6.out.2.2.trans (ht7.mono HX6.out.2.2.size fun _ _ h => h)
  have HF := hide (htc.below fun k hk h => by have := HOWN.out k h; omega)
  clear hx7 ht7 htc HX6 HT
  go_wp2
  go_returns
  exact ⟨rfl, HF.out⟩
end Go.Proofs.Ytoeejeieplhifaa

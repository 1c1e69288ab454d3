/- ConfBack: the walk of the law. -/
import Derived.Test.YtniboffmdkeacaaDoorConfTxP
import Derived.Test.YtniboffmdkeacaaDoorConfAw
import Derived.Test.YtniboffmdkeacaaDoorConfSame
namespace Go.Proofs.YtniboffmdkeacaaDoor
open Go.RowKit Go.WideMaps
set_option linter.unusedSimpArgs false
set_option linter.unusedVariables false

section
variable {m : UInt8} {H : List UInt8} {A : Option Addr} {n c : Nat} {T : List UInt8} {w : World}
set_option maxRecDepth 100000 in
set_option maxHeartbeats 4000000 in
theorem back_all (hL : Lw w) (hD : Db w) (hH : H.length = 25) (hT : Rd w w.heap.size 1 A n (bvs T)) (hnm : n ≤ 9223372036854775807) :
    Calls Tryd.prog 6 #[.agg (szCells m H A n c)] w fun e w' => e = .returned (.bool true) ∧ Below w.heap.size w w' := by
  have hsz : (szCells m H A n c).size = 27 := szCells_size hH
  go_enter Tryd.func6, Tryd.ntmps6
  go_upto_region 1 with (fail)
  refine at_world (fun W => ∃ bx, bx = w.heap.size ∧ Below w.heap.size w W ∧ Blk W bx 26 (szCells m H A n c)) ⟨_, rfl, (Below.refl _ _).alloc (Nat.le_refl _) _, Blk.new _ _ _⟩ (fun w1 h1 => ?_)
  obtain ⟨bx, hbx, hb1, hX1⟩ := h1
  rw [← hbx]
  have hS : ((Tryd.prog.info? 26).map (·.size)) = some (szCells m H A n c).size := by rw [hsz]; kernel_rfl
  have HS := hide hS
  have HB1 := hide hb1
  have HX1 := hide hX1
  have hL1 := hL.below' hb1
  clear hbx hX1 hS hsz hb1
  go_wp2_with fail
  refine (awake2_ok w1 hL1).mono ?_
  rintro e w2 ⟨rfl, hb2⟩
  have HX2 := hide (HX1.out.below hb2 HX1.out.lt)
  have HB2 := hide (HB1.out.trans (hb2.mono HB1.out.size))
  have hT2 := (hT.below HB2.out).more HB2.out.size
  clear hb2 HB1 HX1 hL1
  go_wp2_with (first | (refine wpList_load_row rfl 26 (.tmp 1) (by rfl) bx (by rfl) 26 (szCells m H A n c) (0, 0) _ HX2.out Tryd.underlying26 rfl HS.out ?_) | fail)
  refine (size_regs (w := w2) hH hT2 hnm).mono ?_
  rintro e w3 ⟨K, A1, A2, c1, c2, rfl, hb3, o1, o2, hK⟩
  have hM := szMany_le m
  have hrd := sz_reads m H
  have hnd := sz_names m H
  have hne := sz_ok m H K hK.1 hK.2.1
  have hl := szRegs_length m H
  have hkl := hK.2.2
  have hkr : ∀ x ∈ K, x.1.toNat < (szRegs m H).length ∧ x.2.toNat < 100 := fun x hx => by have := hK.1 x hx; rw [hl]; omega
  have hk128 : ∀ x ∈ K, x.2.toNat ≤ 128 := fun x hx => by have := hK.1 x hx; omega
  rw [← hl] at o1 hM ⊢
  generalize szRegs m H = R at *
  have hT' : ∀ r ∈ R, OkT R.length r := fun r hr => (hrd r hr).ok
  have hpt := parse_text hrd hnd hkr (by omega) (by omega)
  have has := text_ascii (K := K) hrd hkr
  have htl := text_len (K := K) hrd (by omega) (by omega)
  have HB3 := hide (HB2.out.trans (hb3.mono HB2.out.size))
  have O1 := hide o1
  have O2 := hide o2
  clear hl hb3 HB2 HX2 HS hT2 hT o1 o2 hK
  have hnew := new_ok (R := R) (K := K) (w := w3) (A := A1) (cA := c1) (A' := A2) (cA' := c2) (Rd.of_own O1.out) (Rd.of_own O2.out) (by omega) (by omega)
  go_wp2_with fail
  refine hnew.mono ?_
  rintro e w4 ⟨hb4, h0, _⟩
  obtain ⟨cc, tb, nb, lb, B1, B2, B3, d1, d2, d3, rfl, hin⟩ := h0 hne
  have HB4 := hide (HB3.out.trans (hb4.mono HB3.out.size))
  have O14 := hide (own_below O1.out hb4)
  have O24 := hide (own_below O2.out hb4)
  have IN := hide hin
  clear hnew h0 hin hb4 O1 O2 HB3
  go_wp2_with fail
  refine (ctext_ok IN.out (hD.below' HB4.out) (by omega) (by omega) hT' hkr).mono ?_
  rintro e w5 ⟨rfl, hb5⟩
  have HB5 := hide (HB4.out.trans (hb5.mono HB4.out.size))
  have O15 := hide (own_below O14.out hb5)
  have O25 := hide (own_below O24.out hb5)
  have IN5 := hide (IN.out.below hb5)
  clear hb5 HB4 O14 O24 IN
  go_wp2_with fail
  refine (parse_ok ⟨(textT R K).toArray⟩ w5 (by rw [zs]; omega) (fun j b h => has b (List.mem_of_getElem? h)) (hL.below' HB5.out)).mono ?_
  rintro e w6 ⟨hb6, hp⟩
  rw [hpt] at hp
  obtain ⟨cd, tb', nb', lb', B1', B2', B3', d1', d2', d3', rfl, hin6⟩ := hp.1 hne
  have HB6 := hide (HB5.out.trans (hb6.mono HB5.out.size))
  have O16 := hide (own_below O15.out hb6)
  have O26 := hide (own_below O25.out hb6)
  have IN6 := hide (IN5.out.below hb6)
  have JN6 := hide hin6
  clear hp hb6 HB5 O15 O25 IN5 hin6 hpt has
  generalize HTX : textT R K = tx at *
  have HT := hide HTX
  clear HTX
  go_wp2_with fail
  refine (same_ok JN6.out (Rd.of_own O16.out) (Rd.of_own O26.out) (by omega) (by omega) hk128).mono ?_
  rintro e w7 ⟨rfl, hb7⟩
  have HB7 := hide (HB6.out.trans (hb7.mono HB6.out.size))
  have IN7 := hide (IN6.out.below hb7)
  have JN7 := hide (JN6.out.below hb7)
  clear hb7 HB6 O16 O26 IN6 JN6
  go_wp2_with fail
  refine (ctext_ok JN7.out (hD.below' HB7.out) (by omega) (by omega) hT' hkr).mono ?_
  rintro e w8 ⟨rfl, hb8⟩
  rw [HT.out]
  have HB8 := hide (HB7.out.trans (hb8.mono HB7.out.size))
  have IN8 := hide (IN7.out.below hb8)
  clear hb8 HB7 IN7 JN7
  go_wp2_with fail
  refine (ctext_ok IN8.out (hD.below' HB8.out) (by omega) (by omega) hT' hkr).mono ?_
  rintro e w9 ⟨rfl, hb9⟩
  rw [HT.out]
  have HB9 := hide (HB8.out.trans (hb9.mono HB8.out.size))
  clear hb9 HB8 IN8
  go_wp2
  go_returns
  exact ⟨rfl, HB9.out⟩
end
end Go.Proofs.YtniboffmdkeacaaDoor

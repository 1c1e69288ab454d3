/- The document's answer: the number that tells configurations apart. -/
import Derived.Test.YtniboffmdkeacaaDoorConfRefG
import Derived.Test.YtniboffmdkeacaaDoorConfSum
namespace Go.Proofs.YtniboffmdkeacaaDoor
open Go.RowKit Go.WideMaps
set_option linter.unusedSimpArgs false
set_option linter.unusedVariables false

section
variable {A : Option Addr} {cA : Nat} {R : List RegV} {w : World}
set_option maxRecDepth 100000 in
set_option maxHeartbeats 2000000 in
theorem rsum_ok (hr : Rd w w.heap.size 9 A R.length (rcellsOf R)) (hok : ∀ r ∈ R, okReg r) (hl : R.length ≤ 64) :
    Calls Tryd.prog 32 #[.slice A R.length cA] w fun e w' => e = .returned (.int .u32 ((sumP R : Nat) : Int)) ∧ Below w.heap.size w w' := by
  have hG : (geosOf 32 R).length = R.length := geosOf_length 32 R
  have hS : ∀ i g, (geosOf 32 R)[i]? = some g → GeoS g := fun i g hg => geoS_at hok hl hg
  have hgeo := rgeos_ok (cA := cA) hr hok hl
  have HSUM : Hid (sumP R = sumG 2166136261 (geosOf 32 R)) := hide rfl
  go_enter Tryd.func32, Tryd.ntmps32
  refine at_world (fun W => W = w) rfl (fun w0 e0 => ?_)
  subst e0
  go_wp2_with fail
  refine hgeo.mono ?_
  rintro e w1 ⟨A', c', rfl, hb1, ho⟩
  clear hgeo hr hok
  generalize totalOf 32 R = tot at *
  generalize geosOf 32 R = G at *
  rw [← hG] at ho
  have hcell : ∀ i g, G[i]? = some g → ∃ b, A' = some ⟨b, 0, none⟩ ∧ b < w1.heap.size ∧ ∀ j v, g.cells[j]? = some v → w1.cell? ⟨b, i * 6 + j, none⟩ = some v := fun i g hg => by
    obtain ⟨b, hA, _, hbl, hc⟩ := own_base ho (by have := (List.getElem?_eq_some_iff.1 hg).1; omega)
    exact ⟨b, hA, hbl, fun j v hv => hc _ _ (flat_get GeoV.cells 6 (fun _ => rfl) G i g hg j v hv)⟩
  rw [← hG]
  rw [← hG] at hl
  have HB1 := hide hb1
  clear hG ho hb1
  go_wp2_with fail
  go_loopg [5, 6] G.length (fun g x5 x6 wr => ∃ i : Nat, i ≤ G.length ∧ g = G.length - i ∧ x5 = .int .u64 ((sumG 2166136261 (G.take i) : Nat) : Int) ∧ x6 = .int .i64 (i : Int) ∧ Below w1.heap.size w1 wr)
  case atStart => exact ⟨0, Nat.zero_le _, rfl, rfl, rfl, Below.refl _ _⟩
  case round =>
    obtain ⟨i, hi, hg, rfl, rfl, hbr⟩ := hrel
    rcases Nat.lt_or_ge i G.length with hiG | hiG
    · have hiz : (i : Int) < G.length := by omega
      obtain ⟨g, hgi⟩ : ∃ g, G[i]? = some g := ⟨_, List.getElem?_eq_getElem hiG⟩
      obtain ⟨b, hA, hbl, hcc⟩ := hcell i g hgi
      have hs := hS i g hgi
      have y0 := (hbr.cell (p := ⟨b, i * 6 + 0, none⟩) hbl).trans (hcc 0 _ rfl)
      have y4 := (hbr.cell (p := ⟨b, i * 6 + 4, none⟩) hbl).trans (hcc 4 _ rfl)
      have y5 := (hbr.cell (p := ⟨b, i * 6 + 5, none⟩) hbl).trans (hcc 5 _ rfl)
      simp only [Nat.add_zero] at y0
      have hblr := Nat.lt_of_lt_of_le hbl hbr.size
      have hn0 := sumG_lt (G.take i) 2166136261 (by decide)
      have htk : sumG 2166136261 (G.take (i + 1)) = (geoNs g).foldl sumStep (sumG 2166136261 (G.take i)) := by rw [List.take_add_one, hgi]; exact sumG_snoc _ _ _
      have HTK := hide htk
      generalize sumG 2166136261 (G.take i) = n0 at *
      subst hA
      have BB := hide hbr
      clear hcc hgi htk hbr
      go_wp2
      refine wp_region_text [0, 0, 0, 0, 0, 0, 0, 0, 0, 0, 0, 0, 0, 0, 0, 1, 0] (Below wr.heap.size wr) (by kernel_rfl) (by kernel_rfl) (Below.refl _ _).drew ?_
      iterate 15 (refine wpOrd_q (v := ?_) (by rfl) (fun W hW => ?_) ?_; rotate_left; (focus ((obtain ⟨hWc, hWf⟩ := bcell hW); go_simp; try with_reducible rfl)); try simp only [Act.put, List.setIfInBounds_toArray, List.set_cons_zero, List.set_cons_succ])
      refine wpOrd_x (by rfl) (fun K hK => ?_)
      go_simp
      refine hK (Below wr.heap.size wr) _ _ (fun _ h => h) ((Below.refl _ _).alloc (Nat.le_refl _) _).drew ?_
      clear hK K
      try simp only [Act.put, List.setIfInBounds_toArray, List.set_cons_zero, List.set_cons_succ]
      iterate 1 (refine wpOrd_q (v := ?_) (by rfl) (fun W hW => ?_) ?_; rotate_left; (focus (go_simp; try with_reducible rfl)); try simp only [Act.put, List.setIfInBounds_toArray, List.set_cons_zero, List.set_cons_succ])
      refine wpOrd_nil ?_
      refine at_world (fun W => ∃ g21, g21 = wr.heap.size ∧ Below wr.heap.size wr W ∧ g21 < W.heap.size ∧ ∀ j, j < 3 → W.cell? ⟨g21, j, none⟩ = some (.int .i64 (((geoNs g).getD j 0 : Nat) : Int))) ?_ (fun w5 h5 => ?_)
      · refine ⟨_, rfl, ((Below.refl _ _).alloc (Nat.le_refl _) _).drew, by simp, fun j hj => ?_⟩
        have e0 := Int.toNat_of_nonneg hs.b0
        have e1 := Int.toNat_of_nonneg hs.l0
        have e2 := Int.toNat_of_nonneg hs.n0
        have hc9 := fun j => (Blk.new wr 3 #[.int .i64 g.base, .int .i64 g.blocks, .int .i64 g.nodes]).drew.cell j
        match j, hj with
        | 0, _ => exact (hc9 0).trans (by simp [geoNs, e0])
        | 1, _ => exact (hc9 1).trans (by simp [geoNs, e1])
        | 2, _ => exact (hc9 2).trans (by simp [geoNs, e2])
      obtain ⟨g21, e21, hb5, hl21, hc21⟩ := h5
      rw [← e21]
      have hxs : ∀ j, j < 3 → (geoNs g).getD j 0 < 2147483648 := fun j hj => by
        have := hs.b0; have := hs.b1; have := hs.l0; have := hs.l1; have := hs.n0; have := hs.n1
        match j, hj with
        | 0, _ => simp [geoNs]; omega
        | 1, _ => simp [geoNs]; omega
        | 2, _ => simp [geoNs]; omega
      have hx3 : (geoNs g).length = 3 := rfl
      generalize geoNs g = xs at *
      have B5 := hide (BB.out.trans (hb5.mono BB.out.size))
      clear e21 hb5 y0 y4 y5 hs
      go_wp2_with fail
      go_loopg [5, 8] 3 (fun gg x5 x8 wr => wr = w5 ∧ ∃ j : Nat, j ≤ 3 ∧ gg = 3 - j ∧ x5 = .int .u64 (((xs.take j).foldl sumStep n0 : Nat) : Int) ∧ x8 = .int .i64 (j : Int))
      case atStart => exact ⟨rfl, 0, by omega, rfl, rfl, rfl⟩
      case round =>
        obtain ⟨rfl, j, hj, hg2, rfl, rfl⟩ := hrel
        rcases Nat.lt_or_ge j 3 with hj3 | hj3
        · have hjz : (j : Int) < 3 := by omega
          have jc := hc21 j hj3
          have hx := hxs j hj3
          have hnj := foldS_lt (xs.take j) n0 hn0
          have hst : (xs.take (j + 1)).foldl sumStep n0 = sumStep ((xs.take j).foldl sumStep n0) (xs.getD j 0) := by
            have hjx : j < xs.length := by omega
            rw [List.take_add_one, List.getElem?_eq_getElem hjx, Option.toList_some, List.foldl_append, List.getD_eq_getElem?_getD, List.getElem?_eq_getElem hjx, List.foldl_cons, List.foldl_nil, Option.getD_some]
          generalize xs.getD j 0 = x at *
          generalize (xs.take j).foldl sumStep n0 = nj at *
          have e1 : IntKind.u64.wrap (x : Int) = (x : Int) := by rw [IntKind.wrap_u64]; omega
          have e2 : bits .xor .u64 (nj : Int) (x : Int) = ((nj ^^^ x : Nat) : Int) := u64_xor_nat nj x (by omega) (by omega)
          obtain ⟨z, hz⟩ : ∃ z, z = nj ^^^ x := ⟨_, rfl⟩
          have hzl := xor_lt32 hnj (show x < 4294967296 by omega)
          rw [← hz] at hzl
          obtain ⟨s, hsz⟩ : ∃ s, s = sumStep nj x := ⟨_, rfl⟩
          obtain ⟨pz, hpz⟩ : ∃ pz : Nat, pz = z * 16777619 := ⟨_, rfl⟩
          have e3 : IntKind.u64.wrap ((z : Int) * 16777619) = (pz : Int) := by rw [IntKind.wrap_u64]; omega
          have e4 : (pz : Int).tmod 4294967296 = (s : Int) := by rw [IntWalk.rem_in _ _ (by omega), hsz, sumStep_eq, ← hz]; omega
          rw [← hz] at e2
          rw [← hsz] at hst
          have HST := hide hst
          clear hst hz hsz hpz hc21 hxs
          go_wp2
          go_roundg (3 - (j + 1))
          case measure => omega
          case rel => exact ⟨rfl, j + 1, by omega, rfl, by rw [HST.out], by go_num⟩
        · obtain rfl : j = 3 := by omega
          rw [show xs.take 3 = xs by rw [← hx3]; exact List.take_length, ← HTK.out]
          clear hc21 hxs
          go_wp2
          go_roundg (G.length - (i + 1))
          case measure => omega
          case rel => exact ⟨i + 1, by omega, rfl, rfl, by go_num, B5.out⟩
    · obtain rfl : i = G.length := by omega
      have hlt := sumG_lt (G.take G.length) 2166136261 (by decide)
      rw [List.take_length, ← HSUM.out] at hlt ⊢
      have e1 : IntKind.u32.wrap ((sumP R : Nat) : Int) = ((sumP R : Nat) : Int) := by rw [IntKind.wrap_u32]; omega
      clear hcell hS
      obtain ⟨sp, hsp⟩ : ∃ sp, sp = sumP R := ⟨_, rfl⟩
      rw [← hsp] at hlt e1 ⊢
      have HSP := hide hsp
      clear hsp
      go_wp2
      go_returns
      exact ⟨by rw [← HSP.out]; rfl, HB1.out.trans (hbr.mono HB1.out.size)⟩
end
end Go.Proofs.YtniboffmdkeacaaDoor

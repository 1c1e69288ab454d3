/- Configurations: the number that tells them apart. -/
import Derived.Test.YtniboffmdkeacaaDoorConfUse
import Derived.Test.YtniboffmdkeacaaDoorConfGrp
import Derived.Deep.LoopGhost
import Derived.Laws.BitsAllLaws
namespace Go.Proofs.YtniboffmdkeacaaDoor
open Go.RowKit Go.WideMaps
set_option linter.unusedSimpArgs false
set_option linter.unusedVariables false

def sumStep (n x : Nat) : Nat := ((n ^^^ x) * 16777619) % 4294967296
theorem sumStep_eq (n x : Nat) : sumStep n x = ((n ^^^ x) * 16777619) % 4294967296 := by unfold sumStep; exact Eq.refl _
theorem sumStep_lt (n x : Nat) : sumStep n x < 4294967296 := by rw [sumStep_eq]; exact Nat.mod_lt _ (by decide)
attribute [irreducible] sumStep
def geoNs (g : GeoV) : List Nat := [g.base.toNat, g.blocks.toNat, g.nodes.toNat]
def sumG (n : Nat) (G : List GeoV) : Nat := G.foldl (fun n g => (geoNs g).foldl sumStep n) n
def sumP (R : List RegV) : Nat := sumG 2166136261 (geosOf 32 R)
theorem foldS_lt : ∀ (l : List Nat) (n : Nat), n < 4294967296 → l.foldl sumStep n < 4294967296
  | [], n, h => h
  | x :: l, n, _ => foldS_lt l _ (sumStep_lt n x)
theorem sumG_lt (G : List GeoV) (n : Nat) (h : n < 4294967296) : sumG n G < 4294967296 := by
  induction G generalizing n with
  | nil => exact h
  | cons g G ih => exact ih ((geoNs g).foldl sumStep n) (foldS_lt (geoNs g) n h)
theorem sumG_snoc (n : Nat) (G : List GeoV) (g : GeoV) : sumG n (G ++ [g]) = (geoNs g).foldl sumStep (sumG n G) := by
  unfold sumG
  rw [List.foldl_append, List.foldl_cons, List.foldl_nil]
/-- a group's numbers are small -/
structure GeoS (g : GeoV) : Prop where
  b0 : 0 ≤ g.base
  b1 : g.base < 2147483648
  l0 : 0 ≤ g.blocks
  l1 : g.blocks < 2147483648
  n0 : 0 ≤ g.nodes
  n1 : g.nodes < 2147483648
theorem geoS_at {R : List RegV} (hok : ∀ r ∈ R, okReg r) (hl : R.length ≤ 64) {i : Nat} {g : GeoV} (h : (geosOf 32 R)[i]? = some g) : GeoS g := by
  rw [geos_get] at h
  obtain ⟨r, hr, rfl⟩ := Option.map_eq_some_iff.1 h
  have hrb := (hok r (List.mem_of_getElem? hr)).2
  have htb := total_bounds (R := R.take i) (fun x hx => hok x (List.mem_of_mem_take hx)) 32 (by omega)
  have htl : ((R.take i).length : Int) ≤ 64 := by rw [List.length_take]; omega
  refine ⟨?_, ?_, ?_, ?_, ?_, ?_⟩ <;> simp only [geoOf] <;> omega
theorem xor_lt32 {a b : Nat} (ha : a < 4294967296) (hb : b < 4294967296) : a ^^^ b < 4294967296 := Nat.xor_lt_two_pow (n := 32) ha hb

section
variable {B : Nat} {w w' : World} {c : Nat} {R : List RegV} {K : List MarkV} {tb nb lb : Nat} {A1 A2 A3 : Option Addr} {c1 c2 c3 : Nat}
theorem groups_ok (h : ConfIn B w c R K tb nb lb A1 A2 A3 c1 c2 c3) :
    Calls Tryd.prog 56 #[.pointer (some ⟨c, 0, none⟩)] w fun e w' => e = .returned (.slice A3 (geosOf 32 R).length c3) ∧ w' = w := by
  have k5 := h.blk.cell 5
  have kl := h.blk.lt
  clear h
  go_enter Tryd.func56, Tryd.ntmps56
  go_wp2
  go_returns
  exact ⟨rfl, rfl⟩
set_option maxRecDepth 100000 in
set_option maxHeartbeats 1000000 in
theorem csum_ok (h : ConfIn B w c R K tb nb lb A1 A2 A3 c1 c2 c3) (hl : R.length ≤ 64) :
    Calls Tryd.prog 31 #[.pointer (some ⟨c, 0, none⟩)] w fun e w' => e = .returned (.int .u32 ((sumP R : Nat) : Int)) ∧ Below w.heap.size w w' := by
  have hG : (geosOf 32 R).length = R.length := geosOf_length 32 R
  have hS : ∀ i g, (geosOf 32 R)[i]? = some g → GeoS g := fun i g hg => geoS_at h.ok hl hg
  have hcell : ∀ i g, (geosOf 32 R)[i]? = some g → ∃ b, A3 = some ⟨b, 0, none⟩ ∧ b < w.heap.size ∧ ∀ j v, g.cells[j]? = some v → w.cell? ⟨b, i * 6 + j, none⟩ = some v := fun i g hg => h.geoc hg
  have hgr := groups_ok h
  have HSUM : Hid (sumP R = sumG 2166136261 (geosOf 32 R)) := hide rfl
  generalize geosOf 32 R = G at *
  have hl6 : G.length ≤ 64 := by omega
  clear h hG
  go_enter Tryd.func31, Tryd.ntmps31
  go_wp2_with fail
  refine hgr.mono ?_
  rintro e w1 ⟨rfl, rfl⟩
  clear hgr
  go_wp2_with fail
  go_loopg [3, 11] G.length (fun g x3 x11 wr => ∃ i : Nat, i ≤ G.length ∧ g = G.length - i ∧ x3 = .int .u32 ((sumG 2166136261 (G.take i) : Nat) : Int) ∧ x11 = .int .i64 (i : Int) ∧ Below w1.heap.size w1 wr)
  case atStart => exact ⟨0, Nat.zero_le _, rfl, rfl, rfl, Below.refl _ _⟩
  case round =>
    obtain ⟨i, hi, hg, rfl, rfl, hbr⟩ := hrel
    rcases Nat.lt_or_ge i G.length with hiG | hiG
    · have hiz : (i : Int) < G.length := by omega
      obtain ⟨g, hgi⟩ : ∃ g, G[i]? = some g := ⟨_, List.getElem?_eq_getElem hiG⟩
      obtain ⟨b, hA, hbl, hcc⟩ := hcell i g hgi
      have hs := hS i g hgi
      have y0 := (hbr.cell (p := ⟨b, i * 6 + 0, none⟩) hbl).trans (hcc 0 _ rfl)
      have y1 := (hbr.cell (p := ⟨b, i * 6 + 1, none⟩) hbl).trans (hcc 1 _ rfl)
      have y2 := (hbr.cell (p := ⟨b, i * 6 + 2, none⟩) hbl).trans (hcc 2 _ rfl)
      have y3 := (hbr.cell (p := ⟨b, i * 6 + 3, none⟩) hbl).trans (hcc 3 _ rfl)
      have y4 := (hbr.cell (p := ⟨b, i * 6 + 4, none⟩) hbl).trans (hcc 4 _ rfl)
      have y5 := (hbr.cell (p := ⟨b, i * 6 + 5, none⟩) hbl).trans (hcc 5 _ rfl)
      simp only [Nat.add_zero] at y0
      have hblr := Nat.lt_of_lt_of_le hbl hbr.size
      have hn0 := sumG_lt (G.take i) 2166136261 (by decide)
      have htk : sumG 2166136261 (G.take (i + 1)) = (geoNs g).foldl sumStep (sumG 2166136261 (G.take i)) := by rw [List.take_add_one, hgi]; exact sumG_snoc _ _ _
      have HTK := hide htk
      generalize sumG 2166136261 (G.take i) = n0 at *
      subst hA
      have BB := hide hbr
      clear hcc hgi htk hbr
      go_wp2_with fail
      refine at_world (fun W => ∃ g21, g21 = wr.heap.size + 1 ∧ Below wr.heap.size wr W ∧ g21 < W.heap.size ∧ ∀ j, j < 3 → W.cell? ⟨g21, j, none⟩ = some (.int .i64 (((geoNs g).getD j 0 : Nat) : Int))) ?_ (fun w5 h5 => ?_)
      · refine ⟨_, rfl, ((Below.refl _ _).alloc (Nat.le_refl _) _).alloc (by simp) _, by simp, fun j hj => ?_⟩
        rw [cell_of_row _ _ _ _ _ _ (by have := heap_alloc_new (wr.alloc (.cells #[.int .i64 g.base, .int .i64 g.bitmap, .int .i64 g.table, .int .i64 g.data, .int .i64 g.blocks, .int .i64 g.nodes] 69)) (.cells #[.int .i64 g.base, .int .i64 g.blocks, .int .i64 g.nodes] 3); simpa using this)]
        have e0 := Int.toNat_of_nonneg hs.b0
        have e1 := Int.toNat_of_nonneg hs.l0
        have e2 := Int.toNat_of_nonneg hs.n0
        match j, hj with
        | 0, _ => simp [geoNs, e0]
        | 1, _ => simp [geoNs, e1]
        | 2, _ => simp [geoNs, e2]
      obtain ⟨g21, e21, hb5, hl21, hc21⟩ := h5
      rw [← e21]
      have hxs : ∀ j, j < 3 → (geoNs g).getD j 0 < 2147483648 := fun j hj => by
        have := hs.b0; have := hs.b1; have := hs.l0; have := hs.l1; have := hs.n0; have := hs.n1
        match j, hj with
        | 0, _ => simp [geoNs]; omega
        | 1, _ => simp [geoNs]; omega
        | 2, _ => simp [geoNs]; omega
      have hx3 : (geoNs g).length = 3 := rfl
      generalize geoNs g = xs at *
      have B5 := hide (BB.out.trans (hb5.mono BB.out.size))
      clear e21 hb5 y0 y1 y2 y3 y4 y5 hs
      go_loopg [3, 23] 3 (fun gg x3 x23 wr => wr = w5 ∧ ∃ j : Nat, j ≤ 3 ∧ gg = 3 - j ∧ x3 = .int .u32 (((xs.take j).foldl sumStep n0 : Nat) : Int) ∧ x23 = .int .i64 (j : Int))
      case atStart => exact ⟨rfl, 0, by omega, rfl, rfl, rfl⟩
      case round =>
        obtain ⟨rfl, j, hj, hg2, rfl, rfl⟩ := hrel
        rcases Nat.lt_or_ge j 3 with hj3 | hj3
        · have hjz : (j : Int) < 3 := by omega
          have jc := hc21 j hj3
          have hx := hxs j hj3
          have hnj := foldS_lt (xs.take j) n0 hn0
          have hst : (xs.take (j + 1)).foldl sumStep n0 = sumStep ((xs.take j).foldl sumStep n0) (xs.getD j 0) := by
            have hjx : j < xs.length := by omega
            rw [List.take_add_one, List.getElem?_eq_getElem hjx, Option.toList_some, List.foldl_append, List.getD_eq_getElem?_getD, List.getElem?_eq_getElem hjx, List.foldl_cons, List.foldl_nil, Option.getD_some]
          generalize xs.getD j 0 = x at *
          generalize (xs.take j).foldl sumStep n0 = nj at *
          have e1 : IntKind.u32.wrap (x : Int) = (x : Int) := by rw [IntKind.wrap_u32]; omega
          have e2 : bits .xor .u32 (nj : Int) (x : Int) = ((nj ^^^ x : Nat) : Int) := u32_xor_nat nj x hnj (by omega)
          obtain ⟨z, hz⟩ : ∃ z, z = nj ^^^ x := ⟨_, rfl⟩
          have hzl := xor_lt32 hnj (show x < 4294967296 by omega)
          obtain ⟨s, hsz⟩ : ∃ s, s = sumStep nj x := ⟨_, rfl⟩
          have e3 : IntKind.u32.wrap ((z : Int) * 16777619) = (s : Int) := by rw [IntKind.wrap_u32, hsz, sumStep_eq, ← hz]; omega
          rw [← hz] at e2
          rw [← hsz] at hst
          have HST := hide hst
          clear hst hz hsz hc21 hxs
          go_wp2
          go_roundg (3 - (j + 1))
          case measure => omega
          case rel => exact ⟨rfl, j + 1, by omega, rfl, by rw [HST.out], by go_num⟩
        · obtain rfl : j = 3 := by omega
          rw [show xs.take 3 = xs by rw [← hx3]; exact List.take_length, ← HTK.out]
          clear hc21 hxs
          go_wp2
          go_roundg (G.length - (i + 1))
          case measure => omega
          case rel => exact ⟨i + 1, by omega, rfl, rfl, by go_num, B5.out⟩
    · obtain rfl : i = G.length := by omega
      rw [List.take_length, ← HSUM.out]
      clear hcell hS
      go_wp2
      go_returns
      exact ⟨rfl, hbr⟩
end
end Go.Proofs.YtniboffmdkeacaaDoor

/- PipePlays: its acts, opened. -/
import Derived.Test.YtkjgieehiimiiaaPipePlay
import Derived.Test.YtkjgieehiimiiaaArgs
import Derived.Deep.Slices
import Derived.Deep.Fields
namespace Go.Proofs.Ytkjgieehiimiiaa
open Go.RowKit Go.ChangeShapes Go.WideShapes Go.ChangeAt Go.Joins Go.Deep

section
variable {H : Type} {enc : TypeId × Value → H} {P : Program} {w : World} {base : Nat} {held : Bool} {fuel : Nat} {t e eb : TypeId} {v : Value} {r : Reach} {b0 : Nat} {d : DataW H} {ps : List MemPlace}
theorem some_of_get {α : Type} {xs : List α} {n i : Nat} (h : xs.length = n) (hi : i < n) : ∃ y, xs[i]? = some y := ⟨xs[i]'(by omega), List.getElem?_eq_getElem _⟩
theorem open_acts {f0 f1 f2 f3 f4 f5 f6 : Field} (ht : P.underlying t = some (.slice e)) (he : P.underlying e = some (.struct #[f0, f1, f2, f3, f4, f5, f6])) (hone : oneCellFields P #[f0, f1, f2, f3, f4, f5, f6] = true) (hC : P.cellsOf e = 7)
    (t0 : P.underlying f0.type = some (.int .u8)) (t1 : P.underlying f1.type = some (.int .u8)) (t2 : P.underlying f2.type = some .bool) (t3 : P.underlying f3.type = some .bool) (t4 : P.underlying f4.type = some (.slice eb)) (tb : P.underlying eb = some (.int .u8)) (hb1 : P.cellsOf eb = 1)
    (t5 : P.underlying f5.type = some (.int .i64)) (t6 : P.underlying f6.type = some .bool)
    (hval : Value.okWide P w r b0 t v) (h : DataW.Trod enc P w base (fun _ => true) held t v d ps) : ∃ A n c acs, v = .slice A n c ∧ Acts w A n acs := by
  obtain ⟨A, n, c, rfl⟩ := okWide_slice ht hval
  obtain ⟨fuel, hf⟩ := h
  rcases open_slice ht (by simpa [Value.cells] using hf) with ⟨hcs, _⟩ | ⟨a, len, cap, m, n', D, Pl, hcs, _, hl, _, hm, _, hx⟩
  · obtain ⟨rfl, rfl, rfl⟩ : A = none ∧ n = 0 ∧ c = 0 := by simpa using hcs
    exact ⟨none, 0, 0, [], rfl, rfl, fun h => absurd h (Nat.lt_irrefl _)⟩
  · obtain ⟨rfl, rfl, rfl⟩ : A = some a ∧ n = len ∧ c = cap := by simpa using hcs
    simp only [if_true] at hm
    subst hm
    haveI : Inhabited AV := ⟨⟨0, 0, false, false, none, 0, [], 0, false⟩⟩
    obtain ⟨f, hf⟩ := choose_lt (α := AV) (n := n) (p := fun i x => (∀ j v, (acells x)[j]? = some v → w.cell? (a.add (i * 7 + j)) = some v) ∧ x.b.length ≤ x.c ∧ Rd w w.heap.size 1 x.A x.b.length (bvs x.b)) (fun i hi => by
      obtain ⟨cs', h1, h2⟩ := hx i (by omega)
      rw [hC] at h1
      obtain ⟨_, hlen, hcell⟩ := World.cells?_some h1
      obtain ⟨xs, k, _, _, _, hxl, hfd⟩ := DataW.trod_struct he h2
      have off : ∀ (j : Nat) (g : Field), (#[f0, f1, f2, f3, f4, f5, f6] : Array Field)[j]? = some g → g.offset = j ∧ P.cellsOf g.type = 1 := hone_of hone
      match cs', hlen with
      | [v0, v1, v2, v3, v4, v5, v6], _ =>
        obtain ⟨y0, g0⟩ := some_of_get (i := 0) hxl (by simp)
        obtain ⟨y1, g1⟩ := some_of_get (i := 1) hxl (by simp)
        obtain ⟨y2, g2⟩ := some_of_get (i := 2) hxl (by simp)
        obtain ⟨y3, g3⟩ := some_of_get (i := 3) hxl (by simp)
        obtain ⟨y4, g4⟩ := some_of_get (i := 4) hxl (by simp)
        obtain ⟨y5, g5⟩ := some_of_get (i := 5) hxl (by simp)
        obtain ⟨y6, g6⟩ := some_of_get (i := 6) hxl (by simp)
        have q0 := (hfd 0 f0 rfl).trans g0
        have q1 := (hfd 1 f1 rfl).trans g1
        have q2 := (hfd 2 f2 rfl).trans g2
        have q3 := (hfd 3 f3 rfl).trans g3
        have q4 := (hfd 4 f4 rfl).trans g4
        have q5 := (hfd 5 f5 rfl).trans g5
        have q6 := (hfd 6 f6 rfl).trans g6
        rw [(off 0 f0 rfl).1, (off 0 f0 rfl).2] at q0
        rw [(off 1 f1 rfl).1, (off 1 f1 rfl).2] at q1
        rw [(off 2 f2 rfl).1, (off 2 f2 rfl).2] at q2
        rw [(off 3 f3 rfl).1, (off 3 f3 rfl).2] at q3
        rw [(off 4 f4 rfl).1, (off 4 f4 rfl).2] at q4
        rw [(off 5 f5 rfl).1, (off 5 f5 rfl).2] at q5
        rw [(off 6 f6 rfl).1, (off 6 f6 rfl).2] at q6
        obtain ⟨k0, rfl, hk0⟩ := open_u8_cell (enc := enc) (held := held) t0 q0
        obtain ⟨k1, rfl, hk1⟩ := open_u8_cell (enc := enc) (held := held) t1 q1
        obtain ⟨B2, hB2, _⟩ := DataW.trod_bool t2 q2
        obtain rfl : v2 = .bool B2 := by simpa using hB2
        obtain ⟨B3, hB3, _⟩ := DataW.trod_bool t3 q3
        obtain rfl : v3 = .bool B3 := by simpa using hB3
        obtain ⟨Ai, ni, ci, li, rfl, hrd, hnc⟩ := open_bytes_cell (enc := enc) (held := held) t4 tb hb1 q4
        obtain ⟨N, rfl, _⟩ := open_i64_cell (enc := enc) (held := held) t5 q5
        obtain ⟨B6, hB6, _⟩ := DataW.trod_bool t6 q6
        obtain rfl : v6 = .bool B6 := by simpa using hB6
        have hn : li.length = ni := by have := hrd.1; simpa [bvs] using this
        subst hn
        have e0 : (UInt8.ofNat k0).toNat = k0 := by simp [UInt8.toNat_ofNat']; omega
        have e1 : (UInt8.ofNat k1).toNat = k1 := by simp [UInt8.toNat_ofNat']; omega
        refine ⟨⟨UInt8.ofNat k0, UInt8.ofNat k1, B2, B3, Ai, ci, li, N, B6⟩, fun j v hv => ?_, hnc, hrd⟩
        unfold acells at hv
        simp only [e0, e1] at hv
        have hj : j < 7 := by
          rcases Nat.lt_or_ge j 7 with h | h
          · exact h
          · rw [List.getElem?_eq_none (by simpa using h)] at hv; cases hv
        have h3 := hcell j hj
        rw [add_add] at h3
        rw [h3]
        exact hv)
    refine ⟨some a, n, _, (List.range n).map f, rfl, by simp, fun hn => ?_⟩
    have hc0 := (hf 0 hn).1 0 _ rfl
    have hspot : a.spot = none := by simpa [Addr.add] using World.cell?_spot hc0
    obtain ⟨b, o, spot⟩ := a
    simp only at hspot
    subst hspot
    have hb : b < w.heap.size := by
      have := World.block_lt_of_cell? w _ hc0
      simpa [Addr.add] using this
    refine ⟨b, o, rfl, hb, fun i x hx => ?_⟩
    have hi : i < n := by
      have := (List.getElem?_eq_some_iff.1 hx).1
      simpa using this
    obtain rfl : x = f i := by
      rw [List.getElem?_map] at hx
      simpa [hi] using hx.symm
    have hadd : ∀ j, (⟨b, o, none⟩ : Addr).add j = ⟨b, o + j, none⟩ := by intro j; unfold Addr.add; split <;> simp_all
    obtain ⟨h1, h2, h3⟩ := hf i hi
    exact ⟨fun j v hv => by rw [← hadd]; exact h1 j v hv, h2, h3⟩
end
end Go.Proofs.Ytkjgieehiimiiaa

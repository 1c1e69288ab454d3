/- Labels and marks that came in, opened. No program in sight. -/
import Derived.Test.YtniboffmdkeacaaDoorConfArgs
import Derived.Test.YtniboffmdkeacaaDoorConfPure
import Derived.Deep.Slices
import Derived.Deep.Fields
import Derived.Deep.Strs
namespace Go.Proofs.YtniboffmdkeacaaDoor
open Go.RowKit Go.ChangeShapes Go.WideShapes Go.ChangeAt Go.Joins Go.Deep
set_option linter.unusedSimpArgs false
set_option linter.unusedVariables false

section
variable {H : Type} {enc : TypeId × Value → H} {P : Program} {w : World} {base : Nat} {held : Bool} {fuel : Nat} {t e eb : TypeId} {v : Value} {r : Reach} {b0 : Nat} {d : DataW H} {ps : List MemPlace}
theorem some_of_get {α : Type} {xs : List α} {n i : Nat} (h : xs.length = n) (hi : i < n) : ∃ y, xs[i]? = some y := ⟨xs[i]'(by omega), List.getElem?_eq_getElem _⟩
theorem flat_len {α : Type} (f : α → List Value) (sz : Nat) (hf : ∀ a, (f a).length = sz) : ∀ l : List α, (l.flatMap f).length = l.length * sz
  | [] => by simp
  | a :: r => by rw [List.flatMap_cons, List.length_append, hf, flat_len f sz hf r, List.length_cons, Nat.add_mul, Nat.one_mul, Nat.add_comm]
/-- a slice of structs of sz cells each -/
theorem open_rows {α : Type} [Inhabited α] (cells : α → List Value) (sz : Nat) (hlen : ∀ a, (cells a).length = sz) (h0 : 0 < sz) (ht : P.underlying t = some (.slice e)) (hC : P.cellsOf e = sz)
    (hel : ∀ (m : Nat) cs (x : DataW H × List MemPlace), cs.length = sz → DataW.trod enc P w base (fun _ => true) held m e cs = some x → ∃ a, cells a = cs)
    (hval : Value.okWide P w r b0 t v) (h : DataW.Trod enc P w base (fun _ => true) held t v d ps) : ∃ (A : Option Addr) (n c : Nat) (L : List α), v = .slice A n c ∧ L.length = n ∧ n ≤ c ∧ c ≤ maxLen ∧ Rd w w.heap.size sz A n (L.flatMap cells) := by
  obtain ⟨A, n, c, rfl⟩ := okWide_slice ht hval
  obtain ⟨fuel, hf⟩ := h
  rcases open_slice ht (by simpa [Value.cells] using hf) with ⟨hcs, _⟩ | ⟨a, len, cap, m, n', D, Pl, hcs, _, hl, hml, hm, _, hx⟩
  · obtain ⟨rfl, rfl, rfl⟩ : A = none ∧ n = 0 ∧ c = 0 := by simpa using hcs
    exact ⟨none, 0, 0, [], rfl, rfl, Nat.le_refl _, Nat.zero_le _, by simp, fun h => absurd h (Nat.lt_irrefl _)⟩
  · obtain ⟨rfl, rfl, rfl⟩ : A = some a ∧ n = len ∧ c = cap := by simpa using hcs
    simp only [if_true] at hm
    subst hm
    obtain ⟨f, hf⟩ := choose_lt (α := α) (n := n) (p := fun i x => ∀ j v, (cells x)[j]? = some v → w.cell? (a.add (i * sz + j)) = some v) (fun i hi => by
      obtain ⟨cs', h1, h2⟩ := hx i (by omega)
      rw [hC] at h1
      obtain ⟨_, hlen', hcell⟩ := World.cells?_some h1
      obtain ⟨x, hx⟩ := hel _ _ _ hlen' h2
      refine ⟨x, fun j v hv => ?_⟩
      have hj : j < sz := by
        rcases Nat.lt_or_ge j sz with h | h
        · exact h
        · rw [List.getElem?_eq_none (by rw [hlen]; exact h)] at hv; cases hv
      have h3 := hcell j hj
      rw [add_add] at h3
      rw [h3, ← hx]
      exact hv)
    have hlL : ((List.range n).map f).length = n := by simp
    refine ⟨some a, n, _, (List.range n).map f, rfl, hlL, hl, hml, ?_, fun hn => ?_⟩
    · rw [flat_len cells sz hlen, hlL]
    have hc0 := hf 0 hn 0 ((cells (f 0))[0]'(by rw [hlen]; exact h0)) (List.getElem?_eq_getElem _)
    have hspot : a.spot = none := by simpa [Addr.add] using World.cell?_spot hc0
    obtain ⟨b, o, spot⟩ := a
    simp only at hspot
    subst hspot
    have hb : b < w.heap.size := by
      have := World.block_lt_of_cell? w _ hc0
      simpa [Addr.add] using this
    refine ⟨b, o, rfl, hb, fun j u hu => ?_⟩
    have hadd : ∀ j, (⟨b, o, none⟩ : Addr).add j = ⟨b, o + j, none⟩ := by intro j; unfold Addr.add; split <;> simp_all
    have hjl : j < n * sz := by
      have := (List.getElem?_eq_some_iff.1 hu).1
      rw [flat_len cells sz hlen, hlL] at this
      exact this
    have hi : j / sz < n := Nat.div_lt_of_lt_mul (by rw [Nat.mul_comm]; exact hjl)
    have hg := flat_get cells sz hlen ((List.range n).map f) (j / sz) (f (j / sz)) (by rw [List.getElem?_map, List.getElem?_range hi]; rfl) (j % sz)
    have hjm : j % sz < (cells (f (j / sz))).length := by rw [hlen]; exact Nat.mod_lt _ h0
    have h4 := hg _ (List.getElem?_eq_getElem hjm)
    have ej : j / sz * sz + j % sz = j := by rw [Nat.mul_comm]; exact Nat.div_add_mod _ _
    rw [ej] at h4
    rw [h4] at hu
    injection hu with hu
    have h5 := hf (j / sz) hi (j % sz) _ (List.getElem?_eq_getElem hjm)
    rw [hadd, ej] at h5
    rw [h5, ← hu]
theorem open_reg_cells {f0 f1 f2 f3 f4 f5 f6 f7 g0 g1 : Field} (he : P.underlying e = some (.struct #[f0, f1, f2, f3, f4, f5, f6, f7]))
    (ho : (f0.offset, P.cellsOf f0.type) = (0, 1) ∧ (f1.offset, P.cellsOf f1.type) = (1, 2) ∧ (f2.offset, P.cellsOf f2.type) = (3, 1) ∧ (f3.offset, P.cellsOf f3.type) = (4, 1) ∧ (f4.offset, P.cellsOf f4.type) = (5, 1) ∧ (f5.offset, P.cellsOf f5.type) = (6, 1) ∧ (f6.offset, P.cellsOf f6.type) = (7, 1) ∧ (f7.offset, P.cellsOf f7.type) = (8, 1))
    (t0 : P.underlying f0.type = some .string) (t1 : P.underlying f1.type = some (.struct #[g0, g1])) (hone : oneCellFields P #[g0, g1] = true) (u0 : P.underlying g0.type = some (.int .u8)) (u1 : P.underlying g1.type = some (.int .u16))
    (t2 : P.underlying f2.type = some (.int .i64)) (t3 : P.underlying f3.type = some (.int .i64)) (t4 : P.underlying f4.type = some (.int .i64)) (t5 : P.underlying f5.type = some (.int .i64)) (t6 : P.underlying f6.type = some (.int .i64)) (t7 : P.underlying f7.type = some (.int .i64))
    (m : Nat) (cs : List Value) (x : DataW H × List MemPlace) (hl : cs.length = 9) (h2 : DataW.trod enc P w base (fun _ => true) held m e cs = some x) : ∃ a : RegV, a.cells = cs := by
  obtain ⟨xs, k, _, _, _, hxl, hfd⟩ := DataW.trod_struct he h2
  obtain ⟨o0, o1, o2, o3, o4, o5, o6, o7⟩ := ho
  simp only [Prod.mk.injEq] at o0 o1 o2 o3 o4 o5 o6 o7
  match cs, hl with
  | [v0, v1, v2, v3, v4, v5, v6, v7, v8], _ =>
    obtain ⟨y0, z0⟩ := some_of_get (i := 0) hxl (by simp)
    obtain ⟨y1, z1⟩ := some_of_get (i := 1) hxl (by simp)
    obtain ⟨y2, z2⟩ := some_of_get (i := 2) hxl (by simp)
    obtain ⟨y3, z3⟩ := some_of_get (i := 3) hxl (by simp)
    obtain ⟨y4, z4⟩ := some_of_get (i := 4) hxl (by simp)
    obtain ⟨y5, z5⟩ := some_of_get (i := 5) hxl (by simp)
    obtain ⟨y6, z6⟩ := some_of_get (i := 6) hxl (by simp)
    obtain ⟨y7, z7⟩ := some_of_get (i := 7) hxl (by simp)
    have q0 := (hfd 0 f0 rfl).trans z0
    have q1 := (hfd 1 f1 rfl).trans z1
    have q2 := (hfd 2 f2 rfl).trans z2
    have q3 := (hfd 3 f3 rfl).trans z3
    have q4 := (hfd 4 f4 rfl).trans z4
    have q5 := (hfd 5 f5 rfl).trans z5
    have q6 := (hfd 6 f6 rfl).trans z6
    have q7 := (hfd 7 f7 rfl).trans z7
    rw [o0.1, o0.2] at q0
    rw [o1.1, o1.2] at q1
    rw [o2.1, o2.2] at q2
    rw [o3.1, o3.2] at q3
    rw [o4.1, o4.2] at q4
    rw [o5.1, o5.2] at q5
    rw [o6.1, o6.2] at q6
    rw [o7.1, o7.2] at q7
    obtain ⟨s, hs, _⟩ := DataW.trod_string t0 q0
    obtain rfl : v0 = .string s := by simpa using hs
    obtain ⟨xs', n', _, _, _, hxl', hfd'⟩ := DataW.trod_struct t1 q1
    obtain ⟨p0, w0⟩ := some_of_get (i := 0) hxl' (by simp)
    obtain ⟨p1, w1⟩ := some_of_get (i := 1) hxl' (by simp)
    have r0 := (hfd' 0 g0 rfl).trans w0
    have r1 := (hfd' 1 g1 rfl).trans w1
    obtain ⟨a0, b0⟩ := hone_of hone 0 g0 rfl
    obtain ⟨a1, b1⟩ := hone_of hone 1 g1 rfl
    rw [a0, b0] at r0
    rw [a1, b1] at r1
    obtain ⟨lv, rfl, hlv⟩ := open_u8_cell (enc := enc) (held := held) u0 r0
    obtain ⟨ct, rfl, hct⟩ := open_u16_cell (enc := enc) (held := held) u1 r1
    obtain ⟨n2, rfl, _⟩ := open_i64_cell (enc := enc) (held := held) t2 q2
    obtain ⟨n3, rfl, _⟩ := open_i64_cell (enc := enc) (held := held) t3 q3
    obtain ⟨n4, rfl, _⟩ := open_i64_cell (enc := enc) (held := held) t4 q4
    obtain ⟨n5, rfl, _⟩ := open_i64_cell (enc := enc) (held := held) t5 q5
    obtain ⟨n6, rfl, _⟩ := open_i64_cell (enc := enc) (held := held) t6 q6
    obtain ⟨n7, rfl, _⟩ := open_i64_cell (enc := enc) (held := held) t7 q7
    refine ⟨⟨s.data.toList, UInt8.ofNat lv, UInt16.ofNat ct, n2, n3, n4, n5, n6, n7⟩, ?_⟩
    have e1 : (UInt8.ofNat lv).toNat = lv := by simp [UInt8.toNat_ofNat']; omega
    have e2 : (UInt16.ofNat ct).toNat = ct := by simp [UInt16.toNat_ofNat']; omega
    simp only [RegV.cells, e1, e2]
theorem open_mark_cells {g0 g1 : Field} (he : P.underlying e = some (.struct #[g0, g1])) (hone : oneCellFields P #[g0, g1] = true) (u0 : P.underlying g0.type = some (.int .u8)) (u1 : P.underlying g1.type = some (.int .u16))
    (m : Nat) (cs : List Value) (x : DataW H × List MemPlace) (hl : cs.length = 2) (h2 : DataW.trod enc P w base (fun _ => true) held m e cs = some x) : ∃ a : MarkV, markCells a = cs := by
  obtain ⟨xs', n', _, _, _, hxl', hfd'⟩ := DataW.trod_struct he h2
  match cs, hl with
  | [v0, v1], _ =>
    obtain ⟨p0, w0⟩ := some_of_get (i := 0) hxl' (by simp)
    obtain ⟨p1, w1⟩ := some_of_get (i := 1) hxl' (by simp)
    have r0 := (hfd' 0 g0 rfl).trans w0
    have r1 := (hfd' 1 g1 rfl).trans w1
    obtain ⟨a0, b0⟩ := hone_of hone 0 g0 rfl
    obtain ⟨a1, b1⟩ := hone_of hone 1 g1 rfl
    rw [a0, b0] at r0
    rw [a1, b1] at r1
    obtain ⟨lv, rfl, hlv⟩ := open_u8_cell (enc := enc) (held := held) u0 r0
    obtain ⟨ct, rfl, hct⟩ := open_u16_cell (enc := enc) (held := held) u1 r1
    refine ⟨(UInt8.ofNat lv, UInt16.ofNat ct), ?_⟩
    have e1 : (UInt8.ofNat lv).toNat = lv := by simp [UInt8.toNat_ofNat']; omega
    have e2 : (UInt16.ofNat ct).toNat = ct := by simp [UInt16.toNat_ofNat']; omega
    simp only [markCells, e1, e2]
end
end Go.Proofs.YtniboffmdkeacaaDoor

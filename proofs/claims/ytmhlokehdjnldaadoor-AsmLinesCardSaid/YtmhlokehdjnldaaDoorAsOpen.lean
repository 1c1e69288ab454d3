/- Programs' texts: an instruction that came in, opened. -/
import Derived.Test.YtmhlokehdjnldaaDoorAsFrame
import Derived.Test.YtmhlokehdjnldaaDoorAsOps
import Derived.Deep.Fields
namespace Go.Proofs.YtmhlokehdjnldaaDoor
open Go.RowKit Go.ChangeShapes Go.WideShapes Go.ChangeAt Go.Joins Go.Deep
set_option linter.unusedSimpArgs false
set_option linter.unusedVariables false

section
variable {H : Type} {enc : TypeId × Value → H} {P : Program} {w : World} {base : Nat} {held : Bool} {t e : TypeId} {v : Value} {r : Reach} {b0 : Nat} {d : DataW H} {ps : List MemPlace}
theorem open_ins {f0 f1 f2 f3 : Field} (hs : P.underlying t = some (.struct #[f0, f1, f2, f3])) (hone : oneCellFields P #[f0, f1, f2, f3] = true) (hC : P.cellsOf t = 4)
    (t0 : P.underlying f0.type = some (.int .u8)) (t1 : P.underlying f1.type = some (.int .u8)) (t2 : P.underlying f2.type = some (.int .u8)) (t3 : P.underlying f3.type = some (.int .u8))
    (hval : Value.okWide P w r b0 t v) (h : DataW.Trod enc P w base (fun _ => true) held t v d ps) : ∃ a b c d : Nat, v = .agg (insC a b c d) ∧ a < 256 ∧ b < 256 ∧ c < 256 ∧ d < 256 := by
  obtain ⟨cs, rfl, hsz⟩ := okWide_struct hs hval
  obtain ⟨fuel, hf⟩ := h
  obtain ⟨⟨l⟩⟩ := cs
  · simp only [Value.cells] at hf
    have hl : ([] : List Value).length = 4 := hsz.trans hC
    cases hl
  rename_i c0 l
  have hl4 : (c0 :: l).length = 4 := hsz.trans hC
  match l, hl4 with
  | [c1, c2, c3], _ =>
    obtain ⟨y0, y1, y2, y3, n, _, _, h0, h1, h2, h3⟩ := trod_struct4 hs hf
    obtain ⟨o0, k0⟩ := hone_of hone 0 f0 rfl
    obtain ⟨o1, k1⟩ := hone_of hone 1 f1 rfl
    obtain ⟨o2, k2⟩ := hone_of hone 2 f2 rfl
    obtain ⟨o3, k3⟩ := hone_of hone 3 f3 rfl
    obtain ⟨a, rfl, ha⟩ := open_u8_cell (v := c0) (enc := enc) (held := held) t0 (by simpa [o0, k0, Value.cells] using h0)
    obtain ⟨b, rfl, hb⟩ := open_u8_cell (v := c1) (enc := enc) (held := held) t1 (by simpa [o1, k1, Value.cells] using h1)
    obtain ⟨c, rfl, hc⟩ := open_u8_cell (v := c2) (enc := enc) (held := held) t2 (by simpa [o2, k2, Value.cells] using h2)
    obtain ⟨d, rfl, hd⟩ := open_u8_cell (v := c3) (enc := enc) (held := held) t3 (by simpa [o3, k3, Value.cells] using h3)
    exact ⟨a, b, c, d, rfl, ha, hb, hc, hd⟩
end
end Go.Proofs.YtmhlokehdjnldaaDoor

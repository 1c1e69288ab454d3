/- ConfBack's frame: five listed tables. -/
import Derived.Test.YtniboffmdkeacaaDoorConfFrame
import Derived.Test.YtniboffmdkeacaaDoorConfTx1
namespace Go.Proofs.YtniboffmdkeacaaDoor
open Go.RowKit Go.ChangeShapes Go.WideShapes Go.ChangeAt Go.Joins Go.Deep
set_option linter.unusedSimpArgs false
set_option linter.unusedVariables false

def laid5 : List (String × DataW Unit) := [("math/bits.deBruijn32tab", Rows.laid_math_bits_deBruijn32tab), ("unicode/utf8.acceptRanges", Rows.laid_unicode_utf8_acceptRanges), ("unicode.White_Space", Rows.laid_unicode_White_Space), ("strings.asciiSpace", Rows.laid_strings_asciiSpace), ("unicode/utf8.first", Rows.laid_unicode_utf8_first)]
set_option maxRecDepth 100000 in
theorem door_met5 (os : Os) (args : Array Value) : laidMetH Tryd.prog laid5 ((laidWorld os).forCall (fun _ _ => 0) ⟨#[], args, []⟩).memory :=
  laidMetH_of_parts3 (fuel := 8) (laidMet_of_bits 8 4096 (by kernel_rfl) (by kernel_rfl)) (by kernel_rfl) (by kernel_rfl)
/-- places of one bit -/
def deb : List Int := [0, 1, 28, 2, 29, 14, 24, 3, 30, 22, 20, 15, 25, 17, 4, 8, 31, 27, 13, 23, 21, 19, 16, 7, 26, 12, 18, 6, 11, 5, 10, 9]
theorem deb_data : (Rows.laid_math_bits_deBruijn32tab : DataW Unit) = Lib.tabData .u8 deb := by kernel_rfl
theorem deb_is : Tryd.prog.globalNamed "math/bits.deBruijn32tab" = some 2 := by kernel_rfl
theorem lw_of5 {W : World} (h : W.ShapedOpen Tryd.prog) (hl : laidMetH Tryd.prog laid5 W) : Lw W ∧ Db W := by
  have hf : (laid5.filter fun x => x.2.handleName?.isSome) = [] := by kernel_rfl
  unfold laidMetH at hl
  rw [hf] at hl
  obtain ⟨ps, ⟨gd, td, csd, fd, pd, qd, hgd, htd, hvd, hdd, ⟨g0, t0, cs0, f0, p0, q0, _, _, _, _, ⟨g1, t1, cs1, f1, p1, q1, _, _, _, _, ⟨g2, t2, cs2, f2, p2, q2, hg2, ht2, hv2, hd2, _, _⟩, _⟩, _⟩, _⟩, _⟩ := hl
  refine ⟨⟨Tryd.laysM145.s1_3 W h, ?_⟩, ?_⟩
  · obtain rfl := Option.some.inj (asciiSpace_is.symm.trans hg2)
    rw [asciiSpace_data] at hd2
    unfold Lib.TabIs
    have hty : (Tryd.prog.globals[0]?).map (·.type) = some 138 := by kernel_rfl
    obtain rfl := Option.some.inj (hty.symm.trans ht2)
    rw [hv2, ← Lib.cells_of_tab Tryd.underlying138 Tryd.underlying5 (by kernel_rfl) (by kernel_rfl) hd2]
  · have hT : Lib.TabIs Tryd.prog W "math/bits.deBruijn32tab" .u8 deb := by
      obtain rfl := Option.some.inj (deb_is.symm.trans hgd)
      rw [deb_data] at hdd
      unfold Lib.TabIs
      have hty : (Tryd.prog.globals[2]?).map (·.type) = some 155 := by kernel_rfl
      obtain rfl := Option.some.inj (hty.symm.trans htd)
      rw [hvd, ← Lib.cells_of_tab Tryd.underlying155 Tryd.underlying5 (by kernel_rfl) (by kernel_rfl) hdd]
    have c0 := hT.cell deb_is 0 (by decide)
    have c1 := hT.cell deb_is 1 (by decide)
    have c3 := hT.cell deb_is 3 (by decide)
    exact ⟨World.block_lt_of_cell? W _ c0, c0, c1, c3⟩
end Go.Proofs.YtniboffmdkeacaaDoor

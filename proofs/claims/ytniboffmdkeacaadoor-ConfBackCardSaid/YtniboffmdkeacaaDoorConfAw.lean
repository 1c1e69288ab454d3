/- Configurations: the fixed fact of the statements of layer 2. -/
import Derived.Test.YtniboffmdkeacaaDoorConfPar
import Derived.Test.YtniboffmdkeacaaDoorConfUse
namespace Go.Proofs.YtniboffmdkeacaaDoor
open Go.RowKit Go.WideMaps
set_option linter.unusedSimpArgs false
set_option linter.unusedVariables false

def awT : ByteArray := ⟨#[108, 97, 98, 101, 108, 32, 108, 111, 119, 32, 48, 32, 98, 108, 111, 99, 107, 115, 32, 52, 48, 32, 110, 111, 100, 101, 115, 32, 49, 54, 32, 102, 114, 97, 109, 101, 115, 32, 52, 32, 112, 114, 111, 99, 115, 32, 50, 32, 111, 112, 101, 110, 115, 32, 51, 32, 99, 108, 101, 97, 114, 32, 108, 111, 119, 10]⟩
def awR : RegV := ⟨[108, 111, 119], 0, 0, 40, 16, 4, 2, 3, 0⟩
theorem aw_parse : parseP awT = (some ([awR], []), 0, 0) := by decide +kernel
theorem aw_new : newE [awR] [] = 0 := by decide +kernel
theorem aw_ascii : ∀ b ∈ awT.data.toList, b.toNat < 128 := by decide +kernel

set_option maxRecDepth 100000 in
set_option maxHeartbeats 1000000 in
theorem awake2_ok (w : World) (hL : Lw w) : Calls Tryd.prog 7 #[] w fun e w' => e = .returned (.bool true) ∧ Below w.heap.size w w' := by
  have hpar := parse_ok awT w (by decide) (fun j b h => aw_ascii b (List.mem_of_getElem? h)) hL
  go_enter Tryd.func7, Tryd.ntmps7
  go_wp2_with fail
  refine hpar.mono ?_
  rintro e w1 ⟨hb1, hp⟩
  rw [aw_parse] at hp
  obtain ⟨c, tb, nb, lb, A1, A2, A3, c1, c2, c3, rfl, hin⟩ := hp.1 aw_new
  clear hp hpar
  go_wp2_with fail
  refine (geo_ok hin (k := 0) (r := ⟨32, 1, 8, 41, 40, 16⟩) (by decide +kernel)).mono ?_
  rintro e w2 ⟨rfl, hb2⟩
  have h2 := hin.below hb2
  have B2 := hide (Below.then_ hb1 hb1.size hb2)
  have hbx : Below w2.heap.size w2 (w2.alloc (.cells #[.int .i64 32, .int .i64 1, .int .i64 8, .int .i64 41, .int .i64 40, .int .i64 16] 69)) := (Below.refl _ _).alloc (Nat.le_refl _) _
  have h3 := h2.below hbx
  have B3 := hide (B2.out.trans (hbx.mono B2.out.size))
  clear hb1 hb2 hin h2 hbx
  go_wp2_with fail
  refine (total_ok h3).mono ?_
  rintro e w4 ⟨rfl, rfl⟩
  rw [show totalOf 32 [awR] = 81 by decide +kernel]
  go_wp2
  go_returns
  exact ⟨rfl, B3.out⟩
end Go.Proofs.YtniboffmdkeacaaDoor

/-
  DERIVED. GIVEN WITH THE SEED: THE CARDS: each row of YtkjgieehiimiiaaDoorRows.lean that lists a variable, with what it lists TIED to the program's text (the seventh form; the later family's looks); each row that meets fmt, with fmt's text TOLD by the authors' own Lean function (tested against real Go, not proved from fmt's source: count such statements apart). THE CARD IS WHAT COUNTS. Prove the row's statement (the work); the ties are given (YtkjgieehiimiiaaDoorTie.lean); close each card by the builder's one call (the guide's Derived/Test/ToyasCard.lean, 'card_holds'). Laid BY PROGRAM, IN A SANDBOX (cutbox-door.mjs). By AI agents, Wed Nov 11 2026. No macro, syntax, notation, axiom, sorry.
-/
import Derived.Test.YtkjgieehiimiiaaDoorRows
import GoSem.ClaimSeven
namespace Go.Proofs.YtkjgieehiimiiaaDoor
namespace Rows

/-- THE TIED CARD OF 'garrisonlaw11.PathParses'. -/
def pathParsesCard : Claim7 := { stood := { row := pathParsesRow, standIns := [], harness := (true, "6a21c5ae4f8fbdc78de201ff7ae657781b1602b722e16bb58c93dbcdc001c8fa"), looks := false }, kinds := [], alts := [], laidByText := true, laidKinds := [.data, .pinned], laidTests := true, laidLooks := .later }
def PathParsesCardSaid : Prop := Claim7.holds Tryd.pinned (.plain (OpenSpec.ofChange pathParsesSpec)) pathParsesCard

/-- THE TIED CARD OF 'garrisonlaw11.PathJoins'. -/
def pathJoinsCard : Claim7 := { stood := { row := pathJoinsRow, standIns := [], harness := (true, "6a21c5ae4f8fbdc78de201ff7ae657781b1602b722e16bb58c93dbcdc001c8fa"), looks := false }, kinds := [], alts := [], laidByText := true, laidKinds := [.data, .pinned], laidTests := true, laidLooks := .later }
def PathJoinsCardSaid : Prop := Claim7.holds Tryd.pinned (.plain (OpenSpec.ofChange pathJoinsSpec)) pathJoinsCard

/-- THE TIED CARD OF 'garrisonlaw11.PathBack'. -/
def pathBackCard : Claim7 := { stood := { row := pathBackRow, standIns := [], harness := (true, "6a21c5ae4f8fbdc78de201ff7ae657781b1602b722e16bb58c93dbcdc001c8fa"), looks := false }, kinds := [], alts := [], laidByText := true, laidKinds := [.data, .pinned], laidTests := true, laidLooks := .later }
def PathBackCardSaid : Prop := Claim7.holds Tryd.pinned (.plain (OpenSpec.ofChange pathBackSpec)) pathBackCard

/-- THE TIED CARD OF 'garrisonlaw11.PathOwn'. -/
def pathOwnCard : Claim7 := { stood := { row := pathOwnRow, standIns := [], harness := (true, "6a21c5ae4f8fbdc78de201ff7ae657781b1602b722e16bb58c93dbcdc001c8fa"), looks := false }, kinds := [], alts := [], laidByText := true, laidKinds := [.data, .pinned], laidTests := true, laidLooks := .later }
def PathOwnCardSaid : Prop := Claim7.holds Tryd.pinned (.plain (OpenSpec.ofChange pathOwnSpec)) pathOwnCard

/-- THE SECOND FORM's CARD OF 'garrisonlaw11.PathParses'. -/
def pathParsesUptoCard : Claim7 := { stood := { row := pathParsesUptoRow, standIns := [], harness := (true, "6a21c5ae4f8fbdc78de201ff7ae657781b1602b722e16bb58c93dbcdc001c8fa"), looks := false }, kinds := [], alts := [], laidByText := true, laidKinds := [.data, .pinned], laidTests := true, laidLooks := .later }
def PathParsesUptoCardSaid : Prop := Claim7.holds Tryd.pinned (.plain (OpenSpec.upto pathParsesSpec)) pathParsesUptoCard

/-- THE SECOND FORM's CARD OF 'garrisonlaw11.PathJoins'. -/
def pathJoinsUptoCard : Claim7 := { stood := { row := pathJoinsUptoRow, standIns := [], harness := (true, "6a21c5ae4f8fbdc78de201ff7ae657781b1602b722e16bb58c93dbcdc001c8fa"), looks := false }, kinds := [], alts := [], laidByText := true, laidKinds := [.data, .pinned], laidTests := true, laidLooks := .later }
def PathJoinsUptoCardSaid : Prop := Claim7.holds Tryd.pinned (.plain (OpenSpec.upto pathJoinsSpec)) pathJoinsUptoCard

/-- THE SECOND FORM's CARD OF 'garrisonlaw11.PathBack'. -/
def pathBackUptoCard : Claim7 := { stood := { row := pathBackUptoRow, standIns := [], harness := (true, "6a21c5ae4f8fbdc78de201ff7ae657781b1602b722e16bb58c93dbcdc001c8fa"), looks := false }, kinds := [], alts := [], laidByText := true, laidKinds := [.data, .pinned], laidTests := true, laidLooks := .later }
def PathBackUptoCardSaid : Prop := Claim7.holds Tryd.pinned (.plain (OpenSpec.upto pathBackSpec)) pathBackUptoCard

/-- THE SECOND FORM's CARD OF 'garrisonlaw11.PathOwn'. -/
def pathOwnUptoCard : Claim7 := { stood := { row := pathOwnUptoRow, standIns := [], harness := (true, "6a21c5ae4f8fbdc78de201ff7ae657781b1602b722e16bb58c93dbcdc001c8fa"), looks := false }, kinds := [], alts := [], laidByText := true, laidKinds := [.data, .pinned], laidTests := true, laidLooks := .later }
def PathOwnUptoCardSaid : Prop := Claim7.holds Tryd.pinned (.plain (OpenSpec.upto pathOwnSpec)) pathOwnUptoCard
end Rows
end Go.Proofs.YtkjgieehiimiiaaDoor

/-
  DERIVED. GIVEN WITH THE SEED: THE CARDS: each row of YtniboffmdkeacaaDoorRows.lean that lists a variable, with what it lists TIED to the program's text (the seventh form; the later family's looks); each row that meets fmt, with fmt's text TOLD by the authors' own Lean function (tested against real Go, not proved from fmt's source: count such statements apart). THE CARD IS WHAT COUNTS. Prove the row's statement (the work); the ties are given (YtniboffmdkeacaaDoorTie.lean); close each card by the builder's one call (the guide's Derived/Test/ToyasCard.lean, 'card_holds'). Laid BY PROGRAM, IN A SANDBOX (cutbox-door.mjs). By AI agents, Wed Nov 11 2026. No macro, syntax, notation, axiom, sorry.
-/
import Derived.Test.YtniboffmdkeacaaDoorRows
import GoSem.ClaimSeven
namespace Go.Proofs.YtniboffmdkeacaaDoor
namespace Rows

/-- THE TIED CARD OF 'garrisonlaw02.ConfGroups'. -/
def confGroupsCard : Claim7 := { stood := { row := confGroupsRow, standIns := [], harness := (true, "bd8db02004503b9c3e2b44c12718accb4f831d2a591f7ee40753bf5e4b246d49"), looks := false }, kinds := [], alts := [], laidByText := true, laidKinds := [.data, .listed, .data, .pinned], laidTests := true, laidLooks := .later }
def ConfGroupsCardSaid : Prop := Claim7.holds Tryd.pinned (.plain (OpenSpec.ofChange confGroupsSpec)) confGroupsCard

/-- THE TIED CARD OF 'garrisonlaw02.ConfMakes'. -/
def confMakesCard : Claim7 := { stood := { row := confMakesRow, standIns := [], harness := (true, "bd8db02004503b9c3e2b44c12718accb4f831d2a591f7ee40753bf5e4b246d49"), looks := false }, kinds := [], alts := [], laidByText := true, laidKinds := [.data, .listed, .data, .pinned], laidTests := true, laidLooks := .later }
def ConfMakesCardSaid : Prop := Claim7.holds Tryd.pinned (.plain (OpenSpec.ofChange confMakesSpec)) confMakesCard

/-- THE TIED CARD OF 'garrisonlaw02.ConfParses'. -/
def confParsesCard : Claim7 := { stood := { row := confParsesRow, standIns := [], harness := (true, "bd8db02004503b9c3e2b44c12718accb4f831d2a591f7ee40753bf5e4b246d49"), looks := false }, kinds := [], alts := [], laidByText := true, laidKinds := [.data, .listed, .data, .pinned], laidTests := true, laidLooks := .later }
def ConfParsesCardSaid : Prop := Claim7.holds Tryd.pinned (.plain (OpenSpec.ofChange confParsesSpec)) confParsesCard

/-- THE TIED CARD OF 'garrisonlaw02.ConfBack'. -/
def confBackCard : Claim7 := { stood := { row := confBackRow, standIns := [], harness := (true, "bd8db02004503b9c3e2b44c12718accb4f831d2a591f7ee40753bf5e4b246d49"), looks := false }, kinds := [], alts := [], laidByText := true, laidKinds := [.data, .data, .listed, .data, .pinned], laidTests := true, laidLooks := .later }
def ConfBackCardSaid : Prop := Claim7.holds Tryd.pinned (.plain (OpenSpec.ofChange confBackSpec)) confBackCard

/-- THE SECOND FORM's CARD OF 'garrisonlaw02.ConfGroups'. -/
def confGroupsUptoCard : Claim7 := { stood := { row := confGroupsUptoRow, standIns := [], harness := (true, "bd8db02004503b9c3e2b44c12718accb4f831d2a591f7ee40753bf5e4b246d49"), looks := false }, kinds := [], alts := [], laidByText := true, laidKinds := [.data, .listed, .data, .pinned], laidTests := true, laidLooks := .later }
def ConfGroupsUptoCardSaid : Prop := Claim7.holds Tryd.pinned (.plain (OpenSpec.upto confGroupsSpec)) confGroupsUptoCard

/-- THE SECOND FORM's CARD OF 'garrisonlaw02.ConfMakes'. -/
def confMakesUptoCard : Claim7 := { stood := { row := confMakesUptoRow, standIns := [], harness := (true, "bd8db02004503b9c3e2b44c12718accb4f831d2a591f7ee40753bf5e4b246d49"), looks := false }, kinds := [], alts := [], laidByText := true, laidKinds := [.data, .listed, .data, .pinned], laidTests := true, laidLooks := .later }
def ConfMakesUptoCardSaid : Prop := Claim7.holds Tryd.pinned (.plain (OpenSpec.upto confMakesSpec)) confMakesUptoCard

/-- THE SECOND FORM's CARD OF 'garrisonlaw02.ConfParses'. -/
def confParsesUptoCard : Claim7 := { stood := { row := confParsesUptoRow, standIns := [], harness := (true, "bd8db02004503b9c3e2b44c12718accb4f831d2a591f7ee40753bf5e4b246d49"), looks := false }, kinds := [], alts := [], laidByText := true, laidKinds := [.data, .listed, .data, .pinned], laidTests := true, laidLooks := .later }
def ConfParsesUptoCardSaid : Prop := Claim7.holds Tryd.pinned (.plain (OpenSpec.upto confParsesSpec)) confParsesUptoCard

/-- THE SECOND FORM's CARD OF 'garrisonlaw02.ConfBack'. -/
def confBackUptoCard : Claim7 := { stood := { row := confBackUptoRow, standIns := [], harness := (true, "bd8db02004503b9c3e2b44c12718accb4f831d2a591f7ee40753bf5e4b246d49"), looks := false }, kinds := [], alts := [], laidByText := true, laidKinds := [.data, .data, .listed, .data, .pinned], laidTests := true, laidLooks := .later }
def ConfBackUptoCardSaid : Prop := Claim7.holds Tryd.pinned (.plain (OpenSpec.upto confBackSpec)) confBackUptoCard
end Rows
end Go.Proofs.YtniboffmdkeacaaDoor

/-
  No cell of these rows narrows 'for every input' (looked for: loops, veiled, ifaces, maps, wideKeys, modest, calm, conditions, laid).
  DERIVED. THE GIVEN ROWS OF THIS SEAT. 5 by the template 'for every input the law returns true; each argument reads behind the call as it read before'; 0 by the template 'total and deterministic' (their statements: YtkjgieehiimiiaaTotals.lean).
  GIVEN WITH THE SEED: the statements are not yours to turn. If you find one false, say at which input.
  Laid BY PROGRAM, IN A SANDBOX (cutbox-rows.mjs): the forced cells as the released guide's own fill.sh prints them over the translation e17a475b78dbdcf1… (all of the seat's roots in one cut). By AI agents, Wed Nov 11 2026. No macro, syntax, notation, axiom, sorry.
-/
import Derived.Test.YtkjgieehiimiiaaChecked
import GoSem.Claim
import GoSem.ClaimJoined
import GoSem.ClaimMapViews
import Derived.JoinedTies
import Derived.KernelRfl
namespace Go.Proofs.Ytkjgieehiimiiaa
/- THE CELL 'sum', in the pinned program and in every row, IS THE sha256 OF THE DUMP (.gsa) THAT YtkjgieehiimiiaaProg.lean LOADS. Nothing in Lean hashes anything: it is a label: what it is worth is what the hold of that sum in a sandbox is worth. -/
noncomputable def Try.pinned : Pinned := { name := "ytkjgieehiimiiaa", sum := "e17a475b78dbdcf184dbde2c294cfbe07be7b1106f54afd08f14e444c5123e0d", checked := Try.checked }
namespace Rows
def none {H : Type} : Left H := { results := [], args := [] }

/-- 'garrisonlaw27.AuditBytes': WHATEVER THE INPUT: true; the input reads as it did. -/
def auditBytesSpec : ChangeSpec := { name := "auditBytes", fn := fun _ => fun
  | [d1, d2, d3] => { results := [.lit (.bool true)], args := [d1, d2, d3] }
  | _ => none }
def auditBytesRow : OpenClaim := { program := "ytkjgieehiimiiaa", sum := "e17a475b78dbdcf184dbde2c294cfbe07be7b1106f54afd08f14e444c5123e0d", func := "garrison/garrisonlaw27.AuditBytes", spec := "auditBytes", plainKeys := false, apart := false }
def AuditBytesSaid : Prop := auditBytesRow.holds Try.pinned (OpenSpec.ofChange auditBytesSpec)

/-- ITS FALSE NEIGHBOUR: 'it returns false'. Refute it at one input. -/
def auditBytesWrong : ChangeSpec := { name := "auditBytes", fn := fun _ => fun
  | [d1, d2, d3] => { results := [.lit (.bool false)], args := [d1, d2, d3] }
  | _ => none }
def AuditBytesWrongFalsely : Prop := auditBytesRow.holds Try.pinned (OpenSpec.ofChange auditBytesWrong)

/-- 'garrisonlaw21.PipeApart': WHATEVER THE INPUT: true; the input reads as it did. -/
def pipeApartSpec : ChangeSpec := { name := "pipeApart", fn := fun _ => fun
  | [d1, d2] => { results := [.lit (.bool true)], args := [d1, d2] }
  | _ => none }
def pipeApartRow : OpenClaim := { program := "ytkjgieehiimiiaa", sum := "e17a475b78dbdcf184dbde2c294cfbe07be7b1106f54afd08f14e444c5123e0d", func := "garrison/garrisonlaw21.PipeApart", spec := "pipeApart", plainKeys := false, apart := false }
def PipeApartSaid : Prop := pipeApartRow.holds Try.pinned (OpenSpec.ofChange pipeApartSpec)

/-- ITS FALSE NEIGHBOUR: 'it returns false'. Refute it at one input. -/
def pipeApartWrong : ChangeSpec := { name := "pipeApart", fn := fun _ => fun
  | [d1, d2] => { results := [.lit (.bool false)], args := [d1, d2] }
  | _ => none }
def PipeApartWrongFalsely : Prop := pipeApartRow.holds Try.pinned (OpenSpec.ofChange pipeApartWrong)

/-- 'garrisonlaw21.PipeOrder': WHATEVER THE INPUT: true; the input reads as it did. -/
def pipeOrderSpec : ChangeSpec := { name := "pipeOrder", fn := fun _ => fun
  | [d1, d2] => { results := [.lit (.bool true)], args := [d1, d2] }
  | _ => none }
def pipeOrderRow : OpenClaim := { program := "ytkjgieehiimiiaa", sum := "e17a475b78dbdcf184dbde2c294cfbe07be7b1106f54afd08f14e444c5123e0d", func := "garrison/garrisonlaw21.PipeOrder", spec := "pipeOrder", plainKeys := false, apart := false }
def PipeOrderSaid : Prop := pipeOrderRow.holds Try.pinned (OpenSpec.ofChange pipeOrderSpec)

/-- ITS FALSE NEIGHBOUR: 'it returns false'. Refute it at one input. -/
def pipeOrderWrong : ChangeSpec := { name := "pipeOrder", fn := fun _ => fun
  | [d1, d2] => { results := [.lit (.bool false)], args := [d1, d2] }
  | _ => none }
def PipeOrderWrongFalsely : Prop := pipeOrderRow.holds Try.pinned (OpenSpec.ofChange pipeOrderWrong)

/-- 'garrisonlaw21.PipeNone': WHATEVER THE INPUT: true; the input reads as it did. -/
def pipeNoneSpec : ChangeSpec := { name := "pipeNone", fn := fun _ => fun
  | [d1, d2, d3, d4] => { results := [.lit (.bool true)], args := [d1, d2, d3, d4] }
  | _ => none }
def pipeNoneRow : OpenClaim := { program := "ytkjgieehiimiiaa", sum := "e17a475b78dbdcf184dbde2c294cfbe07be7b1106f54afd08f14e444c5123e0d", func := "garrison/garrisonlaw21.PipeNone", spec := "pipeNone", plainKeys := false, apart := false }
def PipeNoneSaid : Prop := pipeNoneRow.holds Try.pinned (OpenSpec.ofChange pipeNoneSpec)

/-- ITS FALSE NEIGHBOUR: 'it returns false'. Refute it at one input. -/
def pipeNoneWrong : ChangeSpec := { name := "pipeNone", fn := fun _ => fun
  | [d1, d2, d3, d4] => { results := [.lit (.bool false)], args := [d1, d2, d3, d4] }
  | _ => none }
def PipeNoneWrongFalsely : Prop := pipeNoneRow.holds Try.pinned (OpenSpec.ofChange pipeNoneWrong)

/-- 'garrisonlaw21.PipePlays': WHATEVER THE INPUT: true; the input reads as it did. -/
def pipePlaysSpec : ChangeSpec := { name := "pipePlays", fn := fun _ => fun
  | [d] => { results := [.lit (.bool true)], args := [d] }
  | _ => none }
def pipePlaysRow : OpenClaim := { program := "ytkjgieehiimiiaa", sum := "e17a475b78dbdcf184dbde2c294cfbe07be7b1106f54afd08f14e444c5123e0d", func := "garrison/garrisonlaw21.PipePlays", spec := "pipePlays", plainKeys := false, apart := false }
def PipePlaysSaid : Prop := pipePlaysRow.holds Try.pinned (OpenSpec.ofChange pipePlaysSpec)

/-- ITS FALSE NEIGHBOUR: 'it returns false'. Refute it at one input. -/
def pipePlaysWrong : ChangeSpec := { name := "pipePlays", fn := fun _ => fun
  | [d] => { results := [.lit (.bool false)], args := [d] }
  | _ => none }
def PipePlaysWrongFalsely : Prop := pipePlaysRow.holds Try.pinned (OpenSpec.ofChange pipePlaysWrong)

/- THE SECOND FORM. 'bulk': how many values and letters a reading holds, each counted each time it is reached (what is shared counts as often as it is met; a slice's spare places count too). A statement '..UptoSaid' is the law's where the arguments, and the package variables that the reading takes, are together of bulk at most 1048576: NARROWER than '..Said'. Prove '..Said' where nothing that the law and all that it calls make is longer than what came in: it says more and counts as full. Else prove '..UptoSaid'. A law counts once. -/
mutual
def uptoBulk {H : Type} : DataW H → Nat
  | .lit (.string bytes) => bytes.length + 1
  | .lit _ => 1
  | .nil => 1
  | .ptr d => uptoBulk d + 1
  | .slice elems spare => uptoBulkAll elems + uptoBulkAll spare + 1
  | .agg parts => uptoBulkAll parts + 1
  | .iface _ d => uptoBulk d + 1
  | .map entries => uptoBulkEntries entries + 1
  | .held _ => 1
def uptoBulkAll {H : Type} : List (DataW H) → Nat
  | [] => 0
  | d :: r => uptoBulk d + uptoBulkAll r
def uptoBulkEntries {H : Type} : List (Lit × DataW H) → Nat
  | [] => 0
  | x :: r => uptoBulkEntry x + uptoBulkEntries r
def uptoBulkEntry {H : Type} : Lit × DataW H → Nat
  | (.string bytes, d) => bytes.length + uptoBulk d + 1
  | (_, d) => uptoBulk d + 1
 end
def uptoSmall : (H : Type) → List (DataW H) → Bool := fun _ ds => decide (uptoBulkAll ds ≤ 1048576)
def OpenSpec.upto (s : _root_.Go.ChangeSpec) : _root_.Go.OpenSpec := { _root_.Go.OpenSpec.ofChange s with cond := some uptoSmall }

/-- 'garrisonlaw27.AuditBytes', WHERE WHAT IT READS IS OF BULK AT MOST 1048576: true; the input reads as it did. -/
def auditBytesUptoRow : OpenClaim := { program := "ytkjgieehiimiiaa", sum := "e17a475b78dbdcf184dbde2c294cfbe07be7b1106f54afd08f14e444c5123e0d", func := "garrison/garrisonlaw27.AuditBytes", spec := "auditBytes", plainKeys := false, apart := false, narrowed := true }
def AuditBytesUptoSaid : Prop := auditBytesUptoRow.holds Try.pinned (OpenSpec.upto auditBytesSpec)

/-- 'garrisonlaw21.PipeApart', WHERE WHAT IT READS IS OF BULK AT MOST 1048576: true; the input reads as it did. -/
def pipeApartUptoRow : OpenClaim := { program := "ytkjgieehiimiiaa", sum := "e17a475b78dbdcf184dbde2c294cfbe07be7b1106f54afd08f14e444c5123e0d", func := "garrison/garrisonlaw21.PipeApart", spec := "pipeApart", plainKeys := false, apart := false, narrowed := true }
def PipeApartUptoSaid : Prop := pipeApartUptoRow.holds Try.pinned (OpenSpec.upto pipeApartSpec)

/-- 'garrisonlaw21.PipeOrder', WHERE WHAT IT READS IS OF BULK AT MOST 1048576: true; the input reads as it did. -/
def pipeOrderUptoRow : OpenClaim := { program := "ytkjgieehiimiiaa", sum := "e17a475b78dbdcf184dbde2c294cfbe07be7b1106f54afd08f14e444c5123e0d", func := "garrison/garrisonlaw21.PipeOrder", spec := "pipeOrder", plainKeys := false, apart := false, narrowed := true }
def PipeOrderUptoSaid : Prop := pipeOrderUptoRow.holds Try.pinned (OpenSpec.upto pipeOrderSpec)

/-- 'garrisonlaw21.PipeNone', WHERE WHAT IT READS IS OF BULK AT MOST 1048576: true; the input reads as it did. -/
def pipeNoneUptoRow : OpenClaim := { program := "ytkjgieehiimiiaa", sum := "e17a475b78dbdcf184dbde2c294cfbe07be7b1106f54afd08f14e444c5123e0d", func := "garrison/garrisonlaw21.PipeNone", spec := "pipeNone", plainKeys := false, apart := false, narrowed := true }
def PipeNoneUptoSaid : Prop := pipeNoneUptoRow.holds Try.pinned (OpenSpec.upto pipeNoneSpec)

/-- 'garrisonlaw21.PipePlays', WHERE WHAT IT READS IS OF BULK AT MOST 1048576: true; the input reads as it did. -/
def pipePlaysUptoRow : OpenClaim := { program := "ytkjgieehiimiiaa", sum := "e17a475b78dbdcf184dbde2c294cfbe07be7b1106f54afd08f14e444c5123e0d", func := "garrison/garrisonlaw21.PipePlays", spec := "pipePlays", plainKeys := false, apart := false, narrowed := true }
def PipePlaysUptoSaid : Prop := pipePlaysUptoRow.holds Try.pinned (OpenSpec.upto pipePlaysSpec)

end Rows
end Go.Proofs.Ytkjgieehiimiiaa

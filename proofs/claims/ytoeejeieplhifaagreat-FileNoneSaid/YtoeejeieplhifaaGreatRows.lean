/-
  No cell of these rows narrows 'for every input' (looked for: loops, veiled, ifaces, maps, wideKeys, modest, calm, conditions, laid).
  DERIVED. THE GIVEN ROWS OF THIS SEAT. 4 by the template 'for every input the law returns true; each argument reads behind the call as it read before'; 0 by the template 'total and deterministic' (their statements: YtoeejeieplhifaaGreatTotals.lean).
  GIVEN WITH THE SEED: the statements are not yours to turn. If you find one false, say at which input.
  Laid BY PROGRAM, IN A SANDBOX (cutbox-rows.mjs): the forced cells as the released guide's own fill.sh prints them over the translation 20a96d64d6533024… (all of the seat's roots in one cut). By AI agents, Wed Nov 11 2026. No macro, syntax, notation, axiom, sorry.
-/
import Derived.Test.YtoeejeieplhifaaGreatChecked
import GoSem.Claim
import GoSem.ClaimJoined
import GoSem.ClaimMapViews
import Derived.JoinedTies
import Derived.KernelRfl
namespace Go.Proofs.YtoeejeieplhifaaGreat
/- THE CELL 'sum', in the pinned program and in every row, IS THE sha256 OF THE DUMP (.gsa) THAT YtoeejeieplhifaaGreatProg.lean LOADS. Nothing in Lean hashes anything: it is a label: what it is worth is what the hold of that sum in a sandbox is worth. -/
noncomputable def Tryz.pinned : Pinned := { name := "ytoeejeieplhifaagreat", sum := "20a96d64d6533024e439e768965b39591d665bbd34249cf939cd213639d897b7", checked := Tryz.checked }
namespace Rows
def none {H : Type} : Left H := { results := [], args := [] }

/-- 'garrisonlaw27.AuditLists': WHATEVER THE INPUT: true; the input reads as it did. -/
def auditListsSpec : ChangeSpec := { name := "auditLists", fn := fun _ => fun
  | [d1, d2, d3] => { results := [.lit (.bool true)], args := [d1, d2, d3] }
  | _ => none }
def auditListsRow : OpenClaim := { program := "ytoeejeieplhifaagreat", sum := "20a96d64d6533024e439e768965b39591d665bbd34249cf939cd213639d897b7", func := "garrison/garrisonlaw27.AuditLists", spec := "auditLists", unfollowed := true, recurses := true, plainKeys := false, apart := false }
def AuditListsSaid : Prop := auditListsRow.holds Tryz.pinned (OpenSpec.ofChange auditListsSpec)

/-- ITS FALSE NEIGHBOUR: 'it returns false'. Refute it at one input. -/
def auditListsWrong : ChangeSpec := { name := "auditLists", fn := fun _ => fun
  | [d1, d2, d3] => { results := [.lit (.bool false)], args := [d1, d2, d3] }
  | _ => none }
def AuditListsWrongFalsely : Prop := auditListsRow.holds Tryz.pinned (OpenSpec.ofChange auditListsWrong)

/-- 'garrisonlaw08.FileLong': WHATEVER THE INPUT: true; the input reads as it did. -/
def fileLongSpec : ChangeSpec := { name := "fileLong", fn := fun _ => fun
  | [d1, d2] => { results := [.lit (.bool true)], args := [d1, d2] }
  | _ => none }
def fileLongRow : OpenClaim := { program := "ytoeejeieplhifaagreat", sum := "20a96d64d6533024e439e768965b39591d665bbd34249cf939cd213639d897b7", func := "garrison/garrisonlaw08.FileLong", spec := "fileLong", unfollowed := true, recurses := true, plainKeys := false, apart := false }
def FileLongSaid : Prop := fileLongRow.holds Tryz.pinned (OpenSpec.ofChange fileLongSpec)

/-- ITS FALSE NEIGHBOUR: 'it returns false'. Refute it at one input. -/
def fileLongWrong : ChangeSpec := { name := "fileLong", fn := fun _ => fun
  | [d1, d2] => { results := [.lit (.bool false)], args := [d1, d2] }
  | _ => none }
def FileLongWrongFalsely : Prop := fileLongRow.holds Tryz.pinned (OpenSpec.ofChange fileLongWrong)

/-- 'garrisonlaw08.FileNone': WHATEVER THE INPUT: true; the input reads as it did. -/
def fileNoneSpec : ChangeSpec := { name := "fileNone", fn := fun _ => fun
  | [d1, d2, d3, d4] => { results := [.lit (.bool true)], args := [d1, d2, d3, d4] }
  | _ => none }
def fileNoneRow : OpenClaim := { program := "ytoeejeieplhifaagreat", sum := "20a96d64d6533024e439e768965b39591d665bbd34249cf939cd213639d897b7", func := "garrison/garrisonlaw08.FileNone", spec := "fileNone", unfollowed := true, recurses := true, plainKeys := false, apart := false }
def FileNoneSaid : Prop := fileNoneRow.holds Tryz.pinned (OpenSpec.ofChange fileNoneSpec)

/-- ITS FALSE NEIGHBOUR: 'it returns false'. Refute it at one input. -/
def fileNoneWrong : ChangeSpec := { name := "fileNone", fn := fun _ => fun
  | [d1, d2, d3, d4] => { results := [.lit (.bool false)], args := [d1, d2, d3, d4] }
  | _ => none }
def FileNoneWrongFalsely : Prop := fileNoneRow.holds Tryz.pinned (OpenSpec.ofChange fileNoneWrong)

/-- 'garrisonlaw08.FilePlays': WHATEVER THE INPUT: true; the input reads as it did. -/
def filePlaysSpec : ChangeSpec := { name := "filePlays", fn := fun _ => fun
  | [d1, d2] => { results := [.lit (.bool true)], args := [d1, d2] }
  | _ => none }
def filePlaysRow : OpenClaim := { program := "ytoeejeieplhifaagreat", sum := "20a96d64d6533024e439e768965b39591d665bbd34249cf939cd213639d897b7", func := "garrison/garrisonlaw08.FilePlays", spec := "filePlays", unfollowed := true, recurses := true, plainKeys := false, apart := false }
def FilePlaysSaid : Prop := filePlaysRow.holds Tryz.pinned (OpenSpec.ofChange filePlaysSpec)

/-- ITS FALSE NEIGHBOUR: 'it returns false'. Refute it at one input. -/
def filePlaysWrong : ChangeSpec := { name := "filePlays", fn := fun _ => fun
  | [d1, d2] => { results := [.lit (.bool false)], args := [d1, d2] }
  | _ => none }
def FilePlaysWrongFalsely : Prop := filePlaysRow.holds Tryz.pinned (OpenSpec.ofChange filePlaysWrong)

/- THE SECOND FORM. 'bulk': how many values and letters a reading holds, each counted each time it is reached (what is shared counts as often as it is met; a slice's spare places count too). A statement '..UptoSaid' is the law's where the arguments, and the package variables that the reading takes, are together of bulk at most 1048576: NARROWER than '..Said'. Prove '..Said' where nothing that the law and all that it calls make is longer than what came in: it says more and counts as full. Else prove '..UptoSaid'. A law counts once. -/
mutual
def uptoBulk {H : Type} : DataW H → Nat
  | .lit (.string bytes) => bytes.length + 1
  | .lit _ => 1
  | .nil => 1
  | .ptr d => uptoBulk d + 1
  | .slice elems spare => uptoBulkAll elems + uptoBulkAll spare + 1
  | .agg parts => uptoBulkAll parts + 1
  | .iface _ d => uptoBulk d + 1
  | .map entries => uptoBulkEntries entries + 1
  | .held _ => 1
def uptoBulkAll {H : Type} : List (DataW H) → Nat
  | [] => 0
  | d :: r => uptoBulk d + uptoBulkAll r
def uptoBulkEntries {H : Type} : List (Lit × DataW H) → Nat
  | [] => 0
  | x :: r => uptoBulkEntry x + uptoBulkEntries r
def uptoBulkEntry {H : Type} : Lit × DataW H → Nat
  | (.string bytes, d) => bytes.length + uptoBulk d + 1
  | (_, d) => uptoBulk d + 1
 end
def uptoSmall : (H : Type) → List (DataW H) → Bool := fun _ ds => decide (uptoBulkAll ds ≤ 1048576)
def OpenSpec.upto (s : _root_.Go.ChangeSpec) : _root_.Go.OpenSpec := { _root_.Go.OpenSpec.ofChange s with cond := some uptoSmall }

/-- 'garrisonlaw27.AuditLists', WHERE WHAT IT READS IS OF BULK AT MOST 1048576: true; the input reads as it did. -/
def auditListsUptoRow : OpenClaim := { program := "ytoeejeieplhifaagreat", sum := "20a96d64d6533024e439e768965b39591d665bbd34249cf939cd213639d897b7", func := "garrison/garrisonlaw27.AuditLists", spec := "auditLists", unfollowed := true, recurses := true, plainKeys := false, apart := false, narrowed := true }
def AuditListsUptoSaid : Prop := auditListsUptoRow.holds Tryz.pinned (OpenSpec.upto auditListsSpec)

/-- 'garrisonlaw08.FileLong', WHERE WHAT IT READS IS OF BULK AT MOST 1048576: true; the input reads as it did. -/
def fileLongUptoRow : OpenClaim := { program := "ytoeejeieplhifaagreat", sum := "20a96d64d6533024e439e768965b39591d665bbd34249cf939cd213639d897b7", func := "garrison/garrisonlaw08.FileLong", spec := "fileLong", unfollowed := true, recurses := true, plainKeys := false, apart := false, narrowed := true }
def FileLongUptoSaid : Prop := fileLongUptoRow.holds Tryz.pinned (OpenSpec.upto fileLongSpec)

/-- 'garrisonlaw08.FileNone', WHERE WHAT IT READS IS OF BULK AT MOST 1048576: true; the input reads as it did. -/
def fileNoneUptoRow : OpenClaim := { program := "ytoeejeieplhifaagreat", sum := "20a96d64d6533024e439e768965b39591d665bbd34249cf939cd213639d897b7", func := "garrison/garrisonlaw08.FileNone", spec := "fileNone", unfollowed := true, recurses := true, plainKeys := false, apart := false, narrowed := true }
def FileNoneUptoSaid : Prop := fileNoneUptoRow.holds Tryz.pinned (OpenSpec.upto fileNoneSpec)

/-- 'garrisonlaw08.FilePlays', WHERE WHAT IT READS IS OF BULK AT MOST 1048576: true; the input reads as it did. -/
def filePlaysUptoRow : OpenClaim := { program := "ytoeejeieplhifaagreat", sum := "20a96d64d6533024e439e768965b39591d665bbd34249cf939cd213639d897b7", func := "garrison/garrisonlaw08.FilePlays", spec := "filePlays", unfollowed := true, recurses := true, plainKeys := false, apart := false, narrowed := true }
def FilePlaysUptoSaid : Prop := filePlaysUptoRow.holds Tryz.pinned (OpenSpec.upto filePlaysSpec)

end Rows
end Go.Proofs.YtoeejeieplhifaaGreat

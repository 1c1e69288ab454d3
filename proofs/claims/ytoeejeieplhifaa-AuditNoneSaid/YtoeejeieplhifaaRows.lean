/-
  No cell of these rows narrows 'for every input' (looked for: loops, veiled, ifaces, maps, wideKeys, modest, calm, conditions, laid).
  DERIVED. THE GIVEN ROWS OF THIS SEAT. 7 by the template 'for every input the law returns true; each argument reads behind the call as it read before'; 0 by the template 'total and deterministic' (their statements: YtoeejeieplhifaaTotals.lean).
  GIVEN WITH THE SEED: the statements are not yours to turn. If you find one false, say at which input.
  Laid BY PROGRAM, IN A SANDBOX (cutbox-rows.mjs): the forced cells as the released guide's own fill.sh prints them over the translation 6f471181634a66ec… (all of the seat's roots in one cut). By AI agents, Wed Nov 11 2026. No macro, syntax, notation, axiom, sorry.
-/
import Derived.Test.YtoeejeieplhifaaChecked
import GoSem.Claim
import GoSem.ClaimJoined
import GoSem.ClaimMapViews
import Derived.JoinedTies
import Derived.KernelRfl
namespace Go.Proofs.Ytoeejeieplhifaa
/- THE CELL 'sum', in the pinned program and in every row, IS THE sha256 OF THE DUMP (.gsa) THAT YtoeejeieplhifaaProg.lean LOADS. Nothing in Lean hashes anything: it is a label: what it is worth is what the hold of that sum in a sandbox is worth. -/
noncomputable def Try.pinned : Pinned := { name := "ytoeejeieplhifaa", sum := "6f471181634a66ecd9d08895bb6f14796811f2f620217923a2d700ef9e30a47f", checked := Try.checked }
namespace Rows
def none {H : Type} : Left H := { results := [], args := [] }

/-- 'garrisonlaw07.GroupLinks': WHATEVER THE INPUT: true; the input reads as it did. -/
def groupLinksSpec : ChangeSpec := { name := "groupLinks", fn := fun _ => fun
  | [d1, d2, d3] => { results := [.lit (.bool true)], args := [d1, d2, d3] }
  | _ => none }
def groupLinksRow : OpenClaim := { program := "ytoeejeieplhifaa", sum := "6f471181634a66ecd9d08895bb6f14796811f2f620217923a2d700ef9e30a47f", func := "garrison/garrisonlaw07.GroupLinks", spec := "groupLinks", unfollowed := true, recurses := true, plainKeys := false, apart := false }
def GroupLinksSaid : Prop := groupLinksRow.holds Try.pinned (OpenSpec.ofChange groupLinksSpec)

/-- ITS FALSE NEIGHBOUR: 'it returns false'. Refute it at one input. -/
def groupLinksWrong : ChangeSpec := { name := "groupLinks", fn := fun _ => fun
  | [d1, d2, d3] => { results := [.lit (.bool false)], args := [d1, d2, d3] }
  | _ => none }
def GroupLinksWrongFalsely : Prop := groupLinksRow.holds Try.pinned (OpenSpec.ofChange groupLinksWrong)

/-- 'garrisonlaw07.GroupApart': WHATEVER THE INPUT: true; the input reads as it did. -/
def groupApartSpec : ChangeSpec := { name := "groupApart", fn := fun _ => fun
  | [d1, d2, d3, d4] => { results := [.lit (.bool true)], args := [d1, d2, d3, d4] }
  | _ => none }
def groupApartRow : OpenClaim := { program := "ytoeejeieplhifaa", sum := "6f471181634a66ecd9d08895bb6f14796811f2f620217923a2d700ef9e30a47f", func := "garrison/garrisonlaw07.GroupApart", spec := "groupApart", unfollowed := true, recurses := true, plainKeys := false, apart := false }
def GroupApartSaid : Prop := groupApartRow.holds Try.pinned (OpenSpec.ofChange groupApartSpec)

/-- ITS FALSE NEIGHBOUR: 'it returns false'. Refute it at one input. -/
def groupApartWrong : ChangeSpec := { name := "groupApart", fn := fun _ => fun
  | [d1, d2, d3, d4] => { results := [.lit (.bool false)], args := [d1, d2, d3, d4] }
  | _ => none }
def GroupApartWrongFalsely : Prop := groupApartRow.holds Try.pinned (OpenSpec.ofChange groupApartWrong)

/-- 'garrisonlaw07.GroupPlays': WHATEVER THE INPUT: true; the input reads as it did. -/
def groupPlaysSpec : ChangeSpec := { name := "groupPlays", fn := fun _ => fun
  | [d1, d2, d3] => { results := [.lit (.bool true)], args := [d1, d2, d3] }
  | _ => none }
def groupPlaysRow : OpenClaim := { program := "ytoeejeieplhifaa", sum := "6f471181634a66ecd9d08895bb6f14796811f2f620217923a2d700ef9e30a47f", func := "garrison/garrisonlaw07.GroupPlays", spec := "groupPlays", unfollowed := true, recurses := true, plainKeys := false, apart := false }
def GroupPlaysSaid : Prop := groupPlaysRow.holds Try.pinned (OpenSpec.ofChange groupPlaysSpec)

/-- ITS FALSE NEIGHBOUR: 'it returns false'. Refute it at one input. -/
def groupPlaysWrong : ChangeSpec := { name := "groupPlays", fn := fun _ => fun
  | [d1, d2, d3] => { results := [.lit (.bool false)], args := [d1, d2, d3] }
  | _ => none }
def GroupPlaysWrongFalsely : Prop := groupPlaysRow.holds Try.pinned (OpenSpec.ofChange groupPlaysWrong)

/-- 'garrisonlaw08.FileOwn': WHATEVER THE INPUT: true; the input reads as it did. -/
def fileOwnSpec : ChangeSpec := { name := "fileOwn", fn := fun _ => fun
  | [d] => { results := [.lit (.bool true)], args := [d] }
  | _ => none }
def fileOwnRow : OpenClaim := { program := "ytoeejeieplhifaa", sum := "6f471181634a66ecd9d08895bb6f14796811f2f620217923a2d700ef9e30a47f", func := "garrison/garrisonlaw08.FileOwn", spec := "fileOwn", unfollowed := true, recurses := true, plainKeys := false, apart := false }
def FileOwnSaid : Prop := fileOwnRow.holds Try.pinned (OpenSpec.ofChange fileOwnSpec)

/-- ITS FALSE NEIGHBOUR: 'it returns false'. Refute it at one input. -/
def fileOwnWrong : ChangeSpec := { name := "fileOwn", fn := fun _ => fun
  | [d] => { results := [.lit (.bool false)], args := [d] }
  | _ => none }
def FileOwnWrongFalsely : Prop := fileOwnRow.holds Try.pinned (OpenSpec.ofChange fileOwnWrong)

/-- 'garrisonlaw08.FileBig': WHATEVER THE INPUT: true; the input reads as it did. -/
def fileBigSpec : ChangeSpec := { name := "fileBig", fn := fun _ => fun
  | [d1, d2] => { results := [.lit (.bool true)], args := [d1, d2] }
  | _ => none }
def fileBigRow : OpenClaim := { program := "ytoeejeieplhifaa", sum := "6f471181634a66ecd9d08895bb6f14796811f2f620217923a2d700ef9e30a47f", func := "garrison/garrisonlaw08.FileBig", spec := "fileBig", unfollowed := true, recurses := true, plainKeys := false, apart := false }
def FileBigSaid : Prop := fileBigRow.holds Try.pinned (OpenSpec.ofChange fileBigSpec)

/-- ITS FALSE NEIGHBOUR: 'it returns false'. Refute it at one input. -/
def fileBigWrong : ChangeSpec := { name := "fileBig", fn := fun _ => fun
  | [d1, d2] => { results := [.lit (.bool false)], args := [d1, d2] }
  | _ => none }
def FileBigWrongFalsely : Prop := fileBigRow.holds Try.pinned (OpenSpec.ofChange fileBigWrong)

/-- 'garrisonlaw08.FileMiddle': WHATEVER THE INPUT: true; the input reads as it did. -/
def fileMiddleSpec : ChangeSpec := { name := "fileMiddle", fn := fun _ => fun
  | [d1, d2, d3, d4] => { results := [.lit (.bool true)], args := [d1, d2, d3, d4] }
  | _ => none }
def fileMiddleRow : OpenClaim := { program := "ytoeejeieplhifaa", sum := "6f471181634a66ecd9d08895bb6f14796811f2f620217923a2d700ef9e30a47f", func := "garrison/garrisonlaw08.FileMiddle", spec := "fileMiddle", unfollowed := true, recurses := true, plainKeys := false, apart := false }
def FileMiddleSaid : Prop := fileMiddleRow.holds Try.pinned (OpenSpec.ofChange fileMiddleSpec)

/-- ITS FALSE NEIGHBOUR: 'it returns false'. Refute it at one input. -/
def fileMiddleWrong : ChangeSpec := { name := "fileMiddle", fn := fun _ => fun
  | [d1, d2, d3, d4] => { results := [.lit (.bool false)], args := [d1, d2, d3, d4] }
  | _ => none }
def FileMiddleWrongFalsely : Prop := fileMiddleRow.holds Try.pinned (OpenSpec.ofChange fileMiddleWrong)

/-- 'garrisonlaw27.AuditNone': WHATEVER THE INPUT: true; the input reads as it did. -/
def auditNoneSpec : ChangeSpec := { name := "auditNone", fn := fun _ => fun
  | [d1, d2, d3, d4] => { results := [.lit (.bool true)], args := [d1, d2, d3, d4] }
  | _ => none }
def auditNoneRow : OpenClaim := { program := "ytoeejeieplhifaa", sum := "6f471181634a66ecd9d08895bb6f14796811f2f620217923a2d700ef9e30a47f", func := "garrison/garrisonlaw27.AuditNone", spec := "auditNone", unfollowed := true, recurses := true, plainKeys := false, apart := false }
def AuditNoneSaid : Prop := auditNoneRow.holds Try.pinned (OpenSpec.ofChange auditNoneSpec)

/-- ITS FALSE NEIGHBOUR: 'it returns false'. Refute it at one input. -/
def auditNoneWrong : ChangeSpec := { name := "auditNone", fn := fun _ => fun
  | [d1, d2, d3, d4] => { results := [.lit (.bool false)], args := [d1, d2, d3, d4] }
  | _ => none }
def AuditNoneWrongFalsely : Prop := auditNoneRow.holds Try.pinned (OpenSpec.ofChange auditNoneWrong)

/- THE SECOND FORM. 'bulk': how many values and letters a reading holds, each counted each time it is reached (what is shared counts as often as it is met; a slice's spare places count too). A statement '..UptoSaid' is the law's where the arguments, and the package variables that the reading takes, are together of bulk at most 1048576: NARROWER than '..Said'. Prove '..Said' where nothing that the law and all that it calls make is longer than what came in: it says more and counts as full. Else prove '..UptoSaid'. A law counts once. -/
mutual
def uptoBulk {H : Type} : DataW H → Nat
  | .lit (.string bytes) => bytes.length + 1
  | .lit _ => 1
  | .nil => 1
  | .ptr d => uptoBulk d + 1
  | .slice elems spare => uptoBulkAll elems + uptoBulkAll spare + 1
  | .agg parts => uptoBulkAll parts + 1
  | .iface _ d => uptoBulk d + 1
  | .map entries => uptoBulkEntries entries + 1
  | .held _ => 1
def uptoBulkAll {H : Type} : List (DataW H) → Nat
  | [] => 0
  | d :: r => uptoBulk d + uptoBulkAll r
def uptoBulkEntries {H : Type} : List (Lit × DataW H) → Nat
  | [] => 0
  | x :: r => uptoBulkEntry x + uptoBulkEntries r
def uptoBulkEntry {H : Type} : Lit × DataW H → Nat
  | (.string bytes, d) => bytes.length + uptoBulk d + 1
  | (_, d) => uptoBulk d + 1
 end
def uptoSmall : (H : Type) → List (DataW H) → Bool := fun _ ds => decide (uptoBulkAll ds ≤ 1048576)
def OpenSpec.upto (s : _root_.Go.ChangeSpec) : _root_.Go.OpenSpec := { _root_.Go.OpenSpec.ofChange s with cond := some uptoSmall }

/-- 'garrisonlaw07.GroupLinks', WHERE WHAT IT READS IS OF BULK AT MOST 1048576: true; the input reads as it did. -/
def groupLinksUptoRow : OpenClaim := { program := "ytoeejeieplhifaa", sum := "6f471181634a66ecd9d08895bb6f14796811f2f620217923a2d700ef9e30a47f", func := "garrison/garrisonlaw07.GroupLinks", spec := "groupLinks", unfollowed := true, recurses := true, plainKeys := false, apart := false, narrowed := true }
def GroupLinksUptoSaid : Prop := groupLinksUptoRow.holds Try.pinned (OpenSpec.upto groupLinksSpec)

/-- 'garrisonlaw07.GroupApart', WHERE WHAT IT READS IS OF BULK AT MOST 1048576: true; the input reads as it did. -/
def groupApartUptoRow : OpenClaim := { program := "ytoeejeieplhifaa", sum := "6f471181634a66ecd9d08895bb6f14796811f2f620217923a2d700ef9e30a47f", func := "garrison/garrisonlaw07.GroupApart", spec := "groupApart", unfollowed := true, recurses := true, plainKeys := false, apart := false, narrowed := true }
def GroupApartUptoSaid : Prop := groupApartUptoRow.holds Try.pinned (OpenSpec.upto groupApartSpec)

/-- 'garrisonlaw07.GroupPlays', WHERE WHAT IT READS IS OF BULK AT MOST 1048576: true; the input reads as it did. -/
def groupPlaysUptoRow : OpenClaim := { program := "ytoeejeieplhifaa", sum := "6f471181634a66ecd9d08895bb6f14796811f2f620217923a2d700ef9e30a47f", func := "garrison/garrisonlaw07.GroupPlays", spec := "groupPlays", unfollowed := true, recurses := true, plainKeys := false, apart := false, narrowed := true }
def GroupPlaysUptoSaid : Prop := groupPlaysUptoRow.holds Try.pinned (OpenSpec.upto groupPlaysSpec)

/-- 'garrisonlaw08.FileOwn', WHERE WHAT IT READS IS OF BULK AT MOST 1048576: true; the input reads as it did. -/
def fileOwnUptoRow : OpenClaim := { program := "ytoeejeieplhifaa", sum := "6f471181634a66ecd9d08895bb6f14796811f2f620217923a2d700ef9e30a47f", func := "garrison/garrisonlaw08.FileOwn", spec := "fileOwn", unfollowed := true, recurses := true, plainKeys := false, apart := false, narrowed := true }
def FileOwnUptoSaid : Prop := fileOwnUptoRow.holds Try.pinned (OpenSpec.upto fileOwnSpec)

/-- 'garrisonlaw08.FileBig', WHERE WHAT IT READS IS OF BULK AT MOST 1048576: true; the input reads as it did. -/
def fileBigUptoRow : OpenClaim := { program := "ytoeejeieplhifaa", sum := "6f471181634a66ecd9d08895bb6f14796811f2f620217923a2d700ef9e30a47f", func := "garrison/garrisonlaw08.FileBig", spec := "fileBig", unfollowed := true, recurses := true, plainKeys := false, apart := false, narrowed := true }
def FileBigUptoSaid : Prop := fileBigUptoRow.holds Try.pinned (OpenSpec.upto fileBigSpec)

/-- 'garrisonlaw08.FileMiddle', WHERE WHAT IT READS IS OF BULK AT MOST 1048576: true; the input reads as it did. -/
def fileMiddleUptoRow : OpenClaim := { program := "ytoeejeieplhifaa", sum := "6f471181634a66ecd9d08895bb6f14796811f2f620217923a2d700ef9e30a47f", func := "garrison/garrisonlaw08.FileMiddle", spec := "fileMiddle", unfollowed := true, recurses := true, plainKeys := false, apart := false, narrowed := true }
def FileMiddleUptoSaid : Prop := fileMiddleUptoRow.holds Try.pinned (OpenSpec.upto fileMiddleSpec)

/-- 'garrisonlaw27.AuditNone', WHERE WHAT IT READS IS OF BULK AT MOST 1048576: true; the input reads as it did. -/
def auditNoneUptoRow : OpenClaim := { program := "ytoeejeieplhifaa", sum := "6f471181634a66ecd9d08895bb6f14796811f2f620217923a2d700ef9e30a47f", func := "garrison/garrisonlaw27.AuditNone", spec := "auditNone", unfollowed := true, recurses := true, plainKeys := false, apart := false, narrowed := true }
def AuditNoneUptoSaid : Prop := auditNoneUptoRow.holds Try.pinned (OpenSpec.upto auditNoneSpec)

end Rows
end Go.Proofs.Ytoeejeieplhifaa

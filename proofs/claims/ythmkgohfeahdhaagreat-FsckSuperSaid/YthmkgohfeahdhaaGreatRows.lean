/-
  No cell of these rows narrows 'for every input' (looked for: loops, veiled, ifaces, maps, wideKeys, modest, calm, conditions, laid).
  DERIVED. THE GIVEN ROWS OF THIS SEAT. 11 by the template 'for every input the law returns true; each argument reads behind the call as it read before'; 0 by the template 'total and deterministic' (their statements: YthmkgohfeahdhaaGreatTotals.lean).
  GIVEN WITH THE SEED: the statements are not yours to turn. If you find one false, say at which input.
  Laid BY PROGRAM, IN A SANDBOX (cutbox-rows.mjs): the forced cells as the released guide's own fill.sh prints them over the translation 0f7dd31e97794c22… (all of the seat's roots in one cut). By AI agents, Wed Nov 11 2026. No macro, syntax, notation, axiom, sorry.
-/
import Derived.Test.YthmkgohfeahdhaaGreatChecked
import GoSem.Claim
import GoSem.ClaimJoined
import GoSem.ClaimMapViews
import Derived.JoinedTies
import Derived.KernelRfl
namespace Go.Proofs.YthmkgohfeahdhaaGreat
/- THE CELL 'sum', in the pinned program and in every row, IS THE sha256 OF THE DUMP (.gsa) THAT YthmkgohfeahdhaaGreatProg.lean LOADS. Nothing in Lean hashes anything: it is a label: what it is worth is what the hold of that sum in a sandbox is worth. -/
noncomputable def Tryz.pinned : Pinned := { name := "ythmkgohfeahdhaagreat", sum := "0f7dd31e97794c2203584925dc4ebcd4f5c97a716c032060b6875e396cda33d6", checked := Tryz.checked }
namespace Rows
def none {H : Type} : Left H := { results := [], args := [] }

/-- 'garrisonlaw27.AuditLists': WHATEVER THE INPUT: true; the input reads as it did. -/
def auditListsSpec : ChangeSpec := { name := "auditLists", fn := fun _ => fun
  | [d1, d2, d3] => { results := [.lit (.bool true)], args := [d1, d2, d3] }
  | _ => none }
def auditListsRow : OpenClaim := { program := "ythmkgohfeahdhaagreat", sum := "0f7dd31e97794c2203584925dc4ebcd4f5c97a716c032060b6875e396cda33d6", func := "garrison/garrisonlaw27.AuditLists", spec := "auditLists", unfollowed := true, recurses := true, plainKeys := false, apart := false }
def AuditListsSaid : Prop := auditListsRow.holds Tryz.pinned (OpenSpec.ofChange auditListsSpec)

/-- ITS FALSE NEIGHBOUR: 'it returns false'. Refute it at one input. -/
def auditListsWrong : ChangeSpec := { name := "auditLists", fn := fun _ => fun
  | [d1, d2, d3] => { results := [.lit (.bool false)], args := [d1, d2, d3] }
  | _ => none }
def AuditListsWrongFalsely : Prop := auditListsRow.holds Tryz.pinned (OpenSpec.ofChange auditListsWrong)

/-- 'garrisonlaw08.FileLong': WHATEVER THE INPUT: true; the input reads as it did. -/
def fileLongSpec : ChangeSpec := { name := "fileLong", fn := fun _ => fun
  | [d1, d2] => { results := [.lit (.bool true)], args := [d1, d2] }
  | _ => none }
def fileLongRow : OpenClaim := { program := "ythmkgohfeahdhaagreat", sum := "0f7dd31e97794c2203584925dc4ebcd4f5c97a716c032060b6875e396cda33d6", func := "garrison/garrisonlaw08.FileLong", spec := "fileLong", unfollowed := true, recurses := true, plainKeys := false, apart := false }
def FileLongSaid : Prop := fileLongRow.holds Tryz.pinned (OpenSpec.ofChange fileLongSpec)

/-- ITS FALSE NEIGHBOUR: 'it returns false'. Refute it at one input. -/
def fileLongWrong : ChangeSpec := { name := "fileLong", fn := fun _ => fun
  | [d1, d2] => { results := [.lit (.bool false)], args := [d1, d2] }
  | _ => none }
def FileLongWrongFalsely : Prop := fileLongRow.holds Tryz.pinned (OpenSpec.ofChange fileLongWrong)

/-- 'garrisonlaw08.FilePlays': WHATEVER THE INPUT: true; the input reads as it did. -/
def filePlaysSpec : ChangeSpec := { name := "filePlays", fn := fun _ => fun
  | [d1, d2] => { results := [.lit (.bool true)], args := [d1, d2] }
  | _ => none }
def filePlaysRow : OpenClaim := { program := "ythmkgohfeahdhaagreat", sum := "0f7dd31e97794c2203584925dc4ebcd4f5c97a716c032060b6875e396cda33d6", func := "garrison/garrisonlaw08.FilePlays", spec := "filePlays", unfollowed := true, recurses := true, plainKeys := false, apart := false }
def FilePlaysSaid : Prop := filePlaysRow.holds Tryz.pinned (OpenSpec.ofChange filePlaysSpec)

/-- ITS FALSE NEIGHBOUR: 'it returns false'. Refute it at one input. -/
def filePlaysWrong : ChangeSpec := { name := "filePlays", fn := fun _ => fun
  | [d1, d2] => { results := [.lit (.bool false)], args := [d1, d2] }
  | _ => none }
def FilePlaysWrongFalsely : Prop := filePlaysRow.holds Tryz.pinned (OpenSpec.ofChange filePlaysWrong)

/-- 'garrisonlaw14.FsckSuper': WHATEVER THE INPUT: true; the input reads as it did. -/
def fsckSuperSpec : ChangeSpec := { name := "fsckSuper", fn := fun _ => fun
  | [d] => { results := [.lit (.bool true)], args := [d] }
  | _ => none }
def fsckSuperRow : OpenClaim := { program := "ythmkgohfeahdhaagreat", sum := "0f7dd31e97794c2203584925dc4ebcd4f5c97a716c032060b6875e396cda33d6", func := "garrison/garrisonlaw14.FsckSuper", spec := "fsckSuper", unfollowed := true, recurses := true, plainKeys := false, apart := false }
def FsckSuperSaid : Prop := fsckSuperRow.holds Tryz.pinned (OpenSpec.ofChange fsckSuperSpec)

/-- ITS FALSE NEIGHBOUR: 'it returns false'. Refute it at one input. -/
def fsckSuperWrong : ChangeSpec := { name := "fsckSuper", fn := fun _ => fun
  | [d] => { results := [.lit (.bool false)], args := [d] }
  | _ => none }
def FsckSuperWrongFalsely : Prop := fsckSuperRow.holds Tryz.pinned (OpenSpec.ofChange fsckSuperWrong)

/-- 'garrisonlaw14.FsckNone': WHATEVER THE INPUT: true; the input reads as it did. -/
def fsckNoneSpec : ChangeSpec := { name := "fsckNone", fn := fun _ => fun
  | [d1, d2] => { results := [.lit (.bool true)], args := [d1, d2] }
  | _ => none }
def fsckNoneRow : OpenClaim := { program := "ythmkgohfeahdhaagreat", sum := "0f7dd31e97794c2203584925dc4ebcd4f5c97a716c032060b6875e396cda33d6", func := "garrison/garrisonlaw14.FsckNone", spec := "fsckNone", unfollowed := true, recurses := true, plainKeys := false, apart := false }
def FsckNoneSaid : Prop := fsckNoneRow.holds Tryz.pinned (OpenSpec.ofChange fsckNoneSpec)

/-- ITS FALSE NEIGHBOUR: 'it returns false'. Refute it at one input. -/
def fsckNoneWrong : ChangeSpec := { name := "fsckNone", fn := fun _ => fun
  | [d1, d2] => { results := [.lit (.bool false)], args := [d1, d2] }
  | _ => none }
def FsckNoneWrongFalsely : Prop := fsckNoneRow.holds Tryz.pinned (OpenSpec.ofChange fsckNoneWrong)

/-- 'garrisonlaw09.DirMany': WHATEVER THE INPUT: true; the input reads as it did. -/
def dirManySpec : ChangeSpec := { name := "dirMany", fn := fun _ => fun
  | [d1, d2] => { results := [.lit (.bool true)], args := [d1, d2] }
  | _ => none }
def dirManyRow : OpenClaim := { program := "ythmkgohfeahdhaagreat", sum := "0f7dd31e97794c2203584925dc4ebcd4f5c97a716c032060b6875e396cda33d6", func := "garrison/garrisonlaw09.DirMany", spec := "dirMany", unfollowed := true, recurses := true, plainKeys := false, apart := false }
def DirManySaid : Prop := dirManyRow.holds Tryz.pinned (OpenSpec.ofChange dirManySpec)

/-- ITS FALSE NEIGHBOUR: 'it returns false'. Refute it at one input. -/
def dirManyWrong : ChangeSpec := { name := "dirMany", fn := fun _ => fun
  | [d1, d2] => { results := [.lit (.bool false)], args := [d1, d2] }
  | _ => none }
def DirManyWrongFalsely : Prop := dirManyRow.holds Tryz.pinned (OpenSpec.ofChange dirManyWrong)

/-- 'garrisonlaw09.DirPlays': WHATEVER THE INPUT: true; the input reads as it did. -/
def dirPlaysSpec : ChangeSpec := { name := "dirPlays", fn := fun _ => fun
  | [d] => { results := [.lit (.bool true)], args := [d] }
  | _ => none }
def dirPlaysRow : OpenClaim := { program := "ythmkgohfeahdhaagreat", sum := "0f7dd31e97794c2203584925dc4ebcd4f5c97a716c032060b6875e396cda33d6", func := "garrison/garrisonlaw09.DirPlays", spec := "dirPlays", unfollowed := true, recurses := true, plainKeys := false, apart := false }
def DirPlaysSaid : Prop := dirPlaysRow.holds Tryz.pinned (OpenSpec.ofChange dirPlaysSpec)

/-- ITS FALSE NEIGHBOUR: 'it returns false'. Refute it at one input. -/
def dirPlaysWrong : ChangeSpec := { name := "dirPlays", fn := fun _ => fun
  | [d] => { results := [.lit (.bool false)], args := [d] }
  | _ => none }
def DirPlaysWrongFalsely : Prop := dirPlaysRow.holds Tryz.pinned (OpenSpec.ofChange dirPlaysWrong)

/-- 'garrisonlaw09.DirNone': WHATEVER THE INPUT: true; the input reads as it did. -/
def dirNoneSpec : ChangeSpec := { name := "dirNone", fn := fun _ => fun
  | [d1, d2] => { results := [.lit (.bool true)], args := [d1, d2] }
  | _ => none }
def dirNoneRow : OpenClaim := { program := "ythmkgohfeahdhaagreat", sum := "0f7dd31e97794c2203584925dc4ebcd4f5c97a716c032060b6875e396cda33d6", func := "garrison/garrisonlaw09.DirNone", spec := "dirNone", unfollowed := true, recurses := true, plainKeys := false, apart := false }
def DirNoneSaid : Prop := dirNoneRow.holds Tryz.pinned (OpenSpec.ofChange dirNoneSpec)

/-- ITS FALSE NEIGHBOUR: 'it returns false'. Refute it at one input. -/
def dirNoneWrong : ChangeSpec := { name := "dirNone", fn := fun _ => fun
  | [d1, d2] => { results := [.lit (.bool false)], args := [d1, d2] }
  | _ => none }
def DirNoneWrongFalsely : Prop := dirNoneRow.holds Tryz.pinned (OpenSpec.ofChange dirNoneWrong)

/-- 'garrisonlaw09.DirApart': WHATEVER THE INPUT: true; the input reads as it did. -/
def dirApartSpec : ChangeSpec := { name := "dirApart", fn := fun _ => fun
  | [d] => { results := [.lit (.bool true)], args := [d] }
  | _ => none }
def dirApartRow : OpenClaim := { program := "ythmkgohfeahdhaagreat", sum := "0f7dd31e97794c2203584925dc4ebcd4f5c97a716c032060b6875e396cda33d6", func := "garrison/garrisonlaw09.DirApart", spec := "dirApart", unfollowed := true, recurses := true, plainKeys := false, apart := false }
def DirApartSaid : Prop := dirApartRow.holds Tryz.pinned (OpenSpec.ofChange dirApartSpec)

/-- ITS FALSE NEIGHBOUR: 'it returns false'. Refute it at one input. -/
def dirApartWrong : ChangeSpec := { name := "dirApart", fn := fun _ => fun
  | [d] => { results := [.lit (.bool false)], args := [d] }
  | _ => none }
def DirApartWrongFalsely : Prop := dirApartRow.holds Tryz.pinned (OpenSpec.ofChange dirApartWrong)

/-- 'garrisonlaw10.InstNone': WHATEVER THE INPUT: true; the input reads as it did. -/
def instNoneSpec : ChangeSpec := { name := "instNone", fn := fun _ => fun
  | [d] => { results := [.lit (.bool true)], args := [d] }
  | _ => none }
def instNoneRow : OpenClaim := { program := "ythmkgohfeahdhaagreat", sum := "0f7dd31e97794c2203584925dc4ebcd4f5c97a716c032060b6875e396cda33d6", func := "garrison/garrisonlaw10.InstNone", spec := "instNone", unfollowed := true, recurses := true, plainKeys := false, apart := false }
def InstNoneSaid : Prop := instNoneRow.holds Tryz.pinned (OpenSpec.ofChange instNoneSpec)

/-- ITS FALSE NEIGHBOUR: 'it returns false'. Refute it at one input. -/
def instNoneWrong : ChangeSpec := { name := "instNone", fn := fun _ => fun
  | [d] => { results := [.lit (.bool false)], args := [d] }
  | _ => none }
def InstNoneWrongFalsely : Prop := instNoneRow.holds Tryz.pinned (OpenSpec.ofChange instNoneWrong)

/-- 'garrisonlaw10.InstApart': WHATEVER THE INPUT: true; the input reads as it did. -/
def instApartSpec : ChangeSpec := { name := "instApart", fn := fun _ => fun
  | [d1, d2] => { results := [.lit (.bool true)], args := [d1, d2] }
  | _ => none }
def instApartRow : OpenClaim := { program := "ythmkgohfeahdhaagreat", sum := "0f7dd31e97794c2203584925dc4ebcd4f5c97a716c032060b6875e396cda33d6", func := "garrison/garrisonlaw10.InstApart", spec := "instApart", unfollowed := true, recurses := true, plainKeys := false, apart := false }
def InstApartSaid : Prop := instApartRow.holds Tryz.pinned (OpenSpec.ofChange instApartSpec)

/-- ITS FALSE NEIGHBOUR: 'it returns false'. Refute it at one input. -/
def instApartWrong : ChangeSpec := { name := "instApart", fn := fun _ => fun
  | [d1, d2] => { results := [.lit (.bool false)], args := [d1, d2] }
  | _ => none }
def InstApartWrongFalsely : Prop := instApartRow.holds Tryz.pinned (OpenSpec.ofChange instApartWrong)

/- THE SECOND FORM. 'bulk': how many values and letters a reading holds, each counted each time it is reached (what is shared counts as often as it is met; a slice's spare places count too). A statement '..UptoSaid' is the law's where the arguments, and the package variables that the reading takes, are together of bulk at most 1048576: NARROWER than '..Said'. Prove '..Said' where nothing that the law and all that it calls make is longer than what came in: it says more and counts as full. Else prove '..UptoSaid'. A law counts once. -/
mutual
def uptoBulk {H : Type} : DataW H → Nat
  | .lit (.string bytes) => bytes.length + 1
  | .lit _ => 1
  | .nil => 1
  | .ptr d => uptoBulk d + 1
  | .slice elems spare => uptoBulkAll elems + uptoBulkAll spare + 1
  | .agg parts => uptoBulkAll parts + 1
  | .iface _ d => uptoBulk d + 1
  | .map entries => uptoBulkEntries entries + 1
  | .held _ => 1
def uptoBulkAll {H : Type} : List (DataW H) → Nat
  | [] => 0
  | d :: r => uptoBulk d + uptoBulkAll r
def uptoBulkEntries {H : Type} : List (Lit × DataW H) → Nat
  | [] => 0
  | x :: r => uptoBulkEntry x + uptoBulkEntries r
def uptoBulkEntry {H : Type} : Lit × DataW H → Nat
  | (.string bytes, d) => bytes.length + uptoBulk d + 1
  | (_, d) => uptoBulk d + 1
 end
def uptoSmall : (H : Type) → List (DataW H) → Bool := fun _ ds => decide (uptoBulkAll ds ≤ 1048576)
def OpenSpec.upto (s : _root_.Go.ChangeSpec) : _root_.Go.OpenSpec := { _root_.Go.OpenSpec.ofChange s with cond := some uptoSmall }

/-- 'garrisonlaw27.AuditLists', WHERE WHAT IT READS IS OF BULK AT MOST 1048576: true; the input reads as it did. -/
def auditListsUptoRow : OpenClaim := { program := "ythmkgohfeahdhaagreat", sum := "0f7dd31e97794c2203584925dc4ebcd4f5c97a716c032060b6875e396cda33d6", func := "garrison/garrisonlaw27.AuditLists", spec := "auditLists", unfollowed := true, recurses := true, plainKeys := false, apart := false, narrowed := true }
def AuditListsUptoSaid : Prop := auditListsUptoRow.holds Tryz.pinned (OpenSpec.upto auditListsSpec)

/-- 'garrisonlaw08.FileLong', WHERE WHAT IT READS IS OF BULK AT MOST 1048576: true; the input reads as it did. -/
def fileLongUptoRow : OpenClaim := { program := "ythmkgohfeahdhaagreat", sum := "0f7dd31e97794c2203584925dc4ebcd4f5c97a716c032060b6875e396cda33d6", func := "garrison/garrisonlaw08.FileLong", spec := "fileLong", unfollowed := true, recurses := true, plainKeys := false, apart := false, narrowed := true }
def FileLongUptoSaid : Prop := fileLongUptoRow.holds Tryz.pinned (OpenSpec.upto fileLongSpec)

/-- 'garrisonlaw08.FilePlays', WHERE WHAT IT READS IS OF BULK AT MOST 1048576: true; the input reads as it did. -/
def filePlaysUptoRow : OpenClaim := { program := "ythmkgohfeahdhaagreat", sum := "0f7dd31e97794c2203584925dc4ebcd4f5c97a716c032060b6875e396cda33d6", func := "garrison/garrisonlaw08.FilePlays", spec := "filePlays", unfollowed := true, recurses := true, plainKeys := false, apart := false, narrowed := true }
def FilePlaysUptoSaid : Prop := filePlaysUptoRow.holds Tryz.pinned (OpenSpec.upto filePlaysSpec)

/-- 'garrisonlaw14.FsckSuper', WHERE WHAT IT READS IS OF BULK AT MOST 1048576: true; the input reads as it did. -/
def fsckSuperUptoRow : OpenClaim := { program := "ythmkgohfeahdhaagreat", sum := "0f7dd31e97794c2203584925dc4ebcd4f5c97a716c032060b6875e396cda33d6", func := "garrison/garrisonlaw14.FsckSuper", spec := "fsckSuper", unfollowed := true, recurses := true, plainKeys := false, apart := false, narrowed := true }
def FsckSuperUptoSaid : Prop := fsckSuperUptoRow.holds Tryz.pinned (OpenSpec.upto fsckSuperSpec)

/-- 'garrisonlaw14.FsckNone', WHERE WHAT IT READS IS OF BULK AT MOST 1048576: true; the input reads as it did. -/
def fsckNoneUptoRow : OpenClaim := { program := "ythmkgohfeahdhaagreat", sum := "0f7dd31e97794c2203584925dc4ebcd4f5c97a716c032060b6875e396cda33d6", func := "garrison/garrisonlaw14.FsckNone", spec := "fsckNone", unfollowed := true, recurses := true, plainKeys := false, apart := false, narrowed := true }
def FsckNoneUptoSaid : Prop := fsckNoneUptoRow.holds Tryz.pinned (OpenSpec.upto fsckNoneSpec)

/-- 'garrisonlaw09.DirMany', WHERE WHAT IT READS IS OF BULK AT MOST 1048576: true; the input reads as it did. -/
def dirManyUptoRow : OpenClaim := { program := "ythmkgohfeahdhaagreat", sum := "0f7dd31e97794c2203584925dc4ebcd4f5c97a716c032060b6875e396cda33d6", func := "garrison/garrisonlaw09.DirMany", spec := "dirMany", unfollowed := true, recurses := true, plainKeys := false, apart := false, narrowed := true }
def DirManyUptoSaid : Prop := dirManyUptoRow.holds Tryz.pinned (OpenSpec.upto dirManySpec)

/-- 'garrisonlaw09.DirPlays', WHERE WHAT IT READS IS OF BULK AT MOST 1048576: true; the input reads as it did. -/
def dirPlaysUptoRow : OpenClaim := { program := "ythmkgohfeahdhaagreat", sum := "0f7dd31e97794c2203584925dc4ebcd4f5c97a716c032060b6875e396cda33d6", func := "garrison/garrisonlaw09.DirPlays", spec := "dirPlays", unfollowed := true, recurses := true, plainKeys := false, apart := false, narrowed := true }
def DirPlaysUptoSaid : Prop := dirPlaysUptoRow.holds Tryz.pinned (OpenSpec.upto dirPlaysSpec)

/-- 'garrisonlaw09.DirNone', WHERE WHAT IT READS IS OF BULK AT MOST 1048576: true; the input reads as it did. -/
def dirNoneUptoRow : OpenClaim := { program := "ythmkgohfeahdhaagreat", sum := "0f7dd31e97794c2203584925dc4ebcd4f5c97a716c032060b6875e396cda33d6", func := "garrison/garrisonlaw09.DirNone", spec := "dirNone", unfollowed := true, recurses := true, plainKeys := false, apart := false, narrowed := true }
def DirNoneUptoSaid : Prop := dirNoneUptoRow.holds Tryz.pinned (OpenSpec.upto dirNoneSpec)

/-- 'garrisonlaw09.DirApart', WHERE WHAT IT READS IS OF BULK AT MOST 1048576: true; the input reads as it did. -/
def dirApartUptoRow : OpenClaim := { program := "ythmkgohfeahdhaagreat", sum := "0f7dd31e97794c2203584925dc4ebcd4f5c97a716c032060b6875e396cda33d6", func := "garrison/garrisonlaw09.DirApart", spec := "dirApart", unfollowed := true, recurses := true, plainKeys := false, apart := false, narrowed := true }
def DirApartUptoSaid : Prop := dirApartUptoRow.holds Tryz.pinned (OpenSpec.upto dirApartSpec)

/-- 'garrisonlaw10.InstNone', WHERE WHAT IT READS IS OF BULK AT MOST 1048576: true; the input reads as it did. -/
def instNoneUptoRow : OpenClaim := { program := "ythmkgohfeahdhaagreat", sum := "0f7dd31e97794c2203584925dc4ebcd4f5c97a716c032060b6875e396cda33d6", func := "garrison/garrisonlaw10.InstNone", spec := "instNone", unfollowed := true, recurses := true, plainKeys := false, apart := false, narrowed := true }
def InstNoneUptoSaid : Prop := instNoneUptoRow.holds Tryz.pinned (OpenSpec.upto instNoneSpec)

/-- 'garrisonlaw10.InstApart', WHERE WHAT IT READS IS OF BULK AT MOST 1048576: true; the input reads as it did. -/
def instApartUptoRow : OpenClaim := { program := "ythmkgohfeahdhaagreat", sum := "0f7dd31e97794c2203584925dc4ebcd4f5c97a716c032060b6875e396cda33d6", func := "garrison/garrisonlaw10.InstApart", spec := "instApart", unfollowed := true, recurses := true, plainKeys := false, apart := false, narrowed := true }
def InstApartUptoSaid : Prop := instApartUptoRow.holds Tryz.pinned (OpenSpec.upto instApartSpec)

end Rows
end Go.Proofs.YthmkgohfeahdhaaGreat

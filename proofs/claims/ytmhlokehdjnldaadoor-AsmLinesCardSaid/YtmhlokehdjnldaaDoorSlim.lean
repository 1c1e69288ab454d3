/- Great regions, made slim for the walk: what a region's operations wait for, and what the others of them are, is no part of what each does. No program in sight. -/
import Derived.Test.YtmhlokehdjnldaaDoorBase
namespace Go.Proofs.YtmhlokehdjnldaaDoor
open Go.RowKit
set_option linter.unusedSimpArgs false
set_option linter.unusedVariables false

/-- an operation's place alone -/
def tinyO (o : Oper) : Oper := { dst := o.dst, op := .assign (.const undef), type := 0, pos := "", after := #[], guard := none }
/-- an operation without what it waits for -/
def bareO (o : Oper) : Oper := { o with after := #[] }
section
variable {P : Program} {ops ops' : Array Oper} {Q : Exit → Act → World → Prop}
theorem wpList_slim (h : yielded ops = yielded ops') : ∀ l : List Oper, wpList P ops Q l = wpList P ops' Q l
  | [] => rfl
  | o :: rest => by
    funext a w
    rw [wpList, wpList, wpList_slim h rest, h]
theorem bare_wp (o : Oper) : Oper.wp P (bareO o) = Oper.wp P o := rfl
theorem bare_asks (o : Oper) : Oper.asks P (bareO o) = Oper.asks P o := rfl
theorem wpList_bare : ∀ l : List Oper, wpList P ops Q (l.map bareO) = wpList P ops Q l
  | [] => rfl
  | o :: rest => by
    funext a w
    rw [List.map_cons, wpList, wpList, wpList_bare rest]
    rfl
theorem yielded_tiny (l : List Oper) : yielded l.toArray = yielded (l.map tinyO).toArray := by
  funext tmps j
  unfold yielded
  simp only [List.getElem?_toArray, List.getElem?_map]
  cases l[j]? <;> rfl
/-- THE BEGINNING: a region in the text's order. -/
theorem wp_region_slim {id : Nat} {a : Act} {w : World} {l : List Oper} (h : wpList P (l.map tinyO).toArray Q (l.map bareO) a w) : (Code.region id l.toArray false).wp P Q a w := by
  refine wp_region_lit ?_
  rw [wpList_slim (yielded_tiny l), ← wpList_bare]
  exact h
end
end Go.Proofs.YtmhlokehdjnldaaDoor

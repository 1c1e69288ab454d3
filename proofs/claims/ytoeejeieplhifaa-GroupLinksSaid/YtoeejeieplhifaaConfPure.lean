/- Configurations: what they are, in lists and numbers; which are right. No program in sight. -/
import Derived.Test.YtoeejeieplhifaaBase
namespace Go.Proofs.Ytoeejeieplhifaa
open Go.RowKit
set_option linter.unusedSimpArgs false
set_option linter.unusedVariables false

/-- a registered label -/
structure RegV where
  name : List UInt8
  lev : UInt8
  cats : UInt16
  blocks : Int
  nodes : Int
  frames : Int
  procs : Int
  opens : Int
  clear : Int
deriving DecidableEq, Inhabited
/-- a trusted node -/
abbrev MarkV := UInt8 × UInt16
/-- where a group lies -/
structure GeoV where
  base : Int
  bitmap : Int
  table : Int
  data : Int
  blocks : Int
  nodes : Int
deriving DecidableEq, Inhabited

def RegV.cells (r : RegV) : List Value :=
  [.string ⟨r.name.toArray⟩, .int .u8 (r.lev.toNat : Int), .int .u16 (r.cats.toNat : Int), .int .i64 r.blocks, .int .i64 r.nodes, .int .i64 r.frames, .int .i64 r.procs, .int .i64 r.opens, .int .i64 r.clear]
def GeoV.cells (g : GeoV) : List Value :=
  [.int .i64 g.base, .int .i64 g.bitmap, .int .i64 g.table, .int .i64 g.data, .int .i64 g.blocks, .int .i64 g.nodes]
def markCells (m : MarkV) : List Value := [.int .u8 (m.1.toNat : Int), .int .u16 (m.2.toNat : Int)]
def rcellsOf (l : List RegV) : List Value := l.flatMap RegV.cells
def gcellsOf (l : List GeoV) : List Value := l.flatMap GeoV.cells
def mcellsOf (l : List MarkV) : List Value := l.flatMap markCells

def smallB (c : UInt8) : Bool := 97 ≤ c && c ≤ 122
/-- small letters, one to eight -/
def nameB (l : List UInt8) : Bool := decide (1 ≤ l.length) && decide (l.length ≤ 8) && l.all smallB
def inB (n a b : Int) : Bool := decide (a ≤ n) && decide (n ≤ b)
def soundB (r : RegV) : Bool := inB r.blocks 4 512 && (inB r.nodes 4 128 && (decide (r.nodes % 2 = 0) && (inB r.frames 1 256 && (inB r.procs 1 16 && inB r.opens 1 32))))
def rightB (r : RegV) (many : Int) : Bool := decide (r.lev ≤ 15) && (soundB r && inB r.clear 0 (many - 1))
/-- what a label's being added says, behind others -/
def addE (old : List RegV) (r : RegV) (many : Int) : Int :=
  if nameB r.name = false then 30
  else if rightB r many = false then 27
  else if r.name ∈ old.map (·.name) then 29
  else if (r.lev, r.cats) ∈ old.map (fun x => (x.lev, x.cats)) then 29
  else 0
def addsE : List RegV → List RegV → Int → Int
  | _, [], _ => 0
  | old, r :: rest, many => if addE old r many = 0 then addsE (old ++ [r]) rest many else addE old r many
/-- are all categories among others? -/
def catB (x y : UInt16) : Bool := decide (x.toNat &&& (65535 - y.toNat) = 0)
def lleB (a : UInt8) (x : UInt16) (b : UInt8) (y : UInt16) : Bool := decide (a ≤ b) && catB x y
def leqB (a b : RegV) : Bool := lleB a.lev a.cats b.lev b.cats
def regAt (l : List RegV) (i : Int) : Option RegV := if 0 ≤ i then l[i.toNat]? else none
def leqAt (l : List RegV) (a b : Int) : Bool :=
  match regAt l a, regAt l b with
  | some x, some y => leqB x y
  | _, _ => false
def clearsE (l : List RegV) : Nat → List RegV → Int
  | _, [] => 0
  | i, r :: rest => if leqAt l i r.clear then clearsE l (i + 1) rest else 2
def markB (l : List RegV) (m : MarkV) : Bool :=
  match l[m.1.toNat]? with
  | some r => decide (1 ≤ m.2.toNat) && decide ((m.2.toNat : Int) ≤ r.nodes)
  | none => false
def marksE (l : List RegV) : List MarkV → List MarkV → Int
  | _, [] => 0
  | old, m :: rest => if markB l m = false then 27 else if m ∈ old then 29 else marksE l (old ++ [m]) rest
/-- what New says -/
def newE (l : List RegV) (ms : List MarkV) : Int :=
  match l with
  | [] => 23
  | r :: _ =>
    if l.length > 64 then 23
    else if addsE [] l l.length ≠ 0 then addsE [] l l.length
    else if r.lev ≠ 0 ∨ r.cats ≠ 0 then 25
    else if clearsE l 0 l ≠ 0 then clearsE l 0 l
    else marksE l [] ms

/-- a group's place, from a block on -/
def geoOf (at_ : Int) (r : RegV) : GeoV :=
  let bm := (r.blocks + 511) / 512
  let tb := (r.nodes * 32 + 63) / 64
  ⟨at_, bm, tb, at_ + bm + tb, r.blocks, r.nodes⟩
def GeoV.end_ (g : GeoV) : Int := g.data + g.blocks
def geosOf : Int → List RegV → List GeoV
  | _, [] => []
  | a, r :: rest => geoOf a r :: geosOf (geoOf a r).end_ rest
def totalOf : Int → List RegV → Int
  | a, [] => a
  | a, r :: rest => totalOf (geoOf a r).end_ rest

theorem geosOf_length (a : Int) (l : List RegV) : (geosOf a l).length = l.length := by
  induction l generalizing a with
  | nil => rfl
  | cons r rest ih => simp [geosOf, ih]
theorem geosOf_snoc (a : Int) (l : List RegV) (r : RegV) : geosOf a (l ++ [r]) = geosOf a l ++ [geoOf (totalOf a l) r] := by
  induction l generalizing a with
  | nil => rfl
  | cons x rest ih => simp [geosOf, totalOf, ih]
theorem totalOf_snoc (a : Int) (l : List RegV) (r : RegV) : totalOf a (l ++ [r]) = (geoOf (totalOf a l) r).end_ := by
  induction l generalizing a with
  | nil => rfl
  | cons x rest ih => simp [totalOf, ih]
theorem rcellsOf_snoc (l : List RegV) (r : RegV) : rcellsOf (l ++ [r]) = rcellsOf l ++ r.cells := by simp [rcellsOf]
theorem gcellsOf_snoc (l : List GeoV) (g : GeoV) : gcellsOf (l ++ [g]) = gcellsOf l ++ g.cells := by simp [gcellsOf]
theorem mcellsOf_snoc (l : List MarkV) (m : MarkV) : mcellsOf (l ++ [m]) = mcellsOf l ++ markCells m := by simp [mcellsOf]
theorem rcellsOf_length (l : List RegV) : (rcellsOf l).length = l.length * 9 := by
  induction l with
  | nil => rfl
  | cons r rest ih => simp only [rcellsOf, List.flatMap_cons, List.length_append, List.length_cons] at ih ⊢; simp only [RegV.cells, List.length_cons, List.length_nil]; omega
theorem gcellsOf_length (l : List GeoV) : (gcellsOf l).length = l.length * 6 := by
  induction l with
  | nil => rfl
  | cons r rest ih => simp only [gcellsOf, List.flatMap_cons, List.length_append, List.length_cons] at ih ⊢; simp only [GeoV.cells, List.length_cons, List.length_nil]; omega
theorem mcellsOf_length (l : List MarkV) : (mcellsOf l).length = l.length * 2 := by
  induction l with
  | nil => rfl
  | cons r rest ih => simp only [mcellsOf, List.flatMap_cons, List.length_append, List.length_cons] at ih ⊢; simp only [markCells, List.length_cons, List.length_nil]; omega

/-- the cells of element k of a row whose elements have sz cells each -/
theorem flat_get {α : Type} (f : α → List Value) (sz : Nat) (hf : ∀ a, (f a).length = sz) : ∀ (l : List α) (k : Nat) (x : α), l[k]? = some x → ∀ (j : Nat) (v : Value), (f x)[j]? = some v → (l.flatMap f)[k * sz + j]? = some v
  | [], _, _, h, _, _, _ => by simp at h
  | a :: r, 0, x, h, j, v, hv => by
    simp at h
    subst h
    have hj : j < (f a).length := (List.getElem?_eq_some_iff.1 hv).1
    rw [List.flatMap_cons, List.getElem?_append_left (by simpa using hj)]
    simpa using hv
  | a :: r, k + 1, x, h, j, v, hv => by
    simp at h
    have := flat_get f sz hf r k x h j v hv
    rw [List.flatMap_cons, List.getElem?_append_right (by rw [hf a, Nat.add_mul]; omega), hf a]
    rw [← this]
    congr 1
    rw [Nat.add_mul]
    omega

end Go.Proofs.Ytoeejeieplhifaa

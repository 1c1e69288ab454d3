/- Configurations' texts: what a text says, in lists. No program in sight. -/
import Derived.Test.YtniboffmdkeacaaDoorConfLabel
import Derived.Lib.Strings
import Derived.Lib.Fields
import Derived.Lib.IndexMore
import Derived.Lib.Split
import Derived.Lib.CountLaws
namespace Go.Proofs.YtniboffmdkeacaaDoor
open Go.RowKit
set_option linter.unusedSimpArgs false
set_option linter.unusedVariables false

/-- label.Parse's categories: a sign, the categories so far, what is left -/
def catsP : Nat → UInt8 → List Nat → List UInt8 → Option (List Nat)
  | 0, _, _, _ => none
  | _ + 1, _, cats, [] => some cats
  | f + 1, sign, cats, a :: t =>
    if a ≠ sign then none
    else
      match numP t with
      | none => none
      | some (c, more) => if (cats.getLast?).any (fun x => decide (c ≤ x)) then none else catsP f 44 (cats ++ [c]) more
/-- label.Parse: a label, or an error's number -/
def labP (s : List UInt8) : Option (UInt8 × UInt16) × Int :=
  match numP s with
  | none => (none, 28)
  | some (lv, rest) =>
    match catsP (rest.length + 1) 58 [] rest with
    | none => (none, 28)
    | some cats => (makeP lv cats, 27)

def fieldsP (l : List UInt8) : List (List UInt8) := Lib.fields (Lib.cut l [35]).1
def wd (ws : List (List UInt8)) (i : Nat) : List UInt8 := ws.getD i []
def keyW : List (List UInt8) := [[98, 108, 111, 99, 107, 115], [110, 111, 100, 101, 115], [102, 114, 97, 109, 101, 115], [112, 114, 111, 99, 115], [111, 112, 101, 110, 115]]
def clearW : List UInt8 := [99, 108, 101, 97, 114]
def labelW : List UInt8 := [108, 97, 98, 101, 108]
def trustW : List UInt8 := [116, 114, 117, 115, 116]
def numAt (ws : List (List UInt8)) (i : Nat) : Option Nat := if wd ws (3 + 2 * i) = wd keyW i then cntP (wd ws (4 + 2 * i)) else none
/-- conf.reg -/
def regP (ws : List (List UInt8)) : Option (RegV × List UInt8) × Int :=
  if ws.length ≠ 15 ∨ wd ws 13 ≠ clearW then (none, 28)
  else
    match labP (wd ws 2) with
    | (none, e) => (none, e)
    | (some (lv, ct), _) =>
      match numAt ws 0, numAt ws 1, numAt ws 2, numAt ws 3, numAt ws 4 with
      | some b, some n, some f, some p, some q => (some (⟨wd ws 1, lv, ct, b, n, f, p, q, 0⟩, wd ws 14), 0)
      | _, _, _, _, _ => (none, 28)

/-- what conf.Parse has read -/
structure PSt where
  regs : List RegV
  clears : List (List UInt8)
  trust : List (List UInt8 × List UInt8)
  at_ : List Nat
def lineP (st : PSt) (n : Nat) (ws : List (List UInt8)) : Option PSt × Int :=
  if ws.length = 0 then (some st, 0)
  else if wd ws 0 = labelW then
    match regP ws with
    | (none, e) => (none, e)
    | (some (r, tw), _) => (some { st with regs := st.regs ++ [r], clears := st.clears ++ [tw] }, 0)
  else if wd ws 0 = trustW ∧ ws.length = 3 then (some { st with trust := st.trust ++ [(wd ws 1, wd ws 2)], at_ := st.at_ ++ [n] }, 0)
  else (none, 28)
def linesP : PSt → Nat → List (List UInt8) → Option PSt × Nat × Int
  | st, _, [] => (some st, 0, 0)
  | st, i, l :: rest =>
    match lineP st (i + 1) (fieldsP l) with
    | (none, e) => (none, i + 1, e)
    | (some st', _) => linesP st' (i + 1) rest
/-- which of labels has a name first -/
def placeP (R : List RegV) (nm : List UInt8) : Option Nat := R.findIdx? fun r => decide (r.name = nm)
def clearsP (R : List RegV) : List RegV → List (List UInt8) → Option (List RegV)
  | r :: rest, c :: cs =>
    match placeP R c with
    | none => none
    | some k => (clearsP R rest cs).map ({ r with clear := (k : Int) } :: ·)
  | _, _ => some []
def marksP (R : List RegV) : List MarkV → List (List UInt8 × List UInt8) → List Nat → Option (List MarkV) × Nat × Int
  | K, t :: ts, n :: ns =>
    match placeP R t.1 with
    | none => (none, n, 3)
    | some k =>
      match cntP t.2 with
      | none => (none, n, 28)
      | some m => marksP R (K ++ [(UInt8.ofNat k, UInt16.ofNat m)]) ts ns
  | K, _, _ => (some K, 0, 0)
def linesOf (s : ByteArray) : List (List UInt8) := (Lib.splitB (str [10]) 0 (Lib.countB s (str [10])) s).map fun l => l.data.toList
/-- conf.Parse -/
def parseP (s : ByteArray) : Option (List RegV × List MarkV) × Nat × Int :=
  if 65536 < s.size then (none, 0, 8)
  else
    match linesP ⟨[], [], [], []⟩ 0 (linesOf s) with
    | (none, n, e) => (none, n, e)
    | (some st, _) =>
      match clearsP st.regs st.regs st.clears with
      | none => (none, 0, 3)
      | some R =>
        match marksP R [] st.trust st.at_ with
        | (none, n, e) => (none, n, e)
        | (some K, _) => (some (R, K), 0, 0)

theorem labP_err {s : List UInt8} {e : Int} (h : labP s = (none, e)) : e = 28 ∨ e = 27 := by
  unfold labP at h
  split at h
  · cases h; exact .inl rfl
  · split at h
    · cases h; exact .inl rfl
    · injection h with h1 h2
      exact .inr h2.symm
theorem regP_err {ws : List (List UInt8)} {e : Int} (h : regP ws = (none, e)) : e = 28 ∨ e = 27 := by
  unfold regP at h
  split at h
  · cases h; exact .inl rfl
  · split at h
    · rename_i h2
      injection h with h3 h4
      exact labP_err (by rw [h2, h4])
    · split at h
      · cases h
      · cases h; exact .inl rfl
end Go.Proofs.YtniboffmdkeacaaDoor

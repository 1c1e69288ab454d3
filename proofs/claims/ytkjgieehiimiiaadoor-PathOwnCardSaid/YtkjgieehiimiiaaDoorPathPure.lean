/- Paths, the plain layer: what a text is as a part and as a path. No program in sight. -/
import Derived.Lib.SplitLaws
import Derived.Lib.IndexBytes
namespace Go.Proofs.YtkjgieehiimiiaaDoor

abbrev BL := List UInt8

/-- a byte of a label's name -/
def lc (c : UInt8) : Bool := decide (97 ≤ c.toNat) && decide (c.toNat ≤ 122)
/-- a label's name -/
def labOk (l : BL) : Bool := decide (1 ≤ l.length) && decide (l.length ≤ 8) && l.all lc
/-- a byte of a name -/
def nc (c : UInt8) : Bool := decide (33 ≤ c.toNat) && decide (c.toNat ≤ 126) && !(c.toNat == 47) && !(c.toNat == 64)
/-- a name's error -/
def nameErr (l : BL) : Int := if l = [] ∨ l = [46] ∨ l = [46, 46] then 7 else if 14 < l.length then 8 else if l.all nc then 0 else 7

/-- what a text is as a part: name, label, error -/
def partL (l : BL) : BL × BL × Int :=
  let c := Lib.cut l [64]
  if c.2.2 = true ∧ labOk c.2.1 = false then ([], [], 7)
  else if c.1 = [] ∧ c.2.2 = true then ([], c.2.1, 0)
  else if c.1 = [46] ∨ c.1 = [46, 46] then (if c.2.2 = true then ([], [], 7) else (c.1, [], 0))
  else if nameErr c.1 ≠ 0 then ([], [], nameErr c.1) else (c.1, c.2.1, 0)

/-- a text cut at each slash, behind what is read already -/
def pieces : BL → BL → List BL
  | acc, [] => [acc]
  | acc, c :: r => if c = 47 then acc :: pieces [] r else pieces (acc ++ [c]) r

/-- pieces as parts: the parts, an error -/
def partsOf : List BL → List (BL × BL) × Int
  | [] => ([], 0)
  | x :: r => if x = [] then partsOf r else if (partL x).2.2 ≠ 0 then ([], (partL x).2.2) else if (partsOf r).2 ≠ 0 then ([], (partsOf r).2) else (((partL x).1, (partL x).2.1) :: (partsOf r).1, 0)

/-- a text as a path: absolute, parts, an error -/
def parseL (l : BL) : Bool × List (BL × BL) × Int :=
  if l = [] then (false, [], 7) else if 120 < l.length then (false, [], 8)
  else if (partsOf (pieces [] l)).2 ≠ 0 then (false, [], (partsOf (pieces [] l)).2) else (decide (l.head? = some 47), (partsOf (pieces [] l)).1, 0)

theorem index_cons_eq (c : UInt8) (l : BL) : Lib.index (c :: l) [c] = 0 := by rw [Lib.index]; simp [List.isPrefixOf]
theorem index_cons_ne {b c : UInt8} (l : BL) (h : b ≠ c) : Lib.index (b :: l) [c] = if Lib.index l [c] == -1 then -1 else Lib.index l [c] + 1 := by
  have hp : ([c] : BL).isPrefixOf (b :: l) = false := by simp [List.isPrefixOf, Ne.symm h]
  rw [Lib.index, hp]; simp

theorem pieces_split : ∀ (l acc : BL) , pieces acc l = match Lib.splitK [47] 0 (Lib.count l [47]) l with | [] => [] | x :: r => (acc ++ x) :: r
  | [], acc => by
    have h : Lib.count [] [47] = 0 := Lib.count_miss (by simp [Lib.index])
    rw [h]; simp [pieces, Lib.splitK]
  | c :: r, acc => by
    by_cases h : c = 47
    · subst h
      rw [Lib.count_cons_eq, Nat.add_comm]
      have hi := index_cons_eq 47 r
      rw [Lib.splitK, hi]
      simp only [pieces, if_true]
      rw [if_neg (by decide)]
      have ih := pieces_split r []
      rw [ih]
      rw [show List.drop ((0 : Int).toNat + [(47 : UInt8)].length) (47 :: r) = r from rfl]
      generalize Lib.splitK [47] 0 (Lib.count r [47]) r = X
      cases X <;> simp
    · rw [Lib.count_cons_ne c 47 r h, pieces, if_neg h, pieces_split r (acc ++ [c])]
      cases hk : Lib.count r [47] with
      | zero => simp [Lib.splitK]
      | succ k =>
        rw [Lib.splitK, Lib.splitK, index_cons_ne r h]
        by_cases hm : Lib.index r [47] = -1
        · simp [hm]
        · have hge := Lib.index_ge r [47]
          obtain ⟨j, hj⟩ : ∃ j : Nat, Lib.index r [47] = j := ⟨(Lib.index r [47]).toNat, by omega⟩
          rw [hj]
          have e1 : ¬ ((j : Int) == -1) = true := by simp
          have e2 : ¬ ((((j : Int) + 1)) == -1) = true := by simp; omega
          rw [if_neg e1, if_neg e1, if_neg e2]
          have e3 : ((j : Int) + 1).toNat = j + 1 := by omega
          simp [e3, Nat.add_assoc]

theorem pieces_is (l : BL) : pieces [] l = Lib.split l [47] := by
  rw [pieces_split l []]
  unfold Lib.split
  cases Lib.splitK [47] 0 (Lib.count l [47]) l <;> simp
end Go.Proofs.YtkjgieehiimiiaaDoor

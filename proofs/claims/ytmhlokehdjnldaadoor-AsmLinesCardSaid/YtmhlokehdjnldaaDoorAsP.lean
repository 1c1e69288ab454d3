/- Programs' texts, in lists: words, numbers, lines, what a text is as a program. No program in sight. -/
import Derived.Test.YtmhlokehdjnldaaDoorBase
import Derived.Test.YtmhlokehdjnldaaDoorMap
import Derived.Lib.Strings
import Derived.Lib.Fields
import Derived.Lib.IndexMore
import Derived.Lib.Split
import Derived.Lib.CountLaws
import Derived.Lib.SplitLaws
namespace Go.Proofs.YtmhlokehdjnldaaDoor
open Go.RowKit
set_option linter.unusedSimpArgs false
set_option linter.unusedVariables false

theorem sz (s : ByteArray) : s.size = s.data.toList.length := by cases s; rfl
theorem get_byte (s : ByteArray) (k : Nat) (h : k < s.size) : s.data.toList[k]? = some s[k] := Lib.data_getElem? s k h
theorem all_upto {p : UInt8 → Bool} {l : List UInt8} (h : ∀ k, k < l.length → ∀ c, l[k]? = some c → p c = true) : l.all p = true := by
  rw [List.all_eq_true]
  intro c hc
  obtain ⟨k, hk, e⟩ := List.mem_iff_getElem.1 hc
  exact h k hk c (by rw [List.getElem?_eq_getElem hk, e])
theorem not_all {p : UInt8 → Bool} {l : List UInt8} {k : Nat} {c : UInt8} (h : l[k]? = some c) (hp : p c = false) : l.all p = false := by
  cases hx : l.all p with
  | false => rfl
  | true =>
    have := List.all_eq_true.1 hx c (List.mem_of_getElem? h)
    rw [hp] at this; cases this

/-! ### lines -/
def linesGo : List UInt8 → List UInt8 → List (List UInt8)
  | cur, [] => [cur]
  | cur, c :: t => if c = 10 then cur :: linesGo [] t else linesGo (cur ++ [c]) t
theorem index_one (c b : UInt8) (t : List UInt8) : Lib.index (b :: t) [c] = if b = c then 0 else if Lib.index t [c] = -1 then -1 else Lib.index t [c] + 1 := by
  rw [Lib.index]
  by_cases h : b = c
  · simp [List.isPrefixOf, h]
  · have : ([c] : List UInt8).isPrefixOf (b :: t) = false := by simp [List.isPrefixOf, Ne.symm h]
    rw [this, if_neg h]
    simp
theorem linesGo_cons (cur : List UInt8) : ∀ l, ∃ h r, linesGo [] l = h :: r ∧ ∀ cur, linesGo cur l = (cur ++ h) :: r
  | [] => ⟨[], [], rfl, fun cur => by simp [linesGo]⟩
  | c :: t => by
    obtain ⟨h, r, e1, e2⟩ := linesGo_cons cur t
    by_cases hc : c = 10
    · exact ⟨[], linesGo [] t, by simp [linesGo, hc], fun cur => by simp [linesGo, hc]⟩
    · refine ⟨c :: h, r, ?_, fun cur => ?_⟩
      · simp [linesGo, hc, e2]
      · simp [linesGo, hc, e2]
theorem splitK_lines : ∀ l : List UInt8, Lib.splitK [10] 0 (Lib.count l [10]) l = linesGo [] l
  | [] => by
    have : Lib.count [] [10] = 0 := Lib.count_miss (by simp [Lib.index])
    rw [this]; rfl
  | c :: t => by
    have ih := splitK_lines t
    by_cases hc : c = 10
    · subst hc
      rw [Lib.count_cons_eq, Nat.add_comm, Lib.splitK, index_one, if_pos rfl]
      simp [linesGo, ih]
    · obtain ⟨h, r, e1, e2⟩ := linesGo_cons [] t
      rw [Lib.count_cons_ne c 10 t hc]
      have el : linesGo [] (c :: t) = (c :: h) :: r := by simp [linesGo, hc, e2]
      rw [el]
      rw [e1] at ih
      by_cases hm : Lib.index t [10] = -1
      · rw [Lib.count_miss hm] at ih ⊢
        simp only [Lib.splitK, List.cons.injEq] at ih ⊢
        exact ⟨⟨trivial, ih.1⟩, ih.2⟩
      · have hge := Lib.index_ge t [10]
        obtain ⟨j, hj⟩ : ∃ j : Nat, Lib.index t [10] = j := ⟨(Lib.index t [10]).toNat, by omega⟩
        rw [Lib.count_hit (by simp) hj, Nat.add_comm] at ih ⊢
        rw [Lib.splitK, hj] at ih
        rw [Lib.splitK, index_one, if_neg hc, if_neg hm, hj]
        rw [if_neg (by simp)] at ih
        rw [if_neg (by simp; omega)]
        have e3 : ((j : Int) + 1).toNat = j + 1 := by omega
        rw [e3]
        simp only [Int.toNat_natCast, Nat.add_zero, List.length_singleton, List.cons.injEq] at ih ⊢
        refine ⟨by rw [List.take_succ_cons, ih.1], ?_⟩
        rw [show j + 1 + 1 = (j + 1) + 1 from rfl, List.drop_succ_cons]
        exact ih.2
theorem linesB_go (s : ByteArray) : (Lib.splitB (str [10]) 0 (Lib.countB s (str [10])) s).map (fun l => l.data.toList) = linesGo [] s.data.toList := by
  rw [← splitK_lines]
  exact Lib.splitB_data (str [10]) 0 _ s

/-! ### words -/
/-- a line's words from a place on, one of them begun -/
def wordsGo (cur l : List UInt8) : List (List UInt8) := Lib.fieldsGo cur (Lib.cut l [35]).1
theorem cut_nil : (Lib.cut [] [35]).1 = [] := by simp [Lib.cut, Lib.index]
theorem cut_cons (c : UInt8) (t : List UInt8) : (Lib.cut (c :: t) [35]).1 = if c = 35 then [] else c :: (Lib.cut t [35]).1 := by
  unfold Lib.cut
  rw [index_one]
  by_cases h : c = 35
  · rw [if_pos h, if_pos h]; simp
  · rw [if_neg h, if_neg h]
    by_cases hm : Lib.index t [35] = -1
    · rw [if_pos hm, hm]; simp
    · have hge := Lib.index_ge t [35]
      obtain ⟨j, hj⟩ : ∃ j : Nat, Lib.index t [35] = j := ⟨(Lib.index t [35]).toNat, by omega⟩
      rw [if_neg hm, hj, if_pos (by omega), if_pos (by omega)]
      have e3 : ((j : Int) + 1).toNat = j + 1 := by omega
      rw [e3]
      simp
theorem wordsGo_nil (cur : List UInt8) : wordsGo cur [] = if cur = [] then [] else [cur] := by
  unfold wordsGo; rw [cut_nil, Lib.fieldsGo]; cases cur <;> rfl
theorem wordsGo_end (cur t : List UInt8) : wordsGo cur (35 :: t) = if cur = [] then [] else [cur] := by
  unfold wordsGo; rw [cut_cons, if_pos rfl, Lib.fieldsGo]; cases cur <;> rfl
theorem wordsGo_sp (cur : List UInt8) {c : UInt8} (t : List UInt8) (h : c ≠ 35) (hs : Lib.isSp c = true) : wordsGo cur (c :: t) = if cur = [] then wordsGo [] t else cur :: wordsGo [] t := by
  unfold wordsGo; rw [cut_cons, if_neg h, Lib.fieldsGo, if_pos hs]; cases cur <;> rfl
theorem wordsGo_more (cur : List UInt8) {c : UInt8} (t : List UInt8) (h : c ≠ 35) (hs : Lib.isSp c = false) : wordsGo cur (c :: t) = wordsGo (cur ++ [c]) t := by
  unfold wordsGo; rw [cut_cons, if_neg h, Lib.fieldsGo, hs]; rfl


/-! ### words as names, numbers, registers -/
def digB (c : UInt8) : Bool := 48 ≤ c && c ≤ 57
def lowB (c : UInt8) : Bool := 97 ≤ c && c ≤ 122
def lodB (c : UInt8) : Bool := lowB c || digB c
def dv (c : UInt8) : Nat := c.toNat - 48
theorem digB_le {c : UInt8} : digB c = true ↔ 48 ≤ c.toNat ∧ c.toNat ≤ 57 := by simp [digB, UInt8.le_iff_toNat_le]
theorem lowB_le {c : UInt8} : lowB c = true ↔ 97 ≤ c.toNat ∧ c.toNat ≤ 122 := by simp [lowB, UInt8.le_iff_toNat_le]
def wordA (s : List UInt8) : Bool := decide (1 ≤ s.length) && decide (s.length ≤ 16) && s.head?.any lowB && s.all lodB
def valP (l : List UInt8) : Nat := l.foldl (fun n c => n * 10 + dv c) 0
theorem valP_snoc (l : List UInt8) (c : UInt8) : valP (l ++ [c]) = valP l * 10 + dv c := by simp [valP, List.foldl_append]
theorem valP_lt {l : List UInt8} (h : ∀ c ∈ l, digB c = true) : valP l < 10 ^ l.length := by
  obtain ⟨m, hm⟩ : ∃ m, m = l.length := ⟨_, rfl⟩
  induction m generalizing l with
  | zero => obtain rfl := List.length_eq_zero_iff.1 hm.symm; simp [valP]
  | succ m ih =>
    have e := List.dropLast_concat_getLast (l := l) (by intro h0; rw [h0] at hm; cases hm)
    generalize l.dropLast = k at e
    generalize l.getLast _ = c at e
    subst e
    simp only [List.length_append, List.length_singleton] at hm ⊢
    have h1 := ih (l := k) (fun x hx => h x (by simp [hx])) (by omega)
    have h2 := digB_le.1 (h c (by simp))
    rw [valP_snoc, Nat.pow_succ]
    unfold dv
    omega

/-- a number without a sign, of six digits at most -/
def natA (l : List UInt8) : Option Nat :=
  if l.length < 1 ∨ 6 < l.length ∨ (1 < l.length ∧ l[0]? = some 48) then none else if l.all digB then some (valP l) else none
def numA : List UInt8 → Option Int
  | [] => none
  | c :: t => if c = 45 then (if t = [48] then none else (natA t).map fun n => -(n : Int)) else (natA (c :: t)).map fun n => (n : Int)
def numIn (l : List UInt8) (lo hi : Int) : Option Int := (numA l).bind fun n => if lo ≤ n ∧ n ≤ hi then some n else none
def regA : List UInt8 → Option Nat
  | [] => none
  | c :: t => if c = 114 then (numIn t 0 15).map Int.toNat else none

/-! ### instructions -/
def opNames : List (List UInt8) := [[], [109, 111, 118], [108, 100, 105], [108, 100, 115], [108, 117, 105], [97, 100, 100], [115, 117, 98], [109, 117, 108], [100, 105, 118], [114, 101, 109], [100, 105, 118, 115], [97, 110, 100], [111, 114], [120, 111, 114], [115, 104, 108], [115, 104, 114], [115, 97, 114], [114, 111, 116], [115, 108, 116], [115, 108, 117], [101, 113, 117], [97, 100, 100, 105], [108, 98], [108, 98, 115], [108, 104], [108, 104, 115], [108, 119], [115, 98], [115, 104], [115, 119], [106, 109, 112], [106, 122], [106, 110, 122], [99, 97, 108, 108], [114, 101, 116], [106, 114], [101, 120, 116], [99, 108, 122], [112, 111, 112], [115, 121, 115]]
/-- an operation of a name; 0: there is none -/
def opA (s : List UInt8) : Nat := (opNames.findIdx? fun n => decide (n = s)).getD 0
/-- an operation's form; 9: there is none -/
def formA (o : Nat) : Nat := [9, 2, 5, 5, 5, 3, 3, 3, 3, 3, 3, 3, 3, 3, 3, 3, 3, 3, 3, 3, 3, 4, 4, 4, 4, 4, 4, 4, 4, 4, 6, 5, 5, 6, 0, 1, 7, 2, 2, 8].getD o 9
def nregA (f : Nat) : Nat := [0, 1, 2, 3, 2, 1, 0, 2, 0].getD f 0
def nargA (f : Nat) : Nat := [0, 1, 2, 3, 3, 2, 1, 3, 1].getD f 3
def rightA (f x y z : Nat) : Bool :=
  match f with
  | 0 => decide (x = 0) && (decide (y = 0) && decide (z = 0))
  | 1 => decide (x < 16) && (decide (y = 0) && decide (z = 0))
  | 2 => decide (x < 16) && decide (y < 16) && decide (z = 0)
  | 3 => decide (x < 16) && decide (y < 16) && decide (z < 16)
  | 4 => decide (x < 16) && decide (y < 16)
  | 5 => decide (x < 16)
  | 6 => decide (x = 0)
  | 7 => decide (x < 16) && decide (y < 16) && (decide (z = 8) || decide (z = 16))
  | _ => decide (x = 0) && decide (z = 0)
/-- is an instruction right? an error's number -/
def checkA (o x y z : Nat) : Int := if formA o = 9 then 32 else if rightA (formA o) x y z = true then 0 else 28
def fitsA (extra code : Nat) : Bool := decide (0 < code) && (decide (code ≤ 2048) && decide ((code + 63) / 64 + extra ≤ 32))

/-! ### a text as a program -/
structure Ln where
  at_ : Nat
  ws : List (List UInt8)
abbrev Lbs := List (List UInt8 × Nat)
structure Src where
  lines : List Ln
  labels : Lbs
  extra : Nat
  size : Nat
def wd (ws : List (List UInt8)) (i : Nat) : List UInt8 := ws.getD i []
def wExtra : List UInt8 := [101, 120, 116, 114, 97]
def wByte : List UInt8 := [98, 121, 116, 101]
def wWord : List UInt8 := [119, 111, 114, 100]
def wText : List UInt8 := [116, 101, 120, 116]
/-- the names of places ahead of a line -/
def stripA (size : Nat) : Lbs → List (List UInt8) → Except Int (Lbs × List (List UInt8))
  | L, [] => .ok (L, [])
  | L, w :: t =>
    if w.getLast? = some 58 then
      if wordA w.dropLast = false then .error 30
      else if (mget L w.dropLast).isSome then .error 29
      else stripA size (L ++ [(w.dropLast, size)]) t
    else .ok (L, w :: t)
/-- how many bytes a line takes; what it says of pages -/
def measA (ws : List (List UInt8)) : Except Int (Nat × Option Nat) :=
  if wd ws 0 = wExtra then
    if ws.length = 2 then (match numIn (wd ws 1) 0 32 with | none => .error 27 | some n => .ok (0, some n.toNat)) else .error 28
  else if wd ws 0 = wByte then .ok (ws.length - 1, none)
  else if wd ws 0 = wWord then .ok (4 * (ws.length - 1), none)
  else if wd ws 0 = wText then (if ws.length = 2 then .ok ((wd ws 1).length, none) else .error 28)
  else if opA (wd ws 0) = 0 then .error 32 else .ok (4, none)
def wordsA (l : List UInt8) : List (List UInt8) := wordsGo [] l
def lineA (st : Src) (i : Nat) (l : List UInt8) : Except Int Src :=
  match stripA st.size st.labels (wordsA l) with
  | .error e => .error e
  | .ok (L, ws) =>
    if ws = [] then .ok { st with labels := L }
    else
      match measA ws with
      | .error e => .error e
      | .ok (n, ex) =>
        if 2048 < st.size + n then .error 11
        else .ok { lines := st.lines ++ [⟨i, ws⟩], labels := L, extra := ex.getD st.extra, size := st.size + n }
def readA : Src → Nat → List (List UInt8) → Except (Nat × Int) Src
  | st, _, [] => .ok st
  | st, i, l :: rest =>
    match lineA st (i + 1) l with
    | .error e => .error (i + 1, e)
    | .ok st' => readA st' (i + 1) rest
/-- a number, or a place; an error's number -/
def valueA (L : Lbs) (s : List UInt8) (lo hi : Int) : Int × Int :=
  match mget L s with
  | some n => if (n : Int) < lo ∨ hi < (n : Int) then (0, 27) else ((n : Int), 0)
  | none => if wordA s then (0, 3) else match numIn s lo hi with | none => (0, 27) | some n => (n, 0)
def byteI (n : Int) : UInt8 := UInt8.ofNat (n % 256).toNat
def bytesA (n : Int) : List UInt8 := [byteI n, byteI (n / 256), byteI (n / 65536), byteI (n / 16777216)]
def dataA (L : Lbs) (k : Nat) : List (List UInt8) → Except Int (List UInt8)
  | [] => .ok []
  | s :: t =>
    if (valueA L s (if k = 4 then -999999 else -128) (if k = 4 then 999999 else 255)).2 ≠ 0 then .error (valueA L s (if k = 4 then -999999 else -128) (if k = 4 then 999999 else 255)).2
    else
      match dataA L k t with
      | .error e => .error e
      | .ok b => .ok ((bytesA (valueA L s (if k = 4 then -999999 else -128) (if k = 4 then 999999 else 255)).1).take k ++ b)
/-- so many registers, from a word on -/
def regsA (ws : List (List UInt8)) : Nat → Nat → Option (List UInt8)
  | 0, _ => some []
  | k + 1, i => match regA (wd ws i) with | none => none | some r => (regsA ws k (i + 1)).map (UInt8.ofNat r :: ·)
def jumpB (o : Nat) : Bool := decide (o ≠ 2) && (decide (o ≠ 3) && decide (o ≠ 4))
/-- a number of sixteen bits, or a jump's place -/
def wideA (L : Lbs) (o : Nat) (s : List UInt8) (at_ : Nat) : Int × Int :=
  match mget L s with
  | some to => if jumpB o then (if ((to : Int) - at_) % 4 = 0 then (((to : Int) - at_ - 4) / 4, 0) else (0, 28)) else valueA L s (-32768) 65535
  | none => valueA L s (-32768) 65535
def instrA (L : Lbs) (ws : List (List UInt8)) (at_ : Nat) : Except Int (List UInt8) :=
  if ws.length - 1 ≠ nargA (formA (opA (wd ws 0))) then .error 28
  else
    match regsA ws (nregA (formA (opA (wd ws 0)))) 1 with
    | none => .error 30
    | some rs =>
      let o := UInt8.ofNat (opA (wd ws 0))
      let x := rs.getD 0 0
      let y := rs.getD 1 0
      let s := wd ws (1 + nregA (formA (opA (wd ws 0))))
      match formA (opA (wd ws 0)) with
      | 4 => if (valueA L s (-128) 127).2 ≠ 0 then .error (valueA L s (-128) 127).2 else .ok [o, x, y, byteI (valueA L s (-128) 127).1]
      | 5 => if (wideA L (opA (wd ws 0)) s at_).2 ≠ 0 then .error (wideA L (opA (wd ws 0)) s at_).2 else .ok [o, x, byteI (wideA L (opA (wd ws 0)) s at_).1, byteI ((wideA L (opA (wd ws 0)) s at_).1 / 256)]
      | 6 => if (wideA L (opA (wd ws 0)) s at_).2 ≠ 0 then .error (wideA L (opA (wd ws 0)) s at_).2 else .ok [o, 0, byteI (wideA L (opA (wd ws 0)) s at_).1, byteI ((wideA L (opA (wd ws 0)) s at_).1 / 256)]
      | 7 => if (valueA L s 8 16).2 ≠ 0 then .error (valueA L s 8 16).2 else if (valueA L s 8 16).1 = 8 ∨ (valueA L s 8 16).1 = 16 then .ok [o, x, y, byteI (valueA L s 8 16).1] else .error 28
      | 8 => if (valueA L s 0 255).2 ≠ 0 then .error (valueA L s 0 255).2 else .ok [o, 0, byteI (valueA L s 0 255).1, 0]
      | _ => .ok [o, x, y, rs.getD 2 0]
def codeLn (L : Lbs) (ws : List (List UInt8)) (at_ : Nat) : Except Int (List UInt8) :=
  if wd ws 0 = wExtra then .ok []
  else if wd ws 0 = wByte then dataA L 1 ws.tail
  else if wd ws 0 = wWord then dataA L 4 ws.tail
  else if wd ws 0 = wText then .ok (wd ws 1)
  else instrA L ws at_
def codeA (L : Lbs) : List UInt8 → List Ln → Except (Nat × Int) (List UInt8)
  | c, [] => .ok c
  | c, l :: rest =>
    match codeLn L l.ws c.length with
    | .error e => .error (l.at_, e)
    | .ok b => codeA L (c ++ b) rest
def asmA (s : List UInt8) : Except (Nat × Int) (Nat × List UInt8) :=
  if 65536 < s.length then .error (0, 8)
  else
    match readA ⟨[], [], 0, 0⟩ 0 (linesGo [] s) with
    | .error e => .error e
    | .ok st =>
      match codeA st.labels [] st.lines with
      | .error e => .error e
      | .ok c => if fitsA st.extra c.length then .ok (st.extra, c) else .error (0, 19)
end Go.Proofs.YtmhlokehdjnldaaDoor

/- The document's answer for texts, in lists: lines, words, numbers, labels: what parseP reads. No program in sight. -/
import Derived.Test.YtniboffmdkeacaaDoorConfTxt
import Derived.Lib.SplitLaws
namespace Go.Proofs.YtniboffmdkeacaaDoor
open Go.RowKit
set_option linter.unusedSimpArgs false
set_option linter.unusedVariables false

/-! ### lines -/
def linesGo : List UInt8 → List UInt8 → List (List UInt8)
  | cur, [] => [cur]
  | cur, c :: t => if c = 10 then cur :: linesGo [] t else linesGo (cur ++ [c]) t
theorem index_one (c b : UInt8) (t : List UInt8) : Lib.index (b :: t) [c] = if b = c then 0 else if Lib.index t [c] = -1 then -1 else Lib.index t [c] + 1 := by
  rw [Lib.index]
  by_cases h : b = c
  · simp [List.isPrefixOf, h]
  · have : ([c] : List UInt8).isPrefixOf (b :: t) = false := by simp [List.isPrefixOf, Ne.symm h]
    rw [this, if_neg h]
    simp
theorem linesGo_cons (cur : List UInt8) : ∀ l, ∃ h r, linesGo [] l = h :: r ∧ ∀ cur, linesGo cur l = (cur ++ h) :: r
  | [] => ⟨[], [], rfl, fun cur => by simp [linesGo]⟩
  | c :: t => by
    obtain ⟨h, r, e1, e2⟩ := linesGo_cons cur t
    by_cases hc : c = 10
    · exact ⟨[], linesGo [] t, by simp [linesGo, hc], fun cur => by simp [linesGo, hc]⟩
    · refine ⟨c :: h, r, ?_, fun cur => ?_⟩
      · simp [linesGo, hc, e2]
      · simp [linesGo, hc, e2]
theorem splitK_lines : ∀ l : List UInt8, Lib.splitK [10] 0 (Lib.count l [10]) l = linesGo [] l
  | [] => by
    have : Lib.count [] [10] = 0 := Lib.count_miss (by simp [Lib.index])
    rw [this]; rfl
  | c :: t => by
    have ih := splitK_lines t
    by_cases hc : c = 10
    · subst hc
      rw [Lib.count_cons_eq, Nat.add_comm, Lib.splitK, index_one, if_pos rfl]
      simp [linesGo, ih]
    · obtain ⟨h, r, e1, e2⟩ := linesGo_cons [] t
      rw [Lib.count_cons_ne c 10 t hc]
      have el : linesGo [] (c :: t) = (c :: h) :: r := by simp [linesGo, hc, e2]
      rw [el]
      rw [e1] at ih
      by_cases hm : Lib.index t [10] = -1
      · rw [Lib.count_miss hm] at ih ⊢
        simp only [Lib.splitK, List.cons.injEq] at ih ⊢
        exact ⟨⟨trivial, ih.1⟩, ih.2⟩
      · have hge := Lib.index_ge t [10]
        obtain ⟨j, hj⟩ : ∃ j : Nat, Lib.index t [10] = j := ⟨(Lib.index t [10]).toNat, by omega⟩
        rw [Lib.count_hit (by simp) hj, Nat.add_comm] at ih ⊢
        rw [Lib.splitK, hj] at ih
        rw [Lib.splitK, index_one, if_neg hc, if_neg hm, hj]
        rw [if_neg (by simp)] at ih
        rw [if_neg (by simp; omega)]
        have e3 : ((j : Int) + 1).toNat = j + 1 := by omega
        rw [e3]
        simp only [Int.toNat_natCast, Nat.add_zero, List.length_singleton, List.cons.injEq] at ih ⊢
        refine ⟨by rw [List.take_succ_cons, ih.1], ?_⟩
        rw [show j + 1 + 1 = (j + 1) + 1 from rfl, List.drop_succ_cons]
        exact ih.2
theorem linesOf_go (s : ByteArray) : linesOf s = linesGo [] s.data.toList := by
  rw [← splitK_lines]
  show (Lib.splitB (str [10]) 0 (Lib.countB s (str [10])) s).map (fun l => l.data.toList) = _
  exact Lib.splitB_data (str [10]) 0 _ s

/-! ### words -/
/-- a line's words from a place on, one of them begun -/
def wordsGo (cur l : List UInt8) : List (List UInt8) := Lib.fieldsGo cur (Lib.cut l [35]).1
theorem cut_nil : (Lib.cut [] [35]).1 = [] := by simp [Lib.cut, Lib.index]
theorem cut_cons (c : UInt8) (t : List UInt8) : (Lib.cut (c :: t) [35]).1 = if c = 35 then [] else c :: (Lib.cut t [35]).1 := by
  unfold Lib.cut
  rw [index_one]
  by_cases h : c = 35
  · rw [if_pos h, if_pos h]; simp
  · rw [if_neg h, if_neg h]
    by_cases hm : Lib.index t [35] = -1
    · rw [if_pos hm, hm]; simp
    · have hge := Lib.index_ge t [35]
      obtain ⟨j, hj⟩ : ∃ j : Nat, Lib.index t [35] = j := ⟨(Lib.index t [35]).toNat, by omega⟩
      rw [if_neg hm, hj, if_pos (by omega), if_pos (by omega)]
      have e3 : ((j : Int) + 1).toNat = j + 1 := by omega
      rw [e3]
      simp
theorem wordsGo_nil (cur : List UInt8) : wordsGo cur [] = if cur = [] then [] else [cur] := by
  unfold wordsGo; rw [cut_nil, Lib.fieldsGo]; cases cur <;> rfl
theorem wordsGo_end (cur t : List UInt8) : wordsGo cur (35 :: t) = if cur = [] then [] else [cur] := by
  unfold wordsGo; rw [cut_cons, if_pos rfl, Lib.fieldsGo]; cases cur <;> rfl
theorem wordsGo_sp (cur : List UInt8) {c : UInt8} (t : List UInt8) (h : c ≠ 35) (hs : Lib.isSp c = true) : wordsGo cur (c :: t) = if cur = [] then wordsGo [] t else cur :: wordsGo [] t := by
  unfold wordsGo; rw [cut_cons, if_neg h, Lib.fieldsGo, if_pos hs]; cases cur <;> rfl
theorem wordsGo_more (cur : List UInt8) {c : UInt8} (t : List UInt8) (h : c ≠ 35) (hs : Lib.isSp c = false) : wordsGo cur (c :: t) = wordsGo (cur ++ [c]) t := by
  unfold wordsGo; rw [cut_cons, if_neg h, Lib.fieldsGo, hs]; rfl
theorem fields_go (l : List UInt8) : fieldsP l = wordsGo [] l := rfl

/-! ### numbers -/
def itoaL (n : Nat) : List UInt8 := if n < 10 then [UInt8.ofNat (48 + n)] else [UInt8.ofNat (48 + n / 10), UInt8.ofNat (48 + n % 10)]
theorem itoaL_len (n : Nat) : 1 ≤ (itoaL n).length ∧ (itoaL n).length ≤ 2 := by unfold itoaL; split <;> simp
/-- which numbers below 100 a text may begin with, what follows being none or a sign -/
def headIs (s : List UInt8) (n : Nat) (sign : UInt8) : Prop := s = itoaL n ∨ ∃ t, s = itoaL n ++ sign :: t
theorem dig_of {n : Nat} (h : n < 10) : digB (UInt8.ofNat (48 + n)) = true ∧ dv (UInt8.ofNat (48 + n)) = n := by
  have e : (UInt8.ofNat (48 + n)).toNat = 48 + n := by simp; omega
  rw [digB_le, dv, e]; omega
theorem numP_itoa {n : Nat} (h : n < 100) (t : List UInt8) (ht : ∀ b, t[0]? = some b → digB b = false) : numP (itoaL n ++ t) = some (n, t) := by
  unfold itoaL
  split
  · rename_i h1
    obtain ⟨d1, d2⟩ := dig_of h1
    rw [numP_one (a := UInt8.ofNat (48 + n)) rfl d1 (by intro b hb; exact ht b (by simpa using hb)), d2]
    rfl
  · rename_i h1
    obtain ⟨d1, d2⟩ := dig_of (n := n / 10) (by omega)
    obtain ⟨e1, e2⟩ := dig_of (n := n % 10) (by omega)
    rw [numP_two (a := UInt8.ofNat (48 + n / 10)) (b := UInt8.ofNat (48 + n % 10)) rfl d1 rfl e1, d2, e2, if_neg (fun h2 => by
      have := congrArg UInt8.toNat h2
      simp at this
      omega)]
    rw [show 10 * (n / 10) + n % 10 = n by omega]
    rfl
/-- a number, back -/
theorem itoa_numP {s t : List UInt8} {n : Nat} (h : numP s = some (n, t)) : s = itoaL n ++ t ∧ n < 100 := by
  match s with
  | [] => cases h
  | [a] =>
    simp only [numP] at h
    split at h
    · rename_i ha
      have hd := digB_le.1 ha
      injection h with h
      injection h with h1 h2
      subst h1 h2
      have : dv a < 10 := by unfold dv; omega
      refine ⟨?_, by omega⟩
      rw [itoaL, if_pos this]
      simp only [List.append_nil, List.cons.injEq, and_true]
      apply UInt8.toNat_inj.1
      simp [dv]; omega
    · cases h
  | a :: b :: r =>
    simp only [numP] at h
    split at h
    · rename_i ha
      have hd := digB_le.1 ha
      split at h
      · rename_i hb
        have he := digB_le.1 hb
        split at h
        · cases h
        · rename_i h48
          have hne : a.toNat ≠ 48 := fun e => h48 (UInt8.toNat_inj.1 (by simpa using e))
          injection h with h
          injection h with h1 h2
          subst h1 h2
          have hn : ¬ 10 * dv a + dv b < 10 := by unfold dv; omega
          have hn2 : 10 * dv a + dv b < 100 := by unfold dv; omega
          refine ⟨?_, hn2⟩
          rw [itoaL, if_neg hn]
          have q1 : (10 * dv a + dv b) / 10 = dv a := by unfold dv; omega
          have q2 : (10 * dv a + dv b) % 10 = dv b := by unfold dv; omega
          rw [q1, q2]
          simp only [List.cons_append, List.nil_append, List.cons.injEq, and_true]
          exact ⟨UInt8.toNat_inj.1 (by simp [dv]; omega), UInt8.toNat_inj.1 (by simp [dv]; omega)⟩
      · injection h with h
        injection h with h1 h2
        subst h1 h2
        have : dv a < 10 := by unfold dv; omega
        refine ⟨?_, by omega⟩
        rw [itoaL, if_pos this]
        simp only [List.cons_append, List.nil_append, List.cons.injEq, and_true]
        apply UInt8.toNat_inj.1
        simp [dv]; omega
    · cases h

/-! ### labels -/
/-- rising numbers with commas between, from a least one on -/
def listR : Nat → Nat → List UInt8 → Option (List Nat)
  | 0, _, _ => none
  | f + 1, lo, s =>
    match numP s with
    | none => none
    | some (c, more) => if c < lo then none else
      match more with
      | [] => some [c]
      | x :: t => if x = 44 then (listR f (c + 1) t).map (c :: ·) else none
theorem listR_hit {f lo c : Nat} {s : List UInt8} (h1 : lo ≤ c) (h2 : c < 100) (h : s = itoaL c) : listR (f + 1) lo s = some [c] := by
  have := numP_itoa h2 [] (by simp)
  rw [List.append_nil] at this
  rw [listR, h, this]
  simp only
  rw [if_neg (by omega)]
theorem listR_more {f lo c : Nat} {s t : List UInt8} (h1 : lo ≤ c) (h2 : c < 100) (h : s = itoaL c ++ 44 :: t) : listR (f + 1) lo s = (listR f (c + 1) t).map (c :: ·) := by
  have := numP_itoa h2 (44 :: t) (by intro b hb; simp at hb; subst hb; decide)
  rw [listR, h, this]
  simp only
  rw [if_neg (by omega), if_pos trivial]
theorem listR_none {f lo : Nat} {s : List UInt8} (h : ∀ c, lo ≤ c → c < 100 → ¬ headIs s c 44) : listR f lo s = none := by
  cases f with
  | zero => rfl
  | succ f =>
    rw [listR]
    cases hn : numP s with
    | none => rfl
    | some x =>
      obtain ⟨c, more⟩ := x
      obtain ⟨e, hc⟩ := itoa_numP hn
      simp only
      by_cases hlo : c < lo
      · rw [if_pos hlo]
      · rw [if_neg hlo]
        have hno := h c (by omega) hc
        cases more with
        | nil => exact absurd (.inl (by simpa using e)) hno
        | cons x t =>
          simp only
          rw [if_neg (fun hx => hno (.inr ⟨t, by rw [← hx]; exact e⟩))]
/-- the document's list is label.Parse's -/
theorem catsP_list : ∀ (f g : Nat) (cats : List Nat) (c : Nat) (l : List UInt8), l.length < f → l.length < g → catsP f 44 (cats ++ [c]) l = match l with
    | [] => some (cats ++ [c])
    | x :: t => if x = 44 then (listR g (c + 1) t).map fun r => (cats ++ [c]) ++ r else none
  | 0, _, _, _, _, h, _ => by omega
  | f + 1, g, cats, c, [], _, _ => rfl
  | f + 1, g, cats, c, x :: t, h, hg => by
    simp only [List.length_cons] at h hg
    rw [catsP]
    by_cases hx : x = 44
    · rw [if_neg (fun h => h hx)]
      simp only [hx, if_true]
      obtain ⟨g', rfl⟩ : ∃ g', g = g' + 1 := ⟨g - 1, by omega⟩
      rw [listR]
      cases hn : numP t with
      | none => rfl
      | some y =>
        obtain ⟨d, more⟩ := y
        have hlt := numP_lt hn
        simp only [List.getLast?_append, List.getLast?_singleton, Option.some_or, Option.any_some, decide_eq_true_eq]
        by_cases hd : d ≤ c
        · rw [if_pos hd, if_pos (by omega)]; rfl
        · rw [if_neg hd, if_neg (by omega)]
          have ih := catsP_list f g' (cats ++ [c]) d more (by omega) (by omega)
          rw [ih]
          cases more with
          | nil => simp
          | cons z r =>
            simp only
            by_cases hz : z = 44
            · rw [if_pos hz, if_pos hz, Option.map_map]
              congr 1
              funext q
              simp
            · rw [if_neg hz, if_neg hz]; rfl
    · rw [if_pos hx]
      simp only
      rw [if_neg hx]
/-- the document's label -/
def labR (s : List UInt8) : Option (UInt8 × UInt16) × Int :=
  match numP s with
  | none => (none, 28)
  | some (lv, rest) =>
    match rest with
    | [] => (makeP lv [], 27)
    | x :: t => if x = 58 then (match listR (t.length + 1) 0 t with | none => (none, 28) | some cats => (makeP lv cats, 27)) else (none, 28)
theorem labR_labP (s : List UInt8) : labR s = labP s := by
  unfold labR labP
  cases hn : numP s with
  | none => rfl
  | some y =>
    obtain ⟨lv, rest⟩ := y
    simp only
    cases rest with
    | nil => rfl
    | cons x t =>
      simp only [List.length_cons]
      rw [catsP]
      by_cases hx : x = 58
      · rw [if_pos hx, if_neg (fun h => h hx), listR]
        cases hm : numP t with
        | none => rfl
        | some z =>
          obtain ⟨c, more⟩ := z
          have hlt := numP_lt hm
          simp only [List.getLast?_nil, Option.any_none, Bool.false_eq_true, if_false, Nat.not_lt_zero]
          have := catsP_list (t.length + 1) t.length [] c more (by omega) (by omega)
          rw [this]
          cases more with
          | nil => rfl
          | cons q r =>
            simp only
            by_cases hq : q = 44
            · rw [if_pos hq, if_pos hq]
              cases listR t.length (c + 1) r <;> rfl
            · rw [if_neg hq, if_neg hq]
      · rw [if_neg hx, if_pos hx]
theorem labR_hit {c : Nat} {s : List UInt8} (h2 : c < 100) (h : s = itoaL c) : labR s = (makeP c [], 27) := by
  have := numP_itoa h2 [] (by simp)
  rw [List.append_nil] at this
  rw [labR, h, this]
theorem labR_more {c : Nat} {s t : List UInt8} (h2 : c < 100) (h : s = itoaL c ++ 58 :: t) : labR s = (match listR (t.length + 1) 0 t with | none => (none, 28) | some cats => (makeP c cats, 27)) := by
  have := numP_itoa h2 (58 :: t) (by intro b hb; simp at hb; subst hb; decide)
  rw [labR, h, this]
  simp only
  rw [if_pos trivial]
theorem labR_none {s : List UInt8} (h : ∀ c, c < 100 → ¬ headIs s c 58) : labR s = (none, 28) := by
  rw [labR]
  cases hn : numP s with
  | none => rfl
  | some x =>
    obtain ⟨c, more⟩ := x
    obtain ⟨e, hc⟩ := itoa_numP hn
    have hno := h c hc
    cases more with
    | nil => exact absurd (.inl (by simpa using e)) hno
    | cons x t =>
      simp only
      rw [if_neg (fun hx => hno (.inr ⟨t, by rw [← hx]; exact e⟩))]
theorem listR_le : ∀ {f lo : Nat} {s : List UInt8} {l : List Nat}, listR f lo s = some l → (∀ c ∈ l, c ≤ 99) ∧ l.length ≤ s.length
  | 0, _, _, _, h => by cases h
  | f + 1, lo, s, l, h => by
    rw [listR] at h
    cases hn : numP s with
    | none => rw [hn] at h; cases h
    | some x =>
      obtain ⟨c, more⟩ := x
      have hlt := numP_lt hn
      rw [hn] at h
      simp only at h
      by_cases hlo : c < lo
      · rw [if_pos hlo] at h; cases h
      · rw [if_neg hlo] at h
        cases more with
        | nil =>
          simp only [Option.some.injEq] at h
          subst h
          simp; omega
        | cons x t =>
          simp only at h
          by_cases hx : x = 44
          · rw [if_pos hx] at h
            obtain ⟨r, hr, rfl⟩ := Option.map_eq_some_iff.1 h
            have ih := listR_le hr
            simp only [List.length_cons, List.mem_cons] at hlt ⊢
            exact ⟨fun d hd => by rcases hd with rfl | hd; exact hlt.2; exact ih.1 d hd, by omega⟩
          · rw [if_neg hx] at h; cases h
end Go.Proofs.YtniboffmdkeacaaDoor

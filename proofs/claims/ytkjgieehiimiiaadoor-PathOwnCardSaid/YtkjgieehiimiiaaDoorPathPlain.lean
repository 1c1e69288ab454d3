/- Paths, the plain law: the text of a path of right parts is that path. No program in sight. -/
import Derived.Test.YtkjgieehiimiiaaDoorPathMade
import Derived.Test.YtkjgieehiimiiaaDoorPathText
namespace Go.Proofs.YtkjgieehiimiiaaDoor

theorem pieces_cut : ∀ (t acc u : BL), pieces acc (t ++ 47 :: u) = pieces acc t ++ pieces [] u
  | [], acc, u => by simp [pieces]
  | c :: t, acc, u => by
    rw [List.cons_append]
    simp only [pieces]
    split
    · rw [pieces_cut t [] u]; simp
    · exact pieces_cut t (acc ++ [c]) u
theorem pieces_word : ∀ (u acc : BL), (u.contains 47) = false → pieces acc u = [acc ++ u]
  | [], acc, _ => by simp [pieces]
  | c :: u, acc, h => by
    have h1 : c ≠ 47 := fun e => by simp [e] at h
    have h2 : u.contains 47 = false := by simp at h ⊢; exact h.2
    unfold pieces
    rw [if_neg h1, pieces_word u _ h2]; simp

theorem partsOf_snoc : ∀ (xs : List BL) (u : BL), (partsOf xs).2 = 0 → u ≠ [] → (partL u).2.2 = 0 → partsOf (xs ++ [u]) = ((partsOf xs).1 ++ [((partL u).1, (partL u).2.1)], 0)
  | [], u, _, hu, he => by simp [partsOf, hu, he]
  | x :: r, u, h, hu, he => by
    rw [List.cons_append]
    unfold partsOf at h ⊢
    by_cases h1 : x = []
    · rw [if_pos h1] at h
      rw [if_pos h1, if_pos h1]
      exact partsOf_snoc r u h hu he
    · rw [if_neg h1] at h
      rw [if_neg h1, if_neg h1]
      by_cases h2 : (partL x).2.2 ≠ 0
      · rw [if_pos h2] at h; exact absurd h h2
      · rw [if_neg h2] at h
        rw [if_neg h2, if_neg h2]
        by_cases h3 : (partsOf r).2 ≠ 0
        · rw [if_pos h3] at h; exact absurd h h3
        · have h3' : (partsOf r).2 = 0 := Classical.byContradiction h3
          rw [partsOf_snoc r u h3' hu he, if_neg h3]
          simp

/-- a part that is right, as a text -/
def good (q : BL × BL) : Bool := !(partT q).contains 47 && (!(partT q).isEmpty && (decide (partL (partT q) = (q.1, q.2, 0)) && (decide ((partT q).length ≤ 9) && (decide (q.1.length ≤ 20) && decide (q.2.length ≤ 20)))))
theorem made_good : (List.range 256).all (fun n => good (madeP (UInt8.ofNat n))) = true := by decide +kernel
theorem madeP_good (x : UInt8) : good (madeP x) = true := by
  have h := List.all_eq_true.1 made_good x.toNat (List.mem_range.2 x.toNat_lt)
  simpa using h
theorem madeL_good {l : List UInt8} : ∀ q ∈ madeL l, good q = true := by
  intro q hq
  unfold madeL at hq
  obtain ⟨x, _, rfl⟩ := List.mem_map.1 hq
  exact madeP_good x
theorem madeL_short {l : List UInt8} : Short (madeL l) := fun q hq => by
  have h := madeL_good q hq
  simp only [good, Bool.and_eq_true, decide_eq_true_eq] at h
  exact ⟨h.2.2.2.2.1, h.2.2.2.2.2⟩
theorem madeL_len (l : List UInt8) : (madeL l).length ≤ 9 := by unfold madeL; simp; omega

section
variable {a : Bool} {ps : List (BL × BL)} (hg : ∀ q ∈ ps, good q = true)
include hg
theorem good_at {k : Nat} (hk : k < ps.length) : good (ps.getD k ([], [])) = true := by
  rw [List.getD_eq_getElem?_getD, List.getElem?_eq_getElem hk]
  exact hg _ (List.getElem_mem hk)
theorem textK_parts : ∀ k, k ≤ ps.length → partsOf (pieces [] (textK a ps k)) = (ps.take k, 0)
  | 0, _ => by cases a <;> simp [textK, pieces, partsOf]
  | k + 1, hk => by
    have ih := textK_parts k (by omega)
    have h := good_at hg (k := k) (by omega)
    simp only [good, Bool.and_eq_true, decide_eq_true_eq, Bool.not_eq_true'] at h
    obtain ⟨h1, h2, h3, _⟩ := h
    have hne : partT (ps.getD k ([], [])) ≠ [] := fun e => by rw [e] at h2; cases h2
    have htk : ps.take (k + 1) = ps.take k ++ [ps.getD k ([], [])] := by
      rw [List.take_add_one, List.getElem?_eq_getElem (by omega), List.getD_eq_getElem?_getD, List.getElem?_eq_getElem (by omega)]; rfl
    have hw := pieces_word (partT (ps.getD k ([], []))) [] h1
    rw [List.nil_append] at hw
    have fin : ∀ xs, partsOf xs = (ps.take k, 0) → partsOf (xs ++ [partT (ps.getD k ([], []))]) = (ps.take (k + 1), 0) := fun xs hx => by
      rw [partsOf_snoc xs _ (by rw [hx]) hne (by rw [h3]), hx, h3, htk]
    unfold textK
    by_cases hk0 : k = 0
    · subst hk0
      rw [if_pos rfl, List.nil_append]
      cases a
      · have e : textK false ps 0 = [] := rfl
        rw [e, List.nil_append, hw]
        exact fin [] (by simp [partsOf])
      · have e : textK true ps 0 = [47] := rfl
        rw [e]
        show partsOf (pieces [] ([] ++ 47 :: partT _)) = _
        rw [pieces_cut, hw]
        exact fin [[]] (by simp [partsOf])
    · rw [if_neg hk0]
      show partsOf (pieces [] (textK a ps k ++ 47 :: partT _)) = _
      rw [pieces_cut, hw]
      exact fin _ ih
theorem textK_small : ∀ k, k ≤ ps.length → (textK a ps k).length ≤ 1 + 10 * k
  | 0, _ => by cases a <;> simp [textK]
  | k + 1, hk => by
    have h1 := textK_small k (by omega)
    have h := good_at hg (k := k) (by omega)
    simp only [good, Bool.and_eq_true, decide_eq_true_eq] at h
    have h4 := h.2.2.2.1
    unfold textK
    rw [List.length_append, List.length_append]
    split
    · simp only [List.length_nil]; omega
    · simp only [List.length_cons, List.length_nil]; omega
theorem textK_head : ∀ k, k ≤ ps.length → textK a ps k ≠ [] → (decide ((textK a ps k).head? = some 47)) = a
  | 0, _, h => by cases a <;> simp [textK] at h ⊢
  | k + 1, hk, _ => by
    have h := good_at hg (k := k) (by omega)
    simp only [good, Bool.and_eq_true, decide_eq_true_eq, Bool.not_eq_true'] at h
    obtain ⟨h1, h2, _⟩ := h
    unfold textK
    by_cases he : textK a ps k = []
    · rw [he, List.nil_append]
      have hk0 : k = 0 := Classical.byContradiction fun hk0 => by
        obtain ⟨j, rfl⟩ : ∃ j, k = j + 1 := ⟨k - 1, by omega⟩
        unfold textK at he
        have h' := good_at hg (k := j) (by omega)
        simp only [good, Bool.and_eq_true, Bool.not_eq_true'] at h'
        have e2 := (List.append_eq_nil_iff.1 he).2
        have e3 := (List.append_eq_nil_iff.1 e2).2
        rw [e3] at h'
        exact absurd h'.2.1 (by simp)
      subst hk0
      have ha : a = false := by cases a; rfl; simp [textK] at he
      subst ha
      rw [if_pos rfl, List.nil_append]
      cases hp : partT (ps.getD 0 ([], [])) with
      | nil => rfl
      | cons c r =>
        rw [hp] at h1
        have : c ≠ 47 := fun e => by simp [e] at h1
        simp [this]
    · have ih := textK_head k (by omega) he
      generalize textK a ps k = tt at he ih
      cases tt with
      | nil => exact absurd rfl he
      | cons y z => simpa using ih

/-- THE LAW: what a path's text reads as. -/
theorem text_back (hl : ps.length ≤ 9) (hne : textK a ps ps.length ≠ []) : parseL (textK a ps ps.length) = (a, ps, 0) := by
  have h1 := textK_parts (a := a) hg ps.length (Nat.le_refl _)
  have h2 := textK_small (a := a) hg ps.length (Nat.le_refl _)
  have h3 := textK_head (a := a) hg ps.length (Nat.le_refl _) hne
  unfold parseL
  rw [if_neg hne, if_neg (by omega), h1, if_neg (fun h => h rfl), h3, List.take_length]
theorem text_none (h : textK a ps ps.length = []) : a = false ∧ ps = [] := by
  by_cases hp : ps.length = 0
  · have : ps = [] := List.eq_nil_of_length_eq_zero hp
    subst this
    cases a
    · exact ⟨rfl, rfl⟩
    · simp [textK] at h
  · obtain ⟨j, hj⟩ : ∃ j, ps.length = j + 1 := ⟨ps.length - 1, by omega⟩
    rw [hj] at h
    unfold textK at h
    have h' := good_at hg (k := j) (by omega)
    simp only [good, Bool.and_eq_true, Bool.not_eq_true'] at h'
    have e2 := (List.append_eq_nil_iff.1 h).2
    have e3 := (List.append_eq_nil_iff.1 e2).2
    rw [e3] at h'
    exact absurd h'.2.1 (by simp)
end
end Go.Proofs.YtkjgieehiimiiaaDoor

/- Configurations: in which group a block lies. No program in sight. -/
import Derived.Test.YtoeejeieplhifaaConfPure
namespace Go.Proofs.Ytoeejeieplhifaa
open Go.RowKit
set_option linter.unusedSimpArgs false
set_option linter.unusedVariables false

/-- the group in which a block lies, of labels from a number on, from a block on -/
def grFrom : Nat → Int → List RegV → Int → Option (Nat × Int)
  | _, _, [], _ => none
  | i, a, r :: rest, b => if a ≤ b ∧ b < (geoOf a r).end_ then some (i, if b < (geoOf a r).data then 0 else b - (geoOf a r).data + 1) else grFrom (i + 1) (geoOf a r).end_ rest b
def posR (r : RegV) : Prop := 4 ≤ r.blocks ∧ 4 ≤ r.nodes

theorem end_gt {r : RegV} (h : posR r) (a : Int) : a < (geoOf a r).data ∧ (geoOf a r).data + r.blocks = (geoOf a r).end_ ∧ (geoOf a r).data < (geoOf a r).end_ := by
  obtain ⟨h1, h2⟩ := h
  have e1 : (geoOf a r).data = a + (r.blocks + 511) / 512 + (r.nodes * 32 + 63) / 64 := rfl
  have e2 : (geoOf a r).end_ = (geoOf a r).data + r.blocks := rfl
  omega
theorem total_ge {R : List RegV} (h : ∀ r ∈ R, posR r) (a : Int) : a ≤ totalOf a R := by
  induction R generalizing a with
  | nil => simp [totalOf]
  | cons r rest ih =>
    have h1 := end_gt (h r (by simp)) a
    have h2 := ih (fun x hx => h x (by simp [hx])) (geoOf a r).end_
    simp only [totalOf]
    omega
theorem gr_none {R : List RegV} (h : ∀ r ∈ R, posR r) (i : Nat) (a b : Int) (hb : b < a ∨ totalOf a R ≤ b) : grFrom i a R b = none := by
  induction R generalizing i a with
  | nil => rfl
  | cons r rest ih =>
    have h1 := end_gt (h r (by simp)) a
    have h2 := total_ge (fun x hx => h x (by simp [hx])) (a := (geoOf a r).end_) (R := rest)
    simp only [totalOf] at hb
    rw [grFrom, if_neg (by omega)]
    exact ih (fun x hx => h x (by simp [hx])) _ _ (by omega)
theorem gr_some {R : List RegV} (h : ∀ r ∈ R, posR r) (i : Nat) (a b : Int) (h1 : a ≤ b) (h2 : b < totalOf a R) : ∃ j k r, grFrom i a R b = some (i + j, k) ∧ R[j]? = some r ∧ 0 ≤ k ∧ k ≤ r.blocks := by
  induction R generalizing i a with
  | nil => simp [totalOf] at h2; omega
  | cons r rest ih =>
    have h3 := end_gt (h r (by simp)) a
    simp only [totalOf] at h2
    rw [grFrom]
    by_cases hb : b < (geoOf a r).end_
    · rw [if_pos ⟨h1, hb⟩]
      refine ⟨0, _, r, rfl, rfl, ?_, ?_⟩ <;> split <;> omega
    · rw [if_neg (by omega)]
      obtain ⟨j, k, x, e1, e2, e3⟩ := ih (fun x hx => h x (by simp [hx])) (i + 1) _ (by omega) h2
      exact ⟨j + 1, k, x, by rw [e1]; congr 2; omega, by simpa using e2, e3⟩
theorem gr_first {R : List RegV} (h : ∀ r ∈ R, posR r) (i : Nat) (a : Int) (h0 : R ≠ []) : grFrom i a R a = some (i, 0) := by
  cases R with
  | nil => exact absurd rfl h0
  | cons r rest =>
    have h3 := end_gt (h r (by simp)) a
    rw [grFrom, if_pos (by omega), if_pos (by omega)]
theorem gr_next {R : List RegV} (h : ∀ r ∈ R, posR r) (i : Nat) (a b : Int) (h1 : a ≤ b) (h2 : b + 1 < totalOf a R) :
    ∃ j k j' k', grFrom i a R b = some (j, k) ∧ grFrom i a R (b + 1) = some (j', k') ∧ ((j' = j ∧ ((k' = 0 ∧ k = 0) ∨ (0 ≤ k ∧ k' = k + 1))) ∨ (j' = j + 1 ∧ k' = 0)) := by
  induction R generalizing i a with
  | nil => simp [totalOf] at h2; omega
  | cons r rest ih =>
    have h3 := end_gt (h r (by simp)) a
    simp only [totalOf] at h2
    have hr : ∀ x ∈ rest, posR x := fun x hx => h x (by simp [hx])
    by_cases hb : b < (geoOf a r).end_
    · by_cases hb2 : b + 1 < (geoOf a r).end_
      · refine ⟨i, _, i, _, by rw [grFrom, if_pos ⟨h1, hb⟩], by rw [grFrom, if_pos ⟨by omega, hb2⟩], .inl ⟨rfl, ?_⟩⟩
        by_cases hd : b < (geoOf a r).data
        · by_cases hd2 : b + 1 < (geoOf a r).data
          · exact .inl ⟨by rw [if_pos hd2], by rw [if_pos hd]⟩
          · exact .inr ⟨by rw [if_pos hd]; omega, by rw [if_neg hd2, if_pos hd]; omega⟩
        · exact .inr ⟨by rw [if_neg hd]; omega, by rw [if_neg (by omega), if_neg hd]; omega⟩
      · have hab : (geoOf a r).end_ = b + 1 := by omega
        have hne : rest ≠ [] := fun e => by
          subst e
          simp only [totalOf] at h2
          omega
        refine ⟨i, _, i + 1, 0, by rw [grFrom, if_pos ⟨h1, hb⟩], ?_, .inr ⟨rfl, rfl⟩⟩
        rw [grFrom, if_neg (by omega), hab]
        exact gr_first hr (i + 1) (b + 1) hne
    · obtain ⟨j, k, j', k', e1, e2, e3⟩ := ih hr (i + 1) _ (by omega) h2
      exact ⟨j, k, j', k', by rw [grFrom, if_neg (by omega)]; exact e1, by rw [grFrom, if_neg (by omega)]; exact e2, e3⟩
theorem gr_last {R : List RegV} (h : ∀ r ∈ R, posR r) (i : Nat) (a : Int) (h0 : R ≠ []) : ∃ k, grFrom i a R (totalOf a R - 1) = some (i + R.length - 1, k) := by
  induction R generalizing i a with
  | nil => exact absurd rfl h0
  | cons r rest ih =>
    have h3 := end_gt (h r (by simp)) a
    have hr : ∀ x ∈ rest, posR x := fun x hx => h x (by simp [hx])
    have h2 := total_ge hr (geoOf a r).end_
    simp only [totalOf]
    cases rest with
    | nil =>
      simp only [totalOf]
      exact ⟨_, by rw [grFrom, if_pos (by omega)]; rfl⟩
    | cons x xs =>
      have h4 := end_gt (hr x (by simp)) (geoOf a r).end_
      have h5 := total_ge (fun y hy => hr y (by simp [hy])) (a := (geoOf (geoOf a r).end_ x).end_) (R := xs)
      obtain ⟨k, hk⟩ := ih hr (i + 1) (geoOf a r).end_ (by simp)
      simp only [totalOf] at hk ⊢
      refine ⟨k, ?_⟩
      rw [grFrom, if_neg (by omega), hk]
      simp only [List.length_cons]
      congr 2
      omega

end Go.Proofs.Ytoeejeieplhifaa

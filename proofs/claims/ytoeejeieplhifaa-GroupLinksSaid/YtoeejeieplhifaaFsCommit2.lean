/- A transaction is written: what comes of it, plain; install, walked. -/
import Derived.Test.YtoeejeieplhifaaFsCommit
namespace Go.Proofs.Ytoeejeieplhifaa
open Go.RowKit
set_option linter.unusedSimpArgs false
set_option linter.unusedVariables false

/-- the log's blocks go to their places -/
def instD : List BlkV → Nat → List Nat → List BlkV
  | D, _, [] => D
  | D, j, n :: r => instD (D.set n (D.getD (2 + j) zeroB)) (j + 1) r
/-- blocks are written into the log -/
def logD (M : List (Nat × BlkV)) : List BlkV → Nat → List Nat → List BlkV
  | D, _, [] => D
  | D, j, n :: r => logD M (D.set (2 + j) ((mget M n).getD zeroB)) (j + 1) r
theorem getD_set {D : List BlkV} {n m : Nat} {b : BlkV} (hn : n < D.length) : (D.set n b).getD m zeroB = if n = m then b else D.getD m zeroB := by
  simp only [List.getD_eq_getElem?_getD, List.getElem?_set]
  by_cases h : n = m
  · subst h; simp [hn]
  · simp [h]
theorem getD_len {D : List BlkV} (h : ∀ b ∈ D, b.length = 64) (n : Nat) : (D.getD n zeroB).length = 64 := by
  rw [List.getD_eq_getElem?_getD]
  cases hd : D[n]? with
  | none => exact zeroB_length
  | some b => exact h b (List.mem_of_getElem? hd)
theorem instD_length : ∀ (l : List Nat) (D : List BlkV) (j : Nat), (instD D j l).length = D.length
  | [], _, _ => rfl
  | n :: r, D, j => by rw [instD, instD_length r, List.length_set]
theorem logD_length (M : List (Nat × BlkV)) : ∀ (l : List Nat) (D : List BlkV) (j : Nat), (logD M D j l).length = D.length
  | [], _, _ => rfl
  | n :: r, D, j => by rw [logD, logD_length M r, List.length_set]
theorem instD_lens : ∀ (l : List Nat) (D : List BlkV) (j : Nat), (∀ b ∈ D, b.length = 64) → ∀ b ∈ instD D j l, b.length = 64
  | [], _, _, h => h
  | n :: r, D, j, h => instD_lens r _ _ (set_lens h (getD_len h _))
theorem mget_lens {M : List (Nat × BlkV)} (hM : ∀ x ∈ M, x.2.length = 64) (n : Nat) : ((mget M n).getD zeroB).length = 64 := by
  cases h : mget M n with
  | none => exact zeroB_length
  | some b => exact hM _ (mget_mem h)
theorem logD_lens {M : List (Nat × BlkV)} (hM : ∀ x ∈ M, x.2.length = 64) : ∀ (l : List Nat) (D : List BlkV) (j : Nat), (∀ b ∈ D, b.length = 64) → ∀ b ∈ logD M D j l, b.length = 64
  | [], _, _, h => h
  | n :: r, D, j, h => logD_lens hM r _ _ (set_lens h (mget_lens hM n))
/-- the log's writing leaves what is ahead of it, and behind it -/
theorem logD_out (M : List (Nat × BlkV)) : ∀ (l : List Nat) (D : List BlkV) (j m : Nat), 2 + j + l.length ≤ D.length → (m < 2 + j ∨ 2 + j + l.length ≤ m) → (logD M D j l).getD m zeroB = D.getD m zeroB
  | [], _, _, _, _, _ => rfl
  | n :: r, D, j, m, hl, hm => by
    simp only [List.length_cons] at hl hm
    rw [logD, logD_out M r _ _ _ (by rw [List.length_set]; omega) (by omega), getD_set (by omega), if_neg (by omega)]
theorem logD_at (M : List (Nat × BlkV)) : ∀ (l : List Nat) (D : List BlkV) (j k : Nat) (n : Nat), 2 + j + l.length ≤ D.length → l[k]? = some n → (logD M D j l).getD (2 + j + k) zeroB = (mget M n).getD zeroB
  | [], _, _, _, _, _, h => by simp at h
  | n :: r, D, j, 0, n', hl, h => by
    simp at h
    subst h
    simp only [List.length_cons] at hl
    rw [logD, logD_out M r _ _ _ (by rw [List.length_set]; omega) (by omega), getD_set (by omega), if_pos (by omega)]
  | n :: r, D, j, k + 1, n', hl, h => by
    simp at h
    simp only [List.length_cons] at hl
    rw [logD, show 2 + j + (k + 1) = 2 + (j + 1) + k from by omega]
    exact logD_at M r _ _ k n' (by rw [List.length_set]; omega) h
theorem instD_out : ∀ (l : List Nat) (D : List BlkV) (j m : Nat), (∀ n ∈ l, n < D.length) → m ∉ l → (instD D j l).getD m zeroB = D.getD m zeroB
  | [], _, _, _, _, _ => rfl
  | n :: r, D, j, m, hl, hm => by
    have h1 : n ≠ m := fun e => hm (by simp [e])
    rw [instD, instD_out r _ _ _ (fun x hx => by rw [List.length_set]; exact hl x (by simp [hx])) (fun h => hm (by simp [h])), getD_set (hl n (by simp)), if_neg h1]
theorem instD_at : ∀ (l : List Nat) (D : List BlkV) (j k n : Nat), (∀ n ∈ l, n < D.length ∧ Sto.free n) → l.Nodup → 2 + j + l.length ≤ 32 → l[k]? = some n → (instD D j l).getD n zeroB = D.getD (2 + j + k) zeroB
  | [], _, _, _, _, _, _, _, h => by simp at h
  | n :: r, D, j, 0, n', hl, hnd, hj, h => by
    simp at h
    subst h
    rw [List.nodup_cons] at hnd
    rw [instD, instD_out r _ _ _ (fun x hx => by rw [List.length_set]; exact (hl x (by simp [hx])).1) hnd.1, getD_set (hl n (by simp)).1, if_pos rfl]
    rfl
  | n :: r, D, j, k + 1, n', hl, hnd, hj, h => by
    simp at h
    rw [List.nodup_cons] at hnd
    simp only [List.length_cons] at hj
    have hk : k < r.length := (List.getElem?_eq_some_iff.1 h).1
    rw [instD, instD_at r _ _ k n' (fun x hx => by rw [List.length_set]; exact hl x (by simp [hx])) hnd.2 (by omega) h, getD_set (hl n (by simp)).1, if_neg (by
      have := (hl n (by simp)).2
      rcases this with h0 | h0 <;> omega)]
    congr 1
    omega

/-- what a commit leaves on the disk -/
def commitD (s : Sto) (l : List Nat) : List BlkV := if l = [] then s.D else (instD ((logD s.M s.D 0 l).set 1 (headB l)) 0 l).set 1 (headB [])
theorem commit_len (s : Sto) (l : List Nat) : (commitD s l).length = s.D.length := by
  unfold commitD
  split
  · rfl
  · rw [List.length_set, instD_length, List.length_set, logD_length]
theorem commit_at {s : Sto} (h : s.Ok) {l : List Nat} (hp : l.Perm (s.M.map (·.1))) {m : Nat} (hm : Sto.free m) : (commitD s l).getD m zeroB = s.at_ m := by
  have hl30 : l.length ≤ 30 := by rw [hp.length_eq, List.length_map]; exact h.few
  have hmem : ∀ n ∈ l, n < s.D.length ∧ Sto.free n := fun n hn => by
    obtain ⟨x, hx, rfl⟩ := List.mem_map.1 (hp.mem_iff.1 hn)
    exact ⟨h.keys x hx, h.off x hx⟩
  have hnd : l.Nodup := hp.nodup_iff.2 h.nodup
  have h32 := h.many
  have hm1 : 1 ≠ m := by rcases hm with h0 | h0 <;> omega
  unfold commitD
  by_cases hl : l = []
  · rw [if_pos hl]
    subst hl
    have hM : s.M = [] := by
      have := hp.length_eq
      simp at this
      exact List.eq_nil_of_length_eq_zero this.symm
    unfold Sto.at_
    rw [hM]
    rfl
  · rw [if_neg hl, getD_set (by rw [instD_length, List.length_set, logD_length]; omega), if_neg hm1]
    by_cases hml : m ∈ l
    · obtain ⟨k, hk, rfl⟩ := List.mem_iff_getElem.1 hml
      rw [instD_at l _ 0 k _ (fun n hn => by rw [List.length_set, logD_length]; exact hmem n hn) hnd (by omega) (List.getElem?_eq_getElem hk), getD_set (by rw [logD_length]; omega), if_neg (by omega),
        logD_at s.M l s.D 0 k _ (by omega) (List.getElem?_eq_getElem hk)]
      unfold Sto.at_
      have hs : (mget s.M l[k]).isSome = true := by
        cases hg : mget s.M l[k] with
        | some _ => rfl
        | none => exact absurd (hp.mem_iff.1 (List.getElem_mem hk)) (mget_none_iff.1 hg)
      obtain ⟨b, hb⟩ := Option.isSome_iff_exists.1 hs
      rw [hb]
      rfl
    · rw [instD_out l _ 0 m (fun n hn => by rw [List.length_set, logD_length]; exact (hmem n hn).1) hml, getD_set (by rw [logD_length]; omega), if_neg hm1,
        logD_out s.M l s.D 0 m (by omega) (by rcases hm with h0 | h0 <;> omega)]
      unfold Sto.at_
      have hg : mget s.M m = none := mget_none_iff.2 fun hc => hml (hp.mem_iff.2 hc)
      rw [hg]
      rfl
theorem commit_lens {s : Sto} (h : s.Ok) (l : List Nat) : ∀ b ∈ commitD s l, b.length = 64 := by
  unfold commitD
  split
  · exact h.dlen
  · exact set_lens (instD_lens _ _ _ (set_lens (logD_lens h.mlen _ _ _ h.dlen) (headB_length l))) (headB_length [])
end Go.Proofs.Ytoeejeieplhifaa

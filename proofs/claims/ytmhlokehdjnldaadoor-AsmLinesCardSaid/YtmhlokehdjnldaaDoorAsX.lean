/- Programs' texts: how many bytes lines have; a program as a file. -/
import Derived.Test.YtmhlokehdjnldaaDoorAsQ
namespace Go.Proofs.YtmhlokehdjnldaaDoor
open Go.RowKit Go.WideMaps
set_option linter.unusedSimpArgs false
set_option linter.unusedVariables false

/-! ### how many bytes a line has -/
theorem dataA_len {L : Lbs} {k : Nat} (hk : k ≤ 4) : ∀ {ws : List (List UInt8)} {b : List UInt8}, dataA L k ws = .ok b → b.length = k * ws.length
  | [], b, h => by rw [dataA] at h; injection h with h; subst h; simp
  | s :: t, b, h => by
    rw [dataA] at h
    by_cases hv : (valueA L s (if k = 4 then -999999 else -128) (if k = 4 then 999999 else 255)).2 ≠ 0
    · rw [if_pos hv] at h; cases h
    · rw [if_neg hv] at h
      cases hd : dataA L k t with
      | error e => rw [hd] at h; cases h
      | ok c =>
        rw [hd] at h
        injection h with h
        subst h
        have ih := dataA_len hk hd
        rw [List.length_append, ih, List.length_take]
        simp only [bytesA, List.length_cons, List.length_nil]
        rw [Nat.mul_succ]
        omega
theorem instrA_len {L : Lbs} {ws : List (List UInt8)} {at_ : Nat} {b : List UInt8} (h : instrA L ws at_ = .ok b) : b.length = 4 := by
  rw [instrA_eq rfl rfl] at h
  split at h
  · cases h
  · split at h
    · cases h
    · unfold instrB at h
      split at h
      · split at h
        · cases h
        · injection h with h; subst h; rfl
      · split at h
        · cases h
        · injection h with h; subst h; rfl
      · split at h
        · cases h
        · injection h with h; subst h; rfl
      · split at h
        · cases h
        · split at h
          · injection h with h; subst h; rfl
          · cases h
      · split at h
        · cases h
        · injection h with h; subst h; rfl
      · injection h with h; subst h; rfl
def msz (ws : List (List UInt8)) : Nat := match measA ws with | .ok (n, _) => n | .error _ => 0
theorem code_len {L : Lbs} {ws : List (List UInt8)} {at_ : Nat} {b : List UInt8} (h : codeLn L ws at_ = .ok b) {r : Nat × Option Nat} (hm : measA ws = .ok r) : b.length = msz ws := by
  unfold msz
  rw [hm]
  obtain ⟨n, ex⟩ := r
  simp only
  unfold codeLn at h
  unfold measA at hm
  by_cases q1 : wd ws 0 = wExtra
  · rw [if_pos q1] at h hm
    injection h with h
    subst h
    split at hm
    · split at hm
      · cases hm
      · injection hm with hm; injection hm with hm _
    · cases hm
  rw [if_neg q1] at h hm
  by_cases q2 : wd ws 0 = wByte
  · rw [if_pos q2] at h hm
    injection hm with hm; injection hm with hm _; subst hm
    rw [dataA_len (by omega) h, List.length_tail]; omega
  rw [if_neg q2] at h hm
  by_cases q3 : wd ws 0 = wWord
  · rw [if_pos q3] at h hm
    injection hm with hm; injection hm with hm _; subst hm
    rw [dataA_len (by omega) h, List.length_tail]
  rw [if_neg q3] at h hm
  by_cases q4 : wd ws 0 = wText
  · rw [if_pos q4] at h hm
    injection h with h
    subst h
    split at hm
    · injection hm with hm; injection hm with hm _
    · cases hm
  rw [if_neg q4] at h hm
  split at hm
  · cases hm
  · injection hm with hm; injection hm with hm _; subst hm
    exact instrA_len h
def szs : List Ln → Nat
  | [] => 0
  | l :: t => msz l.ws + szs t
theorem szs_app : ∀ a b : List Ln, szs (a ++ b) = szs a + szs b
  | [], b => by simp [szs]
  | l :: a, b => by simp only [List.cons_append, szs, szs_app a b]; omega
theorem lineA_size {st st' : Src} {i : Nat} {l : List UInt8} (h : lineA st i l = .ok st') (hs : st.size = szs st.lines) : st'.size = szs st'.lines := by
  unfold lineA at h
  split at h
  · cases h
  · split at h
    · injection h with h; subst h; exact hs
    · split at h
      · cases h
      · rename_i hm
        split at h
        · cases h
        · injection h with h
          subst h
          simp only [szs_app, szs, hs, Nat.add_zero]
          unfold msz
          rw [hm]
theorem readA_size : ∀ {ls : List (List UInt8)} {st st' : Src} {i : Nat}, readA st i ls = .ok st' → st.size = szs st.lines → st'.size = szs st'.lines
  | [], st, st', i, h, hs => by rw [readA] at h; injection h with h; subst h; exact hs
  | l :: t, st, st', i, h, hs => by
    rw [readA] at h
    cases hl : lineA st (i + 1) l with
    | error e => rw [hl] at h; cases h
    | ok s2 =>
      rw [hl] at h
      exact readA_size h (lineA_size hl hs)

/-! ### a program as a file -/
set_option maxRecDepth 100000 in
set_option maxHeartbeats 2000000 in
theorem file_ok (e n c : Nat) (A : Option Addr) (code : List UInt8) (hn : n ≤ 1000000) (he : e < 256) (w : World) (hr : Rd w w.heap.size 1 A n (bvs code)) :
    Calls Tryd.prog 24 #[.agg (progC e A n c)] w fun r w' => (∃ v, r = .returned (.tuple #[v, .int .i64 (fitsE e n)])) ∧ Below w.heap.size w w' := by
  obtain ⟨i0, hi0, hz0, hz1, hz2⟩ := info_parts info_u8
  have hB1 := below1 w (.cells (progC e A n c) 27)
  go_enter Tryd.func24, Tryd.ntmps24
  go_wp2_with fail
  refine (fits_ok e n c A hn he _).mono ?_
  rintro r w2 ⟨rfl, hb2⟩
  have hB2 := Below.then_ hB1 (by simp) hb2
  have hP2 : Blk w2 w.heap.size 27 (progC e A n c) := (Blk.new w 27 (progC e A n c)).below hb2 (by simp)
  have k0 := hP2.cell 0
  have k1 := hP2.cell 1
  have kl := hP2.lt
  have hrd := hide (hr.below hB2)
  have hwz := hB2.size
  have HB2 := hide hB2
  by_cases hf : fitsE e n = 0
  · have hn2 : n ≤ 2048 := by
      unfold fitsE fitsA at hf
      by_cases h : n ≤ 2048
      · exact h
      · have : decide (n ≤ 2048) = false := decide_eq_false h
        rw [this] at hf; simp at hf
    have HF := hide hf
    rw [hf]
    clear hb2 hB1 hB2 hP2 hr hf
    go_wp2_with (at_builtin; refine wpList_append_rd _ rfl (.tmp 12) (.tmp 14) 22 rfl w.heap.size 5 i0 (.int .u8 0) 1 1 Tryd.underlying22 hi0 hz0 hz1 hz2 rfl (by decide) (.slice (some ⟨w2.heap.size, 0, none⟩) 4 4) 4 _ rfl (own_lit rfl rfl hwz (by simp [maxLen]) rfl) w.heap.size A n c (bvs code) rfl (hrd.out.alloc hwz _) (bvs_one code) (by simp only [maxLen]; omega) (by omega) (by simp; omega) (fun v' w' g2 g3 g4 g5 => ?_))
    go_returns
    refine ⟨⟨v', by rw [HF.out]; rfl⟩, Below.grown (w := _) (HB2.out.alloc HB2.out.size _) g3 (by simp; omega) (fun k hk => ?_)⟩
    simp only [Value.ownBlock, Option.some.injEq] at hk
    omega
  · have ht : (fitsE e n != 0) = true := by simpa using hf
    obtain ⟨fe, hfe⟩ : ∃ fe, fitsE e n = fe := ⟨_, rfl⟩
    have HF := hide hfe
    rw [hfe] at ht ⊢
    clear hb2 hB1 hB2 hP2 hr hf hfe
    go_wp2_with fail
    go_returns
    exact ⟨⟨_, by rw [HF.out]; rfl⟩, HB2.out⟩
end Go.Proofs.YtmhlokehdjnldaaDoor

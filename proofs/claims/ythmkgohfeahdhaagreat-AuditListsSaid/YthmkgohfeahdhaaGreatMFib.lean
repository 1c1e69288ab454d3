/- Files: the blocks of a file, plain: which there are, how one more is taken. Files: one block more, plain. Files: the way to a block, plain. Files: as many blocks as a file needs, plain. Files: bytes written into a file: what comes of it. Files: Write and Read over a file as it is meant. The fixed facts of layer 8's laws, their bytes: walked. Files: what can't be done: walked. -/
import Derived.Test.YthmkgohfeahdhaaGreatMFia
import Derived.Test.YthmkgohfeahdhaaGreatMFsd
namespace Go.Proofs.YthmkgohfeahdhaaGreat
open Go.RowKit
set_option linter.unusedSimpArgs false
set_option linter.unusedVariables false

/-- of a file's blocks by name (data: 0 to 255; 256: the single block of pointers; 257: the double one; from 258 on: those below it): where its pointer stands: in which block (none: in the node), at which place -/
def par (c : Nat) : Option (Nat × Nat) :=
  if c < 6 then none else if c < 38 then some (256, c - 6) else if c < 256 then some (258 + (c - 38) / 32, (c - 38) % 32) else if c < 258 then none else some (257, c - 258)
theorem par_lt {c p j : Nat} (hc : c < 265) (h : par c = some (p, j)) : p < 265 ∧ j < 32 ∧ 256 ≤ p ∧ p ≠ c := by
  unfold par at h
  split at h
  · cases h
  · split at h
    · simp only [Option.some.injEq, Prod.mk.injEq] at h; omega
    · split at h
      · simp only [Option.some.injEq, Prod.mk.injEq] at h; omega
      · split at h
        · cases h
        · simp only [Option.some.injEq, Prod.mk.injEq] at h; omega
theorem par_inj {c c' p j : Nat} (hc : c < 265) (hc' : c' < 265) (h : par c = some (p, j)) (h' : par c' = some (p, j)) : c = c' := by
  unfold par at h h'
  split at h
  · cases h
  split at h
  all_goals try (split at h)
  all_goals try (split at h)
  all_goals try (cases h; done)
  all_goals (split at h')
  all_goals try (cases h'; done)
  all_goals (split at h')
  all_goals try (split at h')
  all_goals try (split at h')
  all_goals try (cases h'; done)
  all_goals (simp only [Option.some.injEq, Prod.mk.injEq] at h h'; omega)
/-- a node's pointer of a name -/
def NodeV.slot (n : NodeV) (c : Nat) : Nat := if c < 6 then (n.dir.getD c 0).toNat else if c = 256 then n.single.toNat else n.double.toNat
/-- a file's blocks: which there are, where they are -/
structure Tree (G : GS) (m : Nat) (n : NodeV) (pr : Nat → Bool) (κ : Nat → Nat) : Prop where
  dir : n.dir.length = 6
  rng : ∀ c, pr c = true → c < 265
  cls : ∀ c p j, pr c = true → par c = some (p, j) → pr p = true
  top : ∀ c, c < 265 → par c = none → n.slot c = if pr c then κ c + 1 else 0
  sub : ∀ c p j, c < 265 → par c = some (p, j) → pr p = true → ptrB (G.by_ (κ p)) j = if pr c then κ c + 1 else 0
  own : ∀ c, pr c = true → κ c < m ∧ G.tk (κ c) = true
  inj : ∀ c c', pr c = true → pr c' = true → κ c = κ c' → c = c'
theorem free_spec {G : GS} {m k : Nat} (h : G.free m = some k) : k < m ∧ G.tk k = false := by
  refine ⟨gs_free_lt h, ?_⟩
  have := List.find?_some h
  simpa using this
theorem take_cnt {G : GS} {k : Nat} (hk : G.tk k = false) : ∀ m, (G.take k).cnt m = G.cnt m + if k < m then 1 else 0
  | 0 => rfl
  | m + 1 => by
    have ih := take_cnt hk m
    unfold GS.cnt at ih ⊢
    rw [List.range_succ, List.filter_append, List.filter_append, List.length_append, List.length_append, ih]
    by_cases e : m = k
    · subst e
      have h1 : (G.take m).tk m = true := by simp [GS.take, upd]
      simp [h1, hk]
    · have : (G.take k).tk m = G.tk m := by simp [GS.take, upd, e]
      simp only [List.filter_cons, List.filter_nil, this]
      by_cases h1 : k < m
      · have h2 : k < m + 1 := by omega
        simp only [h1, h2, if_true]; omega
      · have h2 : ¬ k < m + 1 := by omega
        simp only [h1, h2, if_false]; omega
theorem put_cnt (G : GS) (k : Nat) (b : BlkV) (m : Nat) : (G.put k b).cnt m = G.cnt m := rfl
theorem free_full {G : GS} {m : Nat} (h : G.free m = none) : G.cnt m = m := by
  unfold GS.cnt
  unfold GS.free at h
  rw [List.find?_eq_none] at h
  rw [List.filter_eq_self.2 (fun x hx => by have := h x hx; simpa using this), List.length_range]
theorem cnt_le_ (G : GS) (m : Nat) : G.cnt m ≤ m := by
  have := List.length_filter_le G.tk (List.range m)
  rwa [List.length_range] at this
/-- a block more, its pointer in a block -/
theorem Tree.add {G : GS} {m : Nat} {n : NodeV} {pr : Nat → Bool} {κ : Nat → Nat} {c p j k : Nat} (h : Tree G m n pr κ) (hG : G.Ok) (hm : m ≤ 512) (hc : c < 265) (hp : par c = some (p, j)) (hpp : pr p = true) (hnc : pr c = false) (hf : G.free m = some k) :
    Tree ((G.take k).put (κ p) (pointB (G.by_ (κ p)) j (k + 1))) m n (upd pr c true) (upd κ c k) := by
  obtain ⟨hk, hkf⟩ := free_spec hf
  obtain ⟨hp5, hj, -, hpc⟩ := par_lt hc hp
  have hkp : κ p ≠ k := fun e => by have := (h.own p hpp).2; rw [e, hkf] at this; cases this
  have hby : ∀ x, ((G.take k).put (κ p) (pointB (G.by_ (κ p)) j (k + 1))).by_ x = if x = κ p then pointB (G.by_ (κ p)) j (k + 1) else if x = k then zeroB else G.by_ x := fun x => rfl
  have htk : ∀ x, ((G.take k).put (κ p) (pointB (G.by_ (κ p)) j (k + 1))).tk x = if x = k then true else G.tk x := fun x => rfl
  refine ⟨h.dir, fun c' h' => ?_, fun c' p' j' h' hp' => ?_, fun c' hc' hp' => ?_, fun c' p' j' hc' hp' hpr => ?_, fun c' h' => ?_, fun c1 c2 h1 h2 he => ?_⟩
  · simp only [upd] at h'
    split at h'
    · omega
    · exact h.rng c' h'
  · simp only [upd] at h' ⊢
    split at h'
    · rename_i e; subst e; rw [hp] at hp'; cases hp'; rw [if_neg hpc]; exact hpp
    · have := h.cls c' p' j' h' hp'
      split
      · rfl
      · exact this
  · have hne : c' ≠ c := fun e => by rw [e, hp] at hp'; cases hp'
    simp only [upd, if_neg hne]
    exact h.top c' hc' hp'
  · rw [hby]
    by_cases e1 : p' = c
    · subst e1
      rw [upd_same, if_neg (fun e => hkp e.symm), if_pos rfl, ptr_zero]
      have hne : c' ≠ p' := (par_lt hc' hp').2.2.2.symm
      have hnp : pr c' = false := by
        cases hx : pr c' with
        | false => rfl
        | true => have := h.cls c' p' j' hx hp'; rw [hnc] at this; cases this
      simp only [upd, if_neg hne, hnp]
      rfl
    · rw [upd_other _ _ e1] at hpr
      rw [upd_other _ _ e1]
      by_cases e2 : p' = p
      · subst e2
        rw [if_pos rfl, ptr_point (hG.len _) hj (by omega)]
        by_cases e3 : j' = j
        · subst e3
          have := par_inj hc' hc hp' hp
          subst this
          rw [if_pos rfl, upd_same, upd_same]
          rfl
        · rw [if_neg e3]
          have hne : c' ≠ c := fun e => by subst e; rw [hp] at hp'; cases hp'; exact e3 rfl
          simp only [upd, if_neg hne]
          exact h.sub c' p' j' hc' hp' hpr
      · have e4 : κ p' ≠ κ p := fun e => e2 (h.inj p' p hpr hpp e)
        have e5 : κ p' ≠ k := fun e => by have := (h.own p' hpr).2; rw [e, hkf] at this; cases this
        rw [if_neg e4, if_neg e5]
        have hne : c' ≠ c := fun e => by subst e; rw [hp] at hp'; cases hp'; exact e2 rfl
        simp only [upd, if_neg hne]
        exact h.sub c' p' j' hc' hp' hpr
  · by_cases e : c' = c
    · have e1 : upd κ c k c' = k := by simp [upd, e]
      rw [e1, htk]
      exact ⟨hk, by rw [if_pos rfl]⟩
    · have e1 : upd κ c k c' = κ c' := by simp [upd, e]
      rw [upd_other _ _ e] at h'
      rw [e1, htk]
      have := h.own c' h'
      exact ⟨this.1, by split; rfl; exact this.2⟩
  · simp only [upd] at h1 h2 he
    by_cases e1 : c1 = c
    · by_cases e2 : c2 = c
      · rw [e1, e2]
      · rw [if_neg e2] at h2 he
        rw [if_pos e1] at he
        have := (h.own c2 h2).2
        rw [← he, hkf] at this
        cases this
    · rw [if_neg e1] at h1 he
      by_cases e2 : c2 = c
      · rw [if_pos e2] at he
        have := (h.own c1 h1).2
        rw [he, hkf] at this
        cases this
      · rw [if_neg e2] at h2 he
        exact h.inj c1 c2 h1 h2 he
/-- a block more, its pointer in the node -/
theorem Tree.addTop {G : GS} {m : Nat} {n : NodeV} {pr : Nat → Bool} {κ : Nat → Nat} {c k : Nat} {n' : NodeV} (h : Tree G m n pr κ) (hc : c < 265) (hp : par c = none) (hnc : pr c = false) (hf : G.free m = some k)
    (hd : n'.dir.length = 6) (hn : ∀ c', c' < 265 → par c' = none → n'.slot c' = if c' = c then k + 1 else n.slot c') :
    Tree (G.take k) m n' (upd pr c true) (upd κ c k) := by
  obtain ⟨hk, hkf⟩ := free_spec hf
  have hby : ∀ x, (G.take k).by_ x = if x = k then zeroB else G.by_ x := fun x => rfl
  have htk : ∀ x, (G.take k).tk x = if x = k then true else G.tk x := fun x => rfl
  refine ⟨hd, fun c' h' => ?_, fun c' p' j' h' hp' => ?_, fun c' hc' hp' => ?_, fun c' p' j' hc' hp' hpr => ?_, fun c' h' => ?_, fun c1 c2 h1 h2 he => ?_⟩
  · simp only [upd] at h'
    split at h'
    · omega
    · exact h.rng c' h'
  · simp only [upd] at h' ⊢
    split at h'
    · rename_i e; subst e; rw [hp] at hp'; cases hp'
    · have := h.cls c' p' j' h' hp'
      split
      · rfl
      · exact this
  · rw [hn c' hc' hp']
    simp only [upd]
    by_cases e : c' = c
    · simp [e]
    · simp only [if_neg e]; exact h.top c' hc' hp'
  · have hne : c' ≠ c := fun e => by subst e; rw [hp] at hp'; cases hp'
    rw [hby]
    by_cases e1 : p' = c
    · subst e1
      rw [upd_same, if_pos rfl, ptr_zero]
      have hnp : pr c' = false := by
        cases hx : pr c' with
        | false => rfl
        | true => have := h.cls c' p' j' hx hp'; rw [hnc] at this; cases this
      simp only [upd, if_neg hne, hnp]
      rfl
    · rw [upd_other _ _ e1] at hpr
      rw [upd_other _ _ e1]
      have e5 : κ p' ≠ k := fun e => by have := (h.own p' hpr).2; rw [e, hkf] at this; cases this
      rw [if_neg e5]
      simp only [upd, if_neg hne]
      exact h.sub c' p' j' hc' hp' hpr
  · by_cases e : c' = c
    · have e1 : upd κ c k c' = k := by simp [upd, e]
      rw [e1, htk]
      exact ⟨hk, by rw [if_pos rfl]⟩
    · have e1 : upd κ c k c' = κ c' := by simp [upd, e]
      rw [upd_other _ _ e] at h'
      rw [e1, htk]
      have := h.own c' h'
      exact ⟨this.1, by split; rfl; exact this.2⟩
  · simp only [upd] at h1 h2 he
    by_cases e1 : c1 = c
    · by_cases e2 : c2 = c
      · rw [e1, e2]
      · rw [if_neg e2] at h2 he
        rw [if_pos e1] at he
        have := (h.own c2 h2).2
        rw [← he, hkf] at this
        cases this
    · rw [if_neg e1] at h1 he
      by_cases e2 : c2 = c
      · rw [if_pos e2] at he
        have := (h.own c1 h1).2
        rw [he, hkf] at this
        cases this
      · rw [if_neg e2] at h2 he
        exact h.inj c1 c2 h1 h2 he
end Go.Proofs.YthmkgohfeahdhaaGreat
namespace Go.Proofs.YthmkgohfeahdhaaGreat
open Go.RowKit
set_option linter.unusedSimpArgs false
set_option linter.unusedVariables false

/-- blocks, each the next one's block of pointers -/
def Chain : Nat → List (Nat × Nat) → Prop
  | _, [] => True
  | p, (j, c) :: r => c < 265 ∧ par c = some (p, j) ∧ Chain c r
/-- how many of them there aren't -/
def missing (pr : Nat → Bool) (l : List Nat) : Nat := (l.filter fun c => !pr c).length
theorem missing_cons (pr : Nat → Bool) (c : Nat) (l : List Nat) : missing pr (c :: l) = (if pr c then 0 else 1) + missing pr l := by
  unfold missing
  rw [List.filter_cons]
  cases pr c <;> simp <;> omega
theorem missing_upd {pr : Nat → Bool} {c : Nat} {l : List Nat} (h : c ∉ l) : missing (upd pr c true) l = missing pr l := by
  unfold missing
  rw [List.filter_congr]
  intro x hx
  rw [upd_other _ _ (fun e => h (by rw [← e]; exact hx))]
/-- what getting a block leaves of a group, apart from the file -/
structure Grown (G G' : GS) (m : Nat) (pr pr' : Nat → Bool) (κ κ' : Nat → Nat) : Prop where
  nd : G'.nd = G.nd
  ok : G'.Ok
  eq : ∀ c, pr c = true → κ' c = κ c ∧ pr' c = true
  by_ : ∀ x, G.tk x = true → (∀ c, pr c = true → 256 ≤ c → κ c ≠ x) → G'.by_ x = G.by_ x
  tk : ∀ x, G.tk x = true → G'.tk x = true
  new : ∀ x, G'.tk x = true → G.tk x = true ∨ ∃ c, pr' c = true ∧ pr c = false ∧ κ' c = x
theorem Grown.refl {G : GS} (h : G.Ok) (m : Nat) (pr : Nat → Bool) (κ : Nat → Nat) : Grown G G m pr pr κ κ := ⟨rfl, h, fun _ h => ⟨rfl, h⟩, fun _ _ _ => rfl, fun _ h => h, fun _ h => .inl h⟩
theorem Grown.trans {G G' G'' : GS} {m : Nat} {pr pr' pr'' : Nat → Bool} {κ κ' κ'' : Nat → Nat} (h : Grown G G' m pr pr' κ κ') (h' : Grown G' G'' m pr' pr'' κ' κ'')
    (hf : ∀ c, pr' c = true → pr c = false → G.tk (κ' c) = false) : Grown G G'' m pr pr'' κ κ'' where
  nd := h'.nd.trans h.nd
  ok := h'.ok
  eq c hc := ⟨((h'.eq c (h.eq c hc).2).1).trans (h.eq c hc).1, (h'.eq c (h.eq c hc).2).2⟩
  by_ x hx hc := by
    rw [h'.by_ x (h.tk x hx) (fun c hc1 hc2 => ?_), h.by_ x hx hc]
    cases hp : pr c with
    | true => rw [(h.eq c hp).1]; exact hc c hp hc2
    | false => intro e; have := hf c hc1 hp; rw [e, hx] at this; cases this
  tk x hx := h'.tk x (h.tk x hx)
  new x hx := by
    rcases h'.new x hx with h1 | ⟨c, h1, h2, h3⟩
    · rcases h.new x h1 with h4 | ⟨c, h4, h5, h6⟩
      · exact .inl h4
      · exact .inr ⟨c, (h'.eq c h4).2, h5, by rw [(h'.eq c h4).1]; exact h6⟩
    · refine .inr ⟨c, h1, ?_, h3⟩
      cases hp : pr c with
      | false => rfl
      | true => rw [(h.eq c hp).2] at h2; cases h2
theorem grown_add {G : GS} {m : Nat} {n : NodeV} {pr : Nat → Bool} {κ : Nat → Nat} {c p j k : Nat} (h : Tree G m n pr κ) (hG : G.Ok) (hp5 : 256 ≤ p) (hpp : pr p = true) (hnc : pr c = false) (hf : G.free m = some k) :
    Grown G ((G.take k).put (κ p) (pointB (G.by_ (κ p)) j (k + 1))) m pr (upd pr c true) κ (upd κ c k) := by
  obtain ⟨hk, hkf⟩ := free_spec hf
  refine ⟨rfl, (hG.take k).put _ (by rw [pointB_length]; exact hG.len _), fun c' h' => ?_, fun x hx hc => ?_, fun x hx => ?_, fun x hx => ?_⟩
  · have : c' ≠ c := fun e => by rw [e, hnc] at h'; cases h'
    exact ⟨upd_other _ _ this, by rw [upd_other _ _ this]; exact h'⟩
  · have h1 : x ≠ κ p := fun e => hc p hpp hp5 e.symm
    have h2 : x ≠ k := fun e => by rw [e, hkf] at hx; cases hx
    simp only [GS.put, GS.take, upd, if_neg h1, if_neg h2]
  · simp only [GS.put, GS.take, upd]
    split
    · rfl
    · exact hx
  · simp only [GS.put, GS.take, upd] at hx
    by_cases e : x = k
    · exact .inr ⟨c, upd_same _ _ _, hnc, by rw [upd_same, e]⟩
    · rw [if_neg e] at hx; exact .inl hx
theorem grown_top {G : GS} {m : Nat} {pr : Nat → Bool} {κ : Nat → Nat} {c k : Nat} (hG : G.Ok) (hnc : pr c = false) (hf : G.free m = some k) : Grown G (G.take k) m pr (upd pr c true) κ (upd κ c k) := by
  obtain ⟨hk, hkf⟩ := free_spec hf
  refine ⟨rfl, hG.take k, fun c' h' => ?_, fun x hx hc => ?_, fun x hx => ?_, fun x hx => ?_⟩
  · have : c' ≠ c := fun e => by rw [e, hnc] at h'; cases h'
    exact ⟨upd_other _ _ this, by rw [upd_other _ _ this]; exact h'⟩
  · have h2 : x ≠ k := fun e => by rw [e, hkf] at hx; cases hx
    simp only [GS.take, upd, if_neg h2]
  · simp only [GS.take, upd]
    split
    · rfl
    · exact hx
  · simp only [GS.take, upd] at hx
    by_cases e : x = k
    · exact .inr ⟨c, upd_same _ _ _, hnc, by rw [upd_same, e]⟩
    · rw [if_neg e] at hx; exact .inl hx
theorem upd_or {pr : Nat → Bool} {c x : Nat} : upd pr c true x = (pr x || decide (x = c)) := by
  unfold upd
  by_cases e : x = c <;> simp [e]
theorem go_tree {m : Nat} {n : NodeV} (hm : m ≤ 512) : ∀ (l : List (Nat × Nat)) (p : Nat) (G : GS) (pr : Nat → Bool) (κ : Nat → Nat), Tree G m n pr κ → G.Ok → pr p = true → Chain p l → (l.map (·.2)).Nodup →
    needOk m (l.map (·.1)) G (κ p + 1) ∧
    (((needGo m (l.map (·.1)) G (κ p + 1)).1 = 10 ∧ m < G.cnt m + missing pr (l.map (·.2))) ∨
      ((needGo m (l.map (·.1)) G (κ p + 1)).1 = 0 ∧ ∃ pr' κ', Tree (needGo m (l.map (·.1)) G (κ p + 1)).2.2 m n pr' κ' ∧ Grown G (needGo m (l.map (·.1)) G (κ p + 1)).2.2 m pr pr' κ κ' ∧
        (∀ c, pr' c = (pr c || decide (c ∈ l.map (·.2)))) ∧ (∀ c, pr' c = true → pr c = false → G.tk (κ' c) = false ∧ (c < 256 → (needGo m (l.map (·.1)) G (κ p + 1)).2.2.by_ (κ' c) = zeroB)) ∧ (needGo m (l.map (·.1)) G (κ p + 1)).2.1 = (p :: l.map (·.2)).map (fun c => κ' c + 1) ∧
        (needGo m (l.map (·.1)) G (κ p + 1)).2.2.cnt m = G.cnt m + missing pr (l.map (·.2))))
  | [], p, G, pr, κ, h, hG, hp, _, _ => by
    have := (h.own p hp).1
    refine ⟨by simp only [List.map_nil, needOk]; omega, .inr ⟨rfl, pr, κ, h, Grown.refl hG _ _ _, fun c => by simp, ?_, rfl, rfl⟩⟩
    intro c h1 h2
    rw [h2] at h1
    cases h1
  | (j, c) :: r, p, G, pr, κ, h, hG, hp, hch, hnd => by
    obtain ⟨hc, hpar, hch⟩ := hch
    obtain ⟨hp5, hj, hp256, hpc⟩ := par_lt hc hpar
    have hown := (h.own p hp).1
    have hsub := h.sub c p j hc hpar hp
    simp only [List.map_cons, List.nodup_cons] at hnd ⊢
    rw [needOk, needGo, missing_cons, show κ p + 1 - 1 = κ p from rfl, hsub]
    cases hpr : pr c with
    | true =>
      simp only [if_true]
      have ih := go_tree hm r c G pr κ h hG hpr hch hnd.2
      obtain ⟨ih1, ih2⟩ := ih
      refine ⟨⟨by omega, by omega, fun _ => ih1, fun e => absurd e (by omega)⟩, ?_⟩
      rw [if_neg (by omega)]
      rcases ih2 with ⟨h1, h2⟩ | ⟨h1, pr', κ', h2, h3, h4, h5, h6, h7⟩
      · exact .inl ⟨h1, by omega⟩
      · refine .inr ⟨h1, pr', κ', h2, h3, fun x => ?_, h5, ?_, by rw [h7]; omega⟩
        · rw [h4]
          by_cases e : x = c
          · subst e; simp [hpr]
          · have e2 : (x == c) = false := by simpa using e
            simp [e2]
        · simp only
          rw [h6, List.map_cons, (h3.eq p hp).1]
    | false =>
      simp only [Bool.false_eq_true, if_false]
      cases hf : G.free m with
      | none =>
        refine ⟨⟨by omega, by omega, fun e => absurd rfl e, fun _ k hk => by cases hk⟩, .inl ⟨rfl, by rw [free_full hf]; omega⟩⟩
      | some k =>
        obtain ⟨hk, hkf⟩ := free_spec hf
        have hT := h.add hG hm hc hpar hp hpr hf
        have hGr := grown_add (c := c) (j := j) h hG hp256 hp hpr hf
        have ih := go_tree hm r c _ _ _ hT hGr.ok (upd_same _ _ _) hch hnd.2
        rw [upd_same, missing_upd hnd.1, put_cnt, take_cnt hkf, if_pos hk] at ih
        obtain ⟨ih1, ih2⟩ := ih
        refine ⟨⟨by omega, by omega, fun e => absurd rfl e, fun _ k' hk' => by cases hk'; exact ih1⟩, ?_⟩
        simp only [if_true]
        have hfr : ∀ x, upd pr c true x = true → pr x = false → G.tk (upd κ c k x) = false := fun x h1 h2 => by
          simp only [upd] at h1 ⊢
          by_cases e : x = c
          · rw [if_pos e]; exact hkf
          · rw [if_neg e, h2] at h1; cases h1
        rcases ih2 with ⟨h1, h2⟩ | ⟨h1, pr', κ', h2, h3, h4, h5, h6, h7⟩
        · exact .inl ⟨h1, by omega⟩
        · refine .inr ⟨h1, pr', κ', h2, hGr.trans h3 hfr, fun x => ?_, fun x hx1 hx2 => ?_, ?_, by rw [h7]; omega⟩
          · rw [h4, upd_or]
            by_cases e : x = c
            · simp [e]
            · have e2 : (x == c) = false := by simpa using e
              simp [e2, e]
          · by_cases e : x = c
            · subst e
              rw [(h3.eq x (upd_same _ _ _)).1, upd_same]
              refine ⟨hkf, fun hx => ?_⟩
              have hkk : ((G.take k).put (κ p) (pointB (G.by_ (κ p)) j (k + 1))).tk k = true := by simp [GS.put, GS.take, upd]
              have hkp : k ≠ κ p := fun e => by have := (h.own p hp).2; rw [← e, hkf] at this; cases this
              rw [h3.by_ k hkk (fun c' hc1 hc2 => ?_)]
              · simp [GS.put, GS.take, upd, hkp]
              · intro e2
                simp only [upd] at hc1 e2
                by_cases e3 : c' = x
                · omega
                · rw [if_neg e3] at hc1 e2
                  have := (h.own c' hc1).2
                  rw [e2, hkf] at this
                  cases this
            · have hu : upd pr c true x = false := by rw [upd_other _ _ e]; exact hx2
              have := h5 x hx1 hu
              refine ⟨?_, this.2⟩
              have h8 := this.1
              simp only [GS.put, GS.take, upd] at h8
              split at h8
              · cases h8
              · exact h8
          · rw [h6, List.map_cons, (h3.eq p (by simp only [upd]; split; rfl; exact hp)).1, upd_other _ _ hpc]
end Go.Proofs.YthmkgohfeahdhaaGreat
namespace Go.Proofs.YthmkgohfeahdhaaGreat
open Go.RowKit
set_option linter.unusedSimpArgs false
set_option linter.unusedVariables false

def rootK (b : Nat) : Nat := if b < 6 then b else if b < 38 then 256 else 257
def pathL (b : Nat) : List (Nat × Nat) := if b < 6 then [] else if b < 38 then [(b - 6, b)] else [((b - 38) / 32, 258 + (b - 38) / 32), ((b - 38) % 32, b)]
/-- the blocks gone through to a file's block -/
def pathK (b : Nat) : List Nat := rootK b :: (pathL b).map (·.2)
theorem path_idx (b : Nat) : (wayOf b).idx = (pathL b).map (·.1) := by
  unfold wayOf pathL WayV.idx
  split
  · rfl
  · split <;> rfl
theorem path_chain {b : Nat} (hb : b < 256) : Chain (rootK b) (pathL b) := by
  unfold rootK pathL
  split
  · trivial
  · split
    · refine ⟨by omega, ?_, trivial⟩
      unfold par
      rw [if_neg (by omega), if_pos (by omega)]
    · refine ⟨by omega, ?_, by omega, ?_, trivial⟩
      · unfold par
        rw [if_neg (by omega), if_neg (by omega), if_neg (by omega), if_neg (by omega)]
        rw [show 258 + (b - 38) / 32 - 258 = (b - 38) / 32 from by omega]
      · unfold par
        rw [if_neg (by omega), if_neg (by omega), if_pos (by omega)]
theorem path_nodup {b : Nat} (hb : b < 256) : ((pathL b).map (·.2)).Nodup ∧ rootK b ∉ (pathL b).map (·.2) := by
  unfold rootK pathL
  split
  · simp
  · split
    · simp; omega
    · simp; omega
theorem par_root {b : Nat} (hb : b < 256) : par (rootK b) = none ∧ rootK b < 265 := by
  unfold rootK
  split
  · unfold par; rw [if_pos (by omega)]; exact ⟨rfl, by omega⟩
  · split <;> exact ⟨rfl, by omega⟩
theorem slot_root {b : Nat} (hb : b < 256) (n : NodeV) : (n.rootV (wayOf b)).toNat = n.slot (rootK b) := by
  unfold NodeV.rootV NodeV.slot wayOf rootK
  split
  · rename_i h; simp [h]
  · split
    · simp
    · simp
theorem slot_set {b k c : Nat} (hb : b < 256) {n : NodeV} (hd : n.dir.length = 6) (hk : k + 1 < 65536) (hc : c < 265) (hp : par c = none) : (n.setRoot (wayOf b) (UInt16.ofNat (k + 1))).slot c = if c = rootK b then k + 1 else n.slot c := by
  have hx : (UInt16.ofNat (k + 1)).toNat = k + 1 := by rw [UInt16.toNat_ofNat', Nat.mod_eq_of_lt (by omega)]
  have hc2 : c < 6 ∨ c = 256 ∨ c = 257 := by
    unfold par at hp
    split at hp
    · left; assumption
    · split at hp
      · cases hp
      · split at hp
        · cases hp
        · split at hp
          · right; omega
          · cases hp
  unfold NodeV.setRoot wayOf rootK
  by_cases h6 : b < 6
  · simp only [if_pos h6]
    simp only [if_true]
    unfold NodeV.slot
    rcases hc2 with h | rfl | rfl
    · simp only [if_pos h, List.getD_eq_getElem?_getD, List.getElem?_set]
      by_cases e : b = c
      · subst e; simp [hd, h6, hk]
      · have e2 : ¬ c = b := fun h => e h.symm
        simp [e, e2]
    · have e : ¬ 256 = b := by omega
      simp [e]
    · have e : ¬ 257 = b := by omega
      simp [e]
  · simp only [if_neg h6]
    by_cases h38 : b < 38
    · simp only [if_pos h38]
      unfold NodeV.slot
      rcases hc2 with h | rfl | rfl
      · have e : ¬ c = 256 := by omega
        simp [h, e]
      · simp [hk]
      · simp
    · simp only [if_neg h38]
      unfold NodeV.slot
      rcases hc2 with h | rfl | rfl
      · have e : ¬ c = 257 := by omega
        simp [h, e]
      · simp
      · simp [hk]
theorem lastP_path (b : Nat) (f : Nat → Nat) : lastP ((pathK b).map f) = f b := by
  unfold lastP pathK rootK pathL
  split
  · rfl
  · split <;> rfl
/-- a node but for its pointers -/
def NodeV.same (n n' : NodeV) : Prop := n'.kind = n.kind ∧ n'.links = n.links ∧ n'.gen = n.gen ∧ n'.size = n.size
theorem setRoot_same (n : NodeV) (v : WayV) (x : UInt16) : n.same (n.setRoot v x) := by
  unfold NodeV.setRoot NodeV.same
  split
  · exact ⟨rfl, rfl, rfl, rfl⟩
  · split <;> exact ⟨rfl, rfl, rfl, rfl⟩
/-- getting a file's block -/
theorem need_tree {G : GS} {m b : Nat} {n : NodeV} {pr : Nat → Bool} {κ : Nat → Nat} (hm : m ≤ 512) (hb : b < 256) (h : Tree G m n pr κ) (hG : G.Ok) :
    needROk m n (wayOf b) G ∧ ∀ e V G' n', needR m n (wayOf b) G = (e, V, G', n') →
      (e = 10 ∧ m < G.cnt m + missing pr (pathK b)) ∨
      (e = 0 ∧ ∃ pr' κ', Tree G' m n' pr' κ' ∧ Grown G G' m pr pr' κ κ' ∧ (∀ c, pr' c = (pr c || decide (c ∈ pathK b))) ∧ (∀ c, pr' c = true → pr c = false → G.tk (κ' c) = false ∧ (c < 256 → G'.by_ (κ' c) = zeroB)) ∧ V = (pathK b).map (fun c => κ' c + 1) ∧ G'.cnt m = G.cnt m + missing pr (pathK b) ∧ n.same n') := by
  obtain ⟨hr1, hr2⟩ := par_root hb
  have hch := path_chain hb
  obtain ⟨hnd, hni⟩ := path_nodup hb
  have htop := h.top _ hr2 hr1
  unfold needROk needR pathK
  rw [slot_root hb, htop, path_idx, missing_cons]
  cases hpr : pr (rootK b) with
  | true =>
    simp only [if_true]
    have ih := go_tree hm (pathL b) (rootK b) G pr κ h hG hpr hch hnd
    rw [if_neg (by omega), if_neg (by omega)]
    refine ⟨ih.1, fun e V G' n' he => ?_⟩
    simp only [Prod.mk.injEq] at he
    obtain ⟨h1, h2, h3, h4⟩ := he
    rw [h1, h2, h3] at ih
    subst h4
    rcases ih.2 with ⟨k1, k2⟩ | ⟨k1, pr', κ', k2, k3, k4, k5, k6, k7⟩
    · exact .inl ⟨k1, by omega⟩
    · refine .inr ⟨k1, pr', κ', k2, k3, fun x => ?_, k5, k6, by omega, rfl, rfl, rfl, rfl⟩
      rw [k4]
      by_cases e : x = rootK b
      · rw [e, hpr]; simp
      · have e2 : (x == rootK b) = false := by simpa using e
        simp [e2]
  | false =>
    simp only [Bool.false_eq_true, if_false, if_true]
    refine ⟨fun k hk => ?_, fun e V G' n' he => ?_⟩
    · obtain ⟨hkm, hkf⟩ := free_spec hk
      have hT := h.addTop (n' := n.setRoot (wayOf b) (UInt16.ofNat (k + 1))) hr2 hr1 hpr hk (by rw [NodeV.setRoot_dir]; exact h.dir) (fun c' h1 h2 => slot_set hb h.dir (by omega) h1 h2)
      have ih := go_tree hm (pathL b) (rootK b) _ _ _ hT (hG.take k) (upd_same _ _ _) hch hnd
      rw [upd_same] at ih
      exact ih.1
    · cases hf : G.free m with
      | none =>
        rw [hf] at he
        simp only [Prod.mk.injEq] at he
        exact .inl ⟨he.1.symm, by rw [free_full hf]; omega⟩
      | some k =>
        rw [hf] at he
        simp only [Prod.mk.injEq] at he
        obtain ⟨h1, h2, h3, h4⟩ := he
        obtain ⟨hkm, hkf⟩ := free_spec hf
        have hT := h.addTop (n' := n.setRoot (wayOf b) (UInt16.ofNat (k + 1))) hr2 hr1 hpr hf (by rw [NodeV.setRoot_dir]; exact h.dir) (fun c' h1 h2 => slot_set hb h.dir (by omega) h1 h2)
        have hGr := grown_top (κ := κ) hG hpr hf
        have ih := go_tree hm (pathL b) (rootK b) _ _ _ hT (hG.take k) (upd_same _ _ _) hch hnd
        rw [upd_same, missing_upd hni, take_cnt hkf, if_pos hkm, h1, h2, h3] at ih
        subst h4
        have hfr : ∀ x, upd pr (rootK b) true x = true → pr x = false → G.tk (upd κ (rootK b) k x) = false := fun x h1 h2 => by
          simp only [upd] at h1 ⊢
          by_cases e : x = rootK b
          · rw [if_pos e]; exact hkf
          · rw [if_neg e, h2] at h1; cases h1
        rcases ih.2 with ⟨k1, k2⟩ | ⟨k1, pr', κ', k2, k3, k4, k5, k6, k7⟩
        · exact .inl ⟨k1, by omega⟩
        · refine .inr ⟨k1, pr', κ', k2, hGr.trans k3 hfr, fun x => ?_, fun x hx1 hx2 => ?_, k6, by omega, setRoot_same _ _ _⟩
          · rw [k4, upd_or]
            by_cases e : x = rootK b
            · simp [e]
            · have e2 : (x == rootK b) = false := by simpa using e
              simp [e2, e]
          · by_cases e : x = rootK b
            · subst e
              rw [(k3.eq _ (upd_same _ _ _)).1, upd_same]
              refine ⟨hkf, fun hx => ?_⟩
              have hkk : (G.take k).tk k = true := by simp [GS.take, upd]
              rw [k3.by_ k hkk (fun c' hc1 hc2 => ?_)]
              · simp [GS.take, upd]
              · intro e2
                simp only [upd] at hc1 e2
                by_cases e3 : c' = rootK b
                · omega
                · rw [if_neg e3] at hc1 e2
                  have := (h.own c' hc1).2
                  rw [e2, hkf] at this
                  cases this
            · have hu : upd pr (rootK b) true x = false := by rw [upd_other _ _ e]; exact hx2
              have := k5 x hx1 hu
              refine ⟨?_, this.2⟩
              have h8 := this.1
              simp only [GS.take, upd] at h8
              split at h8
              · cases h8
              · exact h8
end Go.Proofs.YthmkgohfeahdhaaGreat
namespace Go.Proofs.YthmkgohfeahdhaaGreat
open Go.RowKit
set_option linter.unusedSimpArgs false
set_option linter.unusedVariables false

/-- the blocks of a file of so many data blocks -/
def prOf (c k : Nat) : Bool := decide (k < c ∨ (k = 256 ∧ 6 < c) ∨ (k = 257 ∧ 38 < c) ∨ (258 ≤ k ∧ k < 265 ∧ 38 + 32 * (k - 258) < c))
/-- how many -/
def nkeys (c : Nat) : Nat := c + (if 6 < c then 1 else 0) + (if 38 < c then 1 + (c - 38 + 31) / 32 else 0)
theorem pathK_eq (b : Nat) : pathK b = if b < 6 then [b] else if b < 38 then [256, b] else [257, 258 + (b - 38) / 32, b] := by
  unfold pathK rootK pathL
  split
  · rfl
  · split <;> rfl
theorem pr_old {b c : Nat} (hb : b < c) (hc : c ≤ 256) : ∀ k ∈ pathK b, prOf c k = true := by
  intro k hk
  rw [pathK_eq] at hk
  unfold prOf
  rw [decide_eq_true_iff]
  split at hk
  · simp at hk; omega
  · split at hk
    · simp at hk; omega
    · simp at hk; omega
theorem pr_new {c : Nat} (hc : c < 256) (k : Nat) : prOf (c + 1) k = (prOf c k || decide (k ∈ pathK c)) := by
  rw [Bool.eq_iff_iff, Bool.or_eq_true, pathK_eq]
  unfold prOf
  rw [decide_eq_true_iff, decide_eq_true_iff, decide_eq_true_iff]
  split
  · simp; omega
  · split
    · simp; omega
    · simp; omega
theorem missing_zero {pr : Nat → Bool} {l : List Nat} (h : ∀ k ∈ l, pr k = true) : missing pr l = 0 := by
  unfold missing
  rw [List.filter_eq_nil_iff.2 (fun x hx => by simp [h x hx])]
  rfl
theorem missing_new {c : Nat} (hc : c < 256) : nkeys c + missing (prOf c) (pathK c) = nkeys (c + 1) := by
  have hcc : prOf c c = false := by unfold prOf; rw [decide_eq_false_iff_not]; omega
  rw [pathK_eq]
  unfold nkeys
  have hm0 : missing (prOf c) [] = 0 := rfl
  by_cases h6 : c < 6
  · have a1 : ¬ 6 < c := by omega
    have a2 : ¬ 6 < c + 1 := by omega
    have a3 : ¬ 38 < c := by omega
    have a4 : ¬ 38 < c + 1 := by omega
    rw [if_pos h6, missing_cons, hm0, hcc, if_neg a1, if_neg a2, if_neg a3, if_neg a4]
    simp
  · rw [if_neg h6]
    by_cases h38 : c < 38
    · have e : prOf c 256 = decide (6 < c) := by
        unfold prOf
        rw [Bool.eq_iff_iff, decide_eq_true_iff, decide_eq_true_iff]
        omega
      have a2 : 6 < c + 1 := by omega
      have a3 : ¬ 38 < c := by omega
      have a4 : ¬ 38 < c + 1 := by omega
      rw [if_pos h38, missing_cons, missing_cons, hm0, hcc, e, if_pos a2, if_neg a3, if_neg a4]
      by_cases h : 6 < c
      · rw [if_pos h]; simp [h]
      · rw [if_neg h]; simp [h]
    · have e : prOf c 257 = decide (38 < c) := by
        unfold prOf
        rw [Bool.eq_iff_iff, decide_eq_true_iff, decide_eq_true_iff]
        omega
      have e2 : prOf c (258 + (c - 38) / 32) = decide (38 + 32 * ((c - 38) / 32) < c) := by
        unfold prOf
        rw [Bool.eq_iff_iff, decide_eq_true_iff, decide_eq_true_iff]
        omega
      have a1 : 6 < c := by omega
      have a2 : 6 < c + 1 := by omega
      have a4 : 38 < c + 1 := by omega
      rw [if_neg h38, missing_cons, missing_cons, missing_cons, hm0, hcc, e, e2, if_pos a1, if_pos a2, if_pos a4]
      by_cases h : 38 < c
      · rw [if_pos h]
        by_cases h2 : 38 + 32 * ((c - 38) / 32) < c
        · simp [h, h2]; omega
        · simp [h, h2]; omega
      · have h2 : ¬ 38 + 32 * ((c - 38) / 32) < c := by omega
        rw [if_neg h]
        simp [h, h2]; omega
theorem blk_tree {G : GS} {m : Nat} {n : NodeV} {pr : Nat → Bool} {κ : Nat → Nat} (h : Tree G m n pr κ) : ∀ (l : List (Nat × Nat)) (p : Nat), pr p = true → Chain p l → (∀ k ∈ l.map (·.2), pr k = true) →
    blkOk G m (l.map (·.1)) (κ p + 1) ∧ blkGo G (l.map (·.1)) (κ p + 1) = κ (((p :: l.map (·.2)).getLast?).getD 0) + 1
  | [], p, hp, _, _ => ⟨trivial, rfl⟩
  | (j, c) :: r, p, hp, hch, hall => by
    obtain ⟨hc, hpar, hch⟩ := hch
    have hpc : pr c = true := hall c (by simp)
    have hsub := h.sub c p j hc hpar hp
    rw [hpc, if_pos rfl] at hsub
    have ih := blk_tree h r c hpc hch (fun k hk => hall k (by simp at hk ⊢; exact .inr hk))
    have hown := (h.own p hp).1
    simp only [List.map_cons]
    rw [blkOk, blkGo, show κ p + 1 - 1 = κ p from rfl, hsub, if_neg (by omega)]
    refine ⟨fun _ => ⟨by omega, ih.1⟩, ?_⟩
    rw [ih.2]
    simp
theorem tree_data {G : GS} {m b : Nat} {n : NodeV} {pr : Nat → Bool} {κ : Nat → Nat} (hb : b < 256) (h : Tree G m n pr κ) (hp : ∀ k ∈ pathK b, pr k = true) : Rdy G m n b ∧ dataP G n b = κ b + 1 := by
  obtain ⟨hr1, hr2⟩ := par_root hb
  have hpr : pr (rootK b) = true := hp _ (by simp [pathK])
  have hbt := blk_tree h (pathL b) (rootK b) hpr (path_chain hb) (fun k hk => hp k (by unfold pathK; exact List.mem_cons_of_mem _ hk))
  have htop := h.top _ hr2 hr1
  rw [hpr, if_pos rfl] at htop
  have hlast : ((rootK b :: (pathL b).map (·.2)).getLast?).getD 0 = b := by
    have := lastP_path b id
    unfold lastP pathK at this
    simpa using this
  have hd : dataP G n b = κ b + 1 := by
    unfold dataP
    rw [slot_root hb, htop, path_idx, hbt.2, hlast]
  have hbm : b ∈ pathK b := by rw [pathK_eq]; split; simp; split <;> simp
  have hown := (h.own b (hp b hbm)).1
  refine ⟨⟨?_, by omega, by omega⟩, hd⟩
  rw [slot_root hb, htop, path_idx]
  exact hbt.1
/-- a data block's bytes change -/
theorem Tree.putData {G : GS} {m : Nat} {n : NodeV} {pr : Nat → Bool} {κ : Nat → Nat} (h : Tree G m n pr κ) {b : Nat} (hb : b < 256) (hp : pr b = true) (x : BlkV) : Tree (G.put (κ b) x) m n pr κ where
  dir := h.dir
  rng := h.rng
  cls := h.cls
  top := h.top
  sub c p j hc hpar hpp := by
    have h1 := (par_lt hc hpar).2.2.1
    have h2 : κ p ≠ κ b := fun e => by have := h.inj p b hpp hp e; omega
    have : (G.put (κ b) x).by_ (κ p) = G.by_ (κ p) := upd_other _ _ h2
    rw [this]
    exact h.sub c p j hc hpar hpp
  own := h.own
  inj := h.inj
/-- what is done to a file leaves of a group's other blocks -/
structure Kept (G G' : GS) (pr pr' : Nat → Bool) (κ κ' : Nat → Nat) : Prop where
  nd : G'.nd = G.nd
  ok : G'.Ok
  eq : ∀ c, pr c = true → κ' c = κ c ∧ pr' c = true
  by_ : ∀ x, G.tk x = true → (∀ c, pr c = true → κ c ≠ x) → G'.by_ x = G.by_ x
  tk : ∀ x, G.tk x = true → G'.tk x = true
  new : ∀ x, G'.tk x = true → G.tk x = true ∨ ∃ c, pr' c = true ∧ pr c = false ∧ κ' c = x
theorem Kept.refl {G : GS} (h : G.Ok) (pr : Nat → Bool) (κ : Nat → Nat) : Kept G G pr pr κ κ := ⟨rfl, h, fun _ h => ⟨rfl, h⟩, fun _ _ _ => rfl, fun _ h => h, fun _ h => .inl h⟩
theorem Kept.grown {G G' G'' : GS} {m : Nat} {pr pr' pr'' : Nat → Bool} {κ κ' κ'' : Nat → Nat} (h : Kept G G' pr pr' κ κ') (ht : ∀ c, pr' c = true → pr c = false → G.tk (κ' c) = false) (h' : Grown G' G'' m pr' pr'' κ' κ'') : Kept G G'' pr pr'' κ κ'' where
  nd := h'.nd.trans h.nd
  ok := h'.ok
  eq c hc := ⟨((h'.eq c (h.eq c hc).2).1).trans (h.eq c hc).1, (h'.eq c (h.eq c hc).2).2⟩
  by_ x hx hc := by
    rw [h'.by_ x (h.tk x hx) (fun c hc1 hc2 => ?_), h.by_ x hx hc]
    cases hp : pr c with
    | true => rw [(h.eq c hp).1]; exact hc c hp
    | false => intro e; have := ht c hc1 hp; rw [e, hx] at this; cases this
  tk x hx := h'.tk x (h.tk x hx)
  new x hx := by
    rcases h'.new x hx with h1 | ⟨c, h1, h2, h3⟩
    · rcases h.new x h1 with h4 | ⟨c, h4, h5, h6⟩
      · exact .inl h4
      · exact .inr ⟨c, (h'.eq c h4).2, h5, by rw [(h'.eq c h4).1]; exact h6⟩
    · refine .inr ⟨c, h1, ?_, h3⟩
      cases hp : pr c with
      | false => rfl
      | true => rw [(h.eq c hp).2] at h2; cases h2
theorem Kept.put {G G' : GS} {pr pr' : Nat → Bool} {κ κ' : Nat → Nat} (h : Kept G G' pr pr' κ κ') (ht : ∀ c, pr' c = true → pr c = false → G.tk (κ' c) = false) {b : Nat} (hp : pr' b = true) {x : BlkV} (hx : x.length = 64) : Kept G (G'.put (κ' b) x) pr pr' κ κ' where
  nd := h.nd
  ok := h.ok.put _ hx
  eq := h.eq
  by_ y hy hc := by
    have : y ≠ κ' b := fun e => by
      cases hpb : pr b with
      | true => exact hc b hpb (by rw [← (h.eq b hpb).1]; exact e.symm)
      | false => have := ht b hp hpb; rw [← e, hy] at this; cases this
    exact (upd_other _ _ this).trans (h.by_ y hy hc)
  tk := h.tk
  new := h.new
end Go.Proofs.YthmkgohfeahdhaaGreat
namespace Go.Proofs.YthmkgohfeahdhaaGreat
open Go.RowKit
set_option linter.unusedSimpArgs false
set_option linter.unusedVariables false

/-- a file lies in a group: so many data blocks, where they are, so many bytes -/
structure FileAt (G : GS) (m : Nat) (n : NodeV) (c : Nat) (κ : Nat → Nat) (len : Nat) (f : Nat → UInt8) : Prop where
  tree : Tree G m n (prOf c) κ
  cle : c ≤ 256
  fit : len ≤ 64 * c
  byte : ∀ j, j < len → (G.by_ (κ (j / 64))).getD (j % 64) 0 = f j
/-- so many blocks a length takes -/
def blks (len : Nat) : Nat := (len + 63) / 64
theorem FileAt.rdy {G : GS} {m c len : Nat} {n : NodeV} {κ : Nat → Nat} {f : Nat → UInt8} (h : FileAt G m n c κ len f) {b : Nat} (hb : b < c) : Rdy G m n b ∧ dataP G n b = κ b + 1 :=
  tree_data (by have := h.cle; omega) h.tree (pr_old hb h.cle)
theorem FileAt.fbyte {G : GS} {m c len : Nat} {n : NodeV} {κ : Nat → Nat} {f : Nat → UInt8} (h : FileAt G m n c κ len f) {j : Nat} (hj : j < len) : fbyte G n j = f j := by
  have := h.fit
  unfold Go.Proofs.YthmkgohfeahdhaaGreat.fbyte
  rw [(h.rdy (b := j / 64) (by omega)).2]
  exact h.byte j hj
theorem FileAt.bytes {G : GS} {m c len : Nat} {n : NodeV} {κ : Nat → Nat} {f : Nat → UInt8} (h : FileAt G m n c κ len f) {off l : Nat} (hl : off + l ≤ len) : fbytes G n off l = (List.range l).map fun k => f (off + k) := by
  unfold fbytes
  apply List.map_congr_left
  intro k hk
  exact h.fbyte (by have := List.mem_range.1 hk; omega)
/-- bytes written into bytes, at each place -/
def over (f : Nat → UInt8) (off : Nat) (data : List UInt8) (a j : Nat) : UInt8 := if off ≤ j ∧ j < off + a then data.getD (j - off) 0 else f j
/-- the blocks that may be touched, from one of data on -/
def tkeys (lo n : Nat) : List Nat := 256 :: 257 :: (258 + (lo - 38) / 32) :: (258 + (lo - 38) / 32 + 1) :: (List.range n).map fun k => lo + k
def KL (g : GeoN) (K0 : List Nat) (lo n c : Nat) (κ : Nat → Nat) : List Nat := K0 ++ g.base :: ((tkeys lo n).filter (prOf c)).map fun k => g.data + κ k
theorem tkeys_path {lo n b : Nat} (h1 : lo ≤ b) (h2 : b < lo + n) (hn : n ≤ 32) : ∀ k ∈ pathK b, k ∈ tkeys lo n := by
  have hb : ∀ k, k = b → k ∈ (List.range n).map (fun k => lo + k) := fun k hk => List.mem_map.2 ⟨b - lo, List.mem_range.2 (by omega), by omega⟩
  intro k hk
  rw [pathK_eq] at hk
  unfold tkeys
  simp only [List.mem_cons]
  split at hk
  · simp only [List.mem_cons, List.not_mem_nil, or_false] at hk
    exact .inr (.inr (.inr (.inr (hb k hk))))
  · split at hk
    · simp only [List.mem_cons, List.not_mem_nil, or_false] at hk
      rcases hk with hk | hk
      · exact .inl hk
      · exact .inr (.inr (.inr (.inr (hb k hk))))
    · simp only [List.mem_cons, List.not_mem_nil, or_false] at hk
      rcases hk with hk | hk | hk
      · exact .inr (.inl hk)
      · have : k = 258 + (lo - 38) / 32 ∨ k = 258 + (lo - 38) / 32 + 1 := by omega
        rcases this with h | h
        · exact .inr (.inr (.inl h))
        · exact .inr (.inr (.inr (.inl h)))
      · exact .inr (.inr (.inr (.inr (hb k hk))))
theorem tkeys_more {lo n n' : Nat} (h : n ≤ n') : ∀ k ∈ tkeys lo n, k ∈ tkeys lo n' := by
  intro k hk
  unfold tkeys at hk ⊢
  simp only [List.mem_cons, List.mem_map, List.mem_range] at hk ⊢
  rcases hk with hk | hk | hk | hk | ⟨j, hj, e⟩
  · exact .inl hk
  · exact .inr (.inl hk)
  · exact .inr (.inr (.inl hk))
  · exact .inr (.inr (.inr (.inl hk)))
  · exact .inr (.inr (.inr (.inr ⟨j, by omega, e⟩)))
theorem KL_length (g : GeoN) (K0 : List Nat) (lo n c : Nat) (κ : Nat → Nat) : (KL g K0 lo n c κ).length ≤ K0.length + 1 + (if c ≤ 38 then 1 else 4) + n := by
  unfold KL
  rw [List.length_append, List.length_cons, List.length_map]
  have h1 : ((tkeys lo n).filter (prOf c)).length ≤ (if c ≤ 38 then 1 else 4) + n := by
    unfold tkeys
    have hl := List.length_filter_le (prOf c) ((List.range n).map fun k => lo + k)
    rw [List.length_map, List.length_range] at hl
    by_cases h : c ≤ 38
    · have e1 : prOf c 257 = false := by unfold prOf; rw [decide_eq_false_iff_not]; omega
      have e2 : prOf c (258 + (lo - 38) / 32) = false := by unfold prOf; rw [decide_eq_false_iff_not]; omega
      have e3 : prOf c (258 + (lo - 38) / 32 + 1) = false := by unfold prOf; rw [decide_eq_false_iff_not]; omega
      rw [if_pos h]
      simp only [List.filter_cons, e1, e2, e3]
      cases prOf c 256 <;> simp <;> omega
    · rw [if_neg h]
      simp only [List.filter_cons]
      cases prOf c 256 <;> cases prOf c 257 <;> cases prOf c (258 + (lo - 38) / 32) <;> cases prOf c (258 + (lo - 38) / 32 + 1) <;> simp <;> omega
  omega
theorem KL_more {g : GeoN} {K0 : List Nat} {lo n n' c c' : Nat} {κ κ' : Nat → Nat} (hn : n ≤ n') (he : ∀ k, prOf c k = true → κ' k = κ k ∧ prOf c' k = true) : ∀ x ∈ KL g K0 lo n c κ, x ∈ KL g K0 lo n' c' κ' := by
  intro x hx
  unfold KL at hx ⊢
  simp only [List.mem_append, List.mem_cons, List.mem_map, List.mem_filter] at hx ⊢
  rcases hx with hx | hx | ⟨k, ⟨h1, h2⟩, h3⟩
  · exact .inl hx
  · exact .inr (.inl hx)
  · exact .inr (.inr ⟨k, ⟨tkeys_more hn k h1, (he k h2).2⟩, by rw [(he k h2).1]; exact h3⟩)
theorem needL_KL {g : GeoN} {K0 : List Nat} {lo n n' c c' b : Nat} {κ κ' : Nat → Nat} (hn : n ≤ n') (he : ∀ k, prOf c k = true → κ' k = κ k ∧ prOf c' k = true) (h1 : lo ≤ b) (h2 : b < lo + n') (h32 : n' ≤ 32) (hp : ∀ k ∈ pathK b, prOf c' k = true) :
    ∀ x ∈ needL g (KL g K0 lo n c κ) ((pathK b).map fun k => κ' k + 1), x ∈ KL g K0 lo n' c' κ' := by
  intro x hx
  simp only [needL, List.mem_append, List.mem_cons, List.mem_map] at hx
  rcases hx with hx | hx | ⟨p, ⟨k, hk, rfl⟩, hx⟩
  · exact KL_more hn he x hx
  · unfold KL; rw [hx]; simp
  · unfold KL
    simp only [List.mem_append, List.mem_cons, List.mem_map, List.mem_filter]
    exact .inr (.inr ⟨k, ⟨tkeys_path h1 h2 h32 k hk, hp k hk⟩, by omega⟩)
theorem wrB_getD {bs l : List UInt8} {a j : Nat} (h : a + l.length ≤ bs.length) : (wrB bs a l).getD j 0 = if a ≤ j ∧ j < a + l.length then l.getD (j - a) 0 else bs.getD j 0 := by
  have ht : (bs.take a).length = a := by rw [List.length_take]; omega
  unfold wrB
  simp only [List.getD_eq_getElem?_getD]
  by_cases h1 : j < a
  · rw [if_neg (by omega), List.append_assoc, List.getElem?_append_left (by omega), List.getElem?_take, if_pos h1]
  · by_cases h2 : j < a + l.length
    · rw [if_pos ⟨by omega, h2⟩, List.append_assoc, List.getElem?_append_right (by omega), ht, List.getElem?_append_left (by omega)]
    · rw [if_neg (by omega), List.getElem?_append_right (by simp only [List.length_append]; omega), List.getElem?_drop]
      congr 2
      simp only [List.length_append]
      omega
theorem nkeys_mono {a b : Nat} (h : a ≤ b) : nkeys a ≤ nkeys b := by
  unfold nkeys
  by_cases h1 : 6 < a <;> by_cases h2 : 38 < a <;> by_cases h3 : 6 < b <;> by_cases h4 : 38 < b <;> simp only [h1, h2, h3, h4, if_true, if_false] <;> omega
/-- how far writing has come -/
structure WrAt (G0 : GS) (m : Nat) (n0 : NodeV) (c sz : Nat) (κ0 : Nat → Nat) (f : Nat → UInt8) (off : Nat) (data : List UInt8) (g : GeoN) (K0 : List Nat) (a : Nat) (G : GS) (n : NodeV) (K : List Nat) (κ : Nat → Nat) : Prop where
  file : FileAt G m n (max c (blks (off + a))) κ (max sz (off + a)) (over f off data a)
  kept : Kept G0 G (prOf c) (prOf (max c (blks (off + a)))) κ0 κ
  fresh : ∀ k, prOf (max c (blks (off + a))) k = true → prOf c k = false → G0.tk (κ k) = false
  same : n0.same n
  cnt : G.cnt m + nkeys c = G0.cnt m + nkeys (max c (blks (off + a)))
  keys : K = KL g K0 (off / 64) (blks (off + a) - off / 64) (max c (blks (off + a))) κ
  al : a = data.length ∨ a = 0 ∨ (off + a) % 64 = 0
  ale : a ≤ data.length
theorem NodeV.same.trans {a b c : NodeV} (h : a.same b) (h' : b.same c) : a.same c := ⟨h'.1.trans h.1, h'.2.1.trans h.2.1, h'.2.2.1.trans h.2.2.1, h'.2.2.2.trans h.2.2.2⟩
theorem wr_step {G0 G : GS} {m c sz off a : Nat} {n0 n : NodeV} {κ0 κ : Nat → Nat} {f : Nat → UInt8} {data : List UInt8} {g : GeoN} {K0 K : List Nat} (h : WrAt G0 m n0 c sz κ0 f off data g K0 a G n K κ) (ha : a < data.length)
    (hm : m ≤ 512) (h32 : blks (off + data.length) - off / 64 ≤ 32) (hl : off + data.length ≤ 16384) (hos : off ≤ sz) (hsc : sz ≤ 64 * c) :
    needROk m n (wayOf ((off + a) / 64)) G ∧ ∀ e V G1 n1, needR m n (wayOf ((off + a) / 64)) G = (e, V, G1, n1) →
      (e ≠ 0 → e = 10 ∧ m + nkeys c < G0.cnt m + nkeys (max c (blks (off + data.length)))) ∧
      (e = 0 → 1 ≤ lastP V ∧ lastP V ≤ m ∧ lastP V ∈ V ∧ ∃ K' κ', (∀ x ∈ needL g K V, x ∈ K') ∧ WrAt G0 m n0 c sz κ0 f off data g K0 (a + wrK off data.length a) (wrG G1 off data a (lastP V)) n1 K' κ') := by
  have hb256 : (off + a) / 64 < 256 := by omega
  obtain ⟨hok, hres⟩ := need_tree hm hb256 h.file.tree h.kept.ok
  refine ⟨hok, fun e V G1 n1 he => ?_⟩
  obtain ⟨C, hC⟩ : ∃ C, max c (blks (off + a)) = C := ⟨_, rfl⟩
  obtain ⟨kk, hkk⟩ : ∃ kk, wrK off data.length a = kk := ⟨_, rfl⟩
  obtain ⟨C', hC'⟩ : ∃ C', max c (blks (off + (a + kk))) = C' := ⟨_, rfl⟩
  have hk2 : kk = min (64 - (off + a) % 64) (data.length - a) := by rw [← hkk]; rfl
  have hbC : (off + a) / 64 ≤ C := by
    rcases h.al with h1 | h1 | h1 <;> unfold blks at hC <;> omega
  have hcase : ((off + a) / 64 < C ∧ C' = C) ∨ ((off + a) / 64 = C ∧ C' = C + 1 ∧ (off + a) % 64 = 0) := by
    unfold blks at hC hC'
    rcases h.al with h1 | h1 | h1
    · omega
    · rcases Nat.lt_or_ge ((off + a) / 64) C with h2 | h2
      · left; omega
      · right; omega
    · rcases Nat.lt_or_ge ((off + a) / 64) C with h2 | h2
      · left; omega
      · right; omega
  have hC256 : C' ≤ 256 := by
    have := h.file.cle
    rw [hC] at this
    rcases hcase with h1 | h1 <;> omega
  have hCm : C' ≤ max c (blks (off + data.length)) := by unfold blks at hC' ⊢; omega
  have hmiss : missing (prOf C) (pathK ((off + a) / 64)) + nkeys C = nkeys C' := by
    rcases hcase with ⟨h1, h2⟩ | ⟨h1, h2, -⟩
    · rw [missing_zero (pr_old h1 (by omega)), h2]; omega
    · rw [h1, h2]; have := missing_new (c := C) (by omega); omega
  have hpr : ∀ k, prOf C' k = (prOf C k || decide (k ∈ pathK ((off + a) / 64))) := fun k => by
    rcases hcase with ⟨h1, h2⟩ | ⟨h1, h2, -⟩
    · rw [h2]
      by_cases hk : k ∈ pathK ((off + a) / 64)
      · rw [pr_old h1 (by omega) k hk]; rfl
      · simp [hk]
    · rw [h1, h2]; exact pr_new (by omega) k
  have hcnt := h.cnt
  have hfile := h.file
  have hfresh := h.fresh
  have hkept := h.kept
  have hkeys := h.keys
  rw [hC] at hres hcnt hfile hfresh hkept hkeys
  obtain ⟨b, hb⟩ : ∃ b, (off + a) / 64 = b := ⟨_, rfl⟩
  rw [hb] at hres hcase hmiss hpr hbC hb256 he
  rcases hres e V G1 n1 he with ⟨h1, h2⟩ | ⟨h1, pr', κ1, hT, hgr, hp', hnew, hV, hc1, hsame⟩
  · refine ⟨fun _ => ⟨h1, ?_⟩, fun h0 => by omega⟩
    have hcl := cnt_le_ G m
    have := nkeys_mono hCm
    omega
  · refine ⟨fun h0 => absurd h1 h0, fun _ => ?_⟩
    have hpe : pr' = prOf C' := by funext k; rw [hp', hpr]
    subst hpe
    have hbK : b ∈ pathK b := by rw [pathK_eq]; split; simp; split <;> simp
    have hpb : prOf C' b = true := by rw [hpr]; simp [hbK]
    have hlast : lastP V = κ1 b + 1 := by rw [hV, lastP_path]
    have hown := (hT.own b hpb).1
    have hbl : (G1.by_ (κ1 b)).length = 64 := hgr.ok.len _
    have hchl : ((data.drop a).take kk).length = kk := by rw [List.length_take, List.length_drop]; omega
    have hwl : (wrB (G1.by_ (κ1 b)) ((off + a) % 64) ((data.drop a).take kk)).length = 64 := by rw [wrB_length (by rw [hchl]; omega)]; exact hbl
    have hwg : wrG G1 off data a (lastP V) = G1.put (κ1 b) (wrB (G1.by_ (κ1 b)) ((off + a) % 64) ((data.drop a).take kk)) := by unfold wrG; rw [hlast, hkk]; rfl
    have hfr2 : ∀ k, prOf C' k = true → prOf c k = false → G0.tk (κ1 k) = false := fun k k1 k2 => by
      cases hx : prOf C k with
      | true => rw [(hgr.eq k hx).1]; exact hfresh k hx k2
      | false =>
        have := (hnew k k1 hx).1
        cases hy : G0.tk (κ1 k) with
        | false => rfl
        | true => rw [hkept.tk _ hy] at this; cases this
    have hk1 := hkept.grown hfresh hgr
    have hold : ∀ q, q < C → G1.by_ (κ1 q) = G.by_ (κ q) := fun q hq => by
      have hpq : prOf C q = true := by unfold prOf; rw [decide_eq_true_iff]; exact .inl hq
      rw [(hgr.eq q hpq).1]
      exact hgr.by_ _ ((hfile.tree.own q hpq).2) (fun k k1 k2 e => by have := hfile.tree.inj k q k1 hpq e; omega)
    refine ⟨by omega, by omega, by rw [hlast, hV]; exact List.mem_map.2 ⟨b, hbK, rfl⟩, KL g K0 (off / 64) (blks (off + (a + kk)) - off / 64) C' κ1, κ1, ?_, ?_⟩
    · rw [hkeys, hV]
      refine needL_KL (by unfold blks; omega) (fun k hk => hgr.eq k hk) (by omega) ?_ (by unfold blks at h32 ⊢; omega) (fun k hk => by rw [hpr]; simp [hk])
      unfold blks
      omega
    · rw [hwg, hkk]
      refine ⟨⟨?_, ?_, ?_, fun j hj => ?_⟩, ?_, ?_, h.same.trans hsame, ?_, ?_, ?_, by omega⟩
      · rw [hC']; exact hT.putData hb256 hpb _
      · rw [hC']; exact hC256
      · rw [hC']; unfold blks at hC'; omega
      · have hj64 : j / 64 < C' := by unfold blks at hC'; omega
        have hpj : prOf C' (j / 64) = true := by unfold prOf; rw [decide_eq_true_iff]; exact .inl hj64
        by_cases hjb : j / 64 = b
        · rw [hjb]
          have e1 : (G1.put (κ1 b) (wrB (G1.by_ (κ1 b)) ((off + a) % 64) ((data.drop a).take kk))).by_ (κ1 b) = wrB (G1.by_ (κ1 b)) ((off + a) % 64) ((data.drop a).take kk) := upd_same _ _ _
          rw [e1, wrB_getD (by rw [hchl]; omega), hchl]
          unfold over
          by_cases hin : (off + a) % 64 ≤ j % 64 ∧ j % 64 < (off + a) % 64 + kk
          · rw [if_pos hin, if_pos (by omega)]
            simp only [List.getD_eq_getElem?_getD]
            rw [List.getElem?_take, if_pos (by omega), List.getElem?_drop]
            congr 2
            omega
          · rw [if_neg hin]
            rcases hcase with ⟨k1, k2⟩ | ⟨k1, k2, k3⟩
            · rw [hold b k1, ← hjb, hfile.byte j (by omega)]
              unfold over
              by_cases hx : off ≤ j ∧ j < off + a
              · rw [if_pos hx, if_pos (by omega)]
              · rw [if_neg hx, if_neg (by omega)]
            · exfalso; omega
        · have hne : κ1 (j / 64) ≠ κ1 b := fun e => hjb (hT.inj _ _ hpj hpb e)
          have e1 : (G1.put (κ1 b) (wrB (G1.by_ (κ1 b)) ((off + a) % 64) ((data.drop a).take kk))).by_ (κ1 (j / 64)) = G1.by_ (κ1 (j / 64)) := upd_other _ _ hne
          have hjC : j / 64 < C := by rcases hcase with ⟨k1, k2⟩ | ⟨k1, k2, k3⟩ <;> omega
          rw [e1, hold _ hjC, hfile.byte j (by omega)]
          unfold over
          by_cases hx : off ≤ j ∧ j < off + a
          · rw [if_pos hx, if_pos (by omega)]
          · rw [if_neg hx, if_neg (by omega)]
      · rw [hC']; exact hk1.put hfr2 hpb hwl
      · rw [hC']; exact hfr2
      · rw [hC', put_cnt]; omega
      · rw [hC']
      · unfold wrK at hkk; omega
end Go.Proofs.YthmkgohfeahdhaaGreat
namespace Go.Proofs.YthmkgohfeahdhaaGreat
open Go.RowKit
set_option linter.unusedSimpArgs false
set_option linter.unusedVariables false

theorem Tree.grow {G : GS} {m : Nat} {n : NodeV} {pr : Nat → Bool} {κ : Nat → Nat} (h : Tree G m n pr κ) (num x : Nat) : Tree (G.set num (n.grow x)) m (n.grow x) pr κ :=
  ⟨h.dir, h.rng, h.cls, h.top, h.sub, h.own, h.inj⟩
/-- what a call on a file leaves of the group's other blocks and nodes -/
structure Left (G G' : GS) (num : Nat) (pr pr' : Nat → Bool) (κ κ' : Nat → Nat) : Prop where
  nd : ∀ k, k ≠ num → G'.nd k = G.nd k
  by_ : ∀ x, G.tk x = true → (∀ c, pr c = true → κ c ≠ x) → G'.by_ x = G.by_ x
  tk : ∀ x, G.tk x = true → G'.tk x = true
  new : ∀ x, G'.tk x = true → G.tk x = true ∨ ∃ c, pr' c = true ∧ pr c = false ∧ κ' c = x
  fresh : ∀ c, pr' c = true → pr c = false → G.tk (κ' c) = false
  old : ∀ c, pr c = true → κ' c = κ c ∧ pr' c = true
/-- what a call in a transaction leaves of it -/
structure Stay (s s' : Sto) (g : GeoN) : Prop where
  D : s'.D = s.D
  bad : s'.bad = s.bad
  far : ∀ m, (m < g.base ∨ g.data + g.blocks ≤ m) → s'.at_ m = s.at_ m
theorem grow_size {n : NodeV} {x : Nat} (h : max n.size.toNat x < 4294967296) : (n.grow x).size.toNat = max n.size.toNat x := by
  unfold NodeV.grow
  simp only
  rw [UInt32.toNat_ofNat', Nat.mod_eq_of_lt (by omega)]
section
variable {w w' : World} {i : Ids} {s : Sto} {gg : Nat} {g : GeoN} {lab : Int} {G : GS} {K0 : List Nat}
theorem write_file {num off cap c sz : Nat} {A : Option Addr} {data : List UInt8} {κ : Nat → Nat} {f : Nat → UInt8} (h : GAt w i s gg g lab G) (hK0 : s.In K0) (h1 : 1 ≤ num) (h2 : num ≤ g.nodes) (hb5 : g.blocks ≤ 512)
    (hk : (G.nd num).kind ≠ 0) (hsz : (G.nd num).size.toNat = sz) (hf : FileAt G g.blocks (G.nd num) c κ sz f) (hoff : off ≤ sz) (hlen : off + data.length ≤ 16384) (hs16 : sz ≤ 16384) (hc : data.length ≤ cap) (hR : Rd w w.heap.size 1 A data.length (bvs data)) (hA : ∀ b, A = some b → ¬ i.own b.block)
    (h32 : blks (off + data.length) - off / 64 ≤ 32) (hKl : K0.length + 1 + (if max c (blks (off + data.length)) ≤ 38 then 1 else 4) + (blks (off + data.length) - off / 64) ≤ 22)
    (hcb : blks off ≤ c) (hck : ∀ n', (G.nd num).same n' → n'.dir.length = 6 → checkN (n'.grow (off + data.length)) = true) :
    Calls Tryz.prog 33 #[.pointer (some ⟨gg, 0, none⟩), .int .i64 (num : Int), .int .i64 (off : Int), .slice A data.length cap] w fun e w' =>
      (e = .returned (.int .i64 10) ∧ g.blocks + nkeys c < G.cnt g.blocks + nkeys (max c (blks (off + data.length))) ∧ ∃ s' G', GAt w' i s' gg g lab G' ∧ Stay s s' g ∧ Tch w.heap.size i.own w w') ∨
      (e = .returned (.int .i64 0) ∧ ∃ s' G' κ', GAt w' i s' gg g lab G' ∧ FileAt G' g.blocks (G'.nd num) (max c (blks (off + data.length))) κ' (max sz (off + data.length)) (over f off data data.length) ∧ (G'.nd num).size.toNat = max sz (off + data.length) ∧ (G'.nd num).kind = (G.nd num).kind ∧ (G'.nd num).links = (G.nd num).links ∧ (G'.nd num).gen = (G.nd num).gen ∧
        Left G G' num (prOf c) (prOf (max c (blks (off + data.length)))) κ κ' ∧ G'.cnt g.blocks + nkeys c = G.cnt g.blocks + nkeys (max c (blks (off + data.length))) ∧
        s'.In (KL g K0 (off / 64) (blks (off + data.length) - off / 64) (max c (blks (off + data.length))) κ' ++ [g.base + g.bitmap + (num - 1) / 2]) ∧ Stay s s' g ∧ Tch w.heap.size i.own w w') := by
  have hfit := hf.fit
  have hc0 : max c (blks (off + 0)) = c := by rw [Nat.add_zero]; omega
  have hm0 : max sz (off + 0) = sz := by omega
  have hst : WrAt G g.blocks (G.nd num) c sz κ f off data g K0 0 G (G.nd num) (KL g K0 (off / 64) (blks (off + 0) - off / 64) (max c (blks (off + 0))) κ) κ := by
    refine ⟨?_, ?_, fun k k1 k2 => ?_, ⟨rfl, rfl, rfl, rfl⟩, ?_, rfl, .inr (.inl rfl), Nat.zero_le _⟩
    · rw [hc0, hm0]
      exact ⟨hf.tree, hf.cle, hf.fit, fun j hj => by rw [hf.byte j hj]; unfold over; rw [if_neg (by omega)]⟩
    · rw [hc0]; exact Kept.refl h.gok _ _
    · rw [hc0, k2] at k1; cases k1
    · rw [hc0]
  have hKlen : ∀ a, a ≤ data.length → ∀ κ', (KL g K0 (off / 64) (blks (off + a) - off / 64) (max c (blks (off + a))) κ').length ≤ 22 := fun a ha κ' => by
    have := KL_length g K0 (off / 64) (blks (off + a) - off / 64) (max c (blks (off + a))) κ'
    have h1 : blks (off + a) ≤ blks (off + data.length) := by unfold blks; omega
    by_cases hx : max c (blks (off + data.length)) ≤ 38
    · rw [if_pos hx] at hKl
      rw [if_pos (by omega)] at this
      omega
    · rw [if_neg hx] at hKl
      split at this <;> omega
  refine (write_walk (K0 := KL g K0 (off / 64) (blks (off + 0) - off / 64) (max c (blks (off + 0))) κ) (fun a G' n K => ∃ κ', WrAt G g.blocks (G.nd num) c sz κ f off data g K0 a G' n K κ') (fun e => e = 10 ∧ g.blocks + nkeys c < G.cnt g.blocks + nkeys (max c (blks (off + data.length))))
    h (hK0.mono fun x hx => by unfold KL; exact List.mem_append_left _ hx) h1 h2 hb5 hk (by rw [hsz]; exact hoff) (by rw [hsz]; exact hs16) hlen hc hR hA ⟨κ, hst⟩ ?_ ?_ ?_).mono ?_
  · rintro a G' n K ha ⟨κ', hw⟩
    exact ⟨(wr_step hw ha hb5 h32 hlen hoff hfit).1, hw.file.tree.dir, by rw [hw.keys]; exact hKlen a hw.ale κ'⟩
  · rintro a G' n K e V G1 n1 ha ⟨κ', hw⟩ he
    obtain ⟨k1, k2⟩ := (wr_step hw ha hb5 h32 hlen hoff hfit).2 e V G1 n1 he
    refine ⟨k1, fun h0 => ?_⟩
    obtain ⟨p1, p2, p3, K', κ'', p4, p5⟩ := k2 h0
    exact ⟨p1, p2, p3, K', p4, κ'', p5⟩
  · rintro G' n K ⟨κ', hw⟩
    exact ⟨hw.file.tree.dir, hw.same.2.2.2, by rw [hw.keys]; have := hKlen data.length (Nat.le_refl _) κ'; omega, hck n hw.same hw.file.tree.dir⟩
  · rintro e w' (⟨x, ⟨rfl, hx⟩, he, s', G', k1, k2, k3, k4, k5⟩ | ⟨he, s', G', n', K', ⟨κ', hw⟩, k1, k2, k3, k4, k5, k6⟩)
    · exact .inl ⟨he, hx, s', G', k1, ⟨k2, k3, k4⟩, k5⟩
    · refine .inr ⟨he, s', _, κ', k1, ?_, ?_, ?_, ?_, ?_, ⟨fun k hk => ?_, hw.kept.by_, hw.kept.tk, hw.kept.new, hw.fresh, hw.kept.eq⟩, hw.cnt, ?_, ⟨k3, k4, k5⟩, k6⟩
      · have e1 : (G'.set num (n'.grow (off + data.length))).nd num = n'.grow (off + data.length) := upd_same _ _ _
        rw [e1]
        exact ⟨hw.file.tree.grow num _, hw.file.cle, hw.file.fit, hw.file.byte⟩
      · have e1 : (G'.set num (n'.grow (off + data.length))).nd num = n'.grow (off + data.length) := upd_same _ _ _
        rw [e1, grow_size (by rw [hw.same.2.2.2, hsz]; omega), hw.same.2.2.2, hsz]
      · exact (congrArg NodeV.kind (upd_same _ _ _)).trans hw.same.1
      · exact (congrArg NodeV.links (upd_same _ _ _)).trans hw.same.2.1
      · exact (congrArg NodeV.gen (upd_same _ _ _)).trans hw.same.2.2.1
      · have : (G'.set num (n'.grow (off + data.length))).nd k = G'.nd k := upd_other _ _ hk
        rw [this, hw.kept.nd]
      · rw [hw.keys] at k2; exact k2
theorem read_file {num off many en c sz : Nat} {κ : Nat → Nat} {f : Nat → UInt8} (h : GAt w i s gg g lab G) (h1 : 1 ≤ num) (h2 : num ≤ g.nodes) (hk : (G.nd num).kind ≠ 0) (hsz : (G.nd num).size.toNat = sz) (hf : FileAt G g.blocks (G.nd num) c κ sz f)
    (hoff : off ≤ 65536) (hmany : many ≤ 4611686018427387904) (hs16 : sz ≤ 16384) (hen : en = min sz (off + min many 16384)) :
    Calls Tryz.prog 36 #[.pointer (some ⟨gg, 0, none⟩), .int .i64 (num : Int), .int .i64 (off : Int), .int .i64 (many : Int)] w fun e w' => ∃ (A : Option Addr) (cp : Nat), e = .returned (.tuple #[.slice A (en - off) cp, .int .i64 0]) ∧ Rd w' w'.heap.size 1 A (en - off) (bvs ((List.range (en - off)).map fun k => f (off + k))) ∧ GAt w' i s gg g lab G ∧ Tch w.heap.size i.own w w' ∧ (∀ b, A = some b → w.heap.size ≤ b.block) ∧ en - off ≤ cp ∧ w'.ownsRow w.heap.size 5 1 (.slice A (en - off) cp) (en - off) (bvs ((List.range (en - off)).map fun k => f (off + k))) := by
  have hfit := hf.fit
  have := read_walk (num := num) (en := en) (n := G.nd num) h h1 h2 rfl hk hoff hmany (by rw [hsz]; exact hen) (by rw [hsz]; exact hs16) (fun b hb1 hb2 => (hf.rdy (b := b) (by omega)).1)
  have e : fbytes G (G.nd num) off (en - off) = (List.range (en - off)).map fun k => f (off + k) := by
    rcases Nat.lt_or_ge off en with h1 | h1
    · exact hf.bytes (by omega)
    · rw [show en - off = 0 from by omega]; rfl
  rw [e] at this
  exact this
end
end Go.Proofs.YthmkgohfeahdhaaGreat
namespace Go.Proofs.YthmkgohfeahdhaaGreat
open Go.RowKit
set_option linter.unusedSimpArgs false
set_option linter.unusedVariables false

/-- the numbers of the small configuration -/
def smallH : List UInt8 := [59, 0, 0, 0, 0, 10, 0, 0, 0, 0, 0, 0, 0, 0, 0, 0, 0, 0, 0, 0, 0, 0, 0, 0, 0]
def smallR : List RegV := szRegs 0 smallH
theorem build_five (w : World) (a : Int) : (Instr.build 22 #[(0, .int .u8 a)]).run Tryz.prog w = .ok (.agg #[.int .u8 a, .int .u8 0, .int .u8 0, .int .u8 0, .int .u8 0]) w := by kernel_rfl
theorem build_fives (w : World) (a b : Int) : (Instr.build 23 #[(0, .agg #[.int .u8 a, .int .u8 0, .int .u8 0, .int .u8 0, .int .u8 0]), (1, .agg #[.int .u8 b, .int .u8 0, .int .u8 0, .int .u8 0, .int .u8 0])]).run Tryz.prog w = .ok (.agg #[.int .u8 a, .int .u8 0, .int .u8 0, .int .u8 0, .int .u8 0, .int .u8 b, .int .u8 0, .int .u8 0, .int .u8 0, .int .u8 0, .int .u8 0, .int .u8 0, .int .u8 0, .int .u8 0, .int .u8 0, .int .u8 0, .int .u8 0, .int .u8 0, .int .u8 0, .int .u8 0, .int .u8 0, .int .u8 0, .int .u8 0, .int .u8 0, .int .u8 0]) w := by kernel_rfl
theorem build_have (w : World) : (Instr.build 26 #[(1, .agg #[.int .u8 59, .int .u8 0, .int .u8 0, .int .u8 0, .int .u8 0, .int .u8 10, .int .u8 0, .int .u8 0, .int .u8 0, .int .u8 0, .int .u8 0, .int .u8 0, .int .u8 0, .int .u8 0, .int .u8 0, .int .u8 0, .int .u8 0, .int .u8 0, .int .u8 0, .int .u8 0, .int .u8 0, .int .u8 0, .int .u8 0, .int .u8 0, .int .u8 0])]).run Tryz.prog w = .ok (.agg (szCells 0 smallH none 0 0)) w := by kernel_rfl
set_option maxRecDepth 100000 in
theorem small_ok (w : World) : Calls Tryz.prog 89 #[] w fun e w' => ∃ (cc : Nat) (K : List MarkV) (tb nb lb : Nat) (A1 A2 A3 : Option Addr) (c1 c2 c3 : Nat), e = .returned (.pointer (some ⟨cc, 0, none⟩)) ∧ Below w.heap.size w w' ∧ ConfIn w.heap.size w' cc smallR K tb nb lb A1 A2 A3 c1 c2 c3 := by
  go_enter Tryz.func89, Tryz.ntmps89
  go_wp2_with (first | ((with_reducible refine at_build 22 #[(0, .const (.int .u8 59))] ?_); refine wpList_run rfl _ (exec_build 22 #[(0, .const (.int .u8 59))] rfl #[(0, .int .u8 59)] (by simp only [List.map_toArray, List.map_cons, List.map_nil]; rfl) _ (build_five _ _)) ?_) | ((with_reducible refine at_build 22 #[(0, .const (.int .u8 10))] ?_); refine wpList_run rfl _ (exec_build 22 #[(0, .const (.int .u8 10))] rfl #[(0, .int .u8 10)] (by simp only [List.map_toArray, List.map_cons, List.map_nil]; rfl) _ (build_five _ _)) ?_) | ((with_reducible refine at_build 23 #[(0, .tmp 1), (1, .tmp 2)] ?_); refine wpList_run rfl _ (exec_build 23 #[(0, .tmp 1), (1, .tmp 2)] rfl #[(0, .agg #[.int .u8 59, .int .u8 0, .int .u8 0, .int .u8 0, .int .u8 0]), (1, .agg #[.int .u8 10, .int .u8 0, .int .u8 0, .int .u8 0, .int .u8 0])] (by simp only [List.map_toArray, List.map_cons, List.map_nil]; rfl) _ (build_fives _ _ _)) ?_) | ((with_reducible refine at_build 26 #[(1, .tmp 3)] ?_); refine wpList_run rfl _ (exec_build 26 #[(1, .tmp 3)] rfl #[(1, .agg #[.int .u8 59, .int .u8 0, .int .u8 0, .int .u8 0, .int .u8 0, .int .u8 10, .int .u8 0, .int .u8 0, .int .u8 0, .int .u8 0, .int .u8 0, .int .u8 0, .int .u8 0, .int .u8 0, .int .u8 0, .int .u8 0, .int .u8 0, .int .u8 0, .int .u8 0, .int .u8 0, .int .u8 0, .int .u8 0, .int .u8 0, .int .u8 0, .int .u8 0])] (by simp only [List.map_toArray, List.map_cons, List.map_nil]; rfl) _ (build_have _)) ?_) | fail)
  refine (size_conf (w := w) (m := 0) (H := smallH) (A := none) (n := 0) (c := 0) (T := []) rfl (Rd.nil _ _ _ _) (by decide)).mono ?_
  rintro e w1 ⟨cc, K, tb, nb, lb, B1, B2, B3, d1, d2, d3, rfl, hb1, hin, hK⟩
  have HF := hide (And.intro hb1 hin)
  clear hb1 hin hK
  go_wp2
  go_returns
  exact ⟨cc, K, tb, nb, lb, B1, B2, B3, d1, d2, d3, rfl, HF.out.1, HF.out.2⟩
theorem small_len : smallR.length = 2 := rfl
theorem small_reg : smallR[0]? = some (szReg 2 smallH 0) := rfl
/-- the small configuration's first group -/
theorem small_geo {n : Nat} (hF : CfFacts smallR n) : ∃ v u, (geosOf 32 smallR)[0]? = some v ∧ geoN v = u ∧ u.val = .agg v.cells.toArray ∧ u.Ok n ∧ u.blocks = 67 ∧ u.nodes = 8 := by
  obtain ⟨v, r, hv, hr, hgo, hval, hbl, hnd, -⟩ := hF.geo 0 (by rw [small_len]; omega)
  rw [small_reg] at hr
  cases hr
  have h1 : (szReg 2 smallH 0).blocks = 67 := by decide +kernel
  have h2 : (szReg 2 smallH 0).nodes = 8 := by decide +kernel
  rw [h1] at hbl
  rw [h2] at hnd
  exact ⟨v, _, hv, rfl, hval, hgo, by omega, by omega⟩
/-- an empty file -/
theorem file_empty {G : GS} {m : Nat} {n : NodeV} (κ : Nat → Nat) (f : Nat → UInt8) (hd : n.dir.length = 6) (h0 : ∀ c, n.slot c = 0) : FileAt G m n 0 κ 0 f := by
  have hp : ∀ c, prOf 0 c = false := fun c => by unfold prOf; rw [decide_eq_false_iff_not]; omega
  refine ⟨⟨hd, fun c h => ?_, fun c p j h _ => ?_, fun c _ _ => ?_, fun c p j _ _ h => ?_, fun c h => ?_, fun c c' h _ _ => ?_⟩, by omega, by omega, fun j hj => by omega⟩
  · rw [hp] at h; cases h
  · rw [hp] at h; cases h
  · rw [hp, h0]; rfl
  · rw [hp] at h; cases h
  · rw [hp] at h; cases h
  · rw [hp] at h; cases h
theorem fresh_slot (k : UInt8) (c : Nat) : (freshN k).slot c = 0 := by
  unfold NodeV.slot freshN NodeV.zero
  split
  · rename_i h
    obtain rfl | rfl | rfl | rfl | rfl | rfl : c = 0 ∨ c = 1 ∨ c = 2 ∨ c = 3 ∨ c = 4 ∨ c = 5 := by omega
    all_goals rfl
  · split <;> rfl
theorem fresh_cnt (m : Nat) : GS.fresh.cnt m = 0 := by
  unfold GS.cnt
  have : (List.range m).filter GS.fresh.tk = [] := by
    rw [List.filter_eq_nil_iff]
    intro x _
    simp [GS.fresh, GS.freshTo, GS.set, GS.none]
  rw [this]
  rfl
theorem fresh_file {m : Nat} (κ : Nat → Nat) (f : Nat → UInt8) : FileAt GS.fresh m (GS.fresh.nd 3) 0 κ 0 f := file_empty κ f rfl (fresh_slot 1)
/-- so many bytes, of a number on -/
def bytesL (n : Nat) (b : UInt8) : List UInt8 := (List.range n).map fun i => b + UInt8.ofNat (i * 7)
theorem bytesL_length (n : Nat) (b : UInt8) : (bytesL n b).length = n := by simp [bytesL]
theorem bytesL_getD {n i : Nat} (b : UInt8) (h : i < n) : (bytesL n b).getD i 0 = b + UInt8.ofNat (i * 7) := by
  rw [List.getD_eq_getElem?_getD, bytesL, List.getElem?_map, List.getElem?_range h]; rfl
theorem Rd.of_bytes {w : World} {p n : Nat} {t : TypeId} {l : List UInt8} (h : Blk w p t (bvs l).toArray) (hn : l.length = n) : Rd w w.heap.size 1 (some ⟨p, 0, none⟩) n (bvs l) :=
  ⟨by rw [bvs_length, hn, Nat.mul_one], fun _ => ⟨p, 0, rfl, h.lt, fun j u hu => by
    have := h.cell j
    rw [List.getElem?_toArray, hu] at this
    rw [Nat.zero_add]; exact this⟩⟩
theorem bytes_to (n k : Nat) (b : UInt8) (hk : k < n) : ((List.range n).map fun i => if i < k then b + UInt8.ofNat (i * 7) else 0).set k (b + UInt8.ofNat (k * 7)) = (List.range n).map fun i => if i < k + 1 then b + UInt8.ofNat (i * 7) else 0 := by
  apply List.ext_getElem?
  intro j
  rw [List.getElem?_set]
  by_cases h : k = j
  · subst h
    simp [hk]
  · rw [if_neg h, List.getElem?_map, List.getElem?_map]
    cases hj : (List.range n)[j]? with
    | none => rfl
    | some x =>
      have hx := (List.getElem?_eq_some_iff.1 hj).2
      rw [List.getElem_range] at hx
      subst hx
      simp only [Option.map_some]
      by_cases h1 : j < k
      · rw [if_pos h1, if_pos (by omega)]
      · rw [if_neg h1, if_neg (by omega)]
set_option maxRecDepth 100000 in
set_option maxHeartbeats 800000 in
theorem bytes_ok (w : World) {n : Nat} (b : UInt8) (hn : n ≤ 65536) : Calls Tryz.prog 32 #[.int .i64 (n : Int), .int .u8 (b.toNat : Int)] w fun e w' => ∃ p, e = .returned (.slice (some ⟨p, 0, none⟩) n n) ∧ w.heap.size ≤ p ∧ Blk w' p 5 (bvs (bytesL n b)).toArray ∧ Below w.heap.size w w' := by
  obtain ⟨i0, hi0, i1, i2, i3⟩ := info_byte
  have HI := hide (And.intro hi0 (And.intro i1 (And.intro i2 i3)))
  clear hi0 i1 i2 i3
  go_enter Tryz.func32, Tryz.ntmps32
  go_wp2_with (first | (refine wpList_make_full w rfl (.tmp 7) (.tmp 7) 24 rfl w.heap.size 5 i0 (.int .u8 0) 1 Tryz.underlying24 HI.out.1 HI.out.2.1 HI.out.2.2.1 .i64 .i64 n n n (by rfl) (by rfl) rfl rfl (by rw [HI.out.2.2.2]; omega) (by unfold maxLen; omega) (Nat.le_refl _) (fun w1 ho hg => ?_)) | fail)
  have hB := own_blk ho
  have hz : (madeCells (Value.int .u8 0).cells (n * 1)).toList = bvs ((List.range n).map fun i => if i < 0 then b + UInt8.ofNat (i * 7) else 0) := by
    apply List.ext_getElem
    · simp [madeCells, bvs]
    · intro i h1 h2
      simp [madeCells, bvs, Value.cells]
      rw [Nat.mod_one]
      rfl
  rw [hz] at hB
  have hb1 : Below w.heap.size w w1 := grown_none hg
  refine at_world (fun W => ∃ p, p = w.heap.size ∧ Below w.heap.size w W ∧ Blk W p 5 (bvs ((List.range n).map fun i => if i < 0 then b + UInt8.ofNat (i * 7) else 0)).toArray) ⟨_, rfl, hb1, hB⟩ (fun w2 hw2 => ?_)
  obtain ⟨p, hp, hb2, hB2⟩ := hw2
  rw [← hp]
  have HB2 := hide hB2
  have HW2 := hide hb2
  have HPW := hide (show w.heap.size ≤ p from Nat.le_of_eq hp.symm)
  clear ho hg hB hz hb1 hp hB2 hb2
  go_loopg [11] n (fun gh x11 wr => ∃ k : Nat, k ≤ n ∧ gh = n - k ∧ x11 = .int .i64 (k : Int) ∧ Hid (Blk wr p 5 (bvs ((List.range n).map fun i => if i < k then b + UInt8.ofNat (i * 7) else 0)).toArray) ∧ Hid (Below w.heap.size w wr))
  case atStart => exact ⟨0, Nat.zero_le _, rfl, rfl, HB2, HW2⟩
  case round =>
    obtain ⟨k, hk, hgh, rfl, HB, HW⟩ := hrel
    have HGH := hide hgh
    clear hgh
    rcases Nat.lt_or_ge k n with hkl | hkl
    · have hkz : decide ((k : Int) < (n : Int)) = true := by simp; omega
      have hkz2 : (k : Int) < (n : Int) := by omega
      have e1 : IntKind.i64.wrap ((k : Int) * 7) = (k : Int) * 7 := IntWalk.i64_in _ (by omega)
      have hx : ((b + UInt8.ofNat (k * 7)).toNat : Int) = ((b.toNat : Int) + (k : Int) * 7) % 256 := by
        rw [UInt8.toNat_add, UInt8.toNat_ofNat']
        omega
      have hset := HB.out.set_ k (bv (b + UInt8.ofNat (k * 7)))
      rw [bvs_set, bytes_to n k b hkl] at hset
      have c1 := HB.out.cell k
      have f1 := HB.out.frozen k
      have pl := HB.out.lt
      have hcs : ((bvs ((List.range n).map fun i => if i < k then b + UInt8.ofNat (i * 7) else 0)).toArray)[k]? = some (.int .u8 0) := by
        rw [List.getElem?_toArray, bvs_get, List.getElem?_map, List.getElem?_range hkl]
        simp
      rw [hcs] at c1
      have HSET := hide hset
      have HXX := hide hx
      clear hset hcs hx
      go_wp2
      go_roundg (n - (k + 1))
      case rel =>
        refine ⟨k + 1, by omega, rfl, by first | rfl | go_num, hide ?_, hide (HW.out.setCell (by exact HPW.out) _)⟩
        have h := HSET.out
        simp only [bv] at h
        rw [HXX.out] at h
        first
        | exact h
        | (simp only [IntKind.wrap_u8] at h ⊢; exact h)
      case measure => have := HGH.out; omega
    · have hkz : decide ((k : Int) < (n : Int)) = false := by simp; omega
      have hkn : k = n := by omega
      have HF : Hid (Blk wr p 5 (bvs (bytesL n b)).toArray) := hide (by
        have := HB.out
        rw [hkn] at this
        have e : (List.range n).map (fun i => if i < n then b + UInt8.ofNat (i * 7) else 0) = bytesL n b := by
          unfold bytesL
          apply List.map_congr_left
          intro i hi
          rw [if_pos (List.mem_range.1 hi)]
        rw [e] at this
        exact this)
      clear hkn
      go_wp2
      go_returns
      exact ⟨p, rfl, HPW.out, HF.out, HW.out⟩
theorem made_bytes (n : Nat) : (madeCells (Value.int .u8 0).cells (n * 1)).toList = bvs (List.replicate n 0) := by
  apply List.ext_getElem
  · simp [madeCells, bvs]
  · intro i h1 h2
    simp [madeCells, bvs, Value.cells]
    rw [Nat.mod_one]
    rfl
theorem check_grow {n n' : NodeV} {x : Nat} (h : n.same n') (hk : n.kind = 1) (hl : n.links ≠ 0) (hs : max n.size.toNat x ≤ 16384) : checkN (n'.grow x) = true := by
  have h1 : (n'.grow x).kind = 1 := h.1.trans hk
  have h2 : (n'.grow x).links = n.links := h.2.1
  have h3 : (n'.grow x).size.toNat = max n.size.toNat x := by rw [grow_size (by rw [h.2.2.2]; omega), h.2.2.2]
  unfold checkN
  rw [h1, h2, h3]
  simp [hl]
  omega
/-- a transaction in one group is written -/
theorem is_commit {s : Sto} {u : GeoN} {n : Nat} {G : GS} {l : List Nat} (h : s.Is u G) (hu : u.Ok n) (hs : s.Ok) (hp : l.Perm (s.M.map (·.1))) : Sto.Is ⟨commitD s l, [], 0⟩ u G := h.commit hu hs hp
set_option maxRecDepth 100000 in
set_option maxHeartbeats 3200000 in
theorem awake8_ok (w : World) : Calls Tryz.prog 30 #[] w fun e w' => e = .returned (.bool true) ∧ Below w.heap.size w w' := by
  obtain ⟨i0, hi0, i1, i2, i3⟩ := info_byte
  have HI := hide (And.intro hi0 (And.intro i1 (And.intro i2 i3)))
  clear hi0 i1 i2 i3
  go_enter Tryz.func30, Tryz.ntmps30
  go_wp2_with fail
  refine (small_ok w).mono ?_
  rintro e w1 ⟨cc, K, tb, nb, lb, B1, B2, B3, d1, d2, d3, rfl, hb1, hin⟩
  obtain ⟨n, hF⟩ := cf_facts hin.ok (by rw [small_len]; omega)
  obtain ⟨v, u, hv, hu, hval, hgo, hub, hun⟩ := small_geo hF
  have hfr := fresh_all (w := w1) hin hF (by rw [small_len]; omega)
  have HC := hide (And.intro hin (And.intro hv (And.intro hu (And.intro hval hb1))))
  have HGO := hide (And.intro hgo (And.intro hub hun))
  have HFR := hide hfr
  have HN := hide (And.intro hF.ge hF.le)
  clear hin hv hu hval hgo hub hun hfr hb1 hF
  go_wp2_with fail
  refine HFR.out.mono ?_
  rintro e w2 ⟨i, D, rfl, hx, hDn, hall, hown, hll, hb2⟩
  have hin2 := HC.out.1.below hb2
  have hgop := gopen_yes (tt := i.tt) hin2 HC.out.2.1 (by rw [HC.out.2.2.1]; exact HC.out.2.2.2.1)
  rw [HC.out.2.2.1, show ((0 : Nat) : Int) = 0 from rfl] at hgop
  have his := hall 0 v HC.out.2.1
  rw [HC.out.2.2.1] at his
  have HB2 := hide (HC.out.2.2.2.2.trans (hb2.mono HC.out.2.2.2.2.size))
  have HX2 := hide hx
  have HOWN := hide (show ∀ k, i.own k → w1.heap.size ≤ k from hown)
  have HGP := hide hgop
  have HIS := hide (And.intro his (show u.Ok D.length by rw [hDn]; exact HGO.out.1))
  have HW12 := hide hb2
  have HDN := hide hDn
  clear hin2 hgop hb2 hx hown his hall hll hDn HFR
  go_wp2_with fail
  refine HGP.out.mono ?_
  rintro e w3 ⟨gg, rfl, -, hG, hb3⟩
  have HA3 : Hid (GAt w3 i ⟨D, [], 0⟩ gg u 0 GS.fresh) := hide ⟨HX2.out.below hb3, hG, HIS.out.2, HIS.out.1, GS.fresh_ok⟩
  have HW13 := hide (HW12.out.trans (hb3.mono HW12.out.size))
  clear hG hb3 HGP HX2
  go_upto_region 4 with (fail)
  go_wp2_with (first | (refine wpList_make_full w3 rfl (.const (.int .i64 100)) (.const (.int .i64 100)) 24 rfl w3.heap.size 5 i0 (.int .u8 0) 1 Tryz.underlying24 HI.out.1 HI.out.2.1 HI.out.2.2.1 .i64 .i64 100 100 100 (by rfl) (by rfl) rfl rfl (by rw [HI.out.2.2.2]; omega) (by unfold maxLen; omega) (Nat.le_refl _) (fun w4 ho hg => ?_)) | fail)
  have hB := own_blk ho
  rw [made_bytes] at hB
  have hb4 : Below w3.heap.size w3 w4 := grown_none hg
  have hA4 := HA3.out.below hb4
  have hwr := write_file (num := 3) (off := 0) (cap := 100) (c := 0) (sz := 0) (κ := fun _ => 0) (f := fun _ => 0) (K0 := []) (data := List.replicate 100 0) (A := some ⟨w3.heap.size, 0, none⟩) hA4 (fun x hx => by simp at hx) (by omega) (by rw [HGO.out.2.2]; omega) (by rw [HGO.out.2.1]; omega)
    (by decide) rfl (fresh_file _ _) (by omega) (by simp) (by omega) (by simp) (by rw [List.length_replicate]; exact Rd.of_bytes hB (by simp)) (fun b hb => by cases hb; exact HA3.out.tx.other_new (Nat.le_refl _)) (by decide) (by decide) (by decide)
    (fun n' hs hd => check_grow hs rfl (by decide) (by decide))
  rw [List.length_replicate, show ((3 : Nat) : Int) = 3 from rfl, show ((0 : Nat) : Int) = 0 from rfl] at hwr
  have HWR := hide hwr
  have HW14 := hide (HW13.out.trans (hb4.mono HW13.out.size))
  clear ho hg hB hb4 hA4 hwr HW13 HI
  refine HWR.out.mono ?_
  rintro e w5 (⟨rfl, hno, -⟩ | ⟨rfl, s5, G5, κ5, ha5, hf5, hsz5, hk5, -, -, -, -, -, hst5, ht5⟩)
  · exfalso
    rw [fresh_cnt, HGO.out.2.1] at hno
    revert hno
    decide
  have HA5 := hide ha5
  have HF5 := hide (And.intro hf5 (And.intro hsz5 hk5))
  have HT5 := hide ((Tch.of_below (S := i.own) HW14.out).trans (ht5.mono HW14.out.size fun _ _ h => h))
  have HST := hide hst5
  have hcom := commit_ok ha5.tx hst5.bad
  have HCOM := hide hcom
  clear ha5 hf5 hsz5 hk5 hst5 ht5 hcom HWR HA3
  go_wp2_with fail
  refine HCOM.out.mono ?_
  rintro e w6 ⟨l, rfl, hp, hx6, ht6⟩
  have hu5 : u.Ok n := HGO.out.1
  have his6 := is_commit HA5.out.is hu5 HA5.out.tx.ok hp
  have hlen6 : (commitD s5 l).length = n := by rw [commit_len, HST.out.D]; exact HDN.out
  have HIS6 := hide his6
  have HLEN := hide hlen6
  have HGK := hide HA5.out.gok
  have HL6 := hide hx6.log
  have HT6 := hide (HT5.out.trans (ht6.mono HT5.out.size fun _ _ h => h))
  clear hp hx6 ht6 hu5 his6 hlen6 HCOM HA5 HT5 HST
  go_wp2_with fail
  refine (begin_ok HL6.out (by rw [HLEN.out]; exact HN.out.1)).mono ?_
  rintro e w7 ⟨tt, mq, rfl, htt, hmq, hx7, hb7⟩
  have HB67 := hide (HT6.out.below fun k hk h => by have := HOWN.out k h; omega)
  have HOW8 := hide (show ∀ k, Ids.own ⟨tt, mq, i.ll, i.dd, i.rr⟩ k → w1.heap.size ≤ k from by
    have h0 := HB67.out.size
    have h1 := HOWN.out i.dd (.inr (.inr (.inl rfl)))
    have h2 := HOWN.out i.rr (.inr (.inr (.inr rfl)))
    rintro k (e | e | e | e) <;> simp only at e <;> omega)
  have HX7 := hide hx7
  have hgop := gopen_yes (tt := tt) (HC.out.1.below (HB67.out.trans (hb7.mono HB67.out.size))) HC.out.2.1 (by rw [HC.out.2.2.1]; exact HC.out.2.2.2.1)
  rw [HC.out.2.2.1, show ((0 : Nat) : Int) = 0 from rfl] at hgop
  have HGP := hide hgop
  have HB7 := hide (HB67.out.trans (hb7.mono HB67.out.size))
  clear htt hmq hx7 hb7 hgop
  go_wp2_with fail
  refine HGP.out.mono ?_
  rintro e w8 ⟨g8, rfl, -, hG8, hb8⟩
  have ha8 : GAt w8 ⟨tt, mq, i.ll, i.dd, i.rr⟩ ⟨commitD s5 l, [], 0⟩ g8 u 0 G5 := ⟨HX7.out.below hb8, hG8, by simp only; rw [HLEN.out]; exact HGO.out.1, HIS6.out, HGK.out⟩
  have hrd := read_file (num := 3) (off := 90) (many := 99) (en := 100) ha8 (by omega) (by rw [HGO.out.2.2]; omega) (by rw [HF5.out.2.2]; decide) HF5.out.2.1 HF5.out.1 (by omega) (by omega) (by decide) (by decide)
  rw [show ((3 : Nat) : Int) = 3 from rfl, show ((90 : Nat) : Int) = 90 from rfl, show ((99 : Nat) : Int) = 99 from rfl] at hrd
  have HRD := hide hrd
  have HB8 := hide (HB7.out.trans (hb8.mono HB7.out.size))
  clear hG8 hb8 ha8 hrd HGP
  go_wp2_with fail
  refine HRD.out.mono ?_
  rintro e w9 ⟨A9, c9, rfl, -, -, ht9, -⟩
  have hb9 := HB8.out.trans ((ht9.mono HB8.out.size (S' := fun _ => False) (fun k hk h => by have := HOW8.out k h; omega)).below fun _ _ h => h)
  have HB9 := hide (HC.out.2.2.2.2.trans (hb9.mono HC.out.2.2.2.2.size))
  clear ht9 hb9 HRD
  go_wp2
  go_returns
  exact ⟨rfl, HB9.out⟩
end Go.Proofs.YthmkgohfeahdhaaGreat
namespace Go.Proofs.YthmkgohfeahdhaaGreat
open Go.RowKit
set_option linter.unusedSimpArgs false
set_option linter.unusedVariables false

section
variable {w w' : World} {i : Ids} {s : Sto} {gg : Nat} {g : GeoN} {lab : Int} {G : GS}
set_option maxRecDepth 100000 in
theorem block_no (w : World) {A : Value} {n : NodeV} {b : Int} (hA : A = .pointer (some ⟨gg, 0, none⟩)) (hb : b < 0 ∨ 256 ≤ b) :
    Calls Tryz.prog 99 #[A, n.val, .int .i64 b] w fun e w' => e = .returned (.tuple #[.int .u16 0, .int .i64 11]) ∧ Below w.heap.size w w' := by
  subst hA
  have hp := fun W => place_no W hb
  have HP := hide hp
  clear hp hb
  go_enter Tryz.func99, Tryz.ntmps99
  go_upto_region 1 with (fail)
  refine at_world (fun W => Below w.heap.size w W) ((Below.refl _ _).alloc (Nat.le_refl _) _) (fun w1 hb1 => ?_)
  have HB1 := hide hb1
  clear hb1
  go_wp2_with fail
  refine (HP.out w1).mono ?_
  rintro e w2 ⟨rfl, hb2⟩
  have HB2 := hide (HB1.out.trans (hb2.mono HB1.out.size))
  clear hb2 HP
  go_upto_region 2 with (first | ((with_reducible refine at_alloc 268 ?_); refine wpList_alloc_as rfl 268 rfl _ (zero_way _) ?_) | ((with_reducible refine at_store 268 (.tmp 8) (.tmp 17) ?_); refine wpList_store_blk rfl 268 (.tmp 8) (.tmp 17) rfl w2.heap.size _ _ _ (by rfl) (by rfl) (Blk.new _ _ _) (size_way ⟨0, 0, 0⟩) rfl (way_one ⟨0, 0, 0⟩) (fun _ => ?_)) | fail)
  refine at_world (fun W => Below w2.heap.size w2 W) (below_setRow ((Below.refl _ _).alloc (Nat.le_refl _) _) (Nat.le_refl _) _) (fun w3 hb3 => ?_)
  have HB3 := hide (HB2.out.trans (hb3.mono HB2.out.size))
  clear hb3
  go_wp2
  go_returns
  exact ⟨rfl, HB3.out⟩
set_option maxRecDepth 100000 in
theorem write_big {num off len c : Nat} {A : Option Addr} (h : GAt w i s gg g lab G) (h1 : 1 ≤ num) (h2 : num ≤ g.nodes) (hk : (G.nd num).kind ≠ 0) (hoff : off ≤ (G.nd num).size.toNat) (hs16 : (G.nd num).size.toNat ≤ 16384) (hlen : 16384 < off + len) :
    Calls Tryz.prog 33 #[.pointer (some ⟨gg, 0, none⟩), .int .i64 (num : Int), .int .i64 (off : Int), .slice A len c] w fun e w' => e = .returned (.int .i64 11) ∧ GAt w' i s gg g lab G ∧ Tch w.heap.size i.own w w' := by
  have hnd := gs_node' h h1 h2
  have hdir : (G.nd num).dir.length = 6 := h.gok.dir num
  generalize G.nd num = n0 at *
  have hkz : (n0.kind.toNat : Int) ≠ 0 := fun e => hk (UInt8.toNat_inj.1 (by simpa using e))
  have tk : ((n0.kind.toNat : Int) == 0) = false := by rw [beq_eq_false_iff_ne]; exact hkz
  have HND := hide hnd
  have HD := hide hdir
  clear h hnd hdir hk hkz
  go_enter Tryz.func33, Tryz.ntmps33
  go_wp2_with fail
  refine HND.out.mono ?_
  rintro e w2 ⟨rfl, ha2, ht2⟩
  have HA2 := hide ha2
  have HT2 := hide ht2
  clear ha2 ht2 HND
  go_upto_region 2 with (first | ((with_reducible refine at_alloc 130 ?_); refine wpList_alloc_as rfl 130 rfl _ (zero_node _) ?_) | ((with_reducible refine at_store 130 (.tmp 9) (.tmp 20) ?_); refine wpList_store_blk rfl 130 (.tmp 9) (.tmp 20) rfl w2.heap.size _ _ _ (by rfl) (by rfl) (Blk.new _ _ _) (size_nodeOf HD.out) (by rw [List.size_toArray, List.size_toArray, NodeV.cells_length HD.out]; rfl) (NodeV.cells_one _) (fun _ => ?_)) | fail)
  refine at_world (fun W => ∃ q, q = w2.heap.size ∧ Below w2.heap.size w2 W ∧ Blk W q 130 n0.cells.toArray) ⟨_, rfl, below_setRow ((Below.refl _ _).alloc (Nat.le_refl _) _) (Nat.le_refl _) _, (Blk.new _ _ _).setRow_same _⟩ (fun w3 hw3 => ?_)
  obtain ⟨q, hq, hb3, hQ3⟩ := hw3
  rw [← hq]
  have HA3 := hide (HA2.out.below hb3)
  have HT3 := hide (HT2.out.trans ((Tch.of_below hb3).mono HT2.out.size fun _ _ h => h))
  have q0 := (hQ3.cell 0).trans (node_cells_at n0).1
  have q3 := (hQ3.cell 3).trans (node_cells_at n0).2.2.2
  have ql := hQ3.lt
  have t1 : decide ((off : Int) < 0) = false := by simp
  generalize n0.size.toNat = sz at *
  clear hq hb3 hQ3 HA2 HT2
  have c1 : IntKind.i64.wrap (sz : Int) = (sz : Int) := IntWalk.i64_in _ (by omega)
  have t2 : decide (sz < off) = false := by simp; omega
  have c2 : IntKind.i64.wrap (16384 - (off : Int)) = 16384 - (off : Int) := IntWalk.i64_in _ (by omega)
  have t3 : decide (16384 - (off : Int) < (len : Int)) = true := by simp; omega
  go_wp2
  go_returns
  exact ⟨rfl, HA3.out, HT3.out⟩
end
end Go.Proofs.YthmkgohfeahdhaaGreat

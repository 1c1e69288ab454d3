/- A region that draws its order, walked once in an order that is named. No program in sight. -/
import Derived.Test.YtmhlokehdjnldaaDoorRegion
namespace Go.Proofs.YtmhlokehdjnldaaDoor
open Go.RowKit
set_option linter.unusedSimpArgs false
set_option linter.unusedVariables false

/-- operations, in an order -/
def pick (l : List Oper) (is : List Nat) : List Oper := is.filterMap fun i => l[i]?

theorem pick_map {l : List Oper} : ∀ {is : List Nat}, (∀ i ∈ is, i < l.length) → is.map (fun i => l.toArray[i]?) = (pick l is).map some
  | [], _ => rfl
  | i :: is, h => by
    have h1 := h i (by simp)
    have ih := pick_map (l := l) (is := is) (fun j hj => h j (by simp [hj]))
    rw [List.map_cons, ih]
    unfold pick
    rw [List.filterMap_cons]
    simp [h1]

/-- THE BEGINNING, in an order of one's own. -/
theorem wp_region_ord {P : Program} {Q : Exit → Act → World → Prop} {id : Nat} {a : Act} {w : World} {l : List Oper} (is bs : List Nat) (S : World → Prop) (hm : P.follows .mixedOrders = true)
    (hk : (Region.noSelect l.toArray && (decide (bs.length = is.length ∧ is.length = l.length) && (is.all (fun i => decide (i < l.length)) && ordOk .any l.toArray (is.zip bs) (Array.replicate l.length false)))) = true)
    (hS : S w.drew) (h : wpOrd P l.toArray (NoPanic Q) (pick l is) bs S a w.drew) : (Code.region id l.toArray true).wp P Q a w := by
  simp only [Bool.and_eq_true, decide_eq_true_eq] at hk
  obtain ⟨hn, ⟨hl, hl2⟩, hall, hk⟩ := hk
  refine wp_region_noPanic (wp_region_any hm ?_)
  have hcl : Closed .any l.toArray (Array.replicate l.length false) := fun j oj _ hj => by
    rcases Nat.lt_or_ge j l.length with h' | h' <;> simp [h'] at hj
  have hmap := pick_map (l := l) (is := is) (fun i hi => by simpa using List.all_eq_true.1 hall i hi)
  have := wpAny_of_grown _ _ _ _ _ (wpAnyG_of_ord (md := .any) hn (fun _ _ _ _ _ h => h) is (pick l is) bs S (Array.replicate l.length false) a w.drew hcl hmap hl.symm hk hS h)
  rw [hl2] at this
  simpa using this

/-- The orders that are walked: an operation that only reads; one that is carried out alone; two that may come up in either order. -/
inductive OT where
  | nil : OT
  | q : Nat → OT → OT
  | x : Nat → OT → OT
  | br : Nat → OT → Nat → OT → OT
def OT.len : OT → Nat
  | .nil => 0
  | .q _ t => t.len + 1
  | .x _ t => t.len + 1
  | .br _ t _ _ => t.len + 1
def okT (md : Region.Mode) (ops : Array Oper) : OT → Array Bool → Bool
  | .nil, listed => (Region.ready md ops listed).isEmpty
  | .q i t, listed => Region.free md ops listed i && (Region.ready md ops listed).contains i && okT md ops t (listed.setIfInBounds i true)
  | .x i t, listed => Region.ready md ops listed == [i] && okT md ops t (listed.setIfInBounds i true)
  | .br i t j u, listed => (Region.ready md ops listed == [i, j] || Region.ready md ops listed == [j, i]) && (t.len == u.len && (okT md ops t (listed.setIfInBounds i true) && okT md ops u (listed.setIfInBounds j true)))
def wpT (P : Program) (ops : Array Oper) (Q : Exit → Act → World → Prop) : OT → (World → Prop) → Act → World → Prop
  | .nil, _, a, w => Q .normal a w
  | .q i t, S, a, w => ∃ o v, ops[i]? = some o ∧ YieldsIf P ops S o v a ∧ wpT P ops Q t S (a.put o.dst v) w
  | .x i t, S, a, w => ∃ o, ops[i]? = some o ∧ if Region.wanted o (yielded ops a.tmps) then o.wp P a w (fun a' w' => ∃ S' : World → Prop, (∀ x, S' x → S x) ∧ S' w' ∧ wpT P ops Q t S' a' w') Q else wpT P ops Q t S (a.put o.dst undef) w
  | .br i t j u, S, a, w =>
    (∃ o, ops[i]? = some o ∧ if Region.wanted o (yielded ops a.tmps) then o.wp P a w (fun a' w' => ∃ S' : World → Prop, (∀ x, S' x → S x) ∧ S' w' ∧ wpT P ops Q t S' a' w') Q else wpT P ops Q t S (a.put o.dst undef) w) ∧
    (∃ o, ops[j]? = some o ∧ if Region.wanted o (yielded ops a.tmps) then o.wp P a w (fun a' w' => ∃ S' : World → Prop, (∀ x, S' x → S x) ∧ S' w' ∧ wpT P ops Q u S' a' w') Q else wpT P ops Q u S (a.put o.dst undef) w)

section
variable {P : Program} {ops : Array Oper} {Q : Exit → Act → World → Prop} {md : Region.Mode}
theorem wpT_step {n i : Nat} {S : World → Prop} {listed : Array Bool} {a : Act} {w : World} {G : (World → Prop) → Act → World → Prop} (hS : S w)
    (h : ∃ o, ops[i]? = some o ∧ if Region.wanted o (yielded ops a.tmps) then o.wp P a w (fun a' w' => ∃ S' : World → Prop, (∀ x, S' x → S x) ∧ S' w' ∧ G S' a' w') Q else G S (a.put o.dst undef) w)
    (hG : ∀ S' a' w', S' w' → G S' a' w' → wpAnyG P md ops Q n S' (listed.setIfInBounds i true) a' w') :
    wpOp P ops Q i (fun a' w' => ∃ S' : World → Prop, ((∀ x, S' x → S x) ∨ Bar md ops listed i) ∧ S' w' ∧ wpAnyG P md ops Q n S' (listed.setIfInBounds i true) a' w') a w := by
  obtain ⟨o, ho, h⟩ := h
  unfold wpOp
  simp only [ho]
  split
  · rename_i hw
    rw [if_pos hw] at h
    refine .inl (Oper.wp_mono (fun a' w' h3 => ?_) h)
    obtain ⟨S', hSS, hS', h4⟩ := h3
    exact ⟨S', .inl hSS, hS', hG _ _ _ hS' h4⟩
  · rename_i hw
    rw [if_neg hw] at h
    exact ⟨S, .inl fun _ h => h, hS, hG _ _ _ hS h⟩

theorem wpAnyG_of_tree (hsel : Region.noSelect ops = true) (hQ : ∀ c a d v w, Q (.panic c) (a.put d v) w → Q (.panic c) a w) :
    ∀ (t : OT) (S : World → Prop) (listed : Array Bool) (a : Act) (w : World), Closed md ops listed → okT md ops t listed = true → S w → wpT P ops Q t S a w → wpAnyG P md ops Q t.len S listed a w
  | .nil, S, listed, a, w, _, hk, _, h => ⟨by simpa [okT] using hk, h⟩
  | .q i t, S, listed, a, w, hcl, hk, hS, h => by
    simp only [okT, Bool.and_eq_true] at hk
    obtain ⟨o, v, ho, hy, h⟩ := h
    have hr : i ∈ Region.ready md ops listed := by simpa using hk.1.2
    exact wpAnyG_first ho (Region.noSelect_spec hsel) (fun c a w => hQ c a _ _ w) _ S listed a w hcl (Region.free_spec ho hk.1.1) hr hy hS
      (wpAnyG_of_tree hsel hQ t S _ _ w (closed_set hcl hr) hk.2 hS h)
  | .x i t, S, listed, a, w, hcl, hk, hS, h => by
    simp only [okT, Bool.and_eq_true, beq_iff_eq] at hk
    refine ⟨fun h0 => (by rw [hk.1] at h0; cases h0), fun j hj => ?_⟩
    have hj0 := hj
    rw [hk.1] at hj
    obtain rfl : j = i := by simpa using hj
    exact wpT_step hS h (fun S' a' w' hS' h4 => wpAnyG_of_tree hsel hQ t S' _ a' w' (closed_set hcl hj0) hk.2 hS' h4)
  | .br i t j u, S, listed, a, w, hcl, hk, hS, h => by
    simp only [okT, Bool.and_eq_true, Bool.or_eq_true, beq_iff_eq] at hk
    refine ⟨fun h0 => (by rcases hk.1 with h1 | h1 <;> rw [h1] at h0 <;> cases h0), fun k hj => ?_⟩
    have hj0 := hj
    have hj : k = i ∨ k = j := by
      rcases hk.1 with h1 | h1
      · rw [h1] at hj; simpa using hj
      · rw [h1] at hj; exact (by simpa using hj : k = j ∨ k = i).symm
    have hlen : t.len = u.len := hk.2.1
    rcases hj with rfl | rfl
    · exact wpT_step hS h.1 (fun S' a' w' hS' h4 => wpAnyG_of_tree hsel hQ t S' _ a' w' (closed_set hcl hj0) hk.2.2.1 hS' h4)
    · refine wpT_step hS h.2 (fun S' a' w' hS' h4 => ?_)
      rw [hlen]
      exact wpAnyG_of_tree hsel hQ u S' _ a' w' (closed_set hcl hj0) hk.2.2.2 hS' h4

theorem wpT_q {i : Nat} {t : OT} {S : World → Prop} {a : Act} {w : World} {o : Oper} {v : Value} (ho : ops[i]? = some o) (hw : Region.wanted o (yielded ops a.tmps) = true) (hy : ∀ W, S W → (execOp a.eval o).run P W = .ok (.value v) W)
    (h : wpT P ops Q t S (a.put o.dst v) w) : wpT P ops Q (.q i t) S a w := ⟨o, v, ho, .inl ⟨hw, hy⟩, h⟩
theorem wpT_n {i : Nat} {t : OT} {S : World → Prop} {a : Act} {w : World} {o : Oper} (ho : ops[i]? = some o) (hw : Region.wanted o (yielded ops a.tmps) = false)
    (h : wpT P ops Q t S (a.put o.dst undef) w) : wpT P ops Q (.q i t) S a w := ⟨o, undef, ho, .inr ⟨hw, rfl⟩, h⟩
theorem wpT_x {i : Nat} {t : OT} {S : World → Prop} {a : Act} {w : World} {o : Oper} (ho : ops[i]? = some o) (hw : Region.wanted o (yielded ops a.tmps) = true)
    (h : ∀ K : Act → World → Prop, (∀ (S' : World → Prop) a' w', (∀ x, S' x → S x) → S' w' → wpT P ops Q t S' a' w' → K a' w') → o.wp P a w K Q) : wpT P ops Q (.x i t) S a w :=
  ⟨o, ho, by rw [if_pos hw]; exact h _ fun S' a' w' h1 h2 h3 => ⟨S', h1, h2, h3⟩⟩
theorem wpT_br {i j : Nat} {t u : OT} {S : World → Prop} {a : Act} {w : World} (h1 : wpT P ops Q (.x i t) S a w) (h2 : wpT P ops Q (.x j u) S a w) : wpT P ops Q (.br i t j u) S a w := ⟨h1, h2⟩
theorem wpT_nil {S : World → Prop} {a : Act} {w : World} (h : Q .normal a w) : wpT P ops (NoPanic Q) .nil S a w := h

/-- THE BEGINNING, in the orders of a tree. -/
theorem wp_region_tree {id : Nat} {a : Act} {w : World} {l : List Oper} (t : OT) (S : World → Prop) (hm : P.follows .mixedOrders = true)
    (hk : (Region.noSelect l.toArray && (decide (t.len = l.length) && okT .any l.toArray t (Array.replicate l.length false))) = true)
    (hS : S w.drew) (h : wpT P l.toArray (NoPanic Q) t S a w.drew) : (Code.region id l.toArray true).wp P Q a w := by
  simp only [Bool.and_eq_true, decide_eq_true_eq] at hk
  obtain ⟨hn, hl, hk⟩ := hk
  refine wp_region_noPanic (wp_region_any hm ?_)
  have hcl : Closed .any l.toArray (Array.replicate l.length false) := fun j oj _ hj => by
    rcases Nat.lt_or_ge j l.length with h' | h' <;> simp [h'] at hj
  have := wpAny_of_grown _ _ _ _ _ (wpAnyG_of_tree (md := .any) hn (fun _ _ _ _ _ h => h) t S (Array.replicate l.length false) a w.drew hcl hk hS h)
  rw [hl] at this
  simpa using this
end
end Go.Proofs.YtmhlokehdjnldaaDoor

/- A region that draws its order, walked once in an order of one's own: what is known of the world may grow behind each call (after the elder law that takes a load first: Derived/OrdersHeld, whose knowledge stays). No program in sight. -/
import Derived.WalkKit
import Derived.Deep.RegionHeld3
namespace Go.Proofs.YtmhlokehdjnldaaDoor
open Go.RowKit
set_option linter.unusedSimpArgs false
set_option linter.unusedVariables false

section
variable {P : Program} {ops : Array Oper} {Q : Exit → Act → World → Prop} {md : Region.Mode}

/-- What has come up holds all that each of it waits for. -/
def Closed (md : Region.Mode) (ops : Array Oper) (listed : Array Bool) : Prop :=
  ∀ j oj, ops[j]? = some oj → listed.getD j false = true → ∀ e ∈ oj.after, Region.binds md e = true → listed.getD e.on false = true

/-- Does j wait for i, at once or through others? -/
def waits (md : Region.Mode) (ops : Array Oper) : Nat → Nat → Nat → Bool
  | 0, _, _ => false
  | n + 1, j, i => match ops[j]? with
    | some oj => oj.after.any fun e => Region.binds md e && (e.on == i || waits md ops n e.on i)
    | none => false

theorem closed_waits {listed : Array Bool} (hc : Closed md ops listed) {i : Nat} : ∀ (n j : Nat), waits md ops n j i = true → listed.getD j false = true → listed.getD i false = true
  | 0, _, h, _ => by cases h
  | n + 1, j, h, hj => by
    unfold waits at h
    split at h
    · rename_i oj hoj
      obtain ⟨e, he, hb⟩ := Array.any_eq_true'.1 h
      simp only [Bool.and_eq_true, Bool.or_eq_true, beq_iff_eq] at hb
      have h1 := hc j oj hoj hj e he hb.1
      rcases hb.2 with h2 | h2
      · rw [← h2]; exact h1
      · exact closed_waits hc n e.on h2 h1
    · cases h
theorem ready_waits {listed : Array Bool} (hc : Closed md ops listed) {i j n : Nat} (hr : j ∈ Region.ready md ops listed) (h : waits md ops n j i = true) : listed.getD i false = true := by
  obtain ⟨_, oj, hoj, hall⟩ := mem_ready.1 hr
  cases n with
  | zero => cases h
  | succ n =>
    unfold waits at h
    rw [hoj] at h
    obtain ⟨e, he, hb⟩ := Array.any_eq_true'.1 h
    simp only [Bool.and_eq_true, Bool.or_eq_true, beq_iff_eq] at hb
    have h1 := hall e he hb.1
    rcases hb.2 with h2 | h2
    · rw [← h2]; exact h1
    · exact closed_waits hc n e.on h2 h1
theorem closed_set {listed : Array Bool} (hc : Closed md ops listed) {i : Nat} (hr : i ∈ Region.ready md ops listed) : Closed md ops (listed.setIfInBounds i true) := by
  intro j oj hoj hj e he hb
  by_cases hij : i = j
  · subst hij
    obtain ⟨_, oi, hoi, hall⟩ := mem_ready.1 hr
    have : oj = oi := Option.some.inj (hoj.symm.trans hoi)
    subst this
    exact getD_set_true (hall e he hb)
  · rw [getD_set_ne false hij] at hj
    exact getD_set_true (hc j oj hoj hj e he hb)

/-- Does j wait for all that has come up? -/
def Bar (md : Region.Mode) (ops : Array Oper) (listed : Array Bool) (j : Nat) : Prop := ∀ i, listed.getD i false = true → ∃ n, waits md ops n j i = true

/-- Whatever order is picked from here on; behind each operation that is carried out some stronger knowledge of the world may be taken, or any, if it waits for all that has come up. -/
def wpAnyG (P : Program) (md : Region.Mode) (ops : Array Oper) (Q : Exit → Act → World → Prop) : Nat → (World → Prop) → Array Bool → Act → World → Prop
  | 0, _, listed, a, w => Region.ready md ops listed = [] ∧ Q .normal a w
  | fuel + 1, S, listed, a, w =>
    (Region.ready md ops listed = [] → Q .normal a w) ∧
    ∀ i ∈ Region.ready md ops listed, wpOp P ops Q i (fun a' w' => ∃ S' : World → Prop, ((∀ x, S' x → S x) ∨ Bar md ops listed i) ∧ S' w' ∧ wpAnyG P md ops Q fuel S' (listed.setIfInBounds i true) a' w') a w

theorem wpAny_of_grown : ∀ (fuel : Nat) (S : World → Prop) (listed : Array Bool) (a : Act) (w : World), wpAnyG P md ops Q fuel S listed a w → wpAny P md ops Q fuel listed a w
  | 0, _, _, _, _, h => h
  | fuel + 1, _, _, _, _, h => ⟨h.1, fun i hi => wpOp_mono (fun a' w' ⟨S', _, _, h'⟩ => wpAny_of_grown fuel S' _ a' w' h') (h.2 i hi)⟩

theorem wpAnyG_first {i : Nat} {oi : Oper} {v : Value} (hi : ops[i]? = some oi) (hsel : ∀ (j : Nat) (o : Oper) cs b, ops[j]? = some o → o.op ≠ .select cs b)
    (hQ : ∀ c a w, Q (.panic c) (a.put oi.dst v) w → Q (.panic c) a w) :
    ∀ (fuel : Nat) (S : World → Prop) (listed : Array Bool) (a : Act) (w : World), Closed md ops listed →
      (∀ j oj, ops[j]? = some oj → j ≠ i → listed.getD j true = false → (∀ e ∈ oj.after, Region.binds md e = true → e.on ≠ i) → oi.apart ops oj = true) →
      i ∈ Region.ready md ops listed → YieldsIf P ops S oi v a → S w →
      wpAnyG P md ops Q fuel S (listed.setIfInBounds i true) (a.put oi.dst v) w → wpAnyG P md ops Q (fuel + 1) S listed a w := by
  intro fuel
  induction fuel with
  | zero =>
    intro S listed a w _ _ hr hy hS H
    refine ⟨fun h => (by rw [h] at hr; cases hr), fun j hj => ?_⟩
    by_cases hji : j = i
    · subst hji; exact hy.wpOp hi hS ⟨S, .inl fun _ h => h, hS, H⟩
    · have := ready_mono hj hji
      rw [H.1] at this
      cases this
  | succ fuel ih =>
    intro S listed a w hcl hfree hr hy hS H
    refine ⟨fun h => (by rw [h] at hr; cases hr), fun j hj => ?_⟩
    by_cases hji : j = i
    · subst hji; exact hy.wpOp hi hS ⟨S, .inl fun _ h => h, hS, H⟩
    · have h1 := H.2 j (ready_mono hj hji)
      obtain ⟨hjun, oj, hoj, hall⟩ := mem_ready.1 hj
      have hlt : i < listed.size := by
        rcases Nat.lt_or_ge i listed.size with h' | h'
        · exact h'
        · have h0 := (mem_ready.1 hr).1
          simp [Array.getElem?_eq_none h'] at h0
      have hun : listed.getD i false = false := by
        have h0 := (mem_ready.1 hr).1
        simp [hlt] at h0 ⊢
        exact h0
      have hnot : ∀ e ∈ oj.after, Region.binds md e = true → e.on ≠ i := fun e he hb heq => by
        have h1 := hall e he hb
        rw [heq, hun] at h1
        cases h1
      have hnobar : ¬ Bar md ops (listed.setIfInBounds i true) j := fun hb => by
        obtain ⟨n, hn⟩ := hb i (by simp [hlt])
        have := ready_waits hcl hj hn
        rw [hun] at this
        cases this
      have h2 := wpOp_putIf hoj (hfree j oj hoj hji hjun hnot) (fun cs b => hsel i oi cs b hi) (fun cs b => hsel j oj cs b hoj) hQ hy h1
      have hfree' : ∀ k ok, ops[k]? = some ok → k ≠ i → (listed.setIfInBounds j true).getD k true = false →
          (∀ e ∈ ok.after, Region.binds md e = true → e.on ≠ i) → oi.apart ops ok = true := fun k ok hk hki hun hno => by
        refine hfree k ok hk hki ?_ hno
        by_cases hjk : j = k
        · subst hjk; exact hjun
        · rw [getD_set_ne true hjk] at hun; exact hun
      refine wpOp_mono (fun a' w' h3 => ?_) h2
      obtain ⟨hy', S', hSS, hS', h4⟩ := h3
      have hSS := hSS.resolve_right hnobar
      have hy2 : YieldsIf P ops S' oi v a' := hy'.imp (fun ⟨hw, hv⟩ => ⟨hw, fun x hx => hv x (hSS x hx)⟩) id
      refine ⟨S', .inl hSS, hS', ih S' (listed.setIfInBounds j true) a' w' (closed_set hcl hj) hfree' (ready_mono hr (Ne.symm hji)) hy2 hS' ?_⟩
      rw [Array.setIfInBounds_comm _ _ hji]
      exact h4

/-- The walk in one order: 0: the operation only reads, under what is known; 1: it is carried out, alone; 2: likewise, and it waits for all ahead of it, so that anything may be known behind it. -/
def wpOrd (P : Program) (ops : Array Oper) (Q : Exit → Act → World → Prop) : List Oper → List Nat → (World → Prop) → Act → World → Prop
  | o :: l, n :: bs, S, a, w =>
    (n = 0 → ∃ v, YieldsIf P ops S o v a ∧ wpOrd P ops Q l bs S (a.put o.dst v) w) ∧
    (n = 1 → if Region.wanted o (yielded ops a.tmps) then o.wp P a w (fun a' w' => ∃ S' : World → Prop, (∀ x, S' x → S x) ∧ S' w' ∧ wpOrd P ops Q l bs S' a' w') Q
      else wpOrd P ops Q l bs S (a.put o.dst undef) w) ∧
    (2 ≤ n → if Region.wanted o (yielded ops a.tmps) then o.wp P a w (fun a' w' => ∃ S' : World → Prop, S' w' ∧ wpOrd P ops Q l bs S' a' w') Q
      else wpOrd P ops Q l bs S (a.put o.dst undef) w)
  | [], _, _, a, w => Q .normal a w
  | _, [], _, _, _ => False

/-- Is it an order that serves? -/
def ordOk (md : Region.Mode) (ops : Array Oper) : List (Nat × Nat) → Array Bool → Bool
  | [], listed => (Region.ready md ops listed).isEmpty
  | (i, 0) :: rest, listed => Region.free md ops listed i && (Region.ready md ops listed).contains i && ordOk md ops rest (listed.setIfInBounds i true)
  | (i, 1) :: rest, listed => Region.ready md ops listed == [i] && ordOk md ops rest (listed.setIfInBounds i true)
  | (i, _) :: rest, listed => Region.ready md ops listed == [i] && (List.range listed.size).all (fun k => !listed.getD k false || waits md ops ops.size i k) && ordOk md ops rest (listed.setIfInBounds i true)

theorem wpAnyG_of_ord (hsel : Region.noSelect ops = true) (hQ : ∀ c a d v w, Q (.panic c) (a.put d v) w → Q (.panic c) a w) :
    ∀ (is : List Nat) (l : List Oper) (bs : List Nat) (S : World → Prop) (listed : Array Bool) (a : Act) (w : World), Closed md ops listed → is.map (fun i => ops[i]?) = l.map some → is.length = bs.length → ordOk md ops (is.zip bs) listed = true → S w →
      wpOrd P ops Q l bs S a w → wpAnyG P md ops Q is.length S listed a w
  | [], l, bs, S, listed, a, w, _, hl, hb, hk, _, h => by
    have hl0 : l = [] := by simpa using hl.symm
    subst hl0
    refine ⟨by simpa [ordOk] using hk, ?_⟩
    cases bs <;> exact h
  | i :: is, [], bs, S, listed, a, w, _, hl, _, _, _, _ => by simp at hl
  | i :: is, o :: l, [], S, listed, a, w, _, _, hb, _, _, _ => by simp at hb
  | i :: is, o :: l, 0 :: bs, S, listed, a, w, hcl, hl, hb, hk, hS, h => by
    simp only [List.map_cons, List.cons.injEq] at hl
    simp only [List.zip_cons_cons, ordOk, Bool.and_eq_true] at hk
    obtain ⟨v, hy, h⟩ := h.1 rfl
    have hr : i ∈ Region.ready md ops listed := by simpa using hk.1.2
    exact wpAnyG_first hl.1 (Region.noSelect_spec hsel) (fun c a w => hQ c a _ _ w) _ S listed a w hcl (Region.free_spec hl.1 hk.1.1) hr hy hS
      (wpAnyG_of_ord hsel hQ is l bs S _ _ w (closed_set hcl hr) hl.2 (by simpa using hb) hk.2 hS h)
  | i :: is, o :: l, 1 :: bs, S, listed, a, w, hcl, hl, hb, hk, hS, h => by
    simp only [List.map_cons, List.cons.injEq] at hl
    simp only [List.zip_cons_cons, ordOk, Bool.and_eq_true, beq_iff_eq] at hk
    refine ⟨fun h0 => (by rw [hk.1] at h0; cases h0), fun j hj => ?_⟩
    have hj0 := hj
    rw [hk.1] at hj
    obtain rfl : j = i := by simpa using hj
    have h := h.2.1 rfl
    unfold wpOp
    simp only [hl.1]
    split
    · rename_i hw
      rw [if_pos hw] at h
      refine .inl (Oper.wp_mono (fun a' w' h3 => ?_) h)
      obtain ⟨S', hSS, hS', h4⟩ := h3
      exact ⟨S', .inl hSS, hS', wpAnyG_of_ord hsel hQ is l bs S' _ a' w' (closed_set hcl hj0) hl.2 (by simpa using hb) hk.2 hS' h4⟩
    · rename_i hw
      rw [if_neg hw] at h
      exact ⟨S, .inl fun _ h => h, hS, wpAnyG_of_ord hsel hQ is l bs S _ _ w (closed_set hcl hj0) hl.2 (by simpa using hb) hk.2 hS h⟩
  | i :: is, o :: l, (b + 2) :: bs, S, listed, a, w, hcl, hl, hb, hk, hS, h => by
    simp only [List.map_cons, List.cons.injEq] at hl
    simp only [List.zip_cons_cons, ordOk, Bool.and_eq_true, beq_iff_eq] at hk
    refine ⟨fun h0 => (by rw [hk.1.1] at h0; cases h0), fun j hj => ?_⟩
    have hj0 := hj
    rw [hk.1.1] at hj
    obtain rfl : j = i := by simpa using hj
    have hbar : Bar md ops listed j := fun k hk' => by
      have hks : k < listed.size := by
        rcases Nat.lt_or_ge k listed.size with h' | h'
        · exact h'
        · simp [Array.getElem?_eq_none h'] at hk'
      have := List.all_eq_true.1 hk.1.2 k (List.mem_range.2 hks)
      rw [hk'] at this
      exact ⟨_, by simpa using this⟩
    have h := h.2.2 (by omega)
    unfold wpOp
    simp only [hl.1]
    split
    · rename_i hw
      rw [if_pos hw] at h
      refine .inl (Oper.wp_mono (fun a' w' h3 => ?_) h)
      obtain ⟨S', hS', h4⟩ := h3
      exact ⟨S', .inr hbar, hS', wpAnyG_of_ord hsel hQ is l bs S' _ a' w' (closed_set hcl hj0) hl.2 (by simpa using hb) hk.2 hS' h4⟩
    · rename_i hw
      rw [if_neg hw] at h
      exact ⟨S, .inl fun _ h => h, hS, wpAnyG_of_ord hsel hQ is l bs S _ _ w (closed_set hcl hj0) hl.2 (by simpa using hb) hk.2 hS h⟩

/-- THE BEGINNING, in the order of the text. -/
theorem wp_region_text {id : Nat} {a : Act} {w : World} {l : List Oper} (bs : List Nat) (S : World → Prop) (hm : P.follows .mixedOrders = true)
    (hk : (Region.noSelect l.toArray && (decide (bs.length = l.length) && ordOk .any l.toArray ((List.range l.length).zip bs) (Array.replicate l.length false))) = true)
    (hS : S w.drew) (h : wpOrd P l.toArray (NoPanic Q) l bs S a w.drew) : (Code.region id l.toArray true).wp P Q a w := by
  simp only [Bool.and_eq_true, decide_eq_true_eq] at hk
  obtain ⟨hn, hl, hk⟩ := hk
  refine wp_region_noPanic (wp_region_any hm ?_)
  have hmap : (List.range l.length).map (fun i => l.toArray[i]?) = l.map some := by
    apply List.ext_getElem
    · simp
    · intro k h1 h2
      simp at h1 h2
      simp [h2]
  have hcl : Closed .any l.toArray (Array.replicate l.length false) := fun j oj _ hj => by
    rcases Nat.lt_or_ge j l.length with h' | h' <;> simp [h'] at hj
  have := wpAny_of_grown _ _ _ _ _ (wpAnyG_of_ord (md := .any) hn (fun _ _ _ _ _ h => h) (List.range l.length) l bs S (Array.replicate l.length false) a w.drew hcl hmap (by simp [hl]) hk hS h)
  simpa using this

/-- An operation that only reads. -/
theorem wpOrd_q {l : List Oper} {bs : List Nat} {S : World → Prop} {a : Act} {w : World} {o : Oper} {v : Value} (hw : Region.wanted o (yielded ops a.tmps) = true) (hy : ∀ W, S W → (execOp a.eval o).run P W = .ok (.value v) W)
    (h : wpOrd P ops Q l bs S (a.put o.dst v) w) : wpOrd P ops Q (o :: l) (0 :: bs) S a w :=
  ⟨(fun _ => ⟨v, .inl ⟨hw, hy⟩, h⟩), (fun e => by cases e), (fun e => by omega)⟩
/-- An operation that is carried out. -/
theorem wpOrd_x {l : List Oper} {bs : List Nat} {S : World → Prop} {a : Act} {w : World} {o : Oper} (hw : Region.wanted o (yielded ops a.tmps) = true)
    (h : ∀ K : Act → World → Prop, (∀ (S' : World → Prop) a' w', (∀ x, S' x → S x) → S' w' → wpOrd P ops Q l bs S' a' w' → K a' w') → o.wp P a w K Q) : wpOrd P ops Q (o :: l) (1 :: bs) S a w :=
  ⟨(fun e => by cases e), (fun _ => by rw [if_pos hw]; exact h _ fun S' a' w' h1 h2 h3 => ⟨S', h1, h2, h3⟩), (fun e => by omega)⟩
/-- An operation that is carried out and waits for all ahead of it. -/
theorem wpOrd_b {l : List Oper} {bs : List Nat} {S : World → Prop} {a : Act} {w : World} {o : Oper} (hw : Region.wanted o (yielded ops a.tmps) = true)
    (h : ∀ K : Act → World → Prop, (∀ (S' : World → Prop) a' w', S' w' → wpOrd P ops Q l bs S' a' w' → K a' w') → o.wp P a w K Q) : wpOrd P ops Q (o :: l) (2 :: bs) S a w :=
  ⟨(fun e => by cases e), (fun e => by cases e), (fun _ => by rw [if_pos hw]; exact h _ fun S' a' w' h2 h3 => ⟨S', h2, h3⟩)⟩
/-- One that its guard passes over. -/
theorem wpOrd_n {b : Nat} {l : List Oper} {bs : List Nat} {S : World → Prop} {a : Act} {w : World} {o : Oper} (hw : Region.wanted o (yielded ops a.tmps) = false)
    (h : wpOrd P ops Q l bs S (a.put o.dst undef) w) : wpOrd P ops Q (o :: l) (b :: bs) S a w :=
  ⟨(fun _ => ⟨undef, .inr ⟨hw, rfl⟩, h⟩), (fun _ => by rw [if_neg (by rw [hw]; exact Bool.false_ne_true)]; exact h), (fun _ => by rw [if_neg (by rw [hw]; exact Bool.false_ne_true)]; exact h)⟩
theorem wpOrd_nil {bs : List Nat} {S : World → Prop} {a : Act} {w : World} (h : Q .normal a w) : wpOrd P ops (NoPanic Q) [] bs S a w := by cases bs <;> exact h
end

end Go.Proofs.YtmhlokehdjnldaaDoor

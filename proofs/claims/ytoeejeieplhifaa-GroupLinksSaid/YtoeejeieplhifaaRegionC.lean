/- A region that draws its order, walked in a tree of orders, each read's knowledge of the world in a class of its own: an operation that waits for all reads of a class may break what that class knows. No program in sight. -/
import Derived.Test.YtoeejeieplhifaaOrd
namespace Go.Proofs.Ytoeejeieplhifaa
open Go.RowKit
set_option linter.unusedSimpArgs false
set_option linter.unusedVariables false

section
variable {P : Program} {ops : Array Oper} {Q : Exit → Act → World → Prop} {md : Region.Mode}

/-- j waits for all of class c that have come up -/
def Drops (md : Region.Mode) (ops : Array Oper) (cls : List Nat) (listed : Array Bool) (j c : Nat) : Prop :=
  ∀ i, listed.getD i false = true → cls.getD i 0 = c → ∃ n, waits md ops n j i = true

def wpAnyC (P : Program) (md : Region.Mode) (ops : Array Oper) (Q : Exit → Act → World → Prop) (cls : List Nat) : Nat → (Nat → World → Prop) → Array Bool → Act → World → Prop
  | 0, _, listed, a, w => Region.ready md ops listed = [] ∧ Q .normal a w
  | fuel + 1, S, listed, a, w =>
    (Region.ready md ops listed = [] → Q .normal a w) ∧
    ∀ i ∈ Region.ready md ops listed, wpOp P ops Q i (fun a' w' => ∃ S' : Nat → World → Prop, (∀ c, Drops md ops cls listed i c ∨ ∀ x, S' c x → S c x) ∧ (∀ c, S' c w') ∧ wpAnyC P md ops Q cls fuel S' (listed.setIfInBounds i true) a' w') a w

variable {cls : List Nat}
theorem wpAny_of_C : ∀ (fuel : Nat) (S : Nat → World → Prop) (listed : Array Bool) (a : Act) (w : World), wpAnyC P md ops Q cls fuel S listed a w → wpAny P md ops Q fuel listed a w
  | 0, _, _, _, _, h => h
  | fuel + 1, _, _, _, _, h => ⟨h.1, fun i hi => wpOp_mono (fun a' w' ⟨S', _, _, h'⟩ => wpAny_of_C fuel S' _ a' w' h') (h.2 i hi)⟩

theorem wpAnyC_first {i : Nat} {oi : Oper} {v : Value} (hi : ops[i]? = some oi) (hsel : ∀ (j : Nat) (o : Oper) cs b, ops[j]? = some o → o.op ≠ .select cs b)
    (hQ : ∀ c a w, Q (.panic c) (a.put oi.dst v) w → Q (.panic c) a w) :
    ∀ (fuel : Nat) (S : Nat → World → Prop) (listed : Array Bool) (a : Act) (w : World), Closed md ops listed →
      (∀ j oj, ops[j]? = some oj → j ≠ i → listed.getD j true = false → (∀ e ∈ oj.after, Region.binds md e = true → e.on ≠ i) → oi.apart ops oj = true) →
      i ∈ Region.ready md ops listed → YieldsIf P ops (S (cls.getD i 0)) oi v a → (∀ c, S c w) →
      wpAnyC P md ops Q cls fuel S (listed.setIfInBounds i true) (a.put oi.dst v) w → wpAnyC P md ops Q cls (fuel + 1) S listed a w := by
  intro fuel
  induction fuel with
  | zero =>
    intro S listed a w _ _ hr hy hS H
    refine ⟨fun h => (by rw [h] at hr; cases hr), fun j hj => ?_⟩
    by_cases hji : j = i
    · subst hji; exact hy.wpOp hi (hS _) ⟨S, fun _ => .inr fun _ h => h, hS, H⟩
    · have := ready_mono hj hji
      rw [H.1] at this
      cases this
  | succ fuel ih =>
    intro S listed a w hcl hfree hr hy hS H
    refine ⟨fun h => (by rw [h] at hr; cases hr), fun j hj => ?_⟩
    by_cases hji : j = i
    · subst hji; exact hy.wpOp hi (hS _) ⟨S, fun _ => .inr fun _ h => h, hS, H⟩
    · have h1 := H.2 j (ready_mono hj hji)
      obtain ⟨hjun, oj, hoj, hall⟩ := mem_ready.1 hj
      have hlt : i < listed.size := by
        rcases Nat.lt_or_ge i listed.size with h' | h'
        · exact h'
        · have h0 := (mem_ready.1 hr).1
          simp [Array.getElem?_eq_none h'] at h0
      have hun : listed.getD i false = false := by
        have h0 := (mem_ready.1 hr).1
        simp [hlt] at h0 ⊢
        exact h0
      have hnot : ∀ e ∈ oj.after, Region.binds md e = true → e.on ≠ i := fun e he hb heq => by
        have h1 := hall e he hb
        rw [heq, hun] at h1
        cases h1
      have hnodrop : ¬ Drops md ops cls (listed.setIfInBounds i true) j (cls.getD i 0) := fun hb => by
        obtain ⟨n, hn⟩ := hb i (by simp [hlt]) rfl
        have := ready_waits hcl hj hn
        rw [hun] at this
        cases this
      have h2 := wpOp_putIf hoj (hfree j oj hoj hji hjun hnot) (fun cs b => hsel i oi cs b hi) (fun cs b => hsel j oj cs b hoj) hQ hy h1
      have hfree' : ∀ k ok, ops[k]? = some ok → k ≠ i → (listed.setIfInBounds j true).getD k true = false →
          (∀ e ∈ ok.after, Region.binds md e = true → e.on ≠ i) → oi.apart ops ok = true := fun k ok hk hki hun hno => by
        refine hfree k ok hk hki ?_ hno
        by_cases hjk : j = k
        · subst hjk; exact hjun
        · rw [getD_set_ne true hjk] at hun; exact hun
      refine wpOp_mono (fun a' w' h3 => ?_) h2
      obtain ⟨hy', S', hSS, hS', h4⟩ := h3
      have hSi := (hSS (cls.getD i 0)).resolve_left hnodrop
      have hy2 : YieldsIf P ops (S' (cls.getD i 0)) oi v a' := hy'.imp (fun ⟨hw, hv⟩ => ⟨hw, fun x hx => hv x (hSi x hx)⟩) id
      refine ⟨S', fun c => ?_, hS', ih S' (listed.setIfInBounds j true) a' w' (closed_set hcl hj) hfree' (ready_mono hr (Ne.symm hji)) hy2 hS' ?_⟩
      · rcases hSS c with h5 | h5
        · refine .inl fun k hk hc => h5 k ?_ hc
          by_cases hik : i = k
          · subst hik; simp [hlt]
          · rw [getD_set_ne false hik]; exact hk
        · exact .inr h5
      · rw [Array.setIfInBounds_comm _ _ hji]
        exact h4

/-- The orders that are walked. -/
inductive OC where
  | nil : OC
  | q : Nat → OC → OC
  | x : Nat → List Nat → OC → OC
  | br : Nat → List Nat → OC → Nat → List Nat → OC → OC
def OC.len : OC → Nat
  | .nil => 0
  | .q _ t => t.len + 1
  | .x _ _ t => t.len + 1
  | .br _ _ t _ _ _ => t.len + 1
/-- quiet operations, then a tree -/
def OC.qs (is : List Nat) (t : OC) : OC := is.foldr OC.q t
def dropsB (md : Region.Mode) (ops : Array Oper) (cls : List Nat) (listed : Array Bool) (j : Nat) (d : List Nat) : Bool :=
  d.all fun c => (List.range listed.size).all fun k => !listed.getD k false || (cls.getD k 0 != c || waits md ops ops.size j k)
def okC (md : Region.Mode) (ops : Array Oper) (cls : List Nat) : OC → Array Bool → Bool
  | .nil, listed => (Region.ready md ops listed).isEmpty
  | .q i t, listed => Region.free md ops listed i && (Region.ready md ops listed).contains i && okC md ops cls t (listed.setIfInBounds i true)
  | .x i d t, listed => Region.ready md ops listed == [i] && (dropsB md ops cls listed i d && okC md ops cls t (listed.setIfInBounds i true))
  | .br i d t j d' u, listed => (Region.ready md ops listed == [i, j] || Region.ready md ops listed == [j, i]) && (t.len == u.len && (dropsB md ops cls listed i d && (dropsB md ops cls listed j d' && (okC md ops cls t (listed.setIfInBounds i true) && okC md ops cls u (listed.setIfInBounds j true)))))
theorem dropsB_spec {listed : Array Bool} {j : Nat} {d : List Nat} (h : dropsB md ops cls listed j d = true) : ∀ c ∈ d, Drops md ops cls listed j c := fun c hc k hk hck => by
  have hks : k < listed.size := by
    rcases Nat.lt_or_ge k listed.size with h' | h'
    · exact h'
    · simp [Array.getElem?_eq_none h'] at hk
  have := List.all_eq_true.1 (List.all_eq_true.1 h c hc) k (List.mem_range.2 hks)
  rw [hk, hck] at this
  exact ⟨_, by simpa using this⟩

/-- what an operation that is carried out must leave -/
def StepC (P : Program) (ops : Array Oper) (Q : Exit → Act → World → Prop) (G : (Nat → World → Prop) → Act → World → Prop) (i : Nat) (d : List Nat) (S : Nat → World → Prop) (a : Act) (w : World) : Prop :=
  ∃ o, ops[i]? = some o ∧ if Region.wanted o (yielded ops a.tmps) then o.wp P a w (fun a' w' => ∃ S' : Nat → World → Prop, (∀ c, c ∈ d ∨ ∀ x, S' c x → S c x) ∧ (∀ c, S' c w') ∧ G S' a' w') Q else G S (a.put o.dst undef) w
def wpC (P : Program) (ops : Array Oper) (Q : Exit → Act → World → Prop) (cls : List Nat) : OC → (Nat → World → Prop) → Act → World → Prop
  | .nil, _, a, w => Q .normal a w
  | .q i t, S, a, w => ∃ o v, ops[i]? = some o ∧ YieldsIf P ops (S (cls.getD i 0)) o v a ∧ wpC P ops Q cls t S (a.put o.dst v) w
  | .x i d t, S, a, w => StepC P ops Q (wpC P ops Q cls t) i d S a w
  | .br i d t j d' u, S, a, w => StepC P ops Q (wpC P ops Q cls t) i d S a w ∧ StepC P ops Q (wpC P ops Q cls u) j d' S a w

theorem stepC_op {n i : Nat} {d : List Nat} {S : Nat → World → Prop} {listed : Array Bool} {a : Act} {w : World} {G : (Nat → World → Prop) → Act → World → Prop} (hS : ∀ c, S c w) (hd : dropsB md ops cls listed i d = true)
    (h : StepC P ops Q G i d S a w)
    (hG : ∀ S' a' w', (∀ c, S' c w') → G S' a' w' → wpAnyC P md ops Q cls n S' (listed.setIfInBounds i true) a' w') :
    wpOp P ops Q i (fun a' w' => ∃ S' : Nat → World → Prop, (∀ c, Drops md ops cls listed i c ∨ ∀ x, S' c x → S c x) ∧ (∀ c, S' c w') ∧ wpAnyC P md ops Q cls n S' (listed.setIfInBounds i true) a' w') a w := by
  obtain ⟨o, ho, h⟩ := h
  unfold wpOp
  simp only [ho]
  split
  · rename_i hw
    rw [if_pos hw] at h
    refine .inl (Oper.wp_mono (fun a' w' h3 => ?_) h)
    obtain ⟨S', hSS, hS', h4⟩ := h3
    exact ⟨S', fun c => (hSS c).imp (dropsB_spec hd c) id, hS', hG _ _ _ hS' h4⟩
  · rename_i hw
    rw [if_neg hw] at h
    exact ⟨S, fun _ => .inr fun _ h => h, hS, hG _ _ _ hS h⟩

theorem wpAnyC_of_tree (hsel : Region.noSelect ops = true) (hQ : ∀ c a d v w, Q (.panic c) (a.put d v) w → Q (.panic c) a w) :
    ∀ (t : OC) (S : Nat → World → Prop) (listed : Array Bool) (a : Act) (w : World), Closed md ops listed → okC md ops cls t listed = true → (∀ c, S c w) → wpC P ops Q cls t S a w → wpAnyC P md ops Q cls t.len S listed a w
  | .nil, S, listed, a, w, _, hk, _, h => ⟨by simpa [okC] using hk, h⟩
  | .q i t, S, listed, a, w, hcl, hk, hS, h => by
    simp only [okC, Bool.and_eq_true] at hk
    obtain ⟨o, v, ho, hy, h⟩ := h
    have hr : i ∈ Region.ready md ops listed := by simpa using hk.1.2
    exact wpAnyC_first ho (Region.noSelect_spec hsel) (fun c a w => hQ c a _ _ w) _ S listed a w hcl (Region.free_spec ho hk.1.1) hr hy hS
      (wpAnyC_of_tree hsel hQ t S _ _ w (closed_set hcl hr) hk.2 hS h)
  | .x i d t, S, listed, a, w, hcl, hk, hS, h => by
    simp only [okC, Bool.and_eq_true, beq_iff_eq] at hk
    refine ⟨fun h0 => (by rw [hk.1] at h0; cases h0), fun j hj => ?_⟩
    have hj0 := hj
    rw [hk.1] at hj
    obtain rfl : j = i := by simpa using hj
    exact stepC_op hS hk.2.1 h (fun S' a' w' hS' h4 => wpAnyC_of_tree hsel hQ t S' _ a' w' (closed_set hcl hj0) hk.2.2 hS' h4)
  | .br i d t j d' u, S, listed, a, w, hcl, hk, hS, h => by
    simp only [okC, Bool.and_eq_true, Bool.or_eq_true, beq_iff_eq] at hk
    refine ⟨fun h0 => (by rcases hk.1 with h1 | h1 <;> rw [h1] at h0 <;> cases h0), fun k hj => ?_⟩
    have hj0 := hj
    have hj : k = i ∨ k = j := by
      rcases hk.1 with h1 | h1
      · rw [h1] at hj; simpa using hj
      · rw [h1] at hj; exact (by simpa using hj : k = j ∨ k = i).symm
    have hlen : t.len = u.len := hk.2.1
    rcases hj with rfl | rfl
    · exact stepC_op hS hk.2.2.1 h.1 (fun S' a' w' hS' h4 => wpAnyC_of_tree hsel hQ t S' _ a' w' (closed_set hcl hj0) hk.2.2.2.2.1 hS' h4)
    · refine stepC_op hS hk.2.2.2.1 h.2 (fun S' a' w' hS' h4 => ?_)
      rw [hlen]
      exact wpAnyC_of_tree hsel hQ u S' _ a' w' (closed_set hcl hj0) hk.2.2.2.2.2 hS' h4

theorem wpC_q {i : Nat} {t : OC} {S : Nat → World → Prop} {a : Act} {w : World} {o : Oper} {v : Value} (ho : ops[i]? = some o) (hw : Region.wanted o (yielded ops a.tmps) = true) (hy : ∀ W, S (cls.getD i 0) W → (execOp a.eval o).run P W = .ok (.value v) W)
    (h : wpC P ops Q cls t S (a.put o.dst v) w) : wpC P ops Q cls (.q i t) S a w := ⟨o, v, ho, .inl ⟨hw, hy⟩, h⟩
theorem wpC_n {i : Nat} {t : OC} {S : Nat → World → Prop} {a : Act} {w : World} {o : Oper} (ho : ops[i]? = some o) (hw : Region.wanted o (yielded ops a.tmps) = false)
    (h : wpC P ops Q cls t S (a.put o.dst undef) w) : wpC P ops Q cls (.q i t) S a w := ⟨o, undef, ho, .inr ⟨hw, rfl⟩, h⟩
theorem wpC_x {i : Nat} {d : List Nat} {t : OC} {S : Nat → World → Prop} {a : Act} {w : World} {o : Oper} (ho : ops[i]? = some o) (hw : Region.wanted o (yielded ops a.tmps) = true)
    (h : ∀ K : Act → World → Prop, (∀ (S' : Nat → World → Prop) a' w', (∀ c, c ∈ d ∨ ∀ x, S' c x → S c x) → (∀ c, S' c w') → wpC P ops Q cls t S' a' w' → K a' w') → o.wp P a w K Q) : wpC P ops Q cls (.x i d t) S a w :=
  ⟨o, ho, by rw [if_pos hw]; exact h _ fun S' a' w' h1 h2 h3 => ⟨S', h1, h2, h3⟩⟩
/-- the classes stay what they are -/
theorem wpC_xs {i : Nat} {d : List Nat} {t : OC} {S : Nat → World → Prop} {a : Act} {w : World} {o : Oper} (ho : ops[i]? = some o) (hw : Region.wanted o (yielded ops a.tmps) = true)
    (h : ∀ K : Act → World → Prop, (∀ a' w', (∀ c, S c w') → wpC P ops Q cls t S a' w' → K a' w') → o.wp P a w K Q) : wpC P ops Q cls (.x i d t) S a w :=
  ⟨o, ho, by rw [if_pos hw]; exact h _ fun a' w' h2 h3 => ⟨S, fun _ => .inr fun _ h => h, h2, h3⟩⟩
theorem wpC_br {i j : Nat} {d d' : List Nat} {t u : OC} {S : Nat → World → Prop} {a : Act} {w : World} (h1 : wpC P ops Q cls (.x i d t) S a w) (h2 : wpC P ops Q cls (.x j d' u) S a w) : wpC P ops Q cls (.br i d t j d' u) S a w := ⟨h1, h2⟩
theorem wpC_nil {S : Nat → World → Prop} {a : Act} {w : World} (h : Q .normal a w) : wpC P ops (NoPanic Q) cls .nil S a w := h

/-- a part of the tree, walked once -/
theorem wpC_have {t t0 : OC} {S : Nat → World → Prop} {a0 : Act} {w0 : World} (F : Act → World → Prop) (h1 : ∀ a w, F a w → wpC P ops Q cls t S a w) (h2 : (∀ a w, F a w → wpC P ops Q cls t S a w) → wpC P ops Q cls t0 S a0 w0) : wpC P ops Q cls t0 S a0 w0 := h2 h1

/-- another name for the frame -/
theorem wpC_act {t : OC} {S : Nat → World → Prop} {a : Act} {w : World} (F : Act → Prop) (hF : F a) (h : ∀ a', F a' → wpC P ops Q cls t S a' w) : wpC P ops Q cls t S a w := h a hF

/-- THE BEGINNING. -/
theorem wp_region_C {id : Nat} {a : Act} {w : World} {l : List Oper} (cls : List Nat) (t : OC) (S : Nat → World → Prop) (hm : P.follows .mixedOrders = true)
    (hk : (Region.noSelect l.toArray && (decide (t.len = l.length) && okC .any l.toArray cls t (Array.replicate l.length false))) = true)
    (hS : ∀ c, S c w.drew) (h : wpC P l.toArray (NoPanic Q) cls t S a w.drew) : (Code.region id l.toArray true).wp P Q a w := by
  simp only [Bool.and_eq_true, decide_eq_true_eq] at hk
  obtain ⟨hn, hl, hk⟩ := hk
  refine wp_region_noPanic (wp_region_any hm ?_)
  have hcl : Closed .any l.toArray (Array.replicate l.length false) := fun j oj _ hj => by
    rcases Nat.lt_or_ge j l.length with h' | h' <;> simp [h'] at hj
  have := wpAny_of_C _ _ _ _ _ (wpAnyC_of_tree (md := .any) (cls := cls) hn (fun _ _ _ _ _ h => h) t S (Array.replicate l.length false) a w.drew hcl hk hS h)
  rw [hl] at this
  simpa using this
end

/-! ### a frame under a name -/
theorem at_act {P : Program} {c : Code} {Q : Exit → Act → World → Prop} {a : Act} {w : World} (F : Act → Prop) (hF : F a) (h : ∀ a', a' = a → F a' → Code.wp P c Q a' w) : Code.wp P c Q a w := h a rfl hF
theorem Act.eval_put_tmp (a : Act) (d t : Nat) (v : Value) (h : d < a.tmps.size) : (a.put (some d) v).eval (.tmp t) = if d = t then v else a.eval (.tmp t) := by
  simp only [Act.put, Act.eval]
  by_cases e : d = t
  · subst e
    simp [Array.getD_eq_getD_getElem?, h]
  · rw [if_neg e]
    simp [Array.getD_eq_getD_getElem?, Array.getElem?_setIfInBounds_ne e]
theorem Act.eval_put_none (a : Act) (t : Operand) (v : Value) : (a.put none v).eval t = a.eval t := rfl
theorem Act.size_put (a : Act) (d : Option Nat) (v : Value) : (a.put d v).tmps.size = a.tmps.size := by cases d <;> simp [Act.put]
theorem Act.defers_put (a : Act) (d : Option Nat) (v : Value) : (a.put d v).defers = a.defers := by cases d <;> rfl
theorem Act.eval_const' (a : Act) (v : Value) : a.eval (.const v) = v := rfl
theorem Act.eval_func' (a : Act) (f : Nat) : a.eval (.func f) = .func (.func f) #[] #[] := rfl

end Go.Proofs.Ytoeejeieplhifaa

/- A region that draws its order, walked in a tree of orders, each read's knowledge of the world in a class of its own: an operation that waits for all reads of a class may break what that class knows. No program in sight. Configurations in memory: what a pointer at one that is being made stands for. Configurations: a label that is added. Configurations in small numbers: labels of a size are right. No program in sight. -/
import Derived.Test.YthmkgohfeahdhaaGreatDiPlaysLawP1
import Derived.StringKeys
namespace Go.Proofs.YthmkgohfeahdhaaGreat
open Go.RowKit
set_option linter.unusedSimpArgs false
set_option linter.unusedVariables false

section
variable {P : Program} {ops : Array Oper} {Q : Exit → Act → World → Prop} {md : Region.Mode}

/-- j waits for all of class c that have come up -/
def Drops (md : Region.Mode) (ops : Array Oper) (cls : List Nat) (listed : Array Bool) (j c : Nat) : Prop :=
  ∀ i, listed.getD i false = true → cls.getD i 0 = c → ∃ n, waits md ops n j i = true

def wpAnyC (P : Program) (md : Region.Mode) (ops : Array Oper) (Q : Exit → Act → World → Prop) (cls : List Nat) : Nat → (Nat → World → Prop) → Array Bool → Act → World → Prop
  | 0, _, listed, a, w => Region.ready md ops listed = [] ∧ Q .normal a w
  | fuel + 1, S, listed, a, w =>
    (Region.ready md ops listed = [] → Q .normal a w) ∧
    ∀ i ∈ Region.ready md ops listed, wpOp P ops Q i (fun a' w' => ∃ S' : Nat → World → Prop, (∀ c, Drops md ops cls listed i c ∨ ∀ x, S' c x → S c x) ∧ (∀ c, S' c w') ∧ wpAnyC P md ops Q cls fuel S' (listed.setIfInBounds i true) a' w') a w

variable {cls : List Nat}
theorem wpAny_of_C : ∀ (fuel : Nat) (S : Nat → World → Prop) (listed : Array Bool) (a : Act) (w : World), wpAnyC P md ops Q cls fuel S listed a w → wpAny P md ops Q fuel listed a w
  | 0, _, _, _, _, h => h
  | fuel + 1, _, _, _, _, h => ⟨h.1, fun i hi => wpOp_mono (fun a' w' ⟨S', _, _, h'⟩ => wpAny_of_C fuel S' _ a' w' h') (h.2 i hi)⟩

theorem wpAnyC_first {i : Nat} {oi : Oper} {v : Value} (hi : ops[i]? = some oi) (hsel : ∀ (j : Nat) (o : Oper) cs b, ops[j]? = some o → o.op ≠ .select cs b)
    (hQ : ∀ c a w, Q (.panic c) (a.put oi.dst v) w → Q (.panic c) a w) :
    ∀ (fuel : Nat) (S : Nat → World → Prop) (listed : Array Bool) (a : Act) (w : World), Closed md ops listed →
      (∀ j oj, ops[j]? = some oj → j ≠ i → listed.getD j true = false → (∀ e ∈ oj.after, Region.binds md e = true → e.on ≠ i) → oi.apart ops oj = true) →
      i ∈ Region.ready md ops listed → YieldsIf P ops (S (cls.getD i 0)) oi v a → (∀ c, S c w) →
      wpAnyC P md ops Q cls fuel S (listed.setIfInBounds i true) (a.put oi.dst v) w → wpAnyC P md ops Q cls (fuel + 1) S listed a w := by
  intro fuel
  induction fuel with
  | zero =>
    intro S listed a w _ _ hr hy hS H
    refine ⟨fun h => (by rw [h] at hr; cases hr), fun j hj => ?_⟩
    by_cases hji : j = i
    · subst hji; exact hy.wpOp hi (hS _) ⟨S, fun _ => .inr fun _ h => h, hS, H⟩
    · have := ready_mono hj hji
      rw [H.1] at this
      cases this
  | succ fuel ih =>
    intro S listed a w hcl hfree hr hy hS H
    refine ⟨fun h => (by rw [h] at hr; cases hr), fun j hj => ?_⟩
    by_cases hji : j = i
    · subst hji; exact hy.wpOp hi (hS _) ⟨S, fun _ => .inr fun _ h => h, hS, H⟩
    · have h1 := H.2 j (ready_mono hj hji)
      obtain ⟨hjun, oj, hoj, hall⟩ := mem_ready.1 hj
      have hlt : i < listed.size := by
        rcases Nat.lt_or_ge i listed.size with h' | h'
        · exact h'
        · have h0 := (mem_ready.1 hr).1
          simp [Array.getElem?_eq_none h'] at h0
      have hun : listed.getD i false = false := by
        have h0 := (mem_ready.1 hr).1
        simp [hlt] at h0 ⊢
        exact h0
      have hnot : ∀ e ∈ oj.after, Region.binds md e = true → e.on ≠ i := fun e he hb heq => by
        have h1 := hall e he hb
        rw [heq, hun] at h1
        cases h1
      have hnodrop : ¬ Drops md ops cls (listed.setIfInBounds i true) j (cls.getD i 0) := fun hb => by
        obtain ⟨n, hn⟩ := hb i (by simp [hlt]) rfl
        have := ready_waits hcl hj hn
        rw [hun] at this
        cases this
      have h2 := wpOp_putIf hoj (hfree j oj hoj hji hjun hnot) (fun cs b => hsel i oi cs b hi) (fun cs b => hsel j oj cs b hoj) hQ hy h1
      have hfree' : ∀ k ok, ops[k]? = some ok → k ≠ i → (listed.setIfInBounds j true).getD k true = false →
          (∀ e ∈ ok.after, Region.binds md e = true → e.on ≠ i) → oi.apart ops ok = true := fun k ok hk hki hun hno => by
        refine hfree k ok hk hki ?_ hno
        by_cases hjk : j = k
        · subst hjk; exact hjun
        · rw [getD_set_ne true hjk] at hun; exact hun
      refine wpOp_mono (fun a' w' h3 => ?_) h2
      obtain ⟨hy', S', hSS, hS', h4⟩ := h3
      have hSi := (hSS (cls.getD i 0)).resolve_left hnodrop
      have hy2 : YieldsIf P ops (S' (cls.getD i 0)) oi v a' := hy'.imp (fun ⟨hw, hv⟩ => ⟨hw, fun x hx => hv x (hSi x hx)⟩) id
      refine ⟨S', fun c => ?_, hS', ih S' (listed.setIfInBounds j true) a' w' (closed_set hcl hj) hfree' (ready_mono hr (Ne.symm hji)) hy2 hS' ?_⟩
      · rcases hSS c with h5 | h5
        · refine .inl fun k hk hc => h5 k ?_ hc
          by_cases hik : i = k
          · subst hik; simp [hlt]
          · rw [getD_set_ne false hik]; exact hk
        · exact .inr h5
      · rw [Array.setIfInBounds_comm _ _ hji]
        exact h4

/-- The orders that are walked. -/
inductive OC where
  | nil : OC
  | q : Nat → OC → OC
  | x : Nat → List Nat → OC → OC
  | br : Nat → List Nat → OC → Nat → List Nat → OC → OC
def OC.len : OC → Nat
  | .nil => 0
  | .q _ t => t.len + 1
  | .x _ _ t => t.len + 1
  | .br _ _ t _ _ _ => t.len + 1
/-- quiet operations, then a tree -/
def OC.qs (is : List Nat) (t : OC) : OC := is.foldr OC.q t
def dropsB (md : Region.Mode) (ops : Array Oper) (cls : List Nat) (listed : Array Bool) (j : Nat) (d : List Nat) : Bool :=
  d.all fun c => (List.range listed.size).all fun k => !listed.getD k false || (cls.getD k 0 != c || waits md ops ops.size j k)
def okC (md : Region.Mode) (ops : Array Oper) (cls : List Nat) : OC → Array Bool → Bool
  | .nil, listed => (Region.ready md ops listed).isEmpty
  | .q i t, listed => Region.free md ops listed i && (Region.ready md ops listed).contains i && okC md ops cls t (listed.setIfInBounds i true)
  | .x i d t, listed => Region.ready md ops listed == [i] && (dropsB md ops cls listed i d && okC md ops cls t (listed.setIfInBounds i true))
  | .br i d t j d' u, listed => (Region.ready md ops listed == [i, j] || Region.ready md ops listed == [j, i]) && (t.len == u.len && (dropsB md ops cls listed i d && (dropsB md ops cls listed j d' && (okC md ops cls t (listed.setIfInBounds i true) && okC md ops cls u (listed.setIfInBounds j true)))))
theorem dropsB_spec {listed : Array Bool} {j : Nat} {d : List Nat} (h : dropsB md ops cls listed j d = true) : ∀ c ∈ d, Drops md ops cls listed j c := fun c hc k hk hck => by
  have hks : k < listed.size := by
    rcases Nat.lt_or_ge k listed.size with h' | h'
    · exact h'
    · simp [Array.getElem?_eq_none h'] at hk
  have := List.all_eq_true.1 (List.all_eq_true.1 h c hc) k (List.mem_range.2 hks)
  rw [hk, hck] at this
  exact ⟨_, by simpa using this⟩

/-- what an operation that is carried out must leave -/
def StepC (P : Program) (ops : Array Oper) (Q : Exit → Act → World → Prop) (G : (Nat → World → Prop) → Act → World → Prop) (i : Nat) (d : List Nat) (S : Nat → World → Prop) (a : Act) (w : World) : Prop :=
  ∃ o, ops[i]? = some o ∧ if Region.wanted o (yielded ops a.tmps) then o.wp P a w (fun a' w' => ∃ S' : Nat → World → Prop, (∀ c, c ∈ d ∨ ∀ x, S' c x → S c x) ∧ (∀ c, S' c w') ∧ G S' a' w') Q else G S (a.put o.dst undef) w
def wpC (P : Program) (ops : Array Oper) (Q : Exit → Act → World → Prop) (cls : List Nat) : OC → (Nat → World → Prop) → Act → World → Prop
  | .nil, _, a, w => Q .normal a w
  | .q i t, S, a, w => ∃ o v, ops[i]? = some o ∧ YieldsIf P ops (S (cls.getD i 0)) o v a ∧ wpC P ops Q cls t S (a.put o.dst v) w
  | .x i d t, S, a, w => StepC P ops Q (wpC P ops Q cls t) i d S a w
  | .br i d t j d' u, S, a, w => StepC P ops Q (wpC P ops Q cls t) i d S a w ∧ StepC P ops Q (wpC P ops Q cls u) j d' S a w

theorem stepC_op {n i : Nat} {d : List Nat} {S : Nat → World → Prop} {listed : Array Bool} {a : Act} {w : World} {G : (Nat → World → Prop) → Act → World → Prop} (hS : ∀ c, S c w) (hd : dropsB md ops cls listed i d = true)
    (h : StepC P ops Q G i d S a w)
    (hG : ∀ S' a' w', (∀ c, S' c w') → G S' a' w' → wpAnyC P md ops Q cls n S' (listed.setIfInBounds i true) a' w') :
    wpOp P ops Q i (fun a' w' => ∃ S' : Nat → World → Prop, (∀ c, Drops md ops cls listed i c ∨ ∀ x, S' c x → S c x) ∧ (∀ c, S' c w') ∧ wpAnyC P md ops Q cls n S' (listed.setIfInBounds i true) a' w') a w := by
  obtain ⟨o, ho, h⟩ := h
  unfold wpOp
  simp only [ho]
  split
  · rename_i hw
    rw [if_pos hw] at h
    refine .inl (Oper.wp_mono (fun a' w' h3 => ?_) h)
    obtain ⟨S', hSS, hS', h4⟩ := h3
    exact ⟨S', fun c => (hSS c).imp (dropsB_spec hd c) id, hS', hG _ _ _ hS' h4⟩
  · rename_i hw
    rw [if_neg hw] at h
    exact ⟨S, fun _ => .inr fun _ h => h, hS, hG _ _ _ hS h⟩

theorem wpAnyC_of_tree (hsel : Region.noSelect ops = true) (hQ : ∀ c a d v w, Q (.panic c) (a.put d v) w → Q (.panic c) a w) :
    ∀ (t : OC) (S : Nat → World → Prop) (listed : Array Bool) (a : Act) (w : World), Closed md ops listed → okC md ops cls t listed = true → (∀ c, S c w) → wpC P ops Q cls t S a w → wpAnyC P md ops Q cls t.len S listed a w
  | .nil, S, listed, a, w, _, hk, _, h => ⟨by simpa [okC] using hk, h⟩
  | .q i t, S, listed, a, w, hcl, hk, hS, h => by
    simp only [okC, Bool.and_eq_true] at hk
    obtain ⟨o, v, ho, hy, h⟩ := h
    have hr : i ∈ Region.ready md ops listed := by simpa using hk.1.2
    exact wpAnyC_first ho (Region.noSelect_spec hsel) (fun c a w => hQ c a _ _ w) _ S listed a w hcl (Region.free_spec ho hk.1.1) hr hy hS
      (wpAnyC_of_tree hsel hQ t S _ _ w (closed_set hcl hr) hk.2 hS h)
  | .x i d t, S, listed, a, w, hcl, hk, hS, h => by
    simp only [okC, Bool.and_eq_true, beq_iff_eq] at hk
    refine ⟨fun h0 => (by rw [hk.1] at h0; cases h0), fun j hj => ?_⟩
    have hj0 := hj
    rw [hk.1] at hj
    obtain rfl : j = i := by simpa using hj
    exact stepC_op hS hk.2.1 h (fun S' a' w' hS' h4 => wpAnyC_of_tree hsel hQ t S' _ a' w' (closed_set hcl hj0) hk.2.2 hS' h4)
  | .br i d t j d' u, S, listed, a, w, hcl, hk, hS, h => by
    simp only [okC, Bool.and_eq_true, Bool.or_eq_true, beq_iff_eq] at hk
    refine ⟨fun h0 => (by rcases hk.1 with h1 | h1 <;> rw [h1] at h0 <;> cases h0), fun k hj => ?_⟩
    have hj0 := hj
    have hj : k = i ∨ k = j := by
      rcases hk.1 with h1 | h1
      · rw [h1] at hj; simpa using hj
      · rw [h1] at hj; exact (by simpa using hj : k = j ∨ k = i).symm
    have hlen : t.len = u.len := hk.2.1
    rcases hj with rfl | rfl
    · exact stepC_op hS hk.2.2.1 h.1 (fun S' a' w' hS' h4 => wpAnyC_of_tree hsel hQ t S' _ a' w' (closed_set hcl hj0) hk.2.2.2.2.1 hS' h4)
    · refine stepC_op hS hk.2.2.2.1 h.2 (fun S' a' w' hS' h4 => ?_)
      rw [hlen]
      exact wpAnyC_of_tree hsel hQ u S' _ a' w' (closed_set hcl hj0) hk.2.2.2.2.2 hS' h4

theorem wpC_q {i : Nat} {t : OC} {S : Nat → World → Prop} {a : Act} {w : World} {o : Oper} {v : Value} (ho : ops[i]? = some o) (hw : Region.wanted o (yielded ops a.tmps) = true) (hy : ∀ W, S (cls.getD i 0) W → (execOp a.eval o).run P W = .ok (.value v) W)
    (h : wpC P ops Q cls t S (a.put o.dst v) w) : wpC P ops Q cls (.q i t) S a w := ⟨o, v, ho, .inl ⟨hw, hy⟩, h⟩
theorem wpC_x {i : Nat} {d : List Nat} {t : OC} {S : Nat → World → Prop} {a : Act} {w : World} {o : Oper} (ho : ops[i]? = some o) (hw : Region.wanted o (yielded ops a.tmps) = true)
    (h : ∀ K : Act → World → Prop, (∀ (S' : Nat → World → Prop) a' w', (∀ c, c ∈ d ∨ ∀ x, S' c x → S c x) → (∀ c, S' c w') → wpC P ops Q cls t S' a' w' → K a' w') → o.wp P a w K Q) : wpC P ops Q cls (.x i d t) S a w :=
  ⟨o, ho, by rw [if_pos hw]; exact h _ fun S' a' w' h1 h2 h3 => ⟨S', h1, h2, h3⟩⟩
/-- the classes stay what they are -/
theorem wpC_xs {i : Nat} {d : List Nat} {t : OC} {S : Nat → World → Prop} {a : Act} {w : World} {o : Oper} (ho : ops[i]? = some o) (hw : Region.wanted o (yielded ops a.tmps) = true)
    (h : ∀ K : Act → World → Prop, (∀ a' w', (∀ c, S c w') → wpC P ops Q cls t S a' w' → K a' w') → o.wp P a w K Q) : wpC P ops Q cls (.x i d t) S a w :=
  ⟨o, ho, by rw [if_pos hw]; exact h _ fun a' w' h2 h3 => ⟨S, fun _ => .inr fun _ h => h, h2, h3⟩⟩
theorem wpC_br {i j : Nat} {d d' : List Nat} {t u : OC} {S : Nat → World → Prop} {a : Act} {w : World} (h1 : wpC P ops Q cls (.x i d t) S a w) (h2 : wpC P ops Q cls (.x j d' u) S a w) : wpC P ops Q cls (.br i d t j d' u) S a w := ⟨h1, h2⟩
theorem wpC_nil {S : Nat → World → Prop} {a : Act} {w : World} (h : Q .normal a w) : wpC P ops (NoPanic Q) cls .nil S a w := h

/-- a part of the tree, walked once -/
theorem wpC_have {t t0 : OC} {S : Nat → World → Prop} {a0 : Act} {w0 : World} (F : Act → World → Prop) (h1 : ∀ a w, F a w → wpC P ops Q cls t S a w) (h2 : (∀ a w, F a w → wpC P ops Q cls t S a w) → wpC P ops Q cls t0 S a0 w0) : wpC P ops Q cls t0 S a0 w0 := h2 h1

/-- another name for the frame -/
theorem wpC_act {t : OC} {S : Nat → World → Prop} {a : Act} {w : World} (F : Act → Prop) (hF : F a) (h : ∀ a', F a' → wpC P ops Q cls t S a' w) : wpC P ops Q cls t S a w := h a hF

/-- THE BEGINNING. -/
theorem wp_region_C {id : Nat} {a : Act} {w : World} {l : List Oper} (cls : List Nat) (t : OC) (S : Nat → World → Prop) (hm : P.follows .mixedOrders = true)
    (hk : (Region.noSelect l.toArray && (decide (t.len = l.length) && okC .any l.toArray cls t (Array.replicate l.length false))) = true)
    (hS : ∀ c, S c w.drew) (h : wpC P l.toArray (NoPanic Q) cls t S a w.drew) : (Code.region id l.toArray true).wp P Q a w := by
  simp only [Bool.and_eq_true, decide_eq_true_eq] at hk
  obtain ⟨hn, hl, hk⟩ := hk
  refine wp_region_noPanic (wp_region_any hm ?_)
  have hcl : Closed .any l.toArray (Array.replicate l.length false) := fun j oj _ hj => by
    rcases Nat.lt_or_ge j l.length with h' | h' <;> simp [h'] at hj
  have := wpAny_of_C _ _ _ _ _ (wpAnyC_of_tree (md := .any) (cls := cls) hn (fun _ _ _ _ _ h => h) t S (Array.replicate l.length false) a w.drew hcl hk hS h)
  rw [hl] at this
  simpa using this
end

/-! ### a frame under a name -/
theorem at_act {P : Program} {c : Code} {Q : Exit → Act → World → Prop} {a : Act} {w : World} (F : Act → Prop) (hF : F a) (h : ∀ a', a' = a → F a' → Code.wp P c Q a' w) : Code.wp P c Q a w := h a rfl hF
theorem Act.eval_put_tmp (a : Act) (d t : Nat) (v : Value) (h : d < a.tmps.size) : (a.put (some d) v).eval (.tmp t) = if d = t then v else a.eval (.tmp t) := by
  simp only [Act.put, Act.eval]
  by_cases e : d = t
  · subst e
    simp [Array.getD_eq_getD_getElem?, h]
  · rw [if_neg e]
    simp [Array.getD_eq_getD_getElem?, Array.getElem?_setIfInBounds_ne e]
theorem Act.eval_put_none (a : Act) (t : Operand) (v : Value) : (a.put none v).eval t = a.eval t := rfl
theorem Act.size_put (a : Act) (d : Option Nat) (v : Value) : (a.put d v).tmps.size = a.tmps.size := by cases d <;> simp [Act.put]
theorem Act.defers_put (a : Act) (d : Option Nat) (v : Value) : (a.put d v).defers = a.defers := by cases d <;> rfl
theorem Act.eval_const' (a : Act) (v : Value) : a.eval (.const v) = v := rfl
theorem Act.eval_func' (a : Act) (f : Nat) : a.eval (.func f) = .func (.func f) #[] #[] := rfl

end Go.Proofs.YthmkgohfeahdhaaGreat
namespace Go.Proofs.YthmkgohfeahdhaaGreat
open Go.RowKit Go.WideMaps
set_option linter.unusedSimpArgs false
set_option linter.unusedVariables false

theorem conf_laid : laidOutB Tryz.prog = true := by kernel_rfl
theorem wf_u8 (x : UInt8) : (Lit.int .u8 (x.toNat : Int)).wf = true := by
  have := x.toNat_lt
  have h1 : IntKind.u8.min = 0 := by decide
  have h2 : IntKind.u8.max = 255 := by decide
  simp [Lit.wf, h1, h2]; omega
theorem wf_u16 (x : UInt16) : (Lit.int .u16 (x.toNat : Int)).wf = true := by
  have := x.toNat_lt
  have h1 : IntKind.u16.min = 0 := by decide
  have h2 : IntKind.u16.max = 65535 := by decide
  simp [Lit.wf, h1, h2]; omega
/-- two numbers as a struct -/
def dkv (k : UInt8 × UInt16) : Value := .agg #[.int .u8 (k.1.toNat : Int), .int .u16 (k.2.toNat : Int)]
theorem dkv_inj (a b : UInt8 × UInt16) (h : dkv a = dkv b) : a = b := by
  obtain ⟨a1, a2⟩ := a
  obtain ⟨b1, b2⟩ := b
  simp only [dkv, Value.agg.injEq, Array.mk.injEq, List.cons.injEq, Value.int.injEq, true_and, and_true] at h
  obtain ⟨h1, h2⟩ := h
  have e1 : a1 = b1 := UInt8.toNat_inj.1 (by omega)
  have e2 : a2 = b2 := UInt16.toNat_inj.1 (by omega)
  rw [e1, e2]
theorem labReads (l : UInt8) (c : UInt16) : ∃ lt, keyOf Tryz.prog 39 (.agg #[.int .u8 (l.toNat : Int), .int .u16 (c.toNat : Int)]) = some lt := by
  have hkt : Tryz.prog.keyType 39 = true := by kernel_rfl
  have h1 : Tryz.prog.cellsOf 39 = 2 := by kernel_rfl
  have h3 : Tryz.prog.cellsOf 5 = 1 := by kernel_rfl
  have h4 : Tryz.prog.cellsOf 37 = 1 := by kernel_rfl
  have hs : ∃ k, Tryz.prog.types.size + 1 = k + 3 := ⟨Tryz.prog.types.size - 2, by have : 2 ≤ Tryz.prog.types.size := (by decide +kernel); omega⟩
  obtain ⟨k, hk⟩ := hs
  have a2 : ∀ j (x : UInt8), Tryz.prog.keyLits (j + 1) 5 [.int .u8 (x.toNat : Int)] = some [.int .u8 (x.toNat : Int)] := fun j x => by unfold Program.keyLits; rw [Tryz.underlying5]; simp [wf_u8]
  have a3 : ∀ j (x : UInt16), Tryz.prog.keyLits (j + 1) 37 [.int .u16 (x.toNat : Int)] = some [.int .u16 (x.toNat : Int)] := fun j x => by unfold Program.keyLits; rw [Tryz.underlying37]; simp [wf_u16]
  have e : Tryz.prog.keyLits (k + 3) 39 [.int .u8 (l.toNat : Int), .int .u16 (c.toNat : Int)] = some [.int .u8 (l.toNat : Int), .int .u16 (c.toNat : Int)] := by
    unfold Program.keyLits
    rw [Tryz.underlying39]
    simp [h1, h3, h4, a2, a3]
  unfold keyOf
  rw [Tryz.underlying39, hk]
  simp [hkt, Value.formed, Tryz.underlying39, h1, Value.cells, e]
theorem markReads (l : UInt8) (c : UInt16) : ∃ lt, keyOf Tryz.prog 199 (.agg #[.int .u8 (l.toNat : Int), .int .u16 (c.toNat : Int)]) = some lt := by
  have hkt : Tryz.prog.keyType 199 = true := by kernel_rfl
  have h1 : Tryz.prog.cellsOf 199 = 2 := by kernel_rfl
  have h3 : Tryz.prog.cellsOf 5 = 1 := by kernel_rfl
  have h4 : Tryz.prog.cellsOf 37 = 1 := by kernel_rfl
  have hs : ∃ k, Tryz.prog.types.size + 1 = k + 3 := ⟨Tryz.prog.types.size - 2, by have : 2 ≤ Tryz.prog.types.size := (by decide +kernel); omega⟩
  obtain ⟨k, hk⟩ := hs
  have a2 : ∀ j (x : UInt8), Tryz.prog.keyLits (j + 1) 5 [.int .u8 (x.toNat : Int)] = some [.int .u8 (x.toNat : Int)] := fun j x => by unfold Program.keyLits; rw [Tryz.underlying5]; simp [wf_u8]
  have a3 : ∀ j (x : UInt16), Tryz.prog.keyLits (j + 1) 37 [.int .u16 (x.toNat : Int)] = some [.int .u16 (x.toNat : Int)] := fun j x => by unfold Program.keyLits; rw [Tryz.underlying37]; simp [wf_u16]
  have e : Tryz.prog.keyLits (k + 3) 199 [.int .u8 (l.toNat : Int), .int .u16 (c.toNat : Int)] = some [.int .u8 (l.toNat : Int), .int .u16 (c.toNat : Int)] := by
    unfold Program.keyLits
    rw [Tryz.underlying199]
    simp [h1, h3, h4, a2, a3]
  unfold keyOf
  rw [Tryz.underlying199, hk]
  simp [hkt, Value.formed, Tryz.underlying199, h1, Value.cells, e]
theorem labEnc : KeyEnc Tryz.prog 39 dkv where
  keyed := Maps.Keyed.of_law (deep_law_laid conf_laid (m := 2) (by omega) (by decide +kernel) (by kernel_rfl) (by kernel_rfl))
  reads := fun ⟨l, c⟩ => labReads l c
  inj := dkv_inj
theorem markEnc : KeyEnc Tryz.prog 199 dkv where
  keyed := Maps.Keyed.of_law (deep_law_laid conf_laid (m := 2) (by omega) (by decide +kernel) (by kernel_rfl) (by kernel_rfl))
  reads := fun ⟨l, c⟩ => markReads l c
  inj := dkv_inj
/-- a text as a key -/
abbrev SKey := { l : List UInt8 // l.length ≤ maxLen }
def skv (k : SKey) : Value := .string ⟨k.val.toArray⟩
def sk (s : ByteArray) (h : s.size ≤ maxLen) : SKey := ⟨s.data.toList, by rw [← sz s]; exact h⟩
theorem skv_sk (s : ByteArray) (h : s.size ≤ maxLen) : skv (sk s h) = .string s := by cases s; simp [skv, sk]
theorem strEnc : KeyEnc Tryz.prog 9 skv where
  keyed := Maps.string_keyed Tryz.underlying9
  reads := fun ⟨l, h⟩ => ⟨_, keyOf_string_mk Tryz.underlying9 (s := ⟨l.toArray⟩) (by simpa [ByteArray.size] using h)⟩
  inj := fun ⟨a, _⟩ ⟨b, _⟩ h => by
    simp only [skv, Value.string.injEq, ByteArray.mk.injEq] at h
    exact Subtype.ext (List.toArray_inj h)

def skey (l : List UInt8) : SKey := if h : l.length ≤ maxLen then ⟨l, h⟩ else ⟨[], by simp [maxLen]⟩
theorem skey_val {l : List UInt8} (h : l.length ≤ maxLen) : (skey l).val = l := by simp [skey, h]
theorem sk_skey (s : ByteArray) (h : s.size ≤ maxLen) : sk s h = skey s.data.toList := Subtype.ext (by rw [skey_val (by rw [← sz s]; exact h)]; rfl)
theorem name_short {l : List UInt8} (h : nameB l = true) : l.length ≤ 8 := by simp [nameB] at h; omega

def namesFrom : Nat → List RegV → List (SKey × Value)
  | _, [] => []
  | i, r :: rest => (skey r.name, .int .i64 (i : Int)) :: namesFrom (i + 1) rest
def labelsFrom : Nat → List RegV → List ((UInt8 × UInt16) × Value)
  | _, [] => []
  | i, r :: rest => ((r.lev, r.cats), .int .i64 (i : Int)) :: labelsFrom (i + 1) rest
def trustL (K : List MarkV) : List ((UInt8 × UInt16) × Value) := K.map fun m => (m, .bool true)
theorem namesFrom_snoc (i : Nat) (R : List RegV) (r : RegV) : namesFrom i (R ++ [r]) = namesFrom i R ++ [(skey r.name, .int .i64 ((i + R.length : Nat) : Int))] := by
  induction R generalizing i with
  | nil => simp [namesFrom]
  | cons x rest ih => simp [namesFrom, ih]; omega
theorem labelsFrom_snoc (i : Nat) (R : List RegV) (r : RegV) : labelsFrom i (R ++ [r]) = labelsFrom i R ++ [((r.lev, r.cats), .int .i64 ((i + R.length : Nat) : Int))] := by
  induction R generalizing i with
  | nil => simp [labelsFrom]
  | cons x rest ih => simp [labelsFrom, ih]; omega
theorem names_keys (i : Nat) (R : List RegV) : (namesFrom i R).map (·.1) = R.map (fun r => skey r.name) := by
  induction R generalizing i with
  | nil => rfl
  | cons x rest ih => simp [namesFrom, ih]
theorem labels_keys (i : Nat) (R : List RegV) : (labelsFrom i R).map (·.1) = R.map (fun r => (r.lev, r.cats)) := by
  induction R generalizing i with
  | nil => rfl
  | cons x rest ih => simp [labelsFrom, ih]

/-- what a label may be that was added -/
def okReg (r : RegV) : Prop := nameB r.name = true ∧ 4 ≤ r.blocks ∧ r.blocks ≤ 512 ∧ 4 ≤ r.nodes ∧ r.nodes ≤ 128

/-- A configuration that is being made, at c, in memory from block B on: rows of labels, marks, places; maps of marks, names, labels. -/
structure ConfG (B : Nat) (w : World) (c : Nat) (R : List RegV) (G : List GeoV) (tot : Int) (K : List MarkV) (T : List ((UInt8 × UInt16) × Value)) (N : List (SKey × Value)) (L : List ((UInt8 × UInt16) × Value)) (tb nb lb : Nat) (A1 A2 A3 : Option Addr) (c1 c2 c3 : Nat) : Prop where
  blk : Blk w c 179 #[.slice A1 R.length c1, .map (some tb), .slice A2 K.length c2, .map (some nb), .map (some lb), .slice A3 G.length c3, .int .i64 tot]
  regs : w.ownsRow B 41 9 (.slice A1 R.length c1) R.length (rcellsOf R)
  marks : w.ownsRow B 199 2 (.slice A2 K.length c2) K.length (mcellsOf K)
  geos : w.ownsRow B 169 6 (.slice A3 G.length c3) G.length (gcellsOf G)
  tr : MapR dkv w tb T
  nm : MapR skv w nb N
  lm : MapR dkv w lb L
  hc : B ≤ c
  htb : B ≤ tb
  hnb : B ≤ nb
  hlb : B ≤ lb
  n1 : tb ≠ nb
  n2 : tb ≠ lb
  n3 : nb ≠ lb

/-- A configuration at c, of labels R and marks K, in memory from block B on. -/
structure ConfIn (B : Nat) (w : World) (c : Nat) (R : List RegV) (K : List MarkV) (tb nb lb : Nat) (A1 A2 A3 : Option Addr) (c1 c2 c3 : Nat) : Prop
    extends ConfG B w c R (geosOf 32 R) (totalOf 32 R) K (trustL K) (namesFrom 0 R) (labelsFrom 0 R) tb nb lb A1 A2 A3 c1 c2 c3 where
  ok : ∀ r ∈ R, okReg r

theorem total_bounds {R : List RegV} (h : ∀ r ∈ R, okReg r) (a : Int) (ha : 0 ≤ a) : 0 ≤ totalOf a R ∧ totalOf a R ≤ a + 577 * (R.length : Int) := by
  induction R generalizing a with
  | nil => simp [totalOf, ha]
  | cons r rest ih =>
    obtain ⟨_, h1, h2, h3, h4⟩ := h r (by simp)
    have hb : 0 ≤ (geoOf a r).end_ ∧ (geoOf a r).end_ ≤ a + 577 := by simp only [geoOf, GeoV.end_]; omega
    have := ih (fun x hx => h x (by simp [hx])) (geoOf a r).end_ hb.1
    simp only [totalOf, List.length_cons]
    omega

section
variable {B : Nat} {w w' : World} {c : Nat} {R : List RegV} {K : List MarkV} {tb nb lb : Nat} {A1 A2 A3 : Option Addr} {c1 c2 c3 : Nat}
variable {G : List GeoV} {tot : Int} {T L : List ((UInt8 × UInt16) × Value)} {N : List (SKey × Value)}
theorem ConfG.keep (h : ConfG B w c R G tot K T N L tb nb lb A1 A2 A3 c1 c2 c3) (hb : ∀ g, g < w.heap.size → w'.heap[g]? = w.heap[g]?) : ConfG B w' c R G tot K T N L tb nb lb A1 A2 A3 c1 c2 c3 where
  blk := (hb c h.blk.lt).trans h.blk
  regs := own_keep h.regs fun g hg => hb g (h.regs.lt g hg).2
  marks := own_keep h.marks fun g hg => hb g (h.marks.lt g hg).2
  geos := own_keep h.geos fun g hg => hb g (h.geos.lt g hg).2
  tr := h.tr.keep (hb _ h.tr.lt)
  nm := h.nm.keep (hb _ h.nm.lt)
  lm := h.lm.keep (hb _ h.lm.lt)
  hc := h.hc
  htb := h.htb
  hnb := h.hnb
  hlb := h.hlb
  n1 := h.n1
  n2 := h.n2
  n3 := h.n3
theorem ConfG.below (h : ConfG B w c R G tot K T N L tb nb lb A1 A2 A3 c1 c2 c3) (hb : Below w.heap.size w w') : ConfG B w' c R G tot K T N L tb nb lb A1 A2 A3 c1 c2 c3 := h.keep fun g hg => hb.block g hg
theorem ConfIn.below (h : ConfIn B w c R K tb nb lb A1 A2 A3 c1 c2 c3) (hb : Below w.heap.size w w') : ConfIn B w' c R K tb nb lb A1 A2 A3 c1 c2 c3 := ⟨h.toConfG.below hb, h.ok⟩
theorem OnlyMap.trans {a b d : World} {m : Nat} (h : OnlyMap a b m) (k : OnlyMap b d m) : OnlyMap a d m :=
  ⟨h.1.andThen k.1 fun j hj => .inr hj, k.2.trans h.2⟩
theorem OnlyMap.blk {a b : World} {m g : Nat} (h : OnlyMap a b m) (hg : g ≠ m) (hl : g < a.heap.size) : b.heap[g]? = a.heap[g]? := h.1.block g hl fun e => hg (by injection e)
/-- another map of names -/
theorem ConfG.names {N' : List (SKey × Value)} (h : ConfG B w c R G tot K T N L tb nb lb A1 A2 A3 c1 c2 c3) (ho : OnlyMap w w' nb) (hm : MapR skv w' nb N') : ConfG B w' c R G tot K T N' L tb nb lb A1 A2 A3 c1 c2 c3 where
  blk := (ho.blk (fun e => blk_not_map h.blk h.nm.is e) h.blk.lt).trans h.blk
  regs := own_keep h.regs fun g hg => ho.blk (fun e => h.nm.is.not_own h.regs (e ▸ hg)) (h.regs.lt g hg).2
  marks := own_keep h.marks fun g hg => ho.blk (fun e => h.nm.is.not_own h.marks (e ▸ hg)) (h.marks.lt g hg).2
  geos := own_keep h.geos fun g hg => ho.blk (fun e => h.nm.is.not_own h.geos (e ▸ hg)) (h.geos.lt g hg).2
  tr := h.tr.keep (ho.blk h.n1 h.tr.lt)
  nm := hm
  lm := h.lm.keep (ho.blk (Ne.symm h.n3) h.lm.lt)
  hc := h.hc
  htb := h.htb
  hnb := h.hnb
  hlb := h.hlb
  n1 := h.n1
  n2 := h.n2
  n3 := h.n3
/-- another map of labels -/
theorem ConfG.labels {L' : List ((UInt8 × UInt16) × Value)} (h : ConfG B w c R G tot K T N L tb nb lb A1 A2 A3 c1 c2 c3) (ho : OnlyMap w w' lb) (hm : MapR dkv w' lb L') : ConfG B w' c R G tot K T N L' tb nb lb A1 A2 A3 c1 c2 c3 where
  blk := (ho.blk (fun e => blk_not_map h.blk h.lm.is e) h.blk.lt).trans h.blk
  regs := own_keep h.regs fun g hg => ho.blk (fun e => h.lm.is.not_own h.regs (e ▸ hg)) (h.regs.lt g hg).2
  marks := own_keep h.marks fun g hg => ho.blk (fun e => h.lm.is.not_own h.marks (e ▸ hg)) (h.marks.lt g hg).2
  geos := own_keep h.geos fun g hg => ho.blk (fun e => h.lm.is.not_own h.geos (e ▸ hg)) (h.geos.lt g hg).2
  tr := h.tr.keep (ho.blk h.n2 h.tr.lt)
  nm := h.nm.keep (ho.blk h.n3 h.nm.lt)
  lm := hm
  hc := h.hc
  htb := h.htb
  hnb := h.hnb
  hlb := h.hlb
  n1 := h.n1
  n2 := h.n2
  n3 := h.n3
/-- another map of marks -/
theorem ConfG.trust {T' : List ((UInt8 × UInt16) × Value)} (h : ConfG B w c R G tot K T N L tb nb lb A1 A2 A3 c1 c2 c3) (ho : OnlyMap w w' tb) (hm : MapR dkv w' tb T') : ConfG B w' c R G tot K T' N L tb nb lb A1 A2 A3 c1 c2 c3 where
  blk := (ho.blk (fun e => blk_not_map h.blk h.tr.is e) h.blk.lt).trans h.blk
  regs := own_keep h.regs fun g hg => ho.blk (fun e => h.tr.is.not_own h.regs (e ▸ hg)) (h.regs.lt g hg).2
  marks := own_keep h.marks fun g hg => ho.blk (fun e => h.tr.is.not_own h.marks (e ▸ hg)) (h.marks.lt g hg).2
  geos := own_keep h.geos fun g hg => ho.blk (fun e => h.tr.is.not_own h.geos (e ▸ hg)) (h.geos.lt g hg).2
  tr := hm
  nm := h.nm.keep (ho.blk (Ne.symm h.n1) h.nm.lt)
  lm := h.lm.keep (ho.blk (Ne.symm h.n2) h.lm.lt)
  hc := h.hc
  htb := h.htb
  hnb := h.hnb
  hlb := h.hlb
  n1 := h.n1
  n2 := h.n2
  n3 := h.n3

set_option maxRecDepth 100000 in
theorem add_name (s : ByteArray) (lv : UInt8) (ct : UInt16) (b n f p q cl many i : Int) (w : World) (hn : nameB s.data.toList = false) :
    Calls Tryz.prog 90 #[.pointer (some ⟨c, 0, none⟩), .int .i64 i, .agg #[.string s, .int .u8 (lv.toNat : Int), .int .u16 (ct.toNat : Int), .int .i64 b, .int .i64 n, .int .i64 f, .int .i64 p, .int .i64 q, .int .i64 cl], .int .i64 many] w fun e w' => e = .returned (.int .i64 30) ∧ Below w.heap.size w w' := by
  go_enter Tryz.func90, Tryz.ntmps90
  go_wp2_with fail
  refine (name_ok _ _).mono ?_
  rw [hn]
  rintro e w1 ⟨rfl, hb⟩
  have HB := hide (((Below.refl w.heap.size w).alloc (Nat.le_refl _) _).trans (hb.mono (by simp)))
  clear hb
  go_wp2
  go_returns
  exact ⟨rfl, HB.out⟩

set_option maxRecDepth 100000 in
theorem add_range (s : ByteArray) (lv : UInt8) (ct : UInt16) (b n f p q cl many i : Int) (w : World) (hn : nameB s.data.toList = true) (h1 : -9000000000000000000 ≤ many) (h2 : many ≤ 9000000000000000000)
    (hr : (decide (lv ≤ 15) && (soundC b n f p q && inB cl 0 (many - 1))) = false) :
    Calls Tryz.prog 90 #[.pointer (some ⟨c, 0, none⟩), .int .i64 i, .agg #[.string s, .int .u8 (lv.toNat : Int), .int .u16 (ct.toNat : Int), .int .i64 b, .int .i64 n, .int .i64 f, .int .i64 p, .int .i64 q, .int .i64 cl], .int .i64 many] w fun e w' => e = .returned (.int .i64 27) ∧ Below w.heap.size w w' := by
  go_enter Tryz.func90, Tryz.ntmps90
  go_wp2_with fail
  refine (name_ok _ _).mono ?_
  rw [hn]
  rintro e w1 ⟨rfl, hb⟩
  refine at_world (fun W => Below w.heap.size w W ∧ Blk W w.heap.size 41 #[.string s, .int .u8 (lv.toNat : Int), .int .u16 (ct.toNat : Int), .int .i64 b, .int .i64 n, .int .i64 f, .int .i64 p, .int .i64 q, .int .i64 cl]) ⟨((Below.refl w.heap.size w).alloc (Nat.le_refl _) _).trans (hb.mono (by simp)), (Blk.new w _ _).below hb (by simp)⟩ (fun W1 h => ?_)
  obtain ⟨hb1, rB⟩ := h
  have x0 := rB.cell 0
  have x1 := rB.cell 1
  have x2 := rB.cell 2
  have x3 := rB.cell 3
  have x4 := rB.cell 4
  have x5 := rB.cell 5
  have x6 := rB.cell 6
  have x7 := rB.cell 7
  have x8 := rB.cell 8
  have xl := rB.lt
  have HB := hide hb1
  have hbn := hb1.size
  clear hb hb1
  go_wp2_with fail
  refine (label_valid _ _ _).mono ?_
  cases hl : decide (lv ≤ 15) with
  | false =>
    rintro e w2 ⟨rfl, hb⟩
    have hb1 := HB.out.trans (hb.mono HB.out.size)
    have rB' := rB.below hb rB.lt
    clear x0 x1 x2 x3 x4 x5 x6 x7 x8 xl
    clear HB rB hb
    have rB := rB'
    clear rB'
    have x0 := rB.cell 0
    have x1 := rB.cell 1
    have x2 := rB.cell 2
    have x3 := rB.cell 3
    have x4 := rB.cell 4
    have x5 := rB.cell 5
    have x6 := rB.cell 6
    have x7 := rB.cell 7
    have x8 := rB.cell 8
    have xl := rB.lt
    have HB := hide hb1
    clear hb1
    clear hr
    go_wp2
    go_returns
    exact ⟨rfl, HB.out⟩
  | true =>
    rw [hl] at hr
    rintro e w2 ⟨rfl, hb⟩
    have hb1 := HB.out.trans (hb.mono HB.out.size)
    have rB' := rB.below hb rB.lt
    clear x0 x1 x2 x3 x4 x5 x6 x7 x8 xl
    clear HB rB hb
    have rB := rB'
    clear rB'
    have x0 := rB.cell 0
    have x1 := rB.cell 1
    have x2 := rB.cell 2
    have x3 := rB.cell 3
    have x4 := rB.cell 4
    have x5 := rB.cell 5
    have x6 := rB.cell 6
    have x7 := rB.cell 7
    have x8 := rB.cell 8
    have xl := rB.lt
    have HB := hide hb1
    clear hb1
    clear hl
    go_wp2_with fail
    refine (sound_ok _ _ _ _ _ _ _ _ _ _).mono ?_
    cases hs : soundC b n f p q with
    | false =>
      rintro e w3 ⟨rfl, hb⟩
      have hb1 := HB.out.trans (hb.mono HB.out.size)
      have rB' := rB.below hb rB.lt
      clear x0 x1 x2 x3 x4 x5 x6 x7 x8 xl
      clear HB rB hb
      have rB := rB'
      clear rB'
      have x0 := rB.cell 0
      have x1 := rB.cell 1
      have x2 := rB.cell 2
      have x3 := rB.cell 3
      have x4 := rB.cell 4
      have x5 := rB.cell 5
      have x6 := rB.cell 6
      have x7 := rB.cell 7
      have x8 := rB.cell 8
      have xl := rB.lt
      have HB := hide hb1
      clear hb1
      clear hr
      go_wp2
      go_returns
      exact ⟨rfl, HB.out⟩
    | true =>
      rw [hs] at hr
      rintro e w3 ⟨rfl, hb⟩
      have hb1 := HB.out.trans (hb.mono HB.out.size)
      have rB' := rB.below hb rB.lt
      clear x0 x1 x2 x3 x4 x5 x6 x7 x8 xl
      clear HB rB hb
      have rB := rB'
      clear rB'
      have x0 := rB.cell 0
      have x1 := rB.cell 1
      have x2 := rB.cell 2
      have x3 := rB.cell 3
      have x4 := rB.cell 4
      have x5 := rB.cell 5
      have x6 := rB.cell 6
      have x7 := rB.cell 7
      have x8 := rB.cell 8
      have xl := rB.lt
      have HB := hide hb1
      clear hb1
      clear hs
      have hw : wrap64 (many - 1) = many - 1 := IntWalk.wrap64_in _ (by omega)
      go_wp2_with fail
      refine (within_ok _ _ _ _).mono ?_
      rw [show inB cl 0 (many - 1) = false by simpa using hr]
      rintro e w4 ⟨rfl, rfl⟩
      clear hr
      go_wp2
      go_returns
      exact ⟨rfl, HB.out⟩
-- PRINTED BELOW (wip/tools/confat.py)

theorem look_names {w : World} {nb : Nat} {L : List (SKey × Value)} (h : MapR skv w nb L) (s : ByteArray) (hs : s.size ≤ maxLen) {v : Value} {b : Bool} (hv : (mget L (sk s hs)).getD (.int .i64 0) = v) (hb : (mget L (sk s hs)).isSome = b) (W : World) (hW : Below w.heap.size w W) :
    (Instr.lookup 175 (.map (some nb)) (.string s) true).run Tryz.prog W = .ok (.tuple #[v, .bool b]) W := by
  rw [← hv, ← hb, ← skv_sk s hs]
  exact (h.is.keep (hW.block nb h.lt)).lookup strEnc Tryz.underlying175 (z := .int .i64 0) (by kernel_rfl) (sk s hs) true
theorem look_labels {w : World} {lb : Nat} {L : List ((UInt8 × UInt16) × Value)} (h : MapR dkv w lb L) (l : UInt8) (c : UInt16) {v : Value} {b : Bool} (hv : (mget L (l, c)).getD (.int .i64 0) = v) (hb : (mget L (l, c)).isSome = b) (W : World) (hW : Below w.heap.size w W) :
    (Instr.lookup 176 (.map (some lb)) (.agg #[.int .u8 (l.toNat : Int), .int .u16 (c.toNat : Int)]) true).run Tryz.prog W = .ok (.tuple #[v, .bool b]) W := by
  rw [← hv, ← hb]
  exact (h.is.keep (hW.block lb h.lt)).lookup labEnc Tryz.underlying176 (z := .int .i64 0) (by kernel_rfl) (l, c) true

set_option maxRecDepth 100000 in
set_option maxHeartbeats 400000 in
theorem add_twice (h : ConfIn B w c R K tb nb lb A1 A2 A3 c1 c2 c3) (s : ByteArray) (lv : UInt8) (ct : UInt16) (b n f p q cl many : Int) (i : Nat) (hn : nameB s.data.toList = true) (h1 : -9000000000000000000 ≤ many) (h2 : many ≤ 9000000000000000000)
    (hr : (decide (lv ≤ 15) && (soundC b n f p q && inB cl 0 (many - 1))) = true) (ht : s.data.toList ∈ R.map (·.name)) :
    Calls Tryz.prog 90 #[.pointer (some ⟨c, 0, none⟩), .int .i64 (i : Int), .agg #[.string s, .int .u8 (lv.toNat : Int), .int .u16 (ct.toNat : Int), .int .i64 b, .int .i64 n, .int .i64 f, .int .i64 p, .int .i64 q, .int .i64 cl], .int .i64 many] w fun e w' => e = .returned (.int .i64 29) ∧ Below w.heap.size w w' := by
  have hsm : s.size ≤ maxLen := by have := name_short hn; have := sz s; simp only [maxLen]; omega
  have hl : decide (lv ≤ 15) = true := by simp only [Bool.and_eq_true] at hr; exact hr.1
  have hs : soundC b n f p q = true := by simp only [Bool.and_eq_true] at hr; exact hr.2.1
  have hcl : inB cl 0 (many - 1) = true := by simp only [Bool.and_eq_true] at hr; exact hr.2.2
  clear hr
  go_enter Tryz.func90, Tryz.ntmps90
  go_wp2_with fail
  refine (name_ok _ _).mono ?_
  rw [hn]
  rintro e w1 ⟨rfl, hb⟩
  refine at_world (fun W => Below w.heap.size w W ∧ Blk W w.heap.size 41 #[.string s, .int .u8 (lv.toNat : Int), .int .u16 (ct.toNat : Int), .int .i64 b, .int .i64 n, .int .i64 f, .int .i64 p, .int .i64 q, .int .i64 cl] ∧ ConfIn B W c R K tb nb lb A1 A2 A3 c1 c2 c3) ⟨((Below.refl w.heap.size w).alloc (Nat.le_refl _) _).trans (hb.mono (by simp)), (Blk.new w _ _).below hb (by simp), h.below (((Below.refl w.heap.size w).alloc (Nat.le_refl _) _).trans (hb.mono (by simp)))⟩ (fun W1 h9 => ?_)
  clear h
  obtain ⟨hb1, rB, h⟩ := h9
  have x0 := rB.cell 0
  have x1 := rB.cell 1
  have x2 := rB.cell 2
  have x3 := rB.cell 3
  have x4 := rB.cell 4
  have x5 := rB.cell 5
  have x6 := rB.cell 6
  have x7 := rB.cell 7
  have x8 := rB.cell 8
  have xl := rB.lt
  have HB := hide hb1
  have hbn := hb1.size
  clear hb hb1
  go_wp2_with fail
  refine (label_valid _ _ _).mono ?_
  rw [hl]
  rintro e w2 ⟨rfl, hb⟩
  have hb1 := HB.out.trans (hb.mono HB.out.size)
  have rB' := rB.below hb rB.lt
  have h' := h.below hb
  clear x0 x1 x2 x3 x4 x5 x6 x7 x8 xl
  clear HB rB hb h
  have rB := rB'
  have h := h'
  clear rB' h'
  have x0 := rB.cell 0
  have x1 := rB.cell 1
  have x2 := rB.cell 2
  have x3 := rB.cell 3
  have x4 := rB.cell 4
  have x5 := rB.cell 5
  have x6 := rB.cell 6
  have x7 := rB.cell 7
  have x8 := rB.cell 8
  have xl := rB.lt
  have HB := hide hb1
  clear hb1
  clear hl
  go_wp2_with fail
  refine (sound_ok _ _ _ _ _ _ _ _ _ _).mono ?_
  rw [hs]
  rintro e w3 ⟨rfl, hb⟩
  have hb1 := HB.out.trans (hb.mono HB.out.size)
  have rB' := rB.below hb rB.lt
  have h' := h.below hb
  clear x0 x1 x2 x3 x4 x5 x6 x7 x8 xl
  clear HB rB hb h
  have rB := rB'
  have h := h'
  clear rB' h'
  have x0 := rB.cell 0
  have x1 := rB.cell 1
  have x2 := rB.cell 2
  have x3 := rB.cell 3
  have x4 := rB.cell 4
  have x5 := rB.cell 5
  have x6 := rB.cell 6
  have x7 := rB.cell 7
  have x8 := rB.cell 8
  have xl := rB.lt
  have HB := hide hb1
  clear hb1
  have HS := hide hs
  clear hs
  have hw : wrap64 (many - 1) = many - 1 := IntWalk.wrap64_in _ (by omega)
  go_wp2_with fail
  refine (within_ok _ _ _ _).mono ?_
  rw [hcl]
  rintro e w4 ⟨rfl, rfl⟩
  clear hcl hw
  go_wp2_with fail
  obtain ⟨v, hv⟩ : ∃ v, mget (namesFrom 0 R) (sk s hsm) = some v := by
    cases hm : mget (namesFrom 0 R) (sk s hsm) with
    | some v => exact ⟨v, rfl⟩
    | none =>
      refine absurd ?_ (mget_none_iff.1 hm)
      rw [names_keys, sk_skey]
      obtain ⟨r, hr', e⟩ := List.mem_map.1 ht
      exact List.mem_map.2 ⟨r, hr', by rw [e]⟩
  have HLK : Hid (∀ (u : World), MapR skv u nb (namesFrom 0 R) → ∀ W, Below u.heap.size u W → (Instr.lookup 175 (.map (some nb)) (.string s) true).run Tryz.prog W = .ok (.tuple #[v, .bool true]) W) := hide fun u hu W hW => look_names hu s hsm (by rw [hv]; rfl) (by rw [hv]; rfl) W hW
  clear hv ht
  have c3 := h.blk.cell 3
  have cz := h.blk.lt
  have hlk : ∀ W, Below w4.heap.size w4 W → (Instr.lookup 175 (.map (some nb)) (.string s) true).run Tryz.prog W = .ok (.tuple #[v, .bool true]) W := HLK.out w4 h.nm
  have hnz := h.nm.lt
  refine wp_region_text [0, 0, 0, 0, 0, 0, 0, 0, 0, 0, 0, 0] (Below w4.heap.size w4) (by kernel_rfl) (by kernel_rfl) (Below.refl _ _).drew ?_
  iterate 12 (refine wpOrd_q (v := ?_) (by rfl) (fun W hW => ?_) ?_; rotate_left; (focus ((obtain ⟨hWc, hWf⟩ := bcell hW); have hq := hlk W hW; go_simp; try with_reducible rfl)); try simp only [Act.put, List.setIfInBounds_toArray, List.set_cons_zero, List.set_cons_succ])
  refine wpOrd_nil ?_
  clear c3 cz hlk hnz
  go_wp2
  go_returns
  exact ⟨rfl, HB.out.drew⟩

theorem names_none {R : List RegV} (hR : ∀ r ∈ R, okReg r) {s : ByteArray} (hs : s.size ≤ maxLen) (ht : s.data.toList ∉ R.map (·.name)) : mget (namesFrom 0 R) (sk s hs) = none := by
  rw [mget_none_iff, names_keys]
  intro hm
  obtain ⟨r, hr, e⟩ := List.mem_map.1 hm
  have h8 := name_short (hR r hr).1
  refine ht (List.mem_map.2 ⟨r, hr, ?_⟩)
  have := congrArg Subtype.val e
  rw [skey_val (by simp only [maxLen]; omega)] at this
  exact this
theorem labels_none {R : List RegV} {l : UInt8} {c : UInt16} (ht : (l, c) ∉ R.map (fun x => (x.lev, x.cats))) : mget (labelsFrom 0 R) (l, c) = none := by
  rw [mget_none_iff, labels_keys]
  exact ht
theorem names_put {R : List RegV} {r : RegV} {s : ByteArray} {hs : s.size ≤ maxLen} (h : mget (namesFrom 0 R) (sk s hs) = none) (e : r.name = s.data.toList) : mput (namesFrom 0 R) (sk s hs) (.int .i64 (R.length : Int)) = namesFrom 0 (R ++ [r]) := by
  rw [mput_none_of fun x hx e => (mget_none_iff.1 h) (List.mem_map.2 ⟨x, hx, e⟩), namesFrom_snoc, sk_skey, e]
  simp
theorem labels_put {R : List RegV} {r : RegV} (h : mget (labelsFrom 0 R) (r.lev, r.cats) = none) : mput (labelsFrom 0 R) (r.lev, r.cats) (.int .i64 (R.length : Int)) = labelsFrom 0 (R ++ [r]) := by
  rw [mput_none_of fun x hx e => (mget_none_iff.1 h) (List.mem_map.2 ⟨x, hx, e⟩), labelsFrom_snoc]
  simp
theorem names_put' {R : List RegV} {r : RegV} {i : Nat} {s : ByteArray} {hs : s.size ≤ maxLen} (h : mget (namesFrom 0 R) (sk s hs) = none) (e : r.name = s.data.toList) (hi : i = R.length) : mput (namesFrom 0 R) (sk s hs) (.int .i64 (i : Int)) = namesFrom 0 (R ++ [r]) := by subst hi; exact names_put h e
theorem labels_put' {R : List RegV} {r : RegV} {i : Nat} (h : mget (labelsFrom 0 R) (r.lev, r.cats) = none) (hi : i = R.length) : mput (labelsFrom 0 R) (r.lev, r.cats) (.int .i64 (i : Int)) = labelsFrom 0 (R ++ [r]) := by subst hi; exact labels_put h
/-- two rows of one's own of two kinds -/
theorem own_apart {w : World} {b1 b2 n1 n2 s1 s2 : Nat} {e1 e2 : TypeId} {v1 v2 : Value} {x1 x2 : List Value} (h1 : w.ownsRow b1 e1 s1 v1 n1 x1) (h2 : w.ownsRow b2 e2 s2 v2 n2 x2) (hne : e1 ≠ e2) : v1.ownBlock = none ∨ v1.ownBlock ≠ v2.ownBlock := by
  rcases h1.2 with ⟨rfl, _⟩ | ⟨g, cap, cur, rfl, _, hh, _⟩
  · exact .inl rfl
  · refine .inr fun e => ?_
    rcases h2.2 with ⟨rfl, _⟩ | ⟨g', cap', cur', rfl, _, hh', _⟩
    · cases e
    · simp only [Value.ownBlock, Option.some.injEq] at e
      subst e
      rw [hh] at hh'
      simp only [Option.some.injEq, Obj.cells.injEq] at hh'
      exact hne hh'.2.1
/-- two classes of knowledge -/
def S2 (A C : World → Prop) : Nat → World → Prop := fun k W => if k = 1 then A W else if k = 2 then True else C W
theorem S2.hold {A C : World → Prop} {w : World} (hA : A w) (hC : C w) : ∀ k, S2 A C k w := fun k => by
  unfold S2
  split
  · exact hA
  · split
    · trivial
    · exact hC
theorem S2.one {A C : World → Prop} {w : World} (h : S2 A C 1 w) : A w := h
theorem S2.rest {A C : World → Prop} {w : World} {k : Nat} (hk : k ≠ 1 ∧ k ≠ 2) (h : S2 A C k w) : C w := by
  unfold S2 at h
  rwa [if_neg hk.1, if_neg hk.2] at h
theorem S2.drop {A C : World → Prop} : ∀ k, k ∈ [1] ∨ ∀ x, S2 (fun _ => True) C k x → S2 A C k x := fun k => by
  by_cases h : k = 1
  · exact .inl (by simp [h])
  · refine .inr fun x hx => ?_
    unfold S2 at hx ⊢
    rwa [if_neg h] at hx ⊢
/-- what lies beside the rows that are appended to -/
structure AddSt (B : Nat) (X : World) (c rb gb : Nat) (cc rc gc : Array Value) (K : List MarkV) (T : List ((UInt8 × UInt16) × Value)) (N : List (SKey × Value)) (L : List ((UInt8 × UInt16) × Value)) (tb nb lb : Nat) (A2 : Option Addr) (c2 : Nat) : Prop where
  cB : Blk X c 179 cc
  rB : Blk X rb 41 rc
  gB : Blk X gb 169 gc
  marks : X.ownsRow B 199 2 (.slice A2 K.length c2) K.length (mcellsOf K)
  tr : MapR dkv X tb T
  nm : MapR skv X nb N
  lm : MapR dkv X lb L
theorem AddSt.below {B : Nat} {X X' : World} {c rb gb : Nat} {cc rc gc : Array Value} {K : List MarkV} {T : List ((UInt8 × UInt16) × Value)} {N : List (SKey × Value)} {L : List ((UInt8 × UInt16) × Value)} {tb nb lb : Nat} {A2 : Option Addr} {c2 : Nat} (h : AddSt B X c rb gb cc rc gc K T N L tb nb lb A2 c2) (hb : Below X.heap.size X X') : AddSt B X' c rb gb cc rc gc K T N L tb nb lb A2 c2 :=
  ⟨h.cB.below hb h.cB.lt, h.rB.below hb h.rB.lt, h.gB.below hb h.gB.lt, own_below h.marks hb, h.tr.below hb h.tr.lt, h.nm.below hb h.nm.lt, h.lm.below hb h.lm.lt⟩
theorem AddSt.row {B : Nat} {X X' : World} {c rb gb : Nat} {cc rc gc : Array Value} {K : List MarkV} {T : List ((UInt8 × UInt16) × Value)} {N : List (SKey × Value)} {L : List ((UInt8 × UInt16) × Value)} {tb nb lb : Nat} {A2 : Option Addr} {c2 : Nat} {b2 n sz : Nat} {e : TypeId} {v : Value} {xs : List Value}
    (h : AddSt B X c rb gb cc rc gc K T N L tb nb lb A2 c2) (ho : X.ownsRow b2 e sz v n xs) (e1 : 179 ≠ e) (e2 : 199 ≠ e) (hr : v.ownBlock ≠ some rb) (hg : v.ownBlock ≠ some gb) (hgr : X.grownBy X' v.ownBlock) : AddSt B X' c rb gb cc rc gc K T N L tb nb lb A2 c2 where
  cB := h.cB.grown hgr fun e => blk_not_own h.cB ho e1 e.symm
  rB := h.rB.grown hgr (Ne.symm hr)
  gB := h.gB.grown hgr (Ne.symm hg)
  marks := h.marks.kept hgr (own_apart h.marks ho e2)
  tr := h.tr.keep (hgr.block _ h.tr.lt fun e => h.tr.is.not_own ho e.symm)
  nm := h.nm.keep (hgr.block _ h.nm.lt fun e => h.nm.is.not_own ho e.symm)
  lm := h.lm.keep (hgr.block _ h.lm.lt fun e => h.lm.is.not_own ho e.symm)
theorem ConfIn.drew (h : ConfIn B w c R K tb nb lb A1 A2 A3 c1 c2 c3) : ConfIn B w.drew c R K tb nb lb A1 A2 A3 c1 c2 c3 := h.below (Below.refl _ _).drew

set_option maxRecDepth 100000 in
set_option maxHeartbeats 400000 in
theorem add_twice2 (h : ConfIn B w c R K tb nb lb A1 A2 A3 c1 c2 c3) (s : ByteArray) (lv : UInt8) (ct : UInt16) (b n f p q cl many : Int) (i : Nat) (hn : nameB s.data.toList = true) (h1 : -9000000000000000000 ≤ many) (h2 : many ≤ 9000000000000000000)
    (hr : (decide (lv ≤ 15) && (soundC b n f p q && inB cl 0 (many - 1))) = true) (ht : s.data.toList ∉ R.map (·.name)) (ht2 : (lv, ct) ∈ R.map (fun x => (x.lev, x.cats))) :
    Calls Tryz.prog 90 #[.pointer (some ⟨c, 0, none⟩), .int .i64 (i : Int), .agg #[.string s, .int .u8 (lv.toNat : Int), .int .u16 (ct.toNat : Int), .int .i64 b, .int .i64 n, .int .i64 f, .int .i64 p, .int .i64 q, .int .i64 cl], .int .i64 many] w fun e w' => e = .returned (.int .i64 29) ∧ Below w.heap.size w w' := by
  obtain ⟨v, hv⟩ : ∃ v, mget (labelsFrom 0 R) (lv, ct) = some v := by
    cases hm : mget (labelsFrom 0 R) (lv, ct) with
    | some v => exact ⟨v, rfl⟩
    | none =>
      refine absurd ?_ (mget_none_iff.1 hm)
      rw [labels_keys]
      exact ht2
  have HLL : Hid (∀ (u : World), MapR dkv u lb (labelsFrom 0 R) → ∀ W, Below u.heap.size u W → (Instr.lookup 176 (.map (some lb)) (.agg #[.int .u8 (lv.toNat : Int), .int .u16 (ct.toNat : Int)]) true).run Tryz.prog W = .ok (.tuple #[v, .bool true]) W) := hide fun u hu W hW => look_labels hu lv ct (by rw [hv]; rfl) (by rw [hv]; rfl) W hW
  clear hv ht2
  have hsm : s.size ≤ maxLen := by have := name_short hn; have := sz s; simp only [maxLen]; omega
  have hl : decide (lv ≤ 15) = true := by simp only [Bool.and_eq_true] at hr; exact hr.1
  have hs : soundC b n f p q = true := by simp only [Bool.and_eq_true] at hr; exact hr.2.1
  have hcl : inB cl 0 (many - 1) = true := by simp only [Bool.and_eq_true] at hr; exact hr.2.2
  clear hr
  go_enter Tryz.func90, Tryz.ntmps90
  go_wp2_with fail
  refine (name_ok _ _).mono ?_
  rw [hn]
  rintro e w1 ⟨rfl, hb⟩
  refine at_world (fun W => Below w.heap.size w W ∧ Blk W w.heap.size 41 #[.string s, .int .u8 (lv.toNat : Int), .int .u16 (ct.toNat : Int), .int .i64 b, .int .i64 n, .int .i64 f, .int .i64 p, .int .i64 q, .int .i64 cl] ∧ ConfIn B W c R K tb nb lb A1 A2 A3 c1 c2 c3) ⟨((Below.refl w.heap.size w).alloc (Nat.le_refl _) _).trans (hb.mono (by simp)), (Blk.new w _ _).below hb (by simp), h.below (((Below.refl w.heap.size w).alloc (Nat.le_refl _) _).trans (hb.mono (by simp)))⟩ (fun W1 h9 => ?_)
  clear h
  obtain ⟨hb1, rB, h⟩ := h9
  have x0 := rB.cell 0
  have x1 := rB.cell 1
  have x2 := rB.cell 2
  have x3 := rB.cell 3
  have x4 := rB.cell 4
  have x5 := rB.cell 5
  have x6 := rB.cell 6
  have x7 := rB.cell 7
  have x8 := rB.cell 8
  have xl := rB.lt
  have HB := hide hb1
  have hbn := hb1.size
  clear hb hb1
  go_wp2_with fail
  refine (label_valid _ _ _).mono ?_
  rw [hl]
  rintro e w2 ⟨rfl, hb⟩
  have hb1 := HB.out.trans (hb.mono HB.out.size)
  have rB' := rB.below hb rB.lt
  have h' := h.below hb
  clear x0 x1 x2 x3 x4 x5 x6 x7 x8 xl
  clear HB rB hb h
  have rB := rB'
  have h := h'
  clear rB' h'
  have x0 := rB.cell 0
  have x1 := rB.cell 1
  have x2 := rB.cell 2
  have x3 := rB.cell 3
  have x4 := rB.cell 4
  have x5 := rB.cell 5
  have x6 := rB.cell 6
  have x7 := rB.cell 7
  have x8 := rB.cell 8
  have xl := rB.lt
  have HB := hide hb1
  clear hb1
  clear hl
  go_wp2_with fail
  refine (sound_ok _ _ _ _ _ _ _ _ _ _).mono ?_
  rw [hs]
  rintro e w3 ⟨rfl, hb⟩
  have hb1 := HB.out.trans (hb.mono HB.out.size)
  have rB' := rB.below hb rB.lt
  have h' := h.below hb
  clear x0 x1 x2 x3 x4 x5 x6 x7 x8 xl
  clear HB rB hb h
  have rB := rB'
  have h := h'
  clear rB' h'
  have x0 := rB.cell 0
  have x1 := rB.cell 1
  have x2 := rB.cell 2
  have x3 := rB.cell 3
  have x4 := rB.cell 4
  have x5 := rB.cell 5
  have x6 := rB.cell 6
  have x7 := rB.cell 7
  have x8 := rB.cell 8
  have xl := rB.lt
  have HB := hide hb1
  clear hb1
  have HS := hide hs
  clear hs
  have hw : wrap64 (many - 1) = many - 1 := IntWalk.wrap64_in _ (by omega)
  go_wp2_with fail
  refine (within_ok _ _ _ _).mono ?_
  rw [hcl]
  rintro e w4 ⟨rfl, rfl⟩
  clear hcl hw
  go_wp2_with fail
  have hv : mget (namesFrom 0 R) (sk s hsm) = none := names_none h.ok hsm ht
  have HLK : Hid (∀ (u : World), MapR skv u nb (namesFrom 0 R) → ∀ W, Below u.heap.size u W → (Instr.lookup 175 (.map (some nb)) (.string s) true).run Tryz.prog W = .ok (.tuple #[.int .i64 0, .bool false]) W) := hide fun u hu W hW => look_names hu s hsm (by rw [hv]; rfl) (by rw [hv]; rfl) W hW
  have HV := hide hv
  have HT := hide ht
  clear hv ht
  have c3 := h.blk.cell 3
  have cz := h.blk.lt
  have hlk : ∀ W, Below w4.heap.size w4 W → (Instr.lookup 175 (.map (some nb)) (.string s) true).run Tryz.prog W = .ok (.tuple #[.int .i64 0, .bool false]) W := HLK.out w4 h.nm
  have hnz := h.nm.lt
  refine wp_region_text [0, 0, 0, 0, 0, 0, 0, 0, 0, 0, 0, 0] (Below w4.heap.size w4) (by kernel_rfl) (by kernel_rfl) (Below.refl _ _).drew ?_
  iterate 12 (refine wpOrd_q (v := ?_) (by rfl) (fun W hW => ?_) ?_; rotate_left; (focus ((obtain ⟨hWc, hWf⟩ := bcell hW); have hq := hlk W hW; go_simp; try with_reducible rfl)); try simp only [Act.put, List.setIfInBounds_toArray, List.set_cons_zero, List.set_cons_succ])
  refine wpOrd_nil ?_
  clear c3 cz hlk hnz
  go_wp2_with fail
  refine at_world (fun W => Below w.heap.size w W ∧ Blk W w.heap.size 41 #[.string s, .int .u8 (lv.toNat : Int), .int .u16 (ct.toNat : Int), .int .i64 b, .int .i64 n, .int .i64 f, .int .i64 p, .int .i64 q, .int .i64 cl] ∧ ConfIn B W c R K tb nb lb A1 A2 A3 c1 c2 c3) ⟨HB.out.drew, rB.drew, h.drew⟩ (fun W5 h9 => ?_)
  clear h rB HB x0 x1 x2 x3 x4 x5 x6 x7 x8 xl HLK
  obtain ⟨hb1, rB, h⟩ := h9
  have x0 := rB.cell 0
  have x1 := rB.cell 1
  have x2 := rB.cell 2
  have x3 := rB.cell 3
  have x4 := rB.cell 4
  have x5 := rB.cell 5
  have x6 := rB.cell 6
  have x7 := rB.cell 7
  have x8 := rB.cell 8
  have xl := rB.lt
  have HB := hide hb1
  clear hb1
  have c4 := h.blk.cell 4
  have cz := h.blk.lt
  have hlk : ∀ W, Below W5.heap.size W5 W → (Instr.lookup 176 (.map (some lb)) (.agg #[.int .u8 (lv.toNat : Int), .int .u16 (ct.toNat : Int)]) true).run Tryz.prog W = .ok (.tuple #[v, .bool true]) W := HLL.out W5 h.lm
  have hlz := h.lm.lt
  refine wp_region_text [0, 0, 0, 0, 0, 0, 0, 0, 0, 0, 0, 0] (Below W5.heap.size W5) (by kernel_rfl) (by kernel_rfl) (Below.refl _ _).drew ?_
  iterate 12 (refine wpOrd_q (v := ?_) (by rfl) (fun W hW => ?_) ?_; rotate_left; (focus ((obtain ⟨hWc, hWf⟩ := bcell hW); have hq := hlk W hW; go_simp; try with_reducible rfl)); try simp only [Act.put, List.setIfInBounds_toArray, List.set_cons_zero, List.set_cons_succ])
  refine wpOrd_nil ?_
  clear c4 cz hlk hlz
  go_wp2
  go_returns
  exact ⟨rfl, HB.out.drew⟩
end

end Go.Proofs.YthmkgohfeahdhaaGreat
namespace Go.Proofs.YthmkgohfeahdhaaGreat
open Go.RowKit Go.WideMaps
set_option linter.unusedSimpArgs false
set_option linter.unusedVariables false

theorem info_reg : (Tryz.prog.info? 41).map (fun i => (i.zero, i.size, i.bytes)) = some (some (.agg #[.string ByteArray.empty, .int .u8 0, .int .u16 0, .int .i64 0, .int .i64 0, .int .i64 0, .int .i64 0, .int .i64 0, .int .i64 0]), 9, 72) := by kernel_rfl
theorem info_geo : (Tryz.prog.info? 169).map (fun i => (i.zero, i.size, i.bytes)) = some (some (.agg #[.int .i64 0, .int .i64 0, .int .i64 0, .int .i64 0, .int .i64 0, .int .i64 0]), 6, 48) := by kernel_rfl
theorem okr_snoc {R : List RegV} {s : ByteArray} {lv : UInt8} {ct : UInt16} {b n f p q cl : Int} (h : ∀ r ∈ R, okReg r) (hn : nameB s.data.toList = true) (hs : soundC b n f p q = true) : ∀ r ∈ R ++ [(⟨s.data.toList, lv, ct, b, n, f, p, q, cl⟩ : RegV)], okReg r := by
  simp only [soundC, inB, Bool.and_eq_true, decide_eq_true_eq] at hs
  intro r hr
  rcases List.mem_append.1 hr with h' | h'
  · exact h r h'
  · simp only [List.mem_singleton] at h'
    subst h'
    exact ⟨hn, hs.1.1, hs.1.2, hs.2.1.1, hs.2.1.2⟩
theorem AddSt.done {B : Nat} {X W3 : World} {c rb gb : Nat} {cc rc gc : Array Value} {K : List MarkV} {R : List RegV} {r : RegV} {GV : GeoV} {tb nb lb : Nat} {A1 A2 A3 : Option Addr} {c1 c2 c3 : Nat} (st : AddSt B X c rb gb cc rc gc K (trustL K) (namesFrom 0 (R ++ [r])) (labelsFrom 0 (R ++ [r])) tb nb lb A2 c2)
    (o3 : X.ownsRow B 169 6 (.slice A3 ((geosOf 32 R).length + 1) c3) ((geosOf 32 R).length + 1) (gcellsOf (geosOf 32 R) ++ (geoOf (totalOf 32 R) r).cells))
    (o1 : X.ownsRow B 41 9 (.slice A1 (R.length + 1) c1) (R.length + 1) (rcellsOf R ++ r.cells))
    (hblk : Blk W3 c 179 #[.slice A1 (R.length + 1) c1, .map (some tb), .slice A2 K.length c2, .map (some nb), .map (some lb), .slice A3 ((geosOf 32 R).length + 1) c3, .int .i64 (geoOf (totalOf 32 R) r).end_])
    (far : ∀ g, g ≠ c → W3.heap[g]? = X.heap[g]?) (hN : B ≤ c ∧ B ≤ tb ∧ B ≤ nb ∧ B ≤ lb ∧ tb ≠ nb ∧ tb ≠ lb ∧ nb ≠ lb) (ok : ∀ x ∈ R ++ [r], okReg x) :
    ConfIn B W3 c (R ++ [r]) K tb nb lb A1 A2 A3 c1 c2 c3 := by
  refine ⟨⟨?_, ?_, ?_, ?_, ?_, ?_, ?_, hN.1, hN.2.1, hN.2.2.1, hN.2.2.2.1, hN.2.2.2.2.1, hN.2.2.2.2.2.1, hN.2.2.2.2.2.2⟩, ok⟩
  · rw [geosOf_snoc, totalOf_snoc, List.length_append, List.length_append]
    exact hblk
  · rw [rcellsOf_snoc, List.length_append]
    exact own_keep o1 fun g hg => far g fun e => blk_not_own st.cB o1 (by decide) (e ▸ hg)
  · exact own_keep st.marks fun g hg => far g fun e => blk_not_own st.cB st.marks (by decide) (e ▸ hg)
  · rw [geosOf_snoc, gcellsOf_snoc, List.length_append]
    exact own_keep o3 fun g hg => far g fun e => blk_not_own st.cB o3 (by decide) (e ▸ hg)
  · exact st.tr.keep (far tb fun e => blk_not_map st.cB st.tr.is e.symm)
  · exact st.nm.keep (far nb fun e => blk_not_map st.cB st.nm.is e.symm)
  · exact st.lm.keep (far lb fun e => blk_not_map st.cB st.lm.is e.symm)

section
variable {B : Nat} {w w' : World} {c : Nat} {R : List RegV} {K : List MarkV} {tb nb lb : Nat} {A1 A2 A3 : Option Addr} {c1 c2 c3 : Nat}

set_option maxRecDepth 100000 in
set_option maxHeartbeats 4000000 in
set_option pp.deepTerms true in
set_option pp.maxSteps 100000 in
theorem add_fine (hB : B ≤ w.heap.size) (h : ConfIn B w c R K tb nb lb A1 A2 A3 c1 c2 c3) (s : ByteArray) (lv : UInt8) (ct : UInt16) (b n f p q cl many : Int) (i : Nat) (hn : nameB s.data.toList = true) (h1 : -9000000000000000000 ≤ many) (h2 : many ≤ 9000000000000000000)
    (hr : (decide (lv ≤ 15) && (soundC b n f p q && inB cl 0 (many - 1))) = true) (ht : s.data.toList ∉ R.map (·.name)) (ht2 : (lv, ct) ∉ R.map (fun x => (x.lev, x.cats))) (hi : i = R.length) (h64 : i < 64) :
    Calls Tryz.prog 90 #[.pointer (some ⟨c, 0, none⟩), .int .i64 (i : Int), .agg #[.string s, .int .u8 (lv.toNat : Int), .int .u16 (ct.toNat : Int), .int .i64 b, .int .i64 n, .int .i64 f, .int .i64 p, .int .i64 q, .int .i64 cl], .int .i64 many] w fun e w' => e = .returned (.int .i64 0) ∧ Below B w w' ∧
      ∃ A1' A3' c1' c3', ConfIn B w' c (R ++ [⟨s.data.toList, lv, ct, b, n, f, p, q, cl⟩]) K tb nb lb A1' A2 A3' c1' c2 c3' := by
  have hcw : c < w.heap.size := h.blk.lt
  have HL1 := hide h.regs.lt
  have HL3 := hide h.geos.lt
  have hv2 := labels_none ht2
  have HLL : Hid (∀ (u : World), MapR dkv u lb (labelsFrom 0 R) → ∀ W, Below u.heap.size u W → (Instr.lookup 176 (.map (some lb)) (.agg #[.int .u8 (lv.toNat : Int), .int .u16 (ct.toNat : Int)]) true).run Tryz.prog W = .ok (.tuple #[.int .i64 0, .bool false]) W) := hide fun u hu W hW => look_labels hu lv ct (by rw [hv2]; rfl) (by rw [hv2]; rfl) W hW
  have HV2 := hide hv2
  have HI := hide hi
  clear hv2 ht2 hi
  have hsm : s.size ≤ maxLen := by have := name_short hn; have := sz s; simp only [maxLen]; omega
  have hl : decide (lv ≤ 15) = true := by simp only [Bool.and_eq_true] at hr; exact hr.1
  have hs : soundC b n f p q = true := by simp only [Bool.and_eq_true] at hr; exact hr.2.1
  have hcl : inB cl 0 (many - 1) = true := by simp only [Bool.and_eq_true] at hr; exact hr.2.2
  clear hr
  go_enter Tryz.func90, Tryz.ntmps90
  go_wp2_with fail
  refine (name_ok _ _).mono ?_
  rw [hn]
  rintro e w1 ⟨rfl, hb⟩
  refine at_world (fun W => Below w.heap.size w W ∧ Blk W w.heap.size 41 #[.string s, .int .u8 (lv.toNat : Int), .int .u16 (ct.toNat : Int), .int .i64 b, .int .i64 n, .int .i64 f, .int .i64 p, .int .i64 q, .int .i64 cl] ∧ ConfIn B W c R K tb nb lb A1 A2 A3 c1 c2 c3) ⟨((Below.refl w.heap.size w).alloc (Nat.le_refl _) _).trans (hb.mono (by simp)), (Blk.new w _ _).below hb (by simp), h.below (((Below.refl w.heap.size w).alloc (Nat.le_refl _) _).trans (hb.mono (by simp)))⟩ (fun W1 h9 => ?_)
  clear h
  obtain ⟨hb1, rB, h⟩ := h9
  have x0 := rB.cell 0
  have x1 := rB.cell 1
  have x2 := rB.cell 2
  have x3 := rB.cell 3
  have x4 := rB.cell 4
  have x5 := rB.cell 5
  have x6 := rB.cell 6
  have x7 := rB.cell 7
  have x8 := rB.cell 8
  have xl := rB.lt
  have HB := hide hb1
  have hbn := hb1.size
  clear hb hb1
  go_wp2_with fail
  refine (label_valid _ _ _).mono ?_
  rw [hl]
  rintro e w2 ⟨rfl, hb⟩
  have hb1 := HB.out.trans (hb.mono HB.out.size)
  have rB' := rB.below hb rB.lt
  have h' := h.below hb
  clear x0 x1 x2 x3 x4 x5 x6 x7 x8 xl
  clear HB rB hb h
  have rB := rB'
  have h := h'
  clear rB' h'
  have x0 := rB.cell 0
  have x1 := rB.cell 1
  have x2 := rB.cell 2
  have x3 := rB.cell 3
  have x4 := rB.cell 4
  have x5 := rB.cell 5
  have x6 := rB.cell 6
  have x7 := rB.cell 7
  have x8 := rB.cell 8
  have xl := rB.lt
  have HB := hide hb1
  clear hb1
  clear hl
  go_wp2_with fail
  refine (sound_ok _ _ _ _ _ _ _ _ _ _).mono ?_
  rw [hs]
  rintro e w3 ⟨rfl, hb⟩
  have hb1 := HB.out.trans (hb.mono HB.out.size)
  have rB' := rB.below hb rB.lt
  have h' := h.below hb
  clear x0 x1 x2 x3 x4 x5 x6 x7 x8 xl
  clear HB rB hb h
  have rB := rB'
  have h := h'
  clear rB' h'
  have x0 := rB.cell 0
  have x1 := rB.cell 1
  have x2 := rB.cell 2
  have x3 := rB.cell 3
  have x4 := rB.cell 4
  have x5 := rB.cell 5
  have x6 := rB.cell 6
  have x7 := rB.cell 7
  have x8 := rB.cell 8
  have xl := rB.lt
  have HB := hide hb1
  clear hb1
  have HS := hide hs
  clear hs
  have hw : wrap64 (many - 1) = many - 1 := IntWalk.wrap64_in _ (by omega)
  go_wp2_with fail
  refine (within_ok _ _ _ _).mono ?_
  rw [hcl]
  rintro e w4 ⟨rfl, rfl⟩
  clear hcl hw
  go_wp2_with fail
  have hv : mget (namesFrom 0 R) (sk s hsm) = none := names_none h.ok hsm ht
  have HLK : Hid (∀ (u : World), MapR skv u nb (namesFrom 0 R) → ∀ W, Below u.heap.size u W → (Instr.lookup 175 (.map (some nb)) (.string s) true).run Tryz.prog W = .ok (.tuple #[.int .i64 0, .bool false]) W) := hide fun u hu W hW => look_names hu s hsm (by rw [hv]; rfl) (by rw [hv]; rfl) W hW
  have HV := hide hv
  have HT := hide ht
  clear hv ht
  have c3 := h.blk.cell 3
  have cz := h.blk.lt
  have hlk : ∀ W, Below w4.heap.size w4 W → (Instr.lookup 175 (.map (some nb)) (.string s) true).run Tryz.prog W = .ok (.tuple #[.int .i64 0, .bool false]) W := HLK.out w4 h.nm
  have hnz := h.nm.lt
  refine wp_region_text [0, 0, 0, 0, 0, 0, 0, 0, 0, 0, 0, 0] (Below w4.heap.size w4) (by kernel_rfl) (by kernel_rfl) (Below.refl _ _).drew ?_
  iterate 12 (refine wpOrd_q (v := ?_) (by rfl) (fun W hW => ?_) ?_; rotate_left; (focus ((obtain ⟨hWc, hWf⟩ := bcell hW); have hq := hlk W hW; go_simp; try with_reducible rfl)); try simp only [Act.put, List.setIfInBounds_toArray, List.set_cons_zero, List.set_cons_succ])
  refine wpOrd_nil ?_
  clear c3 cz hlk hnz
  go_wp2_with fail
  refine at_world (fun W => Below w.heap.size w W ∧ Blk W w.heap.size 41 #[.string s, .int .u8 (lv.toNat : Int), .int .u16 (ct.toNat : Int), .int .i64 b, .int .i64 n, .int .i64 f, .int .i64 p, .int .i64 q, .int .i64 cl] ∧ ConfIn B W c R K tb nb lb A1 A2 A3 c1 c2 c3) ⟨HB.out.drew, rB.drew, h.drew⟩ (fun W5 h9 => ?_)
  clear h rB HB x0 x1 x2 x3 x4 x5 x6 x7 x8 xl HLK
  obtain ⟨hb1, rB, h⟩ := h9
  have x0 := rB.cell 0
  have x1 := rB.cell 1
  have x2 := rB.cell 2
  have x3 := rB.cell 3
  have x4 := rB.cell 4
  have x5 := rB.cell 5
  have x6 := rB.cell 6
  have x7 := rB.cell 7
  have x8 := rB.cell 8
  have xl := rB.lt
  have HB := hide hb1
  clear hb1
  have c4 := h.blk.cell 4
  have cz := h.blk.lt
  have hlk : ∀ W, Below W5.heap.size W5 W → (Instr.lookup 176 (.map (some lb)) (.agg #[.int .u8 (lv.toNat : Int), .int .u16 (ct.toNat : Int)]) true).run Tryz.prog W = .ok (.tuple #[.int .i64 0, .bool false]) W := HLL.out W5 h.lm
  have hlz := h.lm.lt
  refine wp_region_text [0, 0, 0, 0, 0, 0, 0, 0, 0, 0, 0, 0] (Below W5.heap.size W5) (by kernel_rfl) (by kernel_rfl) (Below.refl _ _).drew ?_
  iterate 12 (refine wpOrd_q (v := ?_) (by rfl) (fun W hW => ?_) ?_; rotate_left; (focus ((obtain ⟨hWc, hWf⟩ := bcell hW); have hq := hlk W hW; go_simp; try with_reducible rfl)); try simp only [Act.put, List.setIfInBounds_toArray, List.set_cons_zero, List.set_cons_succ])
  refine wpOrd_nil ?_
  clear c4 cz hlk hlz
  go_wp2_with fail
  refine at_world (fun W => Below B w W ∧ Blk W w.heap.size 41 #[.string s, .int .u8 (lv.toNat : Int), .int .u16 (ct.toNat : Int), .int .i64 b, .int .i64 n, .int .i64 f, .int .i64 p, .int .i64 q, .int .i64 cl] ∧ ConfIn B W c R K tb nb lb A1 A2 A3 c1 c2 c3) ⟨(HB.out.mono hB).drew, rB.drew, h.drew⟩ (fun W6 h9 => ?_)
  clear h rB HB x0 x1 x2 x3 x4 x5 x6 x7 x8 xl HLL
  obtain ⟨hb1, rB, h⟩ := h9
  have HB := hide hb1
  clear hb1
  obtain ⟨en, w6, run1, hE1, ho1⟩ := (h.drew.nm).entry strEnc Tryz.underlying175 (z := .int .i64 0) (fun _ => by kernel_rfl) (sk s hsm) HV.out
  rw [skv_sk] at run1
  refine wp_region_text [0, 0, 0, 0, 0, 0, 0, 0, 0, 0, 0, 0, 0, 0, 1, 0, 1, 1, 0, 1] (fun W => Blk W c 179 #[.slice A1 R.length c1, .map (some tb), .slice A2 K.length c2, .map (some nb), .map (some lb), .slice A3 (geosOf 32 R).length c3, .int .i64 (totalOf 32 R)] ∧ Blk W w.heap.size 41 #[.string s, .int .u8 (lv.toNat : Int), .int .u16 (ct.toNat : Int), .int .i64 b, .int .i64 n, .int .i64 f, .int .i64 p, .int .i64 q, .int .i64 cl]) (by kernel_rfl) (by kernel_rfl) ⟨h.blk.drew, rB.drew⟩ ?_
  iterate 14 (refine wpOrd_q (v := ?_) (by rfl) (fun W hW => ?_) ?_; rotate_left; (focus ((obtain ⟨hW1, hW2⟩ := hW; have c0' := hW1.cell 0; have c3' := hW1.cell 3; have c4' := hW1.cell 4; have c5' := hW1.cell 5; have c6' := hW1.cell 6; have cl' := hW1.lt; have x0 := hW2.cell 0; have x1 := hW2.cell 1; have x2 := hW2.cell 2; have x3 := hW2.cell 3; have x4 := hW2.cell 4; have x5 := hW2.cell 5; have x6 := hW2.cell 6; have x7 := hW2.cell 7; have x8 := hW2.cell 8; have xl := hW2.lt); go_simp; try with_reducible rfl)); try simp only [Act.put, List.setIfInBounds_toArray, List.set_cons_zero, List.set_cons_succ])
  have cB1 := (ho1.blk (fun e => blk_not_map h.blk h.nm.is e) h.blk.drew.lt).trans h.blk
  have rB1 := (ho1.blk (fun e => blk_not_map rB h.nm.is e) rB.drew.lt).trans rB
  refine wpOrd_x (by rfl) (fun K hK => ?_)
  go_simp
  refine hK _ _ _ (fun _ h => h) ⟨cB1, rB1⟩ ?_
  clear hK K run1
  try simp only [Act.put, List.setIfInBounds_toArray, List.set_cons_zero, List.set_cons_succ]
  iterate 1 (refine wpOrd_q (v := ?_) (by rfl) (fun W hW => ?_) ?_; rotate_left; (focus ((obtain ⟨hW1, hW2⟩ := hW; have c0' := hW1.cell 0; have c3' := hW1.cell 3; have c4' := hW1.cell 4; have c5' := hW1.cell 5; have c6' := hW1.cell 6; have cl' := hW1.lt; have x0 := hW2.cell 0; have x1 := hW2.cell 1; have x2 := hW2.cell 2; have x3 := hW2.cell 3; have x4 := hW2.cell 4; have x5 := hW2.cell 5; have x6 := hW2.cell 6; have x7 := hW2.cell 7; have x8 := hW2.cell 8; have xl := hW2.lt); go_simp; try with_reducible rfl)); try simp only [Act.put, List.setIfInBounds_toArray, List.set_cons_zero, List.set_cons_succ])
  obtain ⟨w7, run2, hM2, ho2⟩ := hE1.store (P := Tryz.prog) (T := 175) (.int .i64 (i : Int))
  have ho12 := ho1.trans ho2
  have h7 := h.drew.toConfG.names ho12 hM2
  have rB7 : Blk w7 w.heap.size 41 #[.string s, .int .u8 (lv.toNat : Int), .int .u16 (ct.toNat : Int), .int .i64 b, .int .i64 n, .int .i64 f, .int .i64 p, .int .i64 q, .int .i64 cl] := (ho12.blk (fun e => blk_not_map rB h.nm.is e) rB.drew.lt).trans rB
  have hb7 : Below B w w7 := by
    have := h.hnb
    exact HB.out.drew.grown ho12.1 (Nat.le_trans hB HB.out.drew.size) (fun k hk => by injection hk with hk; omega)
  have HV7 := hide hb7
  refine wpOrd_x (by rfl) (fun K hK => ?_)
  go_simp
  refine hK _ _ _ (fun _ h => h) ⟨h7.blk, rB7⟩ ?_
  clear hK K run2 hb7
  try simp only [Act.put, List.setIfInBounds_toArray, List.set_cons_zero, List.set_cons_succ]
  obtain ⟨en2, w8, run3, hE3, ho3⟩ := h7.lm.entry labEnc Tryz.underlying176 (z := .int .i64 0) (fun _ => by kernel_rfl) (lv, ct) HV2.out
  simp only [dkv] at run3
  have cB3 := (ho3.blk (fun e => blk_not_map h7.blk h7.lm.is e) h7.blk.lt).trans h7.blk
  have rB3 := (ho3.blk (fun e => blk_not_map rB7 h7.lm.is e) rB7.lt).trans rB7
  refine wpOrd_x (by rfl) (fun K hK => ?_)
  go_simp
  refine hK _ _ _ (fun _ h => h) ⟨cB3, rB3⟩ ?_
  clear hK K run3
  try simp only [Act.put, List.setIfInBounds_toArray, List.set_cons_zero, List.set_cons_succ]
  iterate 1 (refine wpOrd_q (v := ?_) (by rfl) (fun W hW => ?_) ?_; rotate_left; (focus ((obtain ⟨hW1, hW2⟩ := hW; have c0' := hW1.cell 0; have c3' := hW1.cell 3; have c4' := hW1.cell 4; have c5' := hW1.cell 5; have c6' := hW1.cell 6; have cl' := hW1.lt; have x0 := hW2.cell 0; have x1 := hW2.cell 1; have x2 := hW2.cell 2; have x3 := hW2.cell 3; have x4 := hW2.cell 4; have x5 := hW2.cell 5; have x6 := hW2.cell 6; have x7 := hW2.cell 7; have x8 := hW2.cell 8; have xl := hW2.lt); go_simp; try with_reducible rfl)); try simp only [Act.put, List.setIfInBounds_toArray, List.set_cons_zero, List.set_cons_succ])
  obtain ⟨w9, run4, hM4, ho4⟩ := hE3.store (P := Tryz.prog) (T := 176) (.int .i64 (i : Int))
  have ho34 := ho3.trans ho4
  have h9 := h7.labels ho34 hM4
  have rB9 : Blk w9 w.heap.size 41 #[.string s, .int .u8 (lv.toNat : Int), .int .u16 (ct.toNat : Int), .int .i64 b, .int .i64 n, .int .i64 f, .int .i64 p, .int .i64 q, .int .i64 cl] := (ho34.blk (fun e => blk_not_map rB7 h7.lm.is e) rB7.lt).trans rB7
  have hb9 : Below B w w9 := by
    have := h.hlb
    exact HV7.out.grown ho34.1 (Nat.le_trans hB HV7.out.size) (fun k hk => by injection hk with hk; omega)
  refine wpOrd_x (by rfl) (fun K hK => ?_)
  go_simp
  refine hK _ _ _ (fun _ h => h) ⟨h9.blk, rB9⟩ ?_
  clear hK K run4 HV7
  try simp only [Act.put, List.setIfInBounds_toArray, List.set_cons_zero, List.set_cons_succ]
  refine wpOrd_nil ?_
  have HB9 := hide hb9
  have HOK := hide h.ok
  clear h rB hb9 HB cB1 rB1 ho1 hE1 hM2 ho2 ho12 h7 rB7 cB3 rB3 ho3 hE3 hM4 ho4 ho34 hbn
  have hsb := HS.out
  simp only [soundC, inB, Bool.and_eq_true, decide_eq_true_eq, beq_iff_eq] at hsb
  obtain ⟨⟨sb1, sb2⟩, ⟨sn1, sn2⟩, sn3, _⟩ := hsb
  obtain ⟨tt1, tt2⟩ := total_bounds HOK.out 32 (by omega)
  have tt3 : totalOf 32 R ≤ 40000 := by have := HI.out; omega
  clear tt2 sn3
  go_wp2_with fail
  have e1 : IntKind.i64.wrap (b + 512) = b + 512 := IntWalk.i64_in _ (by omega)
  have e2 : IntKind.i64.wrap (b + 512 - 1) = b + 511 := by rw [IntWalk.i64_in _ (by omega)]; omega
  obtain ⟨bm, hbm⟩ : ∃ bm, bm = (b + 511) / 512 := ⟨_, rfl⟩
  obtain ⟨tm, htm⟩ : ∃ tm, tm = (n * 32 + 63) / 64 := ⟨_, rfl⟩
  have e3 : (b + 511).tdiv 512 = bm := by rw [hbm]; exact Int.tdiv_eq_ediv_of_nonneg (by omega)
  have e4 : IntKind.i64.wrap (n * 32) = n * 32 := IntWalk.i64_in _ (by omega)
  have e5 : IntKind.i64.wrap (n * 32 + 64) = n * 32 + 64 := IntWalk.i64_in _ (by omega)
  have e6 : IntKind.i64.wrap (n * 32 + 64 - 1) = n * 32 + 63 := by rw [IntWalk.i64_in _ (by omega)]; omega
  have e7 : (n * 32 + 63).tdiv 64 = tm := by rw [htm]; exact Int.tdiv_eq_ediv_of_nonneg (by omega)
  have bm1 : 0 ≤ bm := by omega
  have bm2 : bm ≤ 2 := by omega
  have tm1 : 0 ≤ tm := by omega
  have tm2 : tm ≤ 65 := by omega
  have e8 : IntKind.i64.wrap bm = bm := IntWalk.i64_in _ (by omega)
  have e9 : IntKind.i64.wrap tm = tm := IntWalk.i64_in _ (by omega)
  have HBM := hide hbm
  have HTM := hide htm
  clear hbm htm
  refine wp_region_text [0, 0, 0, 0, 0, 0, 0, 0, 0, 0, 0, 0, 0, 0, 0, 0, 0, 0, 0, 0, 1, 1] (fun W => Blk W c 179 #[.slice A1 R.length c1, .map (some tb), .slice A2 K.length c2, .map (some nb), .map (some lb), .slice A3 (geosOf 32 R).length c3, .int .i64 (totalOf 32 R)] ∧ Blk W w.heap.size 41 #[.string s, .int .u8 (lv.toNat : Int), .int .u16 (ct.toNat : Int), .int .i64 b, .int .i64 n, .int .i64 f, .int .i64 p, .int .i64 q, .int .i64 cl]) (by kernel_rfl) (by kernel_rfl) ⟨h9.blk.drew, rB9.drew⟩ ?_
  iterate 20 (refine wpOrd_q (v := ?_) (by rfl) (fun W hW => ?_) ?_; rotate_left; (focus ((obtain ⟨hW1, hW2⟩ := hW; have c0' := hW1.cell 0; have c3' := hW1.cell 3; have c4' := hW1.cell 4; have c5' := hW1.cell 5; have c6' := hW1.cell 6; have cl' := hW1.lt; have x0 := hW2.cell 0; have x1 := hW2.cell 1; have x2 := hW2.cell 2; have x3 := hW2.cell 3; have x4 := hW2.cell 4; have x5 := hW2.cell 5; have x6 := hW2.cell 6; have x7 := hW2.cell 7; have x8 := hW2.cell 8; have xl := hW2.lt); go_simp; try with_reducible rfl)); try simp only [Act.put, List.setIfInBounds_toArray, List.set_cons_zero, List.set_cons_succ])
  clear e1 e2 e3 e4 e5 e6 e7 e8 e9
  refine wpOrd_x (by rfl) (fun K hK => ?_)
  go_simp
  refine hK _ _ _ (fun _ h => h) ⟨h9.blk.drew.alloc _, rB9.drew.alloc _⟩ ?_
  clear hK K
  try simp only [Act.put, List.setIfInBounds_toArray, List.set_cons_zero, List.set_cons_succ]
  obtain ⟨W10, hW10⟩ : ∃ W10, W10 = (w9.alloc (.cells #[.int .i64 0, .int .i64 0, .int .i64 0, .int .i64 0, .int .i64 0, .int .i64 0] 169)).drew := ⟨_, rfl⟩
  have gB0 : Blk W10 w9.heap.size 169 #[.int .i64 0, .int .i64 0, .int .i64 0, .int .i64 0, .int .i64 0, .int .i64 0] := by rw [hW10]; exact (Blk.new w9 _ _).drew
  have hx10 : Below w9.heap.size w9 W10 := by rw [hW10]; exact ((Below.refl _ _).alloc (Nat.le_refl _) _).drew
  have cB10 := h9.blk.below hx10 h9.blk.lt
  have rB10 := rB9.below hx10 rB9.lt
  rw [← hW10]
  have hz10 : w9.heap.size < W10.heap.size := gB0.lt
  have hcz : c < w9.heap.size := h9.blk.lt
  have hrz : w.heap.size < w9.heap.size := rB9.lt
  clear hW10
  refine wpOrd_x (by rfl) (fun K hK => ?_)
  have g0 := gB0.cell 0
  have g1 := gB0.cell 1
  have g2 := gB0.cell 2
  have g3 := gB0.cell 3
  have g4 := gB0.cell 4
  have g5 := gB0.cell 5
  have f0 := gB0.frozen 0
  have f1 := gB0.frozen 1
  have f2 := gB0.frozen 2
  have f3 := gB0.frozen 3
  have f4 := gB0.frozen 4
  have f5 := gB0.frozen 5
  go_simp
  refine hK _ _ _ (fun _ h => h) ⟨((((((cB10.far (by show c ≠ w9.heap.size; omega) _).far (by show c ≠ w9.heap.size; omega) _).far (by show c ≠ w9.heap.size; omega) _).far (by show c ≠ w9.heap.size; omega) _).far (by show c ≠ w9.heap.size; omega) _).far (by show c ≠ w9.heap.size; omega) _), ((((((rB10.far (by show w.heap.size ≠ w9.heap.size; omega) _).far (by show w.heap.size ≠ w9.heap.size; omega) _).far (by show w.heap.size ≠ w9.heap.size; omega) _).far (by show w.heap.size ≠ w9.heap.size; omega) _).far (by show w.heap.size ≠ w9.heap.size; omega) _).far (by show w.heap.size ≠ w9.heap.size; omega) _)⟩ ?_
  clear hK K g0 g1 g2 g3 g4 g5 f0 f1 f2 f3 f4 f5
  try simp only [Act.put, List.setIfInBounds_toArray, List.set_cons_zero, List.set_cons_succ]
  refine wpOrd_nil ?_
  refine at_world (fun W => Below w9.heap.size w9 W ∧ Blk W w9.heap.size 169 #[.int .i64 (totalOf 32 R), .int .i64 bm, .int .i64 tm, .int .i64 0, .int .i64 b, .int .i64 n]) ⟨((((((hx10.setCell (Nat.le_refl _) _).setCell (Nat.le_refl _) _).setCell (Nat.le_refl _) _).setCell (Nat.le_refl _) _).setCell (Nat.le_refl _) _).setCell (Nat.le_refl _) _), by simpa using ((((((gB0.set_ 0 (.int .i64 (totalOf 32 R))).set_ 1 (.int .i64 bm)).set_ 2 (.int .i64 tm)).set_ 3 (.int .i64 0)).set_ 4 (.int .i64 b)).set_ 5 (.int .i64 n))⟩ (fun W11 h11 => ?_)
  obtain ⟨hx11, gB⟩ := h11
  have g0 := gB.cell 0
  have g1 := gB.cell 1
  have g2 := gB.cell 2
  have g3 := gB.cell 3
  have gf := gB.frozen 3
  have gz := gB.lt
  have e10 : wrap64 (totalOf 32 R + bm) = totalOf 32 R + bm := IntWalk.wrap64_in _ (by omega)
  have e11 : wrap64 (totalOf 32 R + bm + tm) = totalOf 32 R + bm + tm := IntWalk.wrap64_in _ (by omega)
  have HX := hide hx11
  clear hx10 hx11 gB0 cB10 rB10
  go_wp2_with fail
  refine at_world (fun W => Below w9.heap.size w9 W ∧ Blk W w9.heap.size 169 #[.int .i64 (totalOf 32 R), .int .i64 bm, .int .i64 tm, .int .i64 (totalOf 32 R + bm + tm), .int .i64 b, .int .i64 n]) ⟨HX.out.setCell (Nat.le_refl _) _, by simpa using gB.set_ 3 (.int .i64 (totalOf 32 R + bm + tm))⟩ (fun W12 h12 => ?_)
  clear g0 g1 g2 g3 gf gz gB e10 e11 HX
  obtain ⟨hx, gB⟩ := h12
  have st : AddSt B W12.drew c w.heap.size w9.heap.size #[.slice A1 R.length c1, .map (some tb), .slice A2 K.length c2, .map (some nb), .map (some lb), .slice A3 (geosOf 32 R).length c3, .int .i64 (totalOf 32 R)] #[.string s, .int .u8 (lv.toNat : Int), .int .u16 (ct.toNat : Int), .int .i64 b, .int .i64 n, .int .i64 f, .int .i64 p, .int .i64 q, .int .i64 cl] #[.int .i64 (totalOf 32 R), .int .i64 bm, .int .i64 tm, .int .i64 (totalOf 32 R + bm + tm), .int .i64 b, .int .i64 n] K (trustL K) (namesFrom 0 (R ++ [⟨s.data.toList, lv, ct, b, n, f, p, q, cl⟩])) (labelsFrom 0 (R ++ [⟨s.data.toList, lv, ct, b, n, f, p, q, cl⟩])) tb nb lb A2 c2 := by
    have h12 := h9.below hx.drew
    rw [names_put' (r := ⟨s.data.toList, lv, ct, b, n, f, p, q, cl⟩) HV.out rfl HI.out, labels_put' (r := ⟨s.data.toList, lv, ct, b, n, f, p, q, cl⟩) HV2.out HI.out] at h12
    exact ⟨h12.blk, rB9.below hx.drew rB9.lt, gB.drew, h12.marks, h12.tr, h12.nm, h12.lm⟩
  have hR0 : W12.drew.ownsRow B 41 9 (.slice A1 R.length c1) R.length (rcellsOf R) := own_below h9.regs hx.drew
  have hG0 : W12.drew.ownsRow B 169 6 (.slice A3 (geosOf 32 R).length c3) (geosOf 32 R).length (gcellsOf (geosOf 32 R)) := own_below h9.geos hx.drew
  have hb0 : Below B w W12.drew := (HB9.out.trans (hx.mono (Nat.le_trans hB HB9.out.size))).drew
  have hN := (⟨h9.hc, h9.htb, h9.hnb, h9.hlb, h9.n1, h9.n2, h9.n3⟩ : B ≤ c ∧ B ≤ tb ∧ B ≤ nb ∧ B ≤ lb ∧ tb ≠ nb ∧ tb ≠ lb ∧ nb ≠ lb)
  have HNN := hide hN
  clear hN h9 rB9 HB9 hx gB
  have e10 : IntKind.i64.wrap (totalOf 32 R + bm + tm + b) = totalOf 32 R + bm + tm + b := IntWalk.i64_in _ (by omega)
  refine at_act (fun a => a.tmps.size = 132 ∧ a.eval (.tmp 0) = .pointer (some ⟨c, 0, none⟩) ∧ a.eval (.tmp 6) = .pointer (some ⟨w.heap.size, 0, none⟩) ∧ a.eval (.tmp 13) = .pointer (some ⟨w9.heap.size, 0, none⟩)) (by exact ⟨rfl, rfl, rfl, rfl⟩) (fun a0 ha0 ha => ?_)
  obtain ⟨az, a0v, a6v, a13v⟩ := ha
  refine wp_region_C [0,0,0,0,0,0,1,0,9,9,0,0,0,1,0,9,9,0,0,0,0,0,2,2,9,2,2,9,2,2,9] (OC.qs [0,1,2,3,4,5,6,7,10,11,12,13,14,17,18,19,20,21] (.br 8 [] (.br 9 [] (.x 15 [] (.x 16 [] (.q 22 (.q 23 (.x 24 [1] (.q 25 (.q 26 (.x 27 [] (.q 28 (.q 29 (.x 30 [] .nil))))))))))) 15 [] (.x 9 [] (.x 16 [] (.q 22 (.q 23 (.x 24 [1] (.q 25 (.q 26 (.x 27 [] (.q 28 (.q 29 (.x 30 [] .nil)))))))))))) 15 [] (.x 8 [] (.x 9 [] (.x 16 [] (.q 22 (.q 23 (.x 24 [1] (.q 25 (.q 26 (.x 27 [] (.q 28 (.q 29 (.x 30 [] .nil)))))))))))) )) (S2 (fun W => Blk W c 179 #[.slice A1 R.length c1, .map (some tb), .slice A2 K.length c2, .map (some nb), .map (some lb), .slice A3 (geosOf 32 R).length c3, .int .i64 (totalOf 32 R)]) (fun W => Blk W w.heap.size 41 #[.string s, .int .u8 (lv.toNat : Int), .int .u16 (ct.toNat : Int), .int .i64 b, .int .i64 n, .int .i64 f, .int .i64 p, .int .i64 q, .int .i64 cl] ∧ Blk W w9.heap.size 169 #[.int .i64 (totalOf 32 R), .int .i64 bm, .int .i64 tm, .int .i64 (totalOf 32 R + bm + tm), .int .i64 b, .int .i64 n])) (by kernel_rfl) (by kernel_rfl) (S2.hold st.cB ⟨st.rB, st.gB⟩) ?_
  simp only [OC.qs, List.foldr]
  iterate 6 (refine wpC_q (v := ?_) (by simp only [List.getElem?_toArray, List.getElem?_cons_succ, List.getElem?_cons_zero]; try rfl) (by rfl) (fun W hW => ?_) ?_; rotate_left; (focus ((obtain ⟨hW1, hW2⟩ := S2.rest (by decide) hW; have x0 := hW1.cell 0; have x1 := hW1.cell 1; have x2 := hW1.cell 2; have x3 := hW1.cell 3; have x4 := hW1.cell 4; have x5 := hW1.cell 5; have x6 := hW1.cell 6; have x7 := hW1.cell 7; have x8 := hW1.cell 8; have xl := hW1.lt; have g0 := hW2.cell 0; have g1 := hW2.cell 1; have g2 := hW2.cell 2; have g3 := hW2.cell 3; have g4 := hW2.cell 4; have g5 := hW2.cell 5; have gl := hW2.lt); simp only [execOp, Act.eval_put_tmp, Act.eval_put_none, Act.size_put, Act.eval_const', Act.eval_func', az, a0v, a6v, a13v, Nat.reduceLT, Nat.reduceEqDiff, if_true, if_false, reduceCtorEq, ite_true, ite_false]; go_simp; try with_reducible rfl)))
  iterate 1 (refine wpC_q (v := ?_) (by simp only [List.getElem?_toArray, List.getElem?_cons_succ, List.getElem?_cons_zero]; try rfl) (by rfl) (fun W hW => ?_) ?_; rotate_left; (focus ((have hW3 := S2.one hW; have c0' := hW3.cell 0; have c5' := hW3.cell 5; have cl' := hW3.lt); simp only [execOp, Act.eval_put_tmp, Act.eval_put_none, Act.size_put, Act.eval_const', Act.eval_func', az, a0v, a6v, a13v, Nat.reduceLT, Nat.reduceEqDiff, if_true, if_false, reduceCtorEq, ite_true, ite_false]; go_simp; try with_reducible rfl)))
  iterate 4 (refine wpC_q (v := ?_) (by simp only [List.getElem?_toArray, List.getElem?_cons_succ, List.getElem?_cons_zero]; try rfl) (by rfl) (fun W hW => ?_) ?_; rotate_left; (focus ((obtain ⟨hW1, hW2⟩ := S2.rest (by decide) hW; have x0 := hW1.cell 0; have x1 := hW1.cell 1; have x2 := hW1.cell 2; have x3 := hW1.cell 3; have x4 := hW1.cell 4; have x5 := hW1.cell 5; have x6 := hW1.cell 6; have x7 := hW1.cell 7; have x8 := hW1.cell 8; have xl := hW1.lt; have g0 := hW2.cell 0; have g1 := hW2.cell 1; have g2 := hW2.cell 2; have g3 := hW2.cell 3; have g4 := hW2.cell 4; have g5 := hW2.cell 5; have gl := hW2.lt); simp only [execOp, Act.eval_put_tmp, Act.eval_put_none, Act.size_put, Act.eval_const', Act.eval_func', az, a0v, a6v, a13v, Nat.reduceLT, Nat.reduceEqDiff, if_true, if_false, reduceCtorEq, ite_true, ite_false]; go_simp; try with_reducible rfl)))
  iterate 1 (refine wpC_q (v := ?_) (by simp only [List.getElem?_toArray, List.getElem?_cons_succ, List.getElem?_cons_zero]; try rfl) (by rfl) (fun W hW => ?_) ?_; rotate_left; (focus ((have hW3 := S2.one hW; have c0' := hW3.cell 0; have c5' := hW3.cell 5; have cl' := hW3.lt); simp only [execOp, Act.eval_put_tmp, Act.eval_put_none, Act.size_put, Act.eval_const', Act.eval_func', az, a0v, a6v, a13v, Nat.reduceLT, Nat.reduceEqDiff, if_true, if_false, reduceCtorEq, ite_true, ite_false]; go_simp; try with_reducible rfl)))
  iterate 6 (refine wpC_q (v := ?_) (by simp only [List.getElem?_toArray, List.getElem?_cons_succ, List.getElem?_cons_zero]; try rfl) (by rfl) (fun W hW => ?_) ?_; rotate_left; (focus ((obtain ⟨hW1, hW2⟩ := S2.rest (by decide) hW; have x0 := hW1.cell 0; have x1 := hW1.cell 1; have x2 := hW1.cell 2; have x3 := hW1.cell 3; have x4 := hW1.cell 4; have x5 := hW1.cell 5; have x6 := hW1.cell 6; have x7 := hW1.cell 7; have x8 := hW1.cell 8; have xl := hW1.lt; have g0 := hW2.cell 0; have g1 := hW2.cell 1; have g2 := hW2.cell 2; have g3 := hW2.cell 3; have g4 := hW2.cell 4; have g5 := hW2.cell 5; have gl := hW2.lt); simp only [execOp, Act.eval_put_tmp, Act.eval_put_none, Act.size_put, Act.eval_const', Act.eval_func', az, a0v, a6v, a13v, Nat.reduceLT, Nat.reduceEqDiff, if_true, if_false, reduceCtorEq, ite_true, ite_false]; go_simp; try with_reducible rfl)))
  clear e10
  have OKN := hide (okr_snoc (lv := lv) (ct := ct) (cl := cl) HOK.out hn HS.out)
  have hRl := hide (by rw [← HI.out]; exact h64 : R.length < 64)
  have HRZ := hide hrz
  refine wpC_have (t := .q 22 (.q 23 (.x 24 [1] (.q 25 (.q 26 (.x 27 [] (.q 28 (.q 29 (.x 30 [] .nil))))))))) (fun a X => (a.tmps.size = 132 ∧ a.defers = [] ∧ a.eval (.tmp 104) = .pointer (some ⟨c, 0, none⟩) ∧ a.eval (.tmp 105) = .pointer (some ⟨c, 0, none⟩) ∧ a.eval (.tmp 106) = .pointer (some ⟨c, 0, none⟩) ∧ a.eval (.tmp 125) = .int .i64 (totalOf 32 R + bm + tm + b)) ∧ ∃ A1' c1' A3' c3', a.eval (.tmp 113) = .slice A1' (R.length + 1) c1' ∧ a.eval (.tmp 120) = .slice A3' ((geosOf 32 R).length + 1) c3' ∧ AddSt B X c w.heap.size w9.heap.size #[.slice A1 R.length c1, .map (some tb), .slice A2 K.length c2, .map (some nb), .map (some lb), .slice A3 (geosOf 32 R).length c3, .int .i64 (totalOf 32 R)] #[.string s, .int .u8 (lv.toNat : Int), .int .u16 (ct.toNat : Int), .int .i64 b, .int .i64 n, .int .i64 f, .int .i64 p, .int .i64 q, .int .i64 cl] #[.int .i64 (totalOf 32 R), .int .i64 bm, .int .i64 tm, .int .i64 (totalOf 32 R + bm + tm), .int .i64 b, .int .i64 n] K (trustL K) (namesFrom 0 (R ++ [⟨s.data.toList, lv, ct, b, n, f, p, q, cl⟩])) (labelsFrom 0 (R ++ [⟨s.data.toList, lv, ct, b, n, f, p, q, cl⟩])) tb nb lb A2 c2 ∧ X.ownsRow B 41 9 (.slice A1' (R.length + 1) c1') (R.length + 1) (rcellsOf R ++ [.string s, .int .u8 (lv.toNat : Int), .int .u16 (ct.toNat : Int), .int .i64 b, .int .i64 n, .int .i64 f, .int .i64 p, .int .i64 q, .int .i64 cl]) ∧ X.ownsRow B 169 6 (.slice A3' ((geosOf 32 R).length + 1) c3') ((geosOf 32 R).length + 1) (gcellsOf (geosOf 32 R) ++ [.int .i64 (totalOf 32 R), .int .i64 bm, .int .i64 tm, .int .i64 (totalOf 32 R + bm + tm), .int .i64 b, .int .i64 n]) ∧ Below B w X) (fun a X hF => ?_) (fun T22 => ?_)
  · obtain ⟨⟨z, d0, e4, e5, e6, e25⟩, A1', c1', A3', c3', e13, e20, st, o1, o3, hb⟩ := hF
    have k0 := st.cB.cell 0
    have kf0 := st.cB.frozen 0
    have kl := st.cB.lt
    iterate 2 (refine wpC_q (v := ?_) (by simp only [List.getElem?_toArray, List.getElem?_cons_succ, List.getElem?_cons_zero]; try rfl) (by rfl) (fun W hW => ?_) ?_; rotate_left; (focus (simp only [execOp, Act.defers_put, Act.eval_put_tmp, Act.eval_put_none, Act.size_put, Act.eval_const', Act.eval_func', Nat.reduceLT, Nat.reduceEqDiff, if_true, if_false, reduceCtorEq, ite_true, ite_false, z, e4]; go_simp; try with_reducible rfl)))
    refine wpC_act (fun a => a.tmps.size = 132 ∧ a.defers = [] ∧ a.eval (.tmp 127) = .pointer (some ⟨c, 0, none⟩) ∧ a.eval (.tmp 105) = .pointer (some ⟨c, 0, none⟩) ∧ a.eval (.tmp 106) = .pointer (some ⟨c, 0, none⟩) ∧ a.eval (.tmp 125) = .int .i64 (totalOf 32 R + bm + tm + b) ∧ a.eval (.tmp 113) = .slice A1' (R.length + 1) c1' ∧ a.eval (.tmp 120) = .slice A3' ((geosOf 32 R).length + 1) c3') (by refine ⟨?_, ?_, ?_, ?_, ?_, ?_, ?_, ?_⟩ <;> simp only [Act.defers_put, Act.eval_put_tmp, Act.eval_put_none, Act.size_put, Act.eval_const', Act.eval_func', Nat.reduceLT, Nat.reduceEqDiff, if_true, if_false, reduceCtorEq, ite_true, ite_false, z, d0, e4, e5, e6, e25, e13, e20]) (fun a2 hF2 => ?_)
    obtain ⟨z2, d2, m27, m5, m6, m25, m13, m20⟩ := hF2
    refine wpC_x (by simp only [List.getElem?_toArray, List.getElem?_cons_succ, List.getElem?_cons_zero]; try rfl) (by rfl) (fun KK hKK => ?_)
    unfold Oper.wp
    simp only [execOp, List.map_toArray, List.map_cons, List.map_nil, Act.defers_put, Act.eval_put_tmp, Act.eval_put_none, Act.size_put, Act.eval_const', Act.eval_func', Nat.reduceLT, Nat.reduceEqDiff, if_true, if_false, reduceCtorEq, ite_true, ite_false, z2, m27, m13]
    go_simp
    refine hKK (S2 (fun _ => True) _) a2 _ S2.drop (S2.hold trivial ⟨st.rB.far (by show w.heap.size ≠ c; omega) _, st.gB.far (by show w9.heap.size ≠ c; omega) _⟩) ?_
    clear hKK KK k0 kf0 kl
    have cB1 := st.cB.set_ 0 (.slice A1' (R.length + 1) c1')
    have kf5 := cB1.frozen 5
    have k5 := cB1.cell 5
    have kl := cB1.lt
    iterate 2 (refine wpC_q (v := ?_) (by simp only [List.getElem?_toArray, List.getElem?_cons_succ, List.getElem?_cons_zero]; try rfl) (by rfl) (fun W hW => ?_) ?_; rotate_left; (focus (simp only [execOp, Act.defers_put, Act.eval_put_tmp, Act.eval_put_none, Act.size_put, Act.eval_const', Act.eval_func', Nat.reduceLT, Nat.reduceEqDiff, if_true, if_false, reduceCtorEq, ite_true, ite_false, z2, m5]; go_simp; try with_reducible rfl)))
    refine wpC_act (fun a => a.tmps.size = 132 ∧ a.defers = [] ∧ a.eval (.tmp 129) = .pointer (some ⟨c, 5, none⟩) ∧ a.eval (.tmp 106) = .pointer (some ⟨c, 0, none⟩) ∧ a.eval (.tmp 125) = .int .i64 (totalOf 32 R + bm + tm + b) ∧ a.eval (.tmp 120) = .slice A3' ((geosOf 32 R).length + 1) c3') (by refine ⟨?_, ?_, ?_, ?_, ?_, ?_⟩ <;> simp only [Act.defers_put, Act.eval_put_tmp, Act.eval_put_none, Act.size_put, Act.eval_const', Act.eval_func', Nat.reduceLT, Nat.reduceEqDiff, if_true, if_false, reduceCtorEq, ite_true, ite_false, z2, d2, m5, m6, m25, m13, m20]) (fun a3 hF3 => ?_)
    obtain ⟨z3, d3, n29, n6, n25, n20⟩ := hF3
    refine wpC_xs (by simp only [List.getElem?_toArray, List.getElem?_cons_succ, List.getElem?_cons_zero]; try rfl) (by rfl) (fun KK hKK => ?_)
    unfold Oper.wp
    simp only [execOp, List.map_toArray, List.map_cons, List.map_nil, Act.defers_put, Act.eval_put_tmp, Act.eval_put_none, Act.size_put, Act.eval_const', Act.eval_func', Nat.reduceLT, Nat.reduceEqDiff, if_true, if_false, reduceCtorEq, ite_true, ite_false, z3, n29, n20]
    go_simp
    refine hKK a3 _ (S2.hold trivial ⟨(st.rB.far (by show w.heap.size ≠ c; omega) _).far (by show w.heap.size ≠ c; omega) _, (st.gB.far (by show w9.heap.size ≠ c; omega) _).far (by show w9.heap.size ≠ c; omega) _⟩) ?_
    clear hKK KK kf5 kl k5
    have cB2 := cB1.set_ 5 (.slice A3' ((geosOf 32 R).length + 1) c3')
    have kf6 := cB2.frozen 6
    have k6 := cB2.cell 6
    have kl := cB2.lt
    iterate 2 (refine wpC_q (v := ?_) (by simp only [List.getElem?_toArray, List.getElem?_cons_succ, List.getElem?_cons_zero]; try rfl) (by rfl) (fun W hW => ?_) ?_; rotate_left; (focus (simp only [execOp, Act.defers_put, Act.eval_put_tmp, Act.eval_put_none, Act.size_put, Act.eval_const', Act.eval_func', Nat.reduceLT, Nat.reduceEqDiff, if_true, if_false, reduceCtorEq, ite_true, ite_false, z3, n6]; go_simp; try with_reducible rfl)))
    refine wpC_act (fun a => a.tmps.size = 132 ∧ a.defers = [] ∧ a.eval (.tmp 131) = .pointer (some ⟨c, 6, none⟩) ∧ a.eval (.tmp 125) = .int .i64 (totalOf 32 R + bm + tm + b)) (by refine ⟨?_, ?_, ?_, ?_⟩ <;> simp only [Act.defers_put, Act.eval_put_tmp, Act.eval_put_none, Act.size_put, Act.eval_const', Act.eval_func', Nat.reduceLT, Nat.reduceEqDiff, if_true, if_false, reduceCtorEq, ite_true, ite_false, z3, d3, n6, n25]) (fun a4 hF4 => ?_)
    obtain ⟨z4, d4, q31, q25⟩ := hF4
    refine wpC_xs (by simp only [List.getElem?_toArray, List.getElem?_cons_succ, List.getElem?_cons_zero]; try rfl) (by rfl) (fun KK hKK => ?_)
    unfold Oper.wp
    simp only [execOp, List.map_toArray, List.map_cons, List.map_nil, Act.defers_put, Act.eval_put_tmp, Act.eval_put_none, Act.size_put, Act.eval_const', Act.eval_func', Nat.reduceLT, Nat.reduceEqDiff, if_true, if_false, reduceCtorEq, ite_true, ite_false, z4, q31, q25]
    go_simp
    refine hKK a4 _ (S2.hold trivial ⟨((st.rB.far (by show w.heap.size ≠ c; omega) _).far (by show w.heap.size ≠ c; omega) _).far (by show w.heap.size ≠ c; omega) _, ((st.gB.far (by show w9.heap.size ≠ c; omega) _).far (by show w9.heap.size ≠ c; omega) _).far (by show w9.heap.size ≠ c; omega) _⟩) ?_
    clear hKK KK kf6 kl k6
    have cB3 := cB2.set_ 6 (.int .i64 (totalOf 32 R + bm + tm + b))
    refine wpC_nil ?_
    refine at_world (fun W => Below B w W ∧ ConfIn B W c (R ++ [⟨s.data.toList, lv, ct, b, n, f, p, q, cl⟩]) K tb nb lb A1' A2 A3' c1' c2 c3') ⟨?_, ?_⟩ (fun W9 h9 => ?_)
    · exact (((hb.setCell HNN.out.1 _).setCell HNN.out.1 _).setCell HNN.out.1 _)
    · refine st.done (GV := geoOf (totalOf 32 R) ⟨s.data.toList, lv, ct, b, n, f, p, q, cl⟩) (by rw [HBM.out, HTM.out] at o3; exact o3) o1 (by rw [show (geoOf (totalOf 32 R) (⟨s.data.toList, lv, ct, b, n, f, p, q, cl⟩ : RegV)).end_ = totalOf 32 R + bm + tm + b from by rw [HBM.out, HTM.out]; rfl]; simpa using cB3) (fun g hg => ?_) HNN.out OKN.out
      rw [Below.heap_setCell _ _ _ _ hg, Below.heap_setCell _ _ _ _ hg, Below.heap_setCell _ _ _ _ hg]
    clear cB1 cB2 cB3 st o1 o3 hb
    obtain ⟨tps, dfs⟩ := a4
    simp only at d4
    subst d4
    go_wp2
    go_returns
    have z5 : tps.size = 132 := z4
    exact ⟨by simp [Array.getD_eq_getD_getElem?, z5], h9.1, _, _, _, _, h9.2⟩
  refine wpC_have (t := .x 16 [] (.q 22 (.q 23 (.x 24 [1] (.q 25 (.q 26 (.x 27 [] (.q 28 (.q 29 (.x 30 [] .nil)))))))))) (fun a X => (a.tmps.size = 132 ∧ a.defers = [] ∧ a.eval (.tmp 104) = .pointer (some ⟨c, 0, none⟩) ∧ a.eval (.tmp 105) = .pointer (some ⟨c, 0, none⟩) ∧ a.eval (.tmp 106) = .pointer (some ⟨c, 0, none⟩) ∧ a.eval (.tmp 125) = .int .i64 (totalOf 32 R + bm + tm + b)) ∧ a.eval (.tmp 117) = .slice A3 (geosOf 32 R).length c3 ∧ ∃ A1' c1' gg, a.eval (.tmp 113) = .slice A1' (R.length + 1) c1' ∧ a.eval (.tmp 119) = .slice (some ⟨gg, 0, none⟩) 1 1 ∧ AddSt B X c w.heap.size w9.heap.size #[.slice A1 R.length c1, .map (some tb), .slice A2 K.length c2, .map (some nb), .map (some lb), .slice A3 (geosOf 32 R).length c3, .int .i64 (totalOf 32 R)] #[.string s, .int .u8 (lv.toNat : Int), .int .u16 (ct.toNat : Int), .int .i64 b, .int .i64 n, .int .i64 f, .int .i64 p, .int .i64 q, .int .i64 cl] #[.int .i64 (totalOf 32 R), .int .i64 bm, .int .i64 tm, .int .i64 (totalOf 32 R + bm + tm), .int .i64 b, .int .i64 n] K (trustL K) (namesFrom 0 (R ++ [⟨s.data.toList, lv, ct, b, n, f, p, q, cl⟩])) (labelsFrom 0 (R ++ [⟨s.data.toList, lv, ct, b, n, f, p, q, cl⟩])) tb nb lb A2 c2 ∧ X.ownsRow B 41 9 (.slice A1' (R.length + 1) c1') (R.length + 1) (rcellsOf R ++ [.string s, .int .u8 (lv.toNat : Int), .int .u16 (ct.toNat : Int), .int .i64 b, .int .i64 n, .int .i64 f, .int .i64 p, .int .i64 q, .int .i64 cl]) ∧ X.ownsRow B 169 6 (.slice A3 (geosOf 32 R).length c3) (geosOf 32 R).length (gcellsOf (geosOf 32 R)) ∧ X.ownsRow B 169 6 (.slice (some ⟨gg, 0, none⟩) 1 1) 1 [.int .i64 (totalOf 32 R), .int .i64 bm, .int .i64 tm, .int .i64 (totalOf 32 R + bm + tm), .int .i64 b, .int .i64 n] ∧ Below B w X) (fun a X hF => ?_) (fun T16 => ?_)
  · obtain ⟨⟨z, d0, e4, e5, e6, e25⟩, e17, A1', c1', gg, e13, e19, st, o1, o3, og, hb⟩ := hF
    refine wpC_xs (by simp only [List.getElem?_toArray, List.getElem?_cons_succ, List.getElem?_cons_zero]; try rfl) (by rfl) (fun KK hKK => ?_)
    obtain ⟨i0, hi0, i1, i2, i3⟩ := info_parts info_geo
    refine wp_append_rd X (.tmp 117) (.tmp 119) 177 (by rfl) B 169 i0 (.agg #[.int .i64 0, .int .i64 0, .int .i64 0, .int .i64 0, .int .i64 0, .int .i64 0]) 6 48 (by kernel_rfl) hi0 i1 i2 i3 rfl (by decide) (.slice A3 (geosOf 32 R).length c3) (geosOf 32 R).length (gcellsOf (geosOf 32 R)) e17 o3 X.heap.size (some ⟨gg, 0, none⟩) 1 1 [.int .i64 (totalOf 32 R), .int .i64 bm, .int .i64 tm, .int .i64 (totalOf 32 R + bm + tm), .int .i64 b, .int .i64 n] e19 (Rd.of_own og) (by simp [Value.oneCell']) (by have := hRl.out; simp only [maxLen, geosOf_length]; omega) (by have := hRl.out; (try simp only [geosOf_length]); omega) (Nat.le_trans hB (Nat.le_trans (Nat.le_of_lt HRZ.out) (Nat.le_of_lt st.gB.lt |> Nat.le_trans (Nat.le_refl _)))) (fun v' X' ho hg hnil hat => ?_)
    clear i0 hi0 i1 i2 i3 hnil hat
    obtain ⟨A', c', rfl, _, _, _⟩ := own_form ho
    have st' := st.row o3 (by decide) (by decide) (fun e => by have := (HL3.out _ e).2; omega) (fun e => by have := (HL3.out _ e).2; have := HRZ.out; omega) hg
    exact hKK _ _ (S2.hold st'.cB ⟨st'.rB, st'.gB⟩) (T22 _ _ ⟨⟨by rw [Act.size_put]; exact z, by rw [Act.defers_put]; exact d0, by simp only [Act.defers_put, Act.eval_put_tmp, Act.eval_put_none, Act.size_put, Act.eval_const', Act.eval_func', Nat.reduceLT, Nat.reduceEqDiff, if_true, if_false, reduceCtorEq, ite_true, ite_false, z, e4], by simp only [Act.defers_put, Act.eval_put_tmp, Act.eval_put_none, Act.size_put, Act.eval_const', Act.eval_func', Nat.reduceLT, Nat.reduceEqDiff, if_true, if_false, reduceCtorEq, ite_true, ite_false, z, e5], by simp only [Act.defers_put, Act.eval_put_tmp, Act.eval_put_none, Act.size_put, Act.eval_const', Act.eval_func', Nat.reduceLT, Nat.reduceEqDiff, if_true, if_false, reduceCtorEq, ite_true, ite_false, z, e6], by simp only [Act.defers_put, Act.eval_put_tmp, Act.eval_put_none, Act.size_put, Act.eval_const', Act.eval_func', Nat.reduceLT, Nat.reduceEqDiff, if_true, if_false, reduceCtorEq, ite_true, ite_false, z, e25]⟩, A1', c1', A', c', by simp only [Act.defers_put, Act.eval_put_tmp, Act.eval_put_none, Act.size_put, Act.eval_const', Act.eval_func', Nat.reduceLT, Nat.reduceEqDiff, if_true, if_false, reduceCtorEq, ite_true, ite_false, z, e13], by simp only [Act.defers_put, Act.eval_put_tmp, Act.eval_put_none, Act.size_put, Act.eval_const', Act.eval_func', Nat.reduceLT, Nat.reduceEqDiff, if_true, if_false, reduceCtorEq, ite_true, ite_false, z], st', o1.kept hg (own_apart o1 o3 (by decide)), ho, hb.grown hg (Nat.le_trans hB hb.size) (fun k hk => (o3.lt k hk).1)⟩)
  refine wpC_have (t := .x 9 [] (.x 16 [] (.q 22 (.q 23 (.x 24 [1] (.q 25 (.q 26 (.x 27 [] (.q 28 (.q 29 (.x 30 [] .nil))))))))))) (fun a X => (a.tmps.size = 132 ∧ a.defers = [] ∧ a.eval (.tmp 104) = .pointer (some ⟨c, 0, none⟩) ∧ a.eval (.tmp 105) = .pointer (some ⟨c, 0, none⟩) ∧ a.eval (.tmp 106) = .pointer (some ⟨c, 0, none⟩) ∧ a.eval (.tmp 125) = .int .i64 (totalOf 32 R + bm + tm + b)) ∧ a.eval (.tmp 110) = .slice A1 R.length c1 ∧ a.eval (.tmp 117) = .slice A3 (geosOf 32 R).length c3 ∧ ∃ gr gg, a.eval (.tmp 112) = .slice (some ⟨gr, 0, none⟩) 1 1 ∧ a.eval (.tmp 119) = .slice (some ⟨gg, 0, none⟩) 1 1 ∧ AddSt B X c w.heap.size w9.heap.size #[.slice A1 R.length c1, .map (some tb), .slice A2 K.length c2, .map (some nb), .map (some lb), .slice A3 (geosOf 32 R).length c3, .int .i64 (totalOf 32 R)] #[.string s, .int .u8 (lv.toNat : Int), .int .u16 (ct.toNat : Int), .int .i64 b, .int .i64 n, .int .i64 f, .int .i64 p, .int .i64 q, .int .i64 cl] #[.int .i64 (totalOf 32 R), .int .i64 bm, .int .i64 tm, .int .i64 (totalOf 32 R + bm + tm), .int .i64 b, .int .i64 n] K (trustL K) (namesFrom 0 (R ++ [⟨s.data.toList, lv, ct, b, n, f, p, q, cl⟩])) (labelsFrom 0 (R ++ [⟨s.data.toList, lv, ct, b, n, f, p, q, cl⟩])) tb nb lb A2 c2 ∧ X.ownsRow B 41 9 (.slice A1 R.length c1) R.length (rcellsOf R) ∧ X.ownsRow B 169 6 (.slice A3 (geosOf 32 R).length c3) (geosOf 32 R).length (gcellsOf (geosOf 32 R)) ∧ X.ownsRow B 41 9 (.slice (some ⟨gr, 0, none⟩) 1 1) 1 [.string s, .int .u8 (lv.toNat : Int), .int .u16 (ct.toNat : Int), .int .i64 b, .int .i64 n, .int .i64 f, .int .i64 p, .int .i64 q, .int .i64 cl] ∧ X.ownsRow B 169 6 (.slice (some ⟨gg, 0, none⟩) 1 1) 1 [.int .i64 (totalOf 32 R), .int .i64 bm, .int .i64 tm, .int .i64 (totalOf 32 R + bm + tm), .int .i64 b, .int .i64 n] ∧ Below B w X) (fun a X hF => ?_) (fun T9 => ?_)
  · obtain ⟨⟨z, d0, e4, e5, e6, e25⟩, e10, e17, gr, gg, e12, e19, st, o1, o3, or, og, hb⟩ := hF
    refine wpC_xs (by simp only [List.getElem?_toArray, List.getElem?_cons_succ, List.getElem?_cons_zero]; try rfl) (by rfl) (fun KK hKK => ?_)
    obtain ⟨i0, hi0, i1, i2, i3⟩ := info_parts info_reg
    refine wp_append_rd X (.tmp 110) (.tmp 112) 75 (by rfl) B 41 i0 (.agg #[.string ByteArray.empty, .int .u8 0, .int .u16 0, .int .i64 0, .int .i64 0, .int .i64 0, .int .i64 0, .int .i64 0, .int .i64 0]) 9 72 (by kernel_rfl) hi0 i1 i2 i3 rfl (by decide) (.slice A1 R.length c1) R.length (rcellsOf R) e10 o1 X.heap.size (some ⟨gr, 0, none⟩) 1 1 [.string s, .int .u8 (lv.toNat : Int), .int .u16 (ct.toNat : Int), .int .i64 b, .int .i64 n, .int .i64 f, .int .i64 p, .int .i64 q, .int .i64 cl] e12 (Rd.of_own or) (by simp [Value.oneCell']) (by have := hRl.out; simp only [maxLen, geosOf_length]; omega) (by have := hRl.out; (try simp only [geosOf_length]); omega) (Nat.le_trans hB (Nat.le_trans (Nat.le_of_lt HRZ.out) (Nat.le_of_lt st.gB.lt |> Nat.le_trans (Nat.le_refl _)))) (fun v' X' ho hg hnil hat => ?_)
    clear i0 hi0 i1 i2 i3 hnil hat
    obtain ⟨A', c', rfl, _, _, _⟩ := own_form ho
    have st' := st.row o1 (by decide) (by decide) (fun e => by have := (HL1.out _ e).2; omega) (fun e => by have := (HL1.out _ e).2; have := HRZ.out; omega) hg
    exact hKK _ _ (S2.hold st'.cB ⟨st'.rB, st'.gB⟩) (T16 _ _ ⟨⟨by rw [Act.size_put]; exact z, by rw [Act.defers_put]; exact d0, by simp only [Act.defers_put, Act.eval_put_tmp, Act.eval_put_none, Act.size_put, Act.eval_const', Act.eval_func', Nat.reduceLT, Nat.reduceEqDiff, if_true, if_false, reduceCtorEq, ite_true, ite_false, z, e4], by simp only [Act.defers_put, Act.eval_put_tmp, Act.eval_put_none, Act.size_put, Act.eval_const', Act.eval_func', Nat.reduceLT, Nat.reduceEqDiff, if_true, if_false, reduceCtorEq, ite_true, ite_false, z, e5], by simp only [Act.defers_put, Act.eval_put_tmp, Act.eval_put_none, Act.size_put, Act.eval_const', Act.eval_func', Nat.reduceLT, Nat.reduceEqDiff, if_true, if_false, reduceCtorEq, ite_true, ite_false, z, e6], by simp only [Act.defers_put, Act.eval_put_tmp, Act.eval_put_none, Act.size_put, Act.eval_const', Act.eval_func', Nat.reduceLT, Nat.reduceEqDiff, if_true, if_false, reduceCtorEq, ite_true, ite_false, z, e25]⟩, by simp only [Act.defers_put, Act.eval_put_tmp, Act.eval_put_none, Act.size_put, Act.eval_const', Act.eval_func', Nat.reduceLT, Nat.reduceEqDiff, if_true, if_false, reduceCtorEq, ite_true, ite_false, z, e17], A', c', gg, by simp only [Act.defers_put, Act.eval_put_tmp, Act.eval_put_none, Act.size_put, Act.eval_const', Act.eval_func', Nat.reduceLT, Nat.reduceEqDiff, if_true, if_false, reduceCtorEq, ite_true, ite_false, z], by simp only [Act.defers_put, Act.eval_put_tmp, Act.eval_put_none, Act.size_put, Act.eval_const', Act.eval_func', Nat.reduceLT, Nat.reduceEqDiff, if_true, if_false, reduceCtorEq, ite_true, ite_false, z, e19], st', ho, o3.kept hg (own_apart o3 o1 (by decide)), og.kept hg (own_apart og o1 (by decide)), hb.grown hg (Nat.le_trans hB hb.size) (fun k hk => (o1.lt k hk).1)⟩)
  refine wpC_act (fun a => a.tmps.size = 132 ∧ a.defers = [] ∧ a.eval (.tmp 104) = .pointer (some ⟨c, 0, none⟩) ∧ a.eval (.tmp 105) = .pointer (some ⟨c, 0, none⟩) ∧ a.eval (.tmp 106) = .pointer (some ⟨c, 0, none⟩) ∧ a.eval (.tmp 125) = .int .i64 (totalOf 32 R + bm + tm + b) ∧ a.eval (.tmp 110) = .slice A1 R.length c1 ∧ a.eval (.tmp 117) = .slice A3 (geosOf 32 R).length c3 ∧ a.eval (.tmp 111) = .agg #[.string s, .int .u8 (lv.toNat : Int), .int .u16 (ct.toNat : Int), .int .i64 b, .int .i64 n, .int .i64 f, .int .i64 p, .int .i64 q, .int .i64 cl] ∧ a.eval (.tmp 118) = .agg #[.int .i64 (totalOf 32 R), .int .i64 bm, .int .i64 tm, .int .i64 (totalOf 32 R + bm + tm), .int .i64 b, .int .i64 n]) ⟨?_, ?_, ?_, ?_, ?_, ?_, ?_, ?_, ?_, ?_⟩ (fun a hF => ?_)
  · simp only [Act.size_put, az]
  · simp only [Act.defers_put, ha0]
  iterate 8 (focus (simp only [Act.defers_put, Act.eval_put_tmp, Act.eval_put_none, Act.size_put, Act.eval_const', Act.eval_func', Nat.reduceLT, Nat.reduceEqDiff, if_true, if_false, reduceCtorEq, ite_true, ite_false, az, a0v, a6v, a13v]))
  obtain ⟨z, d0, e4, e5, e6, e25, e10, e17, e11, e18⟩ := hF
  have o1 := hR0
  have o3 := hG0
  have hb := hb0
  clear az a0v a6v a13v ha0 hR0 hG0 hb0
  generalize W12.drew = X at st o1 o3 hb ⊢
  refine wpC_br ?_ ?_
  · have D0 := hide d0
    clear d0
    refine wpC_xs (by simp only [List.getElem?_toArray, List.getElem?_cons_succ, List.getElem?_cons_zero]; try rfl) (by rfl) (fun KK hKK => ?_)
    unfold Oper.wp
    simp only [execOp, List.map_toArray, List.map_cons, List.map_nil, Act.defers_put, Act.eval_put_tmp, Act.eval_put_none, Act.size_put, Act.eval_const', Act.eval_func', Nat.reduceLT, Nat.reduceEqDiff, if_true, if_false, reduceCtorEq, ite_true, ite_false, z, e11]
    go_simp
    have d0 := D0.out
    clear D0
    have hbx : Below X.heap.size X (X.alloc (.cells #[.string s, .int .u8 (lv.toNat : Int), .int .u16 (ct.toNat : Int), .int .i64 b, .int .i64 n, .int .i64 f, .int .i64 p, .int .i64 q, .int .i64 cl] 41)) := (Below.refl _ _).alloc (Nat.le_refl _) _
    have or := own_lit (w := X) (base := B) (e := 41) (size := 9) (n := 1) (cs := #[.string s, .int .u8 (lv.toNat : Int), .int .u16 (ct.toNat : Int), .int .i64 b, .int .i64 n, .int .i64 f, .int .i64 p, .int .i64 q, .int .i64 cl]) rfl rfl (Nat.le_trans hB hb.size) (by simp [maxLen]) rfl
    refine hKK (a.put (some 112) (.slice (some ⟨X.heap.size, 0, none⟩) 1 1)) _ (S2.hold (st.cB.alloc _) ⟨st.rB.alloc _, st.gB.alloc _⟩) ?_
    clear hKK KK
    have st := st.below hbx
    have o1 := own_below o1 hbx
    have o3 := own_below o3 hbx
    have hb := hb.trans (hbx.mono (Nat.le_trans hB hb.size))
    clear hbx
    generalize hg112 : X.heap.size = g112 at or ⊢
    generalize X.alloc (.cells #[.string s, .int .u8 (lv.toNat : Int), .int .u16 (ct.toNat : Int), .int .i64 b, .int .i64 n, .int .i64 f, .int .i64 p, .int .i64 q, .int .i64 cl] 41) = Y at *
    clear hg112
    refine wpC_act (fun a => a.tmps.size = 132 ∧ a.defers = [] ∧ a.eval (.tmp 104) = .pointer (some ⟨c, 0, none⟩) ∧ a.eval (.tmp 105) = .pointer (some ⟨c, 0, none⟩) ∧ a.eval (.tmp 106) = .pointer (some ⟨c, 0, none⟩) ∧ a.eval (.tmp 125) = .int .i64 (totalOf 32 R + bm + tm + b) ∧ a.eval (.tmp 110) = .slice A1 R.length c1 ∧ a.eval (.tmp 117) = .slice A3 (geosOf 32 R).length c3 ∧ a.eval (.tmp 118) = .agg #[.int .i64 (totalOf 32 R), .int .i64 bm, .int .i64 tm, .int .i64 (totalOf 32 R + bm + tm), .int .i64 b, .int .i64 n] ∧ a.eval (.tmp 112) = .slice (some ⟨g112, 0, none⟩) 1 1) (by refine ⟨?_, ?_, ?_, ?_, ?_, ?_, ?_, ?_, ?_, ?_⟩ <;> simp only [Act.defers_put, Act.eval_put_tmp, Act.eval_put_none, Act.size_put, Act.eval_const', Act.eval_func', Nat.reduceLT, Nat.reduceEqDiff, if_true, if_false, reduceCtorEq, ite_true, ite_false, z, d0, e4, e5, e6, e25, e10, e17, e18]) (fun a2 hF2 => ?_)
    obtain ⟨z2, d2, e4, e5, e6, e25, e10, e17, e18, e12⟩ := hF2
    refine wpC_br ?_ ?_
    · refine wpC_xs (by simp only [List.getElem?_toArray, List.getElem?_cons_succ, List.getElem?_cons_zero]; try rfl) (by rfl) (fun KK hKK => ?_)
      obtain ⟨i0, hi0, i1, i2, i3⟩ := info_parts info_reg
      refine wp_append_rd Y (.tmp 110) (.tmp 112) 75 (by rfl) B 41 i0 (.agg #[.string ByteArray.empty, .int .u8 0, .int .u16 0, .int .i64 0, .int .i64 0, .int .i64 0, .int .i64 0, .int .i64 0, .int .i64 0]) 9 72 (by kernel_rfl) hi0 i1 i2 i3 rfl (by decide) (.slice A1 R.length c1) R.length (rcellsOf R) e10 o1 Y.heap.size (some ⟨g112, 0, none⟩) 1 1 [.string s, .int .u8 (lv.toNat : Int), .int .u16 (ct.toNat : Int), .int .i64 b, .int .i64 n, .int .i64 f, .int .i64 p, .int .i64 q, .int .i64 cl] e12 (Rd.of_own or) (by simp [Value.oneCell']) (by have := hRl.out; simp only [maxLen, geosOf_length]; omega) (by have := hRl.out; (try simp only [geosOf_length]); omega) (Nat.le_trans hB (Nat.le_trans (Nat.le_of_lt HRZ.out) (Nat.le_of_lt st.gB.lt |> Nat.le_trans (Nat.le_refl _)))) (fun v' X' ho hg hnil hat => ?_)
      clear i0 hi0 i1 i2 i3 hnil hat
      obtain ⟨A', c', rfl, _, _, _⟩ := own_form ho
      have st' := st.row o1 (by decide) (by decide) (fun e => by have := (HL1.out _ e).2; omega) (fun e => by have := (HL1.out _ e).2; have := HRZ.out; omega) hg
      have o3' := o3.kept hg (own_apart o3 o1 (by decide))
      have hb' := hb.grown hg (Nat.le_trans hB hb.size) (fun k hk => (o1.lt k hk).1)
      refine hKK _ _ (S2.hold st'.cB ⟨st'.rB, st'.gB⟩) ?_
      clear st o1 o3 hb hg hKK KK or
      have st := st'
      have o1 := ho
      have o3 := o3'
      have hb := hb'
      clear st' ho o3' hb'
      refine wpC_act (fun a => a.tmps.size = 132 ∧ a.defers = [] ∧ a.eval (.tmp 104) = .pointer (some ⟨c, 0, none⟩) ∧ a.eval (.tmp 105) = .pointer (some ⟨c, 0, none⟩) ∧ a.eval (.tmp 106) = .pointer (some ⟨c, 0, none⟩) ∧ a.eval (.tmp 125) = .int .i64 (totalOf 32 R + bm + tm + b) ∧ a.eval (.tmp 113) = .slice A' (R.length + 1) c' ∧ a.eval (.tmp 117) = .slice A3 (geosOf 32 R).length c3 ∧ a.eval (.tmp 118) = .agg #[.int .i64 (totalOf 32 R), .int .i64 bm, .int .i64 tm, .int .i64 (totalOf 32 R + bm + tm), .int .i64 b, .int .i64 n]) (by refine ⟨?_, ?_, ?_, ?_, ?_, ?_, ?_, ?_, ?_⟩ <;> simp only [Act.defers_put, Act.eval_put_tmp, Act.eval_put_none, Act.size_put, Act.eval_const', Act.eval_func', Nat.reduceLT, Nat.reduceEqDiff, if_true, if_false, reduceCtorEq, ite_true, ite_false, z2, d2, e4, e5, e6, e25, e17, e18]) (fun a3 hF3 => ?_)
      obtain ⟨z3, d3, e4, e5, e6, e25, e13, e17, e18⟩ := hF3
      have D0 := hide d3
      clear d3
      refine wpC_xs (by simp only [List.getElem?_toArray, List.getElem?_cons_succ, List.getElem?_cons_zero]; try rfl) (by rfl) (fun KK hKK => ?_)
      unfold Oper.wp
      simp only [execOp, List.map_toArray, List.map_cons, List.map_nil, Act.defers_put, Act.eval_put_tmp, Act.eval_put_none, Act.size_put, Act.eval_const', Act.eval_func', Nat.reduceLT, Nat.reduceEqDiff, if_true, if_false, reduceCtorEq, ite_true, ite_false, z3, e18]
      go_simp
      have d3 := D0.out
      clear D0
      have hbx : Below X'.heap.size X' (X'.alloc (.cells #[.int .i64 (totalOf 32 R), .int .i64 bm, .int .i64 tm, .int .i64 (totalOf 32 R + bm + tm), .int .i64 b, .int .i64 n] 169)) := (Below.refl _ _).alloc (Nat.le_refl _) _
      have og := own_lit (w := X') (base := B) (e := 169) (size := 6) (n := 1) (cs := #[.int .i64 (totalOf 32 R), .int .i64 bm, .int .i64 tm, .int .i64 (totalOf 32 R + bm + tm), .int .i64 b, .int .i64 n]) rfl rfl (Nat.le_trans hB hb.size) (by simp [maxLen]) rfl
      refine hKK (a3.put (some 119) (.slice (some ⟨X'.heap.size, 0, none⟩) 1 1)) _ (S2.hold (st.cB.alloc _) ⟨st.rB.alloc _, st.gB.alloc _⟩) ?_
      clear hKK KK
      have st := st.below hbx
      have o1 := own_below o1 hbx
      have o3 := own_below o3 hbx
      have hb := hb.trans (hbx.mono (Nat.le_trans hB hb.size))
      clear hbx
      generalize hg119 : X'.heap.size = g119 at og ⊢
      generalize X'.alloc (.cells #[.int .i64 (totalOf 32 R), .int .i64 bm, .int .i64 tm, .int .i64 (totalOf 32 R + bm + tm), .int .i64 b, .int .i64 n] 169) = Z at *
      clear hg119
      exact T16 _ _ ⟨⟨by simp only [Act.defers_put, Act.eval_put_tmp, Act.eval_put_none, Act.size_put, Act.eval_const', Act.eval_func', Nat.reduceLT, Nat.reduceEqDiff, if_true, if_false, reduceCtorEq, ite_true, ite_false, z3], by simp only [Act.defers_put, Act.eval_put_tmp, Act.eval_put_none, Act.size_put, Act.eval_const', Act.eval_func', Nat.reduceLT, Nat.reduceEqDiff, if_true, if_false, reduceCtorEq, ite_true, ite_false, d3], by simp only [Act.defers_put, Act.eval_put_tmp, Act.eval_put_none, Act.size_put, Act.eval_const', Act.eval_func', Nat.reduceLT, Nat.reduceEqDiff, if_true, if_false, reduceCtorEq, ite_true, ite_false, z3, e4], by simp only [Act.defers_put, Act.eval_put_tmp, Act.eval_put_none, Act.size_put, Act.eval_const', Act.eval_func', Nat.reduceLT, Nat.reduceEqDiff, if_true, if_false, reduceCtorEq, ite_true, ite_false, z3, e5], by simp only [Act.defers_put, Act.eval_put_tmp, Act.eval_put_none, Act.size_put, Act.eval_const', Act.eval_func', Nat.reduceLT, Nat.reduceEqDiff, if_true, if_false, reduceCtorEq, ite_true, ite_false, z3, e6], by simp only [Act.defers_put, Act.eval_put_tmp, Act.eval_put_none, Act.size_put, Act.eval_const', Act.eval_func', Nat.reduceLT, Nat.reduceEqDiff, if_true, if_false, reduceCtorEq, ite_true, ite_false, z3, e25]⟩, by simp only [Act.defers_put, Act.eval_put_tmp, Act.eval_put_none, Act.size_put, Act.eval_const', Act.eval_func', Nat.reduceLT, Nat.reduceEqDiff, if_true, if_false, reduceCtorEq, ite_true, ite_false, z3, e17], A', c', g119, by simp only [Act.defers_put, Act.eval_put_tmp, Act.eval_put_none, Act.size_put, Act.eval_const', Act.eval_func', Nat.reduceLT, Nat.reduceEqDiff, if_true, if_false, reduceCtorEq, ite_true, ite_false, z3, e13], by simp only [Act.defers_put, Act.eval_put_tmp, Act.eval_put_none, Act.size_put, Act.eval_const', Act.eval_func', Nat.reduceLT, Nat.reduceEqDiff, if_true, if_false, reduceCtorEq, ite_true, ite_false, z3], st, o1, o3, og, hb⟩
    · have D0 := hide d2
      clear d2
      refine wpC_xs (by simp only [List.getElem?_toArray, List.getElem?_cons_succ, List.getElem?_cons_zero]; try rfl) (by rfl) (fun KK hKK => ?_)
      unfold Oper.wp
      simp only [execOp, List.map_toArray, List.map_cons, List.map_nil, Act.defers_put, Act.eval_put_tmp, Act.eval_put_none, Act.size_put, Act.eval_const', Act.eval_func', Nat.reduceLT, Nat.reduceEqDiff, if_true, if_false, reduceCtorEq, ite_true, ite_false, z2, e18]
      go_simp
      have d2 := D0.out
      clear D0
      have hbx : Below Y.heap.size Y (Y.alloc (.cells #[.int .i64 (totalOf 32 R), .int .i64 bm, .int .i64 tm, .int .i64 (totalOf 32 R + bm + tm), .int .i64 b, .int .i64 n] 169)) := (Below.refl _ _).alloc (Nat.le_refl _) _
      have og := own_lit (w := Y) (base := B) (e := 169) (size := 6) (n := 1) (cs := #[.int .i64 (totalOf 32 R), .int .i64 bm, .int .i64 tm, .int .i64 (totalOf 32 R + bm + tm), .int .i64 b, .int .i64 n]) rfl rfl (Nat.le_trans hB hb.size) (by simp [maxLen]) rfl
      refine hKK (a2.put (some 119) (.slice (some ⟨Y.heap.size, 0, none⟩) 1 1)) _ (S2.hold (st.cB.alloc _) ⟨st.rB.alloc _, st.gB.alloc _⟩) ?_
      clear hKK KK
      have st := st.below hbx
      have o1 := own_below o1 hbx
      have o3 := own_below o3 hbx
      have or := own_below or hbx
      have hb := hb.trans (hbx.mono (Nat.le_trans hB hb.size))
      clear hbx
      generalize hg119 : Y.heap.size = g119 at og ⊢
      generalize Y.alloc (.cells #[.int .i64 (totalOf 32 R), .int .i64 bm, .int .i64 tm, .int .i64 (totalOf 32 R + bm + tm), .int .i64 b, .int .i64 n] 169) = Z at *
      clear hg119
      exact T9 _ _ ⟨⟨by simp only [Act.defers_put, Act.eval_put_tmp, Act.eval_put_none, Act.size_put, Act.eval_const', Act.eval_func', Nat.reduceLT, Nat.reduceEqDiff, if_true, if_false, reduceCtorEq, ite_true, ite_false, z2], by simp only [Act.defers_put, Act.eval_put_tmp, Act.eval_put_none, Act.size_put, Act.eval_const', Act.eval_func', Nat.reduceLT, Nat.reduceEqDiff, if_true, if_false, reduceCtorEq, ite_true, ite_false, d2], by simp only [Act.defers_put, Act.eval_put_tmp, Act.eval_put_none, Act.size_put, Act.eval_const', Act.eval_func', Nat.reduceLT, Nat.reduceEqDiff, if_true, if_false, reduceCtorEq, ite_true, ite_false, z2, e4], by simp only [Act.defers_put, Act.eval_put_tmp, Act.eval_put_none, Act.size_put, Act.eval_const', Act.eval_func', Nat.reduceLT, Nat.reduceEqDiff, if_true, if_false, reduceCtorEq, ite_true, ite_false, z2, e5], by simp only [Act.defers_put, Act.eval_put_tmp, Act.eval_put_none, Act.size_put, Act.eval_const', Act.eval_func', Nat.reduceLT, Nat.reduceEqDiff, if_true, if_false, reduceCtorEq, ite_true, ite_false, z2, e6], by simp only [Act.defers_put, Act.eval_put_tmp, Act.eval_put_none, Act.size_put, Act.eval_const', Act.eval_func', Nat.reduceLT, Nat.reduceEqDiff, if_true, if_false, reduceCtorEq, ite_true, ite_false, z2, e25]⟩, by simp only [Act.defers_put, Act.eval_put_tmp, Act.eval_put_none, Act.size_put, Act.eval_const', Act.eval_func', Nat.reduceLT, Nat.reduceEqDiff, if_true, if_false, reduceCtorEq, ite_true, ite_false, z2, e10], by simp only [Act.defers_put, Act.eval_put_tmp, Act.eval_put_none, Act.size_put, Act.eval_const', Act.eval_func', Nat.reduceLT, Nat.reduceEqDiff, if_true, if_false, reduceCtorEq, ite_true, ite_false, z2, e17], g112, g119, by simp only [Act.defers_put, Act.eval_put_tmp, Act.eval_put_none, Act.size_put, Act.eval_const', Act.eval_func', Nat.reduceLT, Nat.reduceEqDiff, if_true, if_false, reduceCtorEq, ite_true, ite_false, z2, e12], by simp only [Act.defers_put, Act.eval_put_tmp, Act.eval_put_none, Act.size_put, Act.eval_const', Act.eval_func', Nat.reduceLT, Nat.reduceEqDiff, if_true, if_false, reduceCtorEq, ite_true, ite_false, z2], st, o1, o3, or, og, hb⟩
  · have D0 := hide d0
    clear d0
    refine wpC_xs (by simp only [List.getElem?_toArray, List.getElem?_cons_succ, List.getElem?_cons_zero]; try rfl) (by rfl) (fun KK hKK => ?_)
    unfold Oper.wp
    simp only [execOp, List.map_toArray, List.map_cons, List.map_nil, Act.defers_put, Act.eval_put_tmp, Act.eval_put_none, Act.size_put, Act.eval_const', Act.eval_func', Nat.reduceLT, Nat.reduceEqDiff, if_true, if_false, reduceCtorEq, ite_true, ite_false, z, e18]
    go_simp
    have d0 := D0.out
    clear D0
    have hbx : Below X.heap.size X (X.alloc (.cells #[.int .i64 (totalOf 32 R), .int .i64 bm, .int .i64 tm, .int .i64 (totalOf 32 R + bm + tm), .int .i64 b, .int .i64 n] 169)) := (Below.refl _ _).alloc (Nat.le_refl _) _
    have og := own_lit (w := X) (base := B) (e := 169) (size := 6) (n := 1) (cs := #[.int .i64 (totalOf 32 R), .int .i64 bm, .int .i64 tm, .int .i64 (totalOf 32 R + bm + tm), .int .i64 b, .int .i64 n]) rfl rfl (Nat.le_trans hB hb.size) (by simp [maxLen]) rfl
    refine hKK (a.put (some 119) (.slice (some ⟨X.heap.size, 0, none⟩) 1 1)) _ (S2.hold (st.cB.alloc _) ⟨st.rB.alloc _, st.gB.alloc _⟩) ?_
    clear hKK KK
    have st := st.below hbx
    have o1 := own_below o1 hbx
    have o3 := own_below o3 hbx
    have hb := hb.trans (hbx.mono (Nat.le_trans hB hb.size))
    clear hbx
    generalize hg119 : X.heap.size = g119 at og ⊢
    generalize X.alloc (.cells #[.int .i64 (totalOf 32 R), .int .i64 bm, .int .i64 tm, .int .i64 (totalOf 32 R + bm + tm), .int .i64 b, .int .i64 n] 169) = Y at *
    clear hg119
    refine wpC_act (fun a => a.tmps.size = 132 ∧ a.defers = [] ∧ a.eval (.tmp 104) = .pointer (some ⟨c, 0, none⟩) ∧ a.eval (.tmp 105) = .pointer (some ⟨c, 0, none⟩) ∧ a.eval (.tmp 106) = .pointer (some ⟨c, 0, none⟩) ∧ a.eval (.tmp 125) = .int .i64 (totalOf 32 R + bm + tm + b) ∧ a.eval (.tmp 110) = .slice A1 R.length c1 ∧ a.eval (.tmp 117) = .slice A3 (geosOf 32 R).length c3 ∧ a.eval (.tmp 111) = .agg #[.string s, .int .u8 (lv.toNat : Int), .int .u16 (ct.toNat : Int), .int .i64 b, .int .i64 n, .int .i64 f, .int .i64 p, .int .i64 q, .int .i64 cl] ∧ a.eval (.tmp 119) = .slice (some ⟨g119, 0, none⟩) 1 1) (by refine ⟨?_, ?_, ?_, ?_, ?_, ?_, ?_, ?_, ?_, ?_⟩ <;> simp only [Act.defers_put, Act.eval_put_tmp, Act.eval_put_none, Act.size_put, Act.eval_const', Act.eval_func', Nat.reduceLT, Nat.reduceEqDiff, if_true, if_false, reduceCtorEq, ite_true, ite_false, z, d0, e4, e5, e6, e25, e10, e17, e11]) (fun a2 hF2 => ?_)
    obtain ⟨z2, d2, e4, e5, e6, e25, e10, e17, e11, e19⟩ := hF2
    have D0 := hide d2
    clear d2
    refine wpC_xs (by simp only [List.getElem?_toArray, List.getElem?_cons_succ, List.getElem?_cons_zero]; try rfl) (by rfl) (fun KK hKK => ?_)
    unfold Oper.wp
    simp only [execOp, List.map_toArray, List.map_cons, List.map_nil, Act.defers_put, Act.eval_put_tmp, Act.eval_put_none, Act.size_put, Act.eval_const', Act.eval_func', Nat.reduceLT, Nat.reduceEqDiff, if_true, if_false, reduceCtorEq, ite_true, ite_false, z2, e11]
    go_simp
    have d2 := D0.out
    clear D0
    have hbx : Below Y.heap.size Y (Y.alloc (.cells #[.string s, .int .u8 (lv.toNat : Int), .int .u16 (ct.toNat : Int), .int .i64 b, .int .i64 n, .int .i64 f, .int .i64 p, .int .i64 q, .int .i64 cl] 41)) := (Below.refl _ _).alloc (Nat.le_refl _) _
    have or := own_lit (w := Y) (base := B) (e := 41) (size := 9) (n := 1) (cs := #[.string s, .int .u8 (lv.toNat : Int), .int .u16 (ct.toNat : Int), .int .i64 b, .int .i64 n, .int .i64 f, .int .i64 p, .int .i64 q, .int .i64 cl]) rfl rfl (Nat.le_trans hB hb.size) (by simp [maxLen]) rfl
    refine hKK (a2.put (some 112) (.slice (some ⟨Y.heap.size, 0, none⟩) 1 1)) _ (S2.hold (st.cB.alloc _) ⟨st.rB.alloc _, st.gB.alloc _⟩) ?_
    clear hKK KK
    have st := st.below hbx
    have o1 := own_below o1 hbx
    have o3 := own_below o3 hbx
    have og := own_below og hbx
    have hb := hb.trans (hbx.mono (Nat.le_trans hB hb.size))
    clear hbx
    generalize hg112 : Y.heap.size = g112 at or ⊢
    generalize Y.alloc (.cells #[.string s, .int .u8 (lv.toNat : Int), .int .u16 (ct.toNat : Int), .int .i64 b, .int .i64 n, .int .i64 f, .int .i64 p, .int .i64 q, .int .i64 cl] 41) = Z at *
    clear hg112
    exact T9 _ _ ⟨⟨by simp only [Act.defers_put, Act.eval_put_tmp, Act.eval_put_none, Act.size_put, Act.eval_const', Act.eval_func', Nat.reduceLT, Nat.reduceEqDiff, if_true, if_false, reduceCtorEq, ite_true, ite_false, z2], by simp only [Act.defers_put, Act.eval_put_tmp, Act.eval_put_none, Act.size_put, Act.eval_const', Act.eval_func', Nat.reduceLT, Nat.reduceEqDiff, if_true, if_false, reduceCtorEq, ite_true, ite_false, d2], by simp only [Act.defers_put, Act.eval_put_tmp, Act.eval_put_none, Act.size_put, Act.eval_const', Act.eval_func', Nat.reduceLT, Nat.reduceEqDiff, if_true, if_false, reduceCtorEq, ite_true, ite_false, z2, e4], by simp only [Act.defers_put, Act.eval_put_tmp, Act.eval_put_none, Act.size_put, Act.eval_const', Act.eval_func', Nat.reduceLT, Nat.reduceEqDiff, if_true, if_false, reduceCtorEq, ite_true, ite_false, z2, e5], by simp only [Act.defers_put, Act.eval_put_tmp, Act.eval_put_none, Act.size_put, Act.eval_const', Act.eval_func', Nat.reduceLT, Nat.reduceEqDiff, if_true, if_false, reduceCtorEq, ite_true, ite_false, z2, e6], by simp only [Act.defers_put, Act.eval_put_tmp, Act.eval_put_none, Act.size_put, Act.eval_const', Act.eval_func', Nat.reduceLT, Nat.reduceEqDiff, if_true, if_false, reduceCtorEq, ite_true, ite_false, z2, e25]⟩, by simp only [Act.defers_put, Act.eval_put_tmp, Act.eval_put_none, Act.size_put, Act.eval_const', Act.eval_func', Nat.reduceLT, Nat.reduceEqDiff, if_true, if_false, reduceCtorEq, ite_true, ite_false, z2, e10], by simp only [Act.defers_put, Act.eval_put_tmp, Act.eval_put_none, Act.size_put, Act.eval_const', Act.eval_func', Nat.reduceLT, Nat.reduceEqDiff, if_true, if_false, reduceCtorEq, ite_true, ite_false, z2, e17], g112, g119, by simp only [Act.defers_put, Act.eval_put_tmp, Act.eval_put_none, Act.size_put, Act.eval_const', Act.eval_func', Nat.reduceLT, Nat.reduceEqDiff, if_true, if_false, reduceCtorEq, ite_true, ite_false, z2], by simp only [Act.defers_put, Act.eval_put_tmp, Act.eval_put_none, Act.size_put, Act.eval_const', Act.eval_func', Nat.reduceLT, Nat.reduceEqDiff, if_true, if_false, reduceCtorEq, ite_true, ite_false, z2, e19], st, o1, o3, or, og, hb⟩
end

end Go.Proofs.YthmkgohfeahdhaaGreat
namespace Go.Proofs.YthmkgohfeahdhaaGreat
open Go.RowKit
set_option linter.unusedSimpArgs false
set_option linter.unusedVariables false

def szName : Nat → List UInt8
  | 0 => [108, 111, 119]
  | 1 => [114, 101, 100]
  | 2 => [98, 108, 117, 101]
  | 3 => [116, 111, 112]
  | _ => [104, 105, 103, 104]
def szLev : Nat → UInt8
  | 0 => 0
  | 1 => 1
  | 2 => 1
  | 3 => 2
  | _ => 9
def szCat : Nat → UInt16
  | 0 => 0
  | 1 => 1
  | 2 => 2
  | 3 => 3
  | _ => 7
def szClear (many i : Nat) : Nat := if many = 2 then 1 else if many = 3 then (if i = 0 then 1 else i) else many - 1
def szReg (many : Nat) (H : List UInt8) (i : Nat) : RegV :=
  ⟨szName i, szLev i, szCat i, 8 + ((H.getD (5 * i) 0).toNat : Int) % 60, 8 + 2 * (((H.getD (5 * i + 1) 0).toNat : Int) % 12), 4 + ((H.getD (5 * i + 2) 0).toNat : Int) % 40,
    1 + ((H.getD (5 * i + 3) 0).toNat : Int) % 6, 2 + ((H.getD (5 * i + 4) 0).toNat : Int) % 14, (szClear many i : Nat)⟩
def szMany (m : UInt8) : Nat := 2 + m.toNat % 4
def szRegs (m : UInt8) (H : List UInt8) : List RegV := (List.range (szMany m)).map (szReg (szMany m) H)

theorem sz_name (i : Nat) : nameB (szName i) = true := by
  rcases i with _ | _ | _ | _ | i <;> simp only [szName] <;> decide +kernel
theorem inB_of {n a b : Int} (h1 : a ≤ n) (h2 : n ≤ b) : inB n a b = true := by simp [inB, h1, h2]
theorem sz_right (many : Nat) (H : List UInt8) (i : Nat) (h : i < many) (h2 : 2 ≤ many) : rightB (szReg many H i) many = true := by
  have hl : decide ((szReg many H i).lev ≤ 15) = true := by
    show decide (szLev i ≤ 15) = true
    rcases i with _ | _ | _ | _ | i <;> rfl
  have hc : szClear many i < many := by unfold szClear; split <;> (try split) <;> (try split) <;> omega
  have b1 : inB (szReg many H i).blocks 4 512 = true := inB_of (by simp only [szReg]; omega) (by simp only [szReg]; omega)
  have b2 : inB (szReg many H i).nodes 4 128 = true := inB_of (by simp only [szReg]; omega) (by simp only [szReg]; omega)
  have b3 : decide ((szReg many H i).nodes % 2 = 0) = true := decide_eq_true (by show (8 + 2 * (((H.getD (5 * i + 1) 0).toNat : Int) % 12)) % 2 = 0; omega)
  have b4 : inB (szReg many H i).frames 1 256 = true := inB_of (by simp only [szReg]; omega) (by simp only [szReg]; omega)
  have b5 : inB (szReg many H i).procs 1 16 = true := inB_of (by simp only [szReg]; omega) (by simp only [szReg]; omega)
  have b6 : inB (szReg many H i).opens 1 32 = true := inB_of (by simp only [szReg]; omega) (by simp only [szReg]; omega)
  have b7 : inB (szReg many H i).clear 0 ((many : Int) - 1) = true := inB_of (by simp only [szReg]; omega) (by simp only [szReg]; omega)
  rw [rightB, soundB, hl, b1, b2, b3, b4, b5, b6, b7]
  rfl
theorem addE_zero {old : List RegV} {r : RegV} {many : Int} (h1 : nameB r.name = true) (h2 : rightB r many = true) (h3 : r.name ∉ old.map (·.name)) (h4 : (r.lev, r.cats) ∉ old.map (fun x => (x.lev, x.cats))) : addE old r many = 0 := by
  unfold addE
  rw [if_neg (by simp [h1]), if_neg (by simp [h2]), if_neg h3, if_neg h4]
theorem sz_apart {i j : Nat} (hi : i < 5) (hj : j < i) : szName i ≠ szName j ∧ (szLev i, szCat i) ≠ (szLev j, szCat j) := by
  have : ∀ i : Fin 5, ∀ j : Fin 5, j.val < i.val → szName i.val ≠ szName j.val ∧ (szLev i.val, szCat i.val) ≠ (szLev j.val, szCat j.val) := by decide +kernel
  exact this ⟨i, hi⟩ ⟨j, by omega⟩ hj
theorem sz_adds (many : Nat) (H : List UInt8) (h2 : 2 ≤ many) (h5 : many ≤ 5) : ∀ (d k : Nat), k + d = many → addsE ((List.range k).map (szReg many H)) ((List.range' k d).map (szReg many H)) many = 0
  | 0, k, _ => by simp [addsE]
  | d + 1, k, hk => by
    rw [List.range'_succ, List.map_cons, addsE]
    have e : addE ((List.range k).map (szReg many H)) (szReg many H k) many = 0 := by
      refine addE_zero (sz_name k) (sz_right many H k (by omega) h2) ?_ ?_
      · simp only [List.map_map, List.mem_map, List.mem_range, Function.comp, not_exists, not_and]
        exact fun j hj e => (sz_apart (by omega) hj).1 e.symm
      · simp only [List.map_map, List.mem_map, List.mem_range, Function.comp, not_exists, not_and]
        exact fun j hj e => (sz_apart (by omega) hj).2 e.symm
    rw [if_pos e]
    have := sz_adds many H h2 h5 d (k + 1) (by omega)
    rw [List.range_succ, List.map_append] at this
    exact this
theorem szMany_ge (m : UInt8) : 2 ≤ szMany m := by unfold szMany; omega
theorem szMany_le (m : UInt8) : szMany m ≤ 5 := by unfold szMany; omega
theorem szRegs_length (m : UInt8) (H : List UInt8) : (szRegs m H).length = szMany m := by simp [szRegs]
theorem szRegs_get (m : UInt8) (H : List UInt8) {i : Nat} (h : i < szMany m) : (szRegs m H)[i]? = some (szReg (szMany m) H i) := by
  simp [szRegs, List.getElem?_map, List.getElem?_range h]
theorem sz_leq {many i : Nat} (h2 : 2 ≤ many) (h5 : many ≤ 5) (hi : i < many) : lleB (szLev i) (szCat i) (szLev (szClear many i)) (szCat (szClear many i)) = true := by
  have : ∀ many : Fin 6, ∀ i : Fin 5, 2 ≤ many.val → i.val < many.val → lleB (szLev i.val) (szCat i.val) (szLev (szClear many.val i.val)) (szCat (szClear many.val i.val)) = true := by decide +kernel
  exact this ⟨many, by omega⟩ ⟨i, by omega⟩ h2 hi
theorem sz_clear_lt {many i : Nat} (h2 : 2 ≤ many) (hi : i < many) : szClear many i < many := by unfold szClear; split <;> (try split) <;> (try split) <;> omega
theorem reg_at (l : List RegV) (i : Nat) : regAt l (i : Int) = l[i]? := by simp [regAt]
theorem clearsE_zero {l : List RegV} : ∀ {k : Nat} {rest : List RegV}, (∀ j r, rest[j]? = some r → leqAt l ((k + j : Nat) : Int) r.clear = true) → clearsE l k rest = 0
  | _, [], _ => rfl
  | k, r :: rest, h => by
    have h0 := h 0 r rfl
    simp only [Nat.add_zero] at h0
    rw [clearsE, if_pos h0]
    exact clearsE_zero fun j x hx => by
      have := h (j + 1) x (by simpa using hx)
      rw [show k + 1 + j = k + (j + 1) from by omega]
      exact this
theorem marksE_zero {l : List RegV} : ∀ {ms old : List MarkV}, (∀ m ∈ ms, markB l m = true) → (old ++ ms).Nodup → marksE l old ms = 0
  | [], _, _, _ => rfl
  | m :: rest, old, h, hn => by
    have hm : m ∉ old := fun hc => by
      rw [List.nodup_append] at hn
      exact hn.2.2 m hc m (by simp) rfl
    rw [marksE, if_neg (by simp [h m (by simp)]), if_neg hm]
    exact marksE_zero (fun x hx => h x (by simp [hx])) (by simpa using hn)
theorem sz_ok (m : UInt8) (H : List UInt8) (ms : List MarkV) (h1 : ∀ x ∈ ms, x.1.toNat < szMany m ∧ 1 ≤ x.2.toNat ∧ x.2.toNat ≤ 8) (hn : ms.Nodup) : newE (szRegs m H) ms = 0 := by
  have h2 := szMany_ge m
  have h5 := szMany_le m
  have hl := szRegs_length m H
  have ha : addsE [] (szRegs m H) ((szRegs m H).length : Int) = 0 := by
    rw [hl, szRegs, List.range_eq_range']
    exact sz_adds (szMany m) H h2 h5 (szMany m) 0 (by omega)
  have hc : clearsE (szRegs m H) 0 (szRegs m H) = 0 := clearsE_zero fun j r hr => by
    have hj : j < szMany m := by rw [← hl]; exact (List.getElem?_eq_some_iff.1 hr).1
    rw [szRegs_get m H hj] at hr
    injection hr with hr
    subst hr
    have hk := sz_clear_lt h2 hj
    have e1 : regAt (szRegs m H) ((0 + j : Nat) : Int) = some (szReg (szMany m) H j) := by rw [Nat.zero_add, reg_at]; exact szRegs_get m H hj
    have e2 : regAt (szRegs m H) (szReg (szMany m) H j).clear = some (szReg (szMany m) H (szClear (szMany m) j)) := by
      show regAt (szRegs m H) ((szClear (szMany m) j : Nat) : Int) = _
      rw [reg_at]
      exact szRegs_get m H hk
    simp only [leqAt, e1, e2]
    exact sz_leq h2 h5 hj
  have hm : marksE (szRegs m H) [] ms = 0 := marksE_zero (fun x hx => by
    obtain ⟨q1, q2, q3⟩ := h1 x hx
    simp only [markB, szRegs_get m H q1, szReg, Bool.and_eq_true, decide_eq_true_eq]
    omega) (by simpa using hn)
  have h0 := szRegs_get m H (i := 0) (by omega)
  generalize szRegs m H = R at hl ha hc hm h0 ⊢
  cases R with
  | nil => simp at hl; omega
  | cons r rest =>
    simp only [List.getElem?_cons_zero, Option.some.injEq] at h0
    simp only [newE]
    rw [if_neg (by omega), if_neg (fun h => h ha), if_neg (by rw [h0]; simp [szReg, szLev, szCat]), if_neg (fun h => h hc), hm]

end Go.Proofs.YthmkgohfeahdhaaGreat

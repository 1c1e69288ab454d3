/- Layer 21, the document's pipes: what a pointer at them stands for; what a call that writes one of them leaves. -/
import Derived.Test.YtkjgieehiimiiaaRef
namespace Go.Proofs.Ytkjgieehiimiiaa
open Go.RowKit

def rcells (v : Value) (nx : List UInt16) : Array Value := (v :: nx.map fun x => Value.int .u16 (x.toNat : Int)).toArray
theorem rcells_set (v : Value) (nx : List UInt16) (i : Nat) (x : UInt16) : rcells v (nx.set i x) = (rcells v nx).setIfInBounds (1 + i) (.int .u16 (x.toNat : Int)) := by
  simp [rcells, Nat.add_comm 1, List.map_set]
theorem rcells_set0 (v u : Value) (nx : List UInt16) : (rcells v nx).setIfInBounds 0 u = rcells u nx := by
  simp [rcells]

/-- the slice of a pipe's bytes; its block -/
abbrev RE.v (e : RE) : Value := .slice e.A e.l.length e.c
def toL (es : List RE) : PL := es.map fun e => (e.k, e.l, e.r, e.s)

theorem toL_keys (es : List RE) : (toL es).map (·.1) = es.map (·.k) := by simp [toL]
theorem toL_length (es : List RE) : (toL es).length = es.length := by simp [toL]

theorem pos_nil (k : PKey) : pos [] k = none := rfl
theorem pos_cons (e : RE) (es : List RE) (k : PKey) : pos (e :: es) k = if e.k = k then some 0 else (pos es k).map (· + 1) := by
  unfold pos
  rw [List.findIdx?_cons]
  by_cases h : e.k = k <;> simp [h]
theorem pos_some {es : List RE} {k : PKey} {i : Nat} (h : pos es k = some i) : ∃ e, es[i]? = some e ∧ e.k = k := by
  induction es generalizing i with
  | nil => cases h
  | cons e es ih =>
    rw [pos_cons] at h
    by_cases hk : e.k = k
    · rw [if_pos hk] at h; cases h; exact ⟨e, rfl, hk⟩
    · rw [if_neg hk] at h
      cases hp : pos es k with
      | none => rw [hp] at h; cases h
      | some j => rw [hp] at h; cases h; exact ih hp
theorem pos_lt {es : List RE} {k : PKey} {i : Nat} (h : pos es k = some i) : i < es.length := by
  obtain ⟨e, he, _⟩ := pos_some h
  exact (List.getElem?_eq_some_iff.1 he).1
theorem mget_toL (es : List RE) (k : PKey) : mget (toL es) k = (pos es k).bind fun i => (es[i]?).map fun e => (e.l, e.r, e.s) := by
  induction es with
  | nil => rfl
  | cons e es ih =>
    rw [pos_cons]
    by_cases hk : e.k = k
    · simp [toL, mget, hk]
    · rw [if_neg hk]
      simp only [toL, List.map_cons, mget, if_neg hk]
      unfold toL at ih
      rw [ih]
      cases pos es k <;> simp
theorem mget_pos {es : List RE} {k : PKey} {i : Nat} {e : RE} (h : pos es k = some i) (he : es[i]? = some e) : mget (toL es) k = some (e.l, e.r, e.s) := by
  rw [mget_toL, h]; simp [he]
theorem mget_pos_none {es : List RE} {k : PKey} (h : pos es k = none) : mget (toL es) k = none := by
  rw [mget_toL, h]; rfl
theorem mput_pos {es : List RE} {k : PKey} {i : Nat} {e' : RE} (h : pos es k = some i) (hk' : e'.k = k) : mput (toL es) k (e'.l, e'.r, e'.s) = toL (es.set i e') := by
  induction es generalizing i with
  | nil => cases h
  | cons e es ih =>
    rw [pos_cons] at h
    by_cases hk : e.k = k
    · rw [if_pos hk] at h; cases h
      simp [toL, mput, hk, hk']
    · rw [if_neg hk] at h
      cases hp : pos es k with
      | none => rw [hp] at h; cases h
      | some j =>
        rw [hp] at h; cases h
        have := ih hp
        unfold toL at this
        simp [toL, mput, hk, this]
theorem mput_pos_none {es : List RE} {k : PKey} {e' : RE} (h : pos es k = none) (hk' : e'.k = k) : mput (toL es) k (e'.l, e'.r, e'.s) = toL (es ++ [e']) := by
  induction es with
  | nil => simp [toL, mput, hk']
  | cons e es ih =>
    rw [pos_cons] at h
    by_cases hk : e.k = k
    · rw [if_pos hk] at h; cases h
    · rw [if_neg hk] at h
      cases hp : pos es k with
      | some j => rw [hp] at h; cases h
      | none =>
        have := ih hp
        unfold toL at this
        simp only [List.map_append, List.map_cons, List.map_nil] at this
        simp [toL, mput, hk, this]
theorem mdel_pos {es : List RE} {k : PKey} {i : Nat} (h : pos es k = some i) : mdel (toL es) k = toL (es.take i ++ es.drop (i + 1)) := by
  induction es generalizing i with
  | nil => cases h
  | cons e es ih =>
    rw [pos_cons] at h
    by_cases hk : e.k = k
    · rw [if_pos hk] at h; cases h
      simp [toL, mdel, hk]
    · rw [if_neg hk] at h
      cases hp : pos es k with
      | none => rw [hp] at h; cases h
      | some j =>
        rw [hp] at h; cases h
        have := ih hp
        unfold toL at this
        simp only [List.map_append] at this
        simp [toL, mdel, hk, this]

theorem flat7_append (a b : List RE) : flat7 (a ++ b) = flat7 a ++ flat7 b := by simp [flat7]
theorem flat7_take (es : List RE) (i : Nat) : (flat7 es).take (i * 7) = flat7 (es.take i) := by
  induction es generalizing i with
  | nil => simp [flat7]
  | cons e es ih =>
    cases i with
    | zero => simp [flat7]
    | succ i =>
      have := ih i
      unfold flat7 at this ⊢
      rw [List.take_succ_cons, List.flatMap_cons, List.flatMap_cons, List.take_append, ← this]
      rw [List.take_of_length_le (by simp [recells]; omega)]
      congr 2
      simp [recells]; omega
theorem flat7_drop (es : List RE) (i : Nat) : (flat7 es).drop (i * 7) = flat7 (es.drop i) := by
  induction es generalizing i with
  | nil => simp [flat7]
  | cons e es ih =>
    cases i with
    | zero => simp [flat7]
    | succ i =>
      have := ih i
      unfold flat7 at this ⊢
      rw [List.drop_succ_cons, List.flatMap_cons, List.drop_append, ← this]
      rw [List.drop_eq_nil_of_le (by simp [recells]; omega), List.nil_append]
      congr 1
      simp [recells]; omega
theorem flat7_set {es : List RE} {i j : Nat} {e e' : RE} {u : Value} (he : es[i]? = some e) (hj : j < 7) (hu : (recells e).set j u = recells e') : (flat7 es).set (i * 7 + j) u = flat7 (es.set i e') := by
  induction es generalizing i with
  | nil => simp at he
  | cons q r ih =>
    cases i with
    | zero =>
      obtain rfl : q = e := by simpa using he
      unfold flat7
      rw [Nat.zero_mul, Nat.zero_add, List.set_cons_zero, List.flatMap_cons, List.flatMap_cons, ← hu, List.set_append_left]
      simp [recells]; omega
    | succ i =>
      have := ih (i := i) (by simpa using he)
      unfold flat7 at this ⊢
      rw [List.set_cons_succ, List.flatMap_cons, List.flatMap_cons, ← this, List.set_append_right _ _ (by simp [recells]; omega)]
      congr 2
      simp [recells]; omega
theorem flat7_one (es : List RE) : ∀ u ∈ flat7 es, u.oneCell' = true := by
  intro u hu
  simp only [flat7, List.mem_flatMap] at hu
  obtain ⟨e, _, hu⟩ := hu
  simp only [recells, List.mem_cons, List.not_mem_nil, or_false] at hu
  rcases hu with rfl | rfl | rfl | rfl | rfl | rfl | rfl <;> rfl

/-- a cell of one's own row, written -/
theorem own_set {w : World} {base g n c i size : Nat} {e : TypeId} {xs : List Value} {u : Value} (h : w.ownsRow base e size (.slice (some ⟨g, 0, none⟩) n c) n xs) :
    (w.setCell ⟨g, i, none⟩ u).ownsRow base e size (.slice (some ⟨g, 0, none⟩) n c) n (xs.set i u) := by
  refine ⟨by simpa using h.1, ?_⟩
  rcases h.2 with ⟨h', _⟩ | ⟨g', cap', cur, h', hg, hh, hnc, hcm, hcs, htake⟩
  · cases h'
  · simp only [Value.slice.injEq, Option.some.injEq, Addr.mk.injEq] at h'
    obtain ⟨⟨rfl, _, _⟩, _, rfl⟩ := h'
    refine .inr ⟨_, _, cur.setIfInBounds i u, rfl, hg, (Blk.set_ (t := e) (cs := cur) hh i u), hnc, hcm, by simpa using hcs, ?_⟩
    rw [Array.toList_setIfInBounds, List.take_set, htake]

/-- two pipes' bytes do not share a block -/
def Apart7 (e e' : RE) : Prop := ∀ g, e.v.ownBlock = some g → e'.v.ownBlock ≠ some g

structure RefIn (w : World) (p : Nat) (F : Nat → Prop) (es : List RE) (nx : List UInt16) (A : Option Addr) (n c : Nat) : Prop where
  blk : Blk w p 62 (rcells (.slice A n c) nx)
  row : w.ownsRow 0 75 7 (.slice A n c) n (flat7 es)
  fp : F p
  fr : ∀ g, (Value.slice A n c).ownBlock = some g → F g
  lt : ∀ b, F b → b < w.heap.size
  own : ∀ e : RE, e ∈ es → w.ownsRow 0 5 1 e.v e.l.length (bvs e.l) ∧ (∀ g, e.v.ownBlock = some g → F g) ∧ e.l.length ≤ 256
  apart : es.Pairwise Apart7

/-- At p stand the document's pipes es, the next numbers nx, in blocks of F alone. -/
def RefAt (w : World) (p : Nat) (F : Nat → Prop) (L : PL) (nx : List UInt16) : Prop := ∃ es A n c, RefIn w p F es nx A n c ∧ toL es = L

section
variable {w w' : World} {p n c : Nat} {F F' : Nat → Prop} {es : List RE} {L : PL} {nx : List UInt16} {A : Option Addr}

theorem RefIn.len (h : RefIn w p F es nx A n c) : es.length = n := (Rd.of_own h.row).elems
theorem RefIn.keep (h : RefIn w p F es nx A n c) (hk : ∀ b, F b → w'.heap[b]? = w.heap[b]?) (hs : w.heap.size ≤ w'.heap.size) : RefIn w' p F es nx A n c where
  blk := (hk p h.fp).trans h.blk
  row := own_keep h.row fun g hg => hk g (h.fr g hg)
  fp := h.fp
  fr := h.fr
  lt := fun b hb => Nat.lt_of_lt_of_le (h.lt b hb) hs
  own := fun e he => by
    obtain ⟨h1, h2, h3⟩ := h.own e he
    exact ⟨own_keep h1 fun g hg => hk g (h2 g hg), h2, h3⟩
  apart := h.apart
theorem RefAt.keep (h : RefAt w p F L nx) (hk : ∀ b, F b → w'.heap[b]? = w.heap[b]?) (hs : w.heap.size ≤ w'.heap.size) : RefAt w' p F L nx := by
  obtain ⟨es, A, n, c, h, e⟩ := h
  exact ⟨es, A, n, c, h.keep hk hs, e⟩
theorem RefAt.lt (h : RefAt w p F L nx) : ∀ b, F b → b < w.heap.size := by
  obtain ⟨es, A, n, c, h, e⟩ := h
  exact h.lt
theorem RefIn.below (h : RefIn w p F es nx A n c) (hb : Below w.heap.size w w') : RefIn w' p F es nx A n c := h.keep (fun b hf => hb.block b (h.lt b hf)) hb.size
theorem RefAt.below (h : RefAt w p F L nx) (hb : Below w.heap.size w w') : RefAt w' p F L nx := h.keep (fun b hf => hb.block b (h.lt b hf)) hb.size
theorem RefAt.other {F1 F1' : Nat → Prop} (h : RefAt w p F L nx) (hW : Went w w' F1 F1') (hd : ∀ b, F b → ¬ F1 b) : RefAt w' p F L nx :=
  h.keep (fun b hf => hW.tch.block b (h.lt b hf) (hd b hf)) hW.tch.size

/-- the row's own block; an element's cells -/
theorem RefIn.elem (h : RefIn w p F es nx A n c) {i : Nat} {e : RE} (he : es[i]? = some e) :
    ∃ g cur, A = some ⟨g, 0, none⟩ ∧ Blk w g 75 cur ∧ i < n ∧ n ≤ c ∧ g ≠ p ∧ F g ∧ (∀ j v, (recells e)[j]? = some v → w.cell? ⟨g, i * 7 + j, none⟩ = some v) := by
  have hi : i < n := by rw [← h.len]; exact (List.getElem?_eq_some_iff.1 he).1
  obtain ⟨b, o, hA, _, hc⟩ := (Rd.of_own h.row).elem (by omega)
  rcases h.row.2 with ⟨_, h0⟩ | ⟨g, cap, cur, hv, _, hh, hnc, _⟩
  · omega
  · simp only [Value.slice.injEq] at hv
    obtain ⟨rfl, _, rfl⟩ := hv
    obtain ⟨rfl, rfl⟩ : g = b ∧ 0 = o := by simpa using hA
    refine ⟨g, cur, rfl, hh, hi, hnc, ?_, h.fr g rfl, fun j v hv => by rw [← Nat.zero_add (i * 7 + j)]; exact hc i e he j v hv⟩
    intro e2
    exact blk_not_own h.blk h.row (by decide) (by rw [e2]; rfl)
/-- an element's bytes are not the row, nor the head -/
theorem RefIn.bytes_far (h : RefIn w p F es nx A n c) {e : RE} (he : e ∈ es) {g : Nat} (hg : e.v.ownBlock = some g) : g ≠ p ∧ (Value.slice A n c).ownBlock ≠ some g ∧ F g ∧ g < w.heap.size := by
  obtain ⟨h1, h2, _⟩ := h.own e he
  refine ⟨fun e2 => blk_not_own h.blk h1 (by decide) (e2 ▸ hg), fun e2 => ?_, h2 g hg, h.lt g (h2 g hg)⟩
  rcases h.row.2 with ⟨h0, _⟩ | ⟨g', cap, cur, hv, _, hh, _⟩
  · rw [h0] at e2; cases e2
  · rw [hv] at e2
    obtain rfl : g' = g := by simpa [Value.ownBlock] using e2
    exact blk_not_own (t := 75) (cs := cur) hh h1 (by decide) hg
/-- behind a call that may have written the head, the row, and the blocks Ex -/
theorem RefIn.re {A' : Option Addr} {n' c' : Nat} {es' : List RE} {nx' : List UInt16} (h : RefIn w p F es nx A n c) (Ex : Nat → Prop)
    (hEx : ∀ b, Ex b → F b)
    (hT : Tch w.heap.size (fun b => b = p ∨ (Value.slice A n c).ownBlock = some b ∨ Ex b) w w')
    (hB : Blk w' p 62 (rcells (.slice A' n' c') nx')) (hR : w'.ownsRow 0 75 7 (.slice A' n' c') n' (flat7 es'))
    (hr : ∀ g, (Value.slice A' n' c').ownBlock = some g → (Value.slice A n c).ownBlock = some g ∨ w.heap.size ≤ g)
    (hes : ∀ e : RE, e ∈ es' → (e ∈ es ∧ ∀ g, e.v.ownBlock = some g → ¬ Ex g) ∨ (w'.ownsRow 0 5 1 e.v e.l.length (bvs e.l) ∧ (∀ g, e.v.ownBlock = some g → F g ∨ w.heap.size ≤ g) ∧ e.l.length ≤ 256))
    (hap : es'.Pairwise Apart7) : ∃ F', RefIn w' p F' es' nx' A' n' c' ∧ Went w w' F F' := by
  have hF1 : ∀ b, F b → b < w'.heap.size := fun b hb => Nat.lt_of_lt_of_le (h.lt b hb) hT.size
  refine ⟨fun b => (F b ∨ w.heap.size ≤ b) ∧ b < w'.heap.size, ⟨hB, hR, ⟨.inl h.fp, hF1 p h.fp⟩, fun g hg => ⟨(hr g hg).imp (h.fr g) id, (hR.lt g hg).2⟩, fun b hb => hb.2, fun e he => ?_, hap⟩, ⟨hT.mono (Nat.le_refl _) ?_, fun b hb => hb.1⟩⟩
  · rcases hes e he with ⟨ho, hx⟩ | ⟨h1, h2, h3⟩
    · obtain ⟨h1, h2, h3⟩ := h.own e ho
      refine ⟨own_keep h1 fun g hg => ?_, fun g hg => ⟨.inl (h2 g hg), hF1 g (h2 g hg)⟩, h3⟩
      obtain ⟨f1, f2, f3, f4⟩ := h.bytes_far ho hg
      refine hT.block g f4 ?_
      rintro (e1 | e1 | e1)
      · exact f1 e1
      · exact f2 e1
      · exact hx g hg e1
    · exact ⟨h1, fun g hg => ⟨h2 g hg, (h1.lt g hg).2⟩, h3⟩
  · rintro b _ (rfl | hb | hb)
    · exact h.fp
    · exact h.fr b hb
    · exact hEx b hb
theorem set_split {es : List RE} {i : Nat} {e : RE} (he : es[i]? = some e) : es = es.take i ++ e :: es.drop (i + 1) := by
  induction es generalizing i with
  | nil => simp at he
  | cons q r ih =>
    cases i with
    | zero => obtain rfl : q = e := by simpa using he
              simp
    | succ i =>
      have := ih (i := i) (by simpa using he)
      rw [List.take_succ_cons, List.drop_succ_cons, List.cons_append, ← this]
theorem set_split' {es : List RE} {i : Nat} {e e' : RE} (he : es[i]? = some e) : es.set i e' = es.take i ++ e' :: es.drop (i + 1) := by
  induction es generalizing i with
  | nil => simp at he
  | cons q r ih =>
    cases i with
    | zero => simp
    | succ i =>
      have := ih (i := i) (by simpa using he)
      rw [List.take_succ_cons, List.drop_succ_cons, List.cons_append, ← this, List.set_cons_succ]
/-- behind a call that has written one of them -/
theorem RefIn.put {i : Nat} {e e' : RE} (h : RefIn w p F es nx A n c) (he : es[i]? = some e)
    (hT : Tch w.heap.size (fun b => (Value.slice A n c).ownBlock = some b ∨ e.v.ownBlock = some b) w w')
    (hR : w'.ownsRow 0 75 7 (.slice A n c) n (flat7 (es.set i e')))
    (ho : w'.ownsRow 0 5 1 e'.v e'.l.length (bvs e'.l)) (hl : e'.l.length ≤ 256)
    (hnew : ∀ g, e'.v.ownBlock = some g → e.v.ownBlock = some g ∨ w.heap.size ≤ g) : ∃ F', RefIn w' p F' (es.set i e') nx A n c ∧ Went w w' F F' := by
  have hm : e ∈ es := List.mem_of_getElem? he
  have hap := h.apart
  rw [set_split he, List.pairwise_append] at hap
  obtain ⟨a1, a2, a3⟩ := hap
  rw [List.pairwise_cons] at a2
  have hsub : ∀ x, x ∈ es.take i ∨ x ∈ es.drop (i + 1) → x ∈ es := fun x hx => hx.elim List.mem_of_mem_take List.mem_of_mem_drop
  have hne : ∀ x : RE, x ∈ es.take i ∨ x ∈ es.drop (i + 1) → ∀ g, x.v.ownBlock = some g → e.v.ownBlock ≠ some g := by
    rintro x (hx | hx) g hg
    · exact a3 x hx e (List.mem_cons_self ..) g hg
    · exact fun h2 => a2.1 x hx g h2 hg
  refine h.re (fun b => e.v.ownBlock = some b) (fun b hb => (h.bytes_far hm hb).2.2.1) (hT.mono (Nat.le_refl _) fun b _ hb => .inr hb) ?_ hR (fun g hg => .inl hg) ?_ ?_
  · refine (hT.block p (h.lt p h.fp) ?_).trans h.blk
    rintro (e1 | e1)
    · exact blk_not_own h.blk h.row (by decide) e1
    · exact (h.bytes_far hm e1).1 rfl
  · intro x hx
    rw [set_split' he, List.mem_append, List.mem_cons] at hx
    rcases hx with hx | rfl | hx
    · exact .inl ⟨hsub x (.inl hx), hne x (.inl hx)⟩
    · refine .inr ⟨ho, fun g hg => ?_, hl⟩
      rcases hnew g hg with h1 | h1
      · exact .inl (h.bytes_far hm h1).2.2.1
      · exact .inr h1
    · exact .inl ⟨hsub x (.inr hx), hne x (.inr hx)⟩
  · have hnew' : ∀ x : RE, x ∈ es.take i ∨ x ∈ es.drop (i + 1) → ∀ g, x.v.ownBlock = some g → e'.v.ownBlock ≠ some g := by
      intro x hx g hg h2
      rcases hnew g h2 with h1 | h1
      · exact hne x hx g hg h1
      · have := (h.bytes_far (hsub x hx) hg).2.2.2; omega
    rw [set_split' he, List.pairwise_append]
    refine ⟨a1, List.pairwise_cons.2 ⟨fun x hx g hg h2 => hnew' x (.inr hx) g h2 hg, a2.2⟩, fun x hx y hy => ?_⟩
    rcases List.mem_cons.1 hy with rfl | hy
    · exact fun g hg => hnew' x (.inl hx) g hg
    · exact a3 x hx y (List.mem_cons_of_mem _ hy)
/-- behind a call that has laid one more -/
theorem RefIn.push {A' : Option Addr} {n' c' : Nat} {e' : RE} (h : RefIn w p F es nx A n c) (hA : e'.A = none) (hl : e'.l = []) (hc : e'.c = 0)
    (hT : Tch w.heap.size (fun b => b = p ∨ (Value.slice A n c).ownBlock = some b) w w')
    (hB : Blk w' p 62 (rcells (.slice A' n' c') nx)) (hR : w'.ownsRow 0 75 7 (.slice A' n' c') n' (flat7 (es ++ [e'])))
    (hr : ∀ g, (Value.slice A' n' c').ownBlock = some g → (Value.slice A n c).ownBlock = some g ∨ w.heap.size ≤ g) : ∃ F', RefIn w' p F' (es ++ [e']) nx A' n' c' ∧ Went w w' F F' := by
  have hv : e'.v = .slice none 0 0 := by unfold RE.v; rw [hA, hl, hc]; rfl
  refine h.re (fun _ => False) (fun _ h => h.elim) (hT.mono (Nat.le_refl _) fun b _ hb => hb.imp id .inl) hB hR hr ?_ ?_
  · intro x hx
    rcases List.mem_append.1 hx with hx | hx
    · exact .inl ⟨hx, fun _ _ h => h⟩
    · obtain rfl : x = e' := by simpa using hx
      refine .inr ⟨by rw [hv, hl]; exact World.ownsRow_nil _ _ _ _, fun g hg => ?_, by rw [hl]; exact Nat.zero_le _⟩
      rw [hv] at hg; cases hg
  · rw [List.pairwise_append]
    refine ⟨h.apart, List.pairwise_singleton _ _, fun x _ y hy g _ h2 => ?_⟩
    obtain rfl : y = e' := by simpa using hy
    rw [hv] at h2; cases h2
/-- behind a call that has taken one away -/
theorem RefIn.gone {A' : Option Addr} {n' c' i : Nat} (h : RefIn w p F es nx A n c)
    (hT : Tch w.heap.size (fun b => b = p) w w')
    (hB : Blk w' p 62 (rcells (.slice A' n' c') nx)) (hR : w'.ownsRow 0 75 7 (.slice A' n' c') n' (flat7 (es.take i ++ es.drop (i + 1))))
    (hr : ∀ g, (Value.slice A' n' c').ownBlock = some g → w.heap.size ≤ g) : ∃ F', RefIn w' p F' (es.take i ++ es.drop (i + 1)) nx A' n' c' ∧ Went w w' F F' := by
  refine h.re (fun _ => False) (fun _ h => h.elim) (hT.mono (Nat.le_refl _) fun b _ hb => .inl hb) hB hR (fun g hg => .inr (hr g hg)) ?_ ?_
  · intro x hx
    refine .inl ⟨?_, fun _ _ h => h⟩
    rcases List.mem_append.1 hx with hx | hx
    · exact List.mem_of_mem_take hx
    · exact List.mem_of_mem_drop hx
  · refine h.apart.sublist ?_
    have h1 : (es.take i ++ es.drop (i + 1)).Sublist (es.take i ++ es.drop i) := List.Sublist.append (List.Sublist.refl _) (by
      rw [← List.drop_drop]
      exact List.drop_sublist 1 _)
    rwa [List.take_append_drop] at h1
theorem Went.trans_ {w1 w2 : World} {F1 F2 : Nat → Prop} (h : Went w w1 F F1) (k : Went w1 w2 F1 F2) : Went w w2 F F2 where
  tch := h.tch.trans (k.tch.mono h.tch.size fun b hb hf => (h.sub b hf).elim id fun hle => by omega)
  sub := fun b hb => (k.sub b hb).elim (h.sub b) fun hle => .inr (Nat.le_trans h.tch.size hle)

/-- In the midst of a call on the pipe at place i, which was e0: what there is now. -/
structure At7 (w W : World) (p g n c i : Nat) (es : List RE) (e0 e : RE) : Prop where
  tch : Tch w.heap.size (fun b => b = g ∨ e0.v.ownBlock = some b) w W
  row : W.ownsRow 0 75 7 (.slice (some ⟨g, 0, none⟩) n c) n (flat7 (es.set i e))
  own : W.ownsRow 0 5 1 e.v e.l.length (bvs e.l)
  new : ∀ x, e.v.ownBlock = some x → e0.v.ownBlock = some x ∨ w.heap.size ≤ x
  hd : W.cell? ⟨p, 0, none⟩ = some (.slice (some ⟨g, 0, none⟩) n c)
  hi : i < n
  ne : g ≠ p
  sep : e.v.ownBlock ≠ some g ∧ e0.v.ownBlock ≠ some g ∧ e0.v.ownBlock ≠ some p
  lt : g < w.heap.size ∧ p < w.heap.size
  nc : n ≤ c
  at_ : es[i]? = some e0

section
variable {W W' : World} {g i : Nat} {e0 e e' : RE}
theorem set_self {α : Type} {es : List α} {i : Nat} {e : α} (he : es[i]? = some e) : es.set i e = es := by
  obtain ⟨h, rfl⟩ := List.getElem?_eq_some_iff.1 he
  exact List.set_getElem_self h
theorem RefIn.at7 (h : RefIn w p F es nx A n c) (he : es[i]? = some e) : ∃ g, A = some ⟨g, 0, none⟩ ∧ At7 w w p g n c i es e e := by
  obtain ⟨g, cur, rfl, hg, hi, hnc, hgp, hFg, hc⟩ := h.elem he
  have hm : e ∈ es := List.mem_of_getElem? he
  refine ⟨g, rfl, ⟨Tch.of_below (Below.refl _ _), by rw [set_self he]; exact h.row, (h.own e hm).1, fun x hx => .inl hx, h.blk.cell 0, hi, hgp, ⟨?_, ?_, ?_⟩, ⟨hg.lt, h.blk.lt⟩, hnc, he⟩⟩
  · exact fun e2 => (h.bytes_far hm e2).2.1 rfl
  · exact fun e2 => (h.bytes_far hm e2).2.1 rfl
  · exact fun e2 => (h.bytes_far hm e2).1 rfl
theorem RefIn.of_at7 (h : RefIn w p F es nx (some ⟨g, 0, none⟩) n c) (k : At7 w W p g n c i es e0 e) (hl : e.l.length ≤ 256) : ∃ F', RefIn W p F' (es.set i e) nx (some ⟨g, 0, none⟩) n c ∧ Went w W F F' :=
  h.put k.at_ (k.tch.mono (Nat.le_refl _) fun b _ hb => hb.imp (fun h => by rw [h]; rfl) id) k.row k.own hl k.new
theorem At7.cell (h : At7 w W p g n c i es e0 e) (j : Nat) {v : Value} (hv : (recells e)[j]? = some v) : W.cell? ⟨g, i * 7 + j, none⟩ = some v := by
  obtain ⟨b, o, hA, _, hc⟩ := (Rd.of_own h.row).elem (by have := h.hi; omega)
  obtain ⟨rfl, rfl⟩ : g = b ∧ 0 = o := by simpa using hA
  rw [← Nat.zero_add (i * 7 + j)]
  exact hc i e (by rw [List.getElem?_set_self (List.getElem?_eq_some_iff.1 h.at_).1]) j v hv
theorem At7.frozen (h : At7 w W p g n c i es e0 e) (o : Nat) : W.frozen? ⟨g, o, none⟩ = false := by
  rcases h.row.2 with ⟨h0, _⟩ | ⟨g', cap, cur, hv, _, hh, _⟩
  · cases h0
  · obtain rfl : g = g' := by simpa [Value.ownBlock] using congrArg Value.ownBlock hv
    exact Blk.frozen (t := 75) (cs := cur) hh o
theorem At7.size (h : At7 w W p g n c i es e0 e) : w.heap.size ≤ W.heap.size := h.tch.size
theorem At7.gl (h : At7 w W p g n c i es e0 e) : g < W.heap.size := Nat.lt_of_lt_of_le h.lt.1 h.size
theorem At7.pl (h : At7 w W p g n c i es e0 e) : p < W.heap.size := Nat.lt_of_lt_of_le h.lt.2 h.size
/-- fresh memory behind it -/
theorem At7.below (h : At7 w W p g n c i es e0 e) (hb : Below W.heap.size W W') : At7 w W' p g n c i es e0 e where
  tch := h.tch.trans (Tch.of_below (hb.mono h.size))
  row := own_below h.row hb
  own := own_below h.own hb
  new := h.new
  hd := (hb.cell (p := ⟨p, 0, none⟩) h.pl).trans h.hd
  hi := h.hi
  ne := h.ne
  sep := h.sep
  lt := h.lt
  nc := h.nc
  at_ := h.at_
theorem At7.drewN (h : At7 w W p g n c i es e0 e) (k : Nat) : At7 w (W.drewN k) p g n c i es e0 e := h.below (below_drewN (Below.refl _ _) k)
theorem At7.drew (h : At7 w W p g n c i es e0 e) : At7 w W.drew p g n c i es e0 e := h.below (Below.refl _ _).drew
/-- its bytes' row, grown -/
theorem At7.store (h : At7 w W p g n c i es e0 e) {j : Nat} {u : Value} (hj : j < 7) (hu : (recells e).set j u = recells e') (hA : e'.A = e.A) (hl : e'.l = e.l) (hc : e'.c = e.c) : At7 w (W.setCell ⟨g, i * 7 + j, none⟩ u) p g n c i es e0 e' where
  tch := h.tch.trans (Tch.setCell fun _ => .inl rfl)
  row := by
    have hlt := (List.getElem?_eq_some_iff.1 h.at_).1
    have := own_set (i := i * 7 + j) (u := u) h.row
    rw [flat7_set (e := e) (e' := e') (List.getElem?_set_self hlt) hj hu, List.set_set] at this
    exact this
  own := by
    rw [show e'.v = e.v by unfold RE.v; rw [hA, hl, hc], hl]
    exact ownsRow_setCell_other h.own h.sep.1 _
  new := by rw [show e'.v = e.v by unfold RE.v; rw [hA, hl, hc]]; exact h.new
  hd := (World.cell?_setCell_other _ _ _ _ (fun e2 => h.ne (congrArg Addr.block e2))).trans h.hd
  hi := h.hi
  ne := h.ne
  sep := by rw [show e'.v = e.v by unfold RE.v; rw [hA, hl, hc]]; exact h.sep
  lt := h.lt
  nc := h.nc
  at_ := h.at_
/-- its bytes' row, grown or laid anew in W', and the slice put into its cell -/
theorem At7.put (h : At7 w W p g n c i es e0 e) {A' : Option Addr} {n' c' : Nat} {l' : List UInt8} (hg : W.grownBy W' e.v.ownBlock) (ho : W'.ownsRow 0 5 1 (.slice A' n' c') n' (bvs l')) (hn : l'.length = n')
    (hnew : (Value.slice A' n' c').ownBlock = e.v.ownBlock ∨ ∀ x, (Value.slice A' n' c').ownBlock = some x → W.heap.size ≤ x) :
    At7 w (W'.setCell ⟨g, i * 7 + 4, none⟩ (.slice A' n' c')) p g n c i es e0 ⟨e.k, A', l', c', e.r, e.s⟩ := by
  subst hn
  have hsep : (Value.slice A' l'.length c').ownBlock ≠ some g := by
    rcases hnew with h1 | h1
    · rw [h1]; exact h.sep.1
    · intro h2; have := h1 g h2; have := h.gl; omega
  have hgp : p ≠ g := h.ne.symm
  have hep : e.v.ownBlock ≠ some p := by
    intro h2
    rcases h.new p h2 with h3 | h3
    · exact h.sep.2.2 h3
    · have := h.lt.2; omega
  have hrow : W'.ownsRow 0 75 7 (.slice (some ⟨g, 0, none⟩) n c) n (flat7 (es.set i e)) := own_keep h.row fun x hx => by
    obtain rfl : g = x := by simpa [Value.ownBlock] using hx
    exact hg.block g h.gl fun e2 => h.sep.1 e2.symm
  refine ⟨?_, ?_, ?_, ?_, ?_, h.hi, h.ne, ⟨hsep, h.sep.2⟩, h.lt, h.nc, h.at_⟩
  · refine h.tch.trans ((Tch.grown hg h.size fun x hx hlt => ?_).trans (Tch.setCell fun _ => .inl rfl))
    rcases h.new x hx with h3 | h3
    · exact .inr h3
    · omega
  · have hlt := (List.getElem?_eq_some_iff.1 h.at_).1
    have := own_set (i := i * 7 + 4) (u := .slice A' l'.length c') hrow
    rw [flat7_set (e := e) (e' := ⟨e.k, A', l', c', e.r, e.s⟩) (List.getElem?_set_self hlt) (by omega) rfl, List.set_set] at this
    exact this
  · exact ownsRow_setCell_other ho hsep _
  · intro x hx
    rcases hnew with h1 | h1
    · exact h.new x (h1 ▸ hx)
    · exact .inr (Nat.le_trans h.size (h1 x hx))
  · refine (World.cell?_setCell_other _ _ _ _ (fun e2 => hgp (congrArg Addr.block e2).symm)).trans (Eq.trans ?_ h.hd)
    exact World.cell?_of_block (a := ⟨p, 0, none⟩) (hg.block p h.pl fun e2 => hep e2.symm)
/-- fresh memory, and a row of another one, behind it -/
theorem At7.aside (h : At7 w W p g n c i es e0 e) {row : Option Nat} (hg : W.grownBy W' row) (hr : ∀ x, row = some x → w.heap.size ≤ x ∧ e.v.ownBlock ≠ some x) : At7 w W' p g n c i es e0 e where
  tch := h.tch.trans (Tch.grown hg h.size fun k hk hlt => by have := (hr k hk).1; omega)
  row := own_keep h.row fun x hx => by
    obtain rfl : g = x := by simpa [Value.ownBlock] using hx
    exact hg.block g h.gl fun e2 => by have := (hr g e2.symm).1; have := h.lt.1; omega
  own := own_keep h.own fun x hx => hg.block x (h.own.lt x hx).2 fun e2 => (hr x e2.symm).2 hx
  new := h.new
  hd := by
    refine Eq.trans ?_ h.hd
    exact World.cell?_of_block (a := ⟨p, 0, none⟩) (hg.block p h.pl fun e2 => by have := (hr p e2.symm).1; have := h.lt.2; omega)
  hi := h.hi
  ne := h.ne
  sep := h.sep
  lt := h.lt
  nc := h.nc
  at_ := h.at_
/-- what is read besides -/
theorem At7.arg (h : At7 w W p g n c i es e0 e) {B2 sz n2 : Nat} {A2 : Option Addr} {xs : List Value} (hr : Rd w B2 sz A2 n2 xs) (hB : B2 ≤ w.heap.size) (hg : B2 ≤ g) (ho : ∀ x, e0.v.ownBlock = some x → B2 ≤ x) : Rd W B2 sz A2 n2 xs :=
  hr.keep fun b o hb => World.cell?_of_block (a := ⟨b, o, none⟩) (h.tch.block b (by omega) (by
    rintro (rfl | e2)
    · omega
    · have := ho b e2; omega))
theorem At7.np (h : At7 w W p g n c i es e0 e) : e.v.ownBlock ≠ some p := by
  intro h2
  rcases h.new p h2 with h3 | h3
  · exact h.sep.2.2 h3
  · have := h.lt.2; omega
theorem At7.nb (h : At7 w W p g n c i es e0 e) {B2 bb : Nat} (hbb : bb < B2) (hB : B2 ≤ w.heap.size) (ho : ∀ x, e0.v.ownBlock = some x → B2 ≤ x) : e.v.ownBlock ≠ some bb := by
  intro h2
  rcases h.new bb h2 with h3 | h3
  · have := ho bb h3; omega
  · omega
end
end
end Go.Proofs.Ytkjgieehiimiiaa

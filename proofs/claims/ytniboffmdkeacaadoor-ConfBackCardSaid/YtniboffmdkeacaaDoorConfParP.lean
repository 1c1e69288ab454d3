/- Configurations' texts: the names' map, lines: no program in sight. -/
import Derived.Test.YtniboffmdkeacaaDoorConfReg
import Derived.Lib.SplitLaws
import Derived.Lib.ReplaceLaws
namespace Go.Proofs.YtniboffmdkeacaaDoor
open Go.RowKit Go.WideMaps
set_option linter.unusedSimpArgs false
set_option linter.unusedVariables false

theorem skey_inj {a b : List UInt8} (ha : a.length ≤ maxLen) (hb : b.length ≤ maxLen) (h : skey a = skey b) : a = b := by
  have := congrArg (·.val) h
  simpa [skey_val ha, skey_val hb] using this
/-- the map of names, made from the end on -/
def namesBack : Nat → List RegV → List (SKey × Value)
  | _, [] => []
  | m, r :: rest => mput (namesBack (m + 1) rest) (skey r.name) (.int .i64 (m : Int))
theorem namesBack_get {nm : List UInt8} (hn : nm.length ≤ maxLen) : ∀ (L : List RegV) (m : Nat), (∀ r ∈ L, r.name.length ≤ maxLen) →
    mget (namesBack m L) (skey nm) = (placeP L nm).map fun k => .int .i64 ((m + k : Nat) : Int)
  | [], _, _ => rfl
  | r :: rest, m, h => by
    rw [namesBack, mget_put]
    by_cases e : r.name = nm
    · rw [if_pos (by rw [e])]
      simp [placeP, List.findIdx?_cons, e]
    · rw [if_neg fun e' => e (skey_inj (h r (by simp)) hn e'), namesBack_get hn rest (m + 1) fun x hx => h x (by simp [hx])]
      simp only [placeP, List.findIdx?_cons, e, decide_false, Bool.false_eq_true, if_false, Option.map_map]
      congr 1
      funext k
      simp
      omega
def tcells (l : List (List UInt8 × List UInt8)) : List Value := l.flatMap fun t => [.string ⟨t.1.toArray⟩, .string ⟨t.2.toArray⟩]
theorem tcells_snoc (l : List (List UInt8 × List UInt8)) (a b : List UInt8) : tcells (l ++ [(a, b)]) = tcells l ++ [.string ⟨a.toArray⟩, .string ⟨b.toArray⟩] := by simp [tcells]
theorem tcells_get {l : List (List UInt8 × List UInt8)} {k : Nat} {t : List UInt8 × List UInt8} (h : l[k]? = some t) : (tcells l)[k * 2]? = some (.string ⟨t.1.toArray⟩) ∧ (tcells l)[k * 2 + 1]? = some (.string ⟨t.2.toArray⟩) :=
  ⟨flat_get (fun t : List UInt8 × List UInt8 => [Value.string ⟨t.1.toArray⟩, Value.string ⟨t.2.toArray⟩]) 2 (fun _ => rfl) l k t h 0 _ rfl, flat_get (fun t : List UInt8 × List UInt8 => [Value.string ⟨t.1.toArray⟩, Value.string ⟨t.2.toArray⟩]) 2 (fun _ => rfl) l k t h 1 _ rfl⟩

theorem linesP_at {st : PSt} {i : Nat} {L : List (List UInt8)} {l : List UInt8} (h : L[i]? = some l) :
    linesP st i (L.drop i) = match lineP st (i + 1) (fieldsP l) with
      | (none, e) => (none, i + 1, e)
      | (some st', _) => linesP st' (i + 1) (L.drop (i + 1)) := by
  obtain ⟨hi, rfl⟩ := List.getElem?_eq_some_iff.1 h
  rw [List.drop_eq_getElem_cons hi]
  rfl

/-- what conf.Parse keeps of the lines that it has read -/
structure PRows (B : Nat) (w : World) (st : PSt) (A5 A6 A7 A8 : Option Addr) (c5 c6 c7 c8 : Nat) : Prop where
  regs : w.ownsRow B 38 9 (.slice A5 st.regs.length c5) st.regs.length (rcellsOf st.regs)
  clears : w.ownsRow B 9 1 (.slice A6 st.clears.length c6) st.clears.length (svs st.clears)
  trust : w.ownsRow B 102 2 (.slice A7 st.trust.length c7) st.trust.length (tcells st.trust)
  ats : w.ownsRow B 3 1 (.slice A8 st.at_.length c8) st.at_.length (ivs st.at_)
theorem PRows.below {B : Nat} {w w' : World} {st : PSt} {A5 A6 A7 A8 : Option Addr} {c5 c6 c7 c8 : Nat} (h : PRows B w st A5 A6 A7 A8 c5 c6 c7 c8) (hb : Below w.heap.size w w') : PRows B w' st A5 A6 A7 A8 c5 c6 c7 c8 :=
  ⟨own_below h.regs hb, own_below h.clears hb, own_below h.trust hb, own_below h.ats hb⟩
theorem placeP_names {R R' : List RegV} (h : R.map (·.name) = R'.map (·.name)) (nm : List UInt8) : placeP R nm = placeP R' nm := by
  induction R generalizing R' with
  | nil => cases R' with
    | nil => rfl
    | cons x r => simp at h
  | cons x r ih =>
    cases R' with
    | nil => simp at h
    | cons y t =>
      simp only [List.map_cons, List.cons.injEq] at h
      have := ih h.2
      unfold placeP at this ⊢
      simp only [List.findIdx?_cons, h.1, this]
theorem placeP_lt {R : List RegV} {nm : List UInt8} {k : Nat} (h : placeP R nm = some k) : k < R.length := by
  have := List.findIdx?_eq_some_iff_getElem.1 h
  exact this.1

theorem fieldsGo_le : ∀ (l cur x : List UInt8), x ∈ Lib.fieldsGo cur l → x.length ≤ cur.length + l.length
  | [], cur, x, h => by
    cases cur with
    | nil => simp [Lib.fieldsGo] at h
    | cons a t => simp [Lib.fieldsGo] at h; subst h; simp
  | b :: l, cur, x, h => by
    unfold Lib.fieldsGo at h
    split at h
    · split at h
      · have := fieldsGo_le l [] x h; simp at this ⊢; omega
      · rcases List.mem_cons.1 h with h | h
        · subst h; omega
        · have := fieldsGo_le l [] x h; simp at this ⊢; omega
    · have := fieldsGo_le l _ x h
      simp at this ⊢; omega
theorem fields_le {l x : List UInt8} (h : x ∈ fieldsP l) : x.length ≤ l.length := by
  have := fieldsGo_le _ _ _ h
  obtain ⟨i, hi⟩ := cut_fst l [35]
  rw [hi] at this
  simp at this
  omega
theorem wd_le {ws : List (List UInt8)} {n : Nat} (h : ∀ x ∈ ws, x.length ≤ n) (k : Nat) : (wd ws k).length ≤ n := by
  unfold wd
  rw [List.getD_eq_getElem?_getD]
  cases hk : ws[k]? with
  | none => simp
  | some x => exact h x (List.mem_of_getElem? hk)
theorem regP_texts {ws : List (List UInt8)} {r : RegV} {tw : List UInt8} {er : Int} (h : regP ws = (some (r, tw), er)) : r.name = wd ws 1 ∧ tw = wd ws 14 := by
  unfold regP at h
  split at h
  · cases h
  · split at h
    · cases h
    · split at h
      · injection h with h1 h2
        injection h1 with h1
        injection h1 with h1 h3
        subst h1
        exact ⟨rfl, h3.symm⟩
      · cases h

/-- the bounds of what has been read -/
structure PB (st : PSt) (i : Nat) : Prop where
  regs : st.regs.length ≤ i
  trust : st.trust.length ≤ i
  cl : st.clears.length = st.regs.length
  at_ : st.at_.length = st.trust.length
  rn : ∀ r ∈ st.regs, r.name.length ≤ 59000
  cn : ∀ c ∈ st.clears, c.length ≤ 59000
  tn : ∀ t ∈ st.trust, t.1.length ≤ 59000
theorem PB.skip {st : PSt} {i : Nat} (h : PB st i) : PB st (i + 1) := ⟨by have := h.regs; omega, by have := h.trust; omega, h.cl, h.at_, h.rn, h.cn, h.tn⟩
theorem PB.label {st : PSt} {i : Nat} (h : PB st i) {r : RegV} {c : List UInt8} (hr : r.name.length ≤ 59000) (hc : c.length ≤ 59000) : PB { st with regs := st.regs ++ [r], clears := st.clears ++ [c] } (i + 1) :=
  ⟨by have := h.regs; simp; omega, by have := h.trust; show st.trust.length ≤ i + 1; omega, by have := h.cl; simp [this], h.at_,
    fun x hx => by rcases List.mem_append.1 hx with hx | hx; exact h.rn x hx; simp at hx; rw [hx]; exact hr,
    fun x hx => by rcases List.mem_append.1 hx with hx | hx; exact h.cn x hx; simp at hx; rw [hx]; exact hc, h.tn⟩
theorem PB.mark {st : PSt} {i : Nat} (h : PB st i) {a b : List UInt8} (ha : a.length ≤ 59000) {n : Nat} : PB { st with trust := st.trust ++ [(a, b)], at_ := st.at_ ++ [n] } (i + 1) :=
  ⟨by have := h.regs; show st.regs.length ≤ i + 1; omega, by have := h.trust; simp; omega, h.cl, by have := h.at_; simp [this], h.rn, h.cn,
    fun x hx => by rcases List.mem_append.1 hx with hx | hx; exact h.tn x hx; simp at hx; rw [hx]; exact ha⟩

/-! ### a text's lines -/
theorem splitK_sub (sep : List UInt8) (save : Nat) : ∀ (k : Nat) (l x : List UInt8), x ∈ Lib.splitK sep save k l → ∃ a b, x = (l.drop a).take b
  | 0, l, x, h => by
    simp [Lib.splitK] at h
    exact ⟨0, l.length, by simp [h]⟩
  | k + 1, l, x, h => by
    unfold Lib.splitK at h
    split at h
    · simp at h
      exact ⟨0, l.length, by simp [h]⟩
    · rcases List.mem_cons.1 h with h | h
      · exact ⟨0, _, by rw [h, List.drop_zero]⟩
      · obtain ⟨a, b, e⟩ := splitK_sub sep save k _ x h
        exact ⟨_, b, by rw [e, List.drop_drop]⟩
theorem linesOf_is (s : ByteArray) : linesOf s = Lib.splitK [10] 0 (Lib.countB s (str [10])) s.data.toList := Lib.splitB_data (str [10]) 0 _ s
theorem linesOf_length (s : ByteArray) : (linesOf s).length = Lib.countB s ⟨#[10]⟩ + 1 := by
  unfold linesOf
  rw [List.length_map]
  exact Lib.splitB_all (str [10]) (by decide) 0 _ s rfl
theorem linesOf_few (s : ByteArray) : (linesOf s).length ≤ s.size + 1 := by
  have := Lib.countB_mul_le (str [10]) (by decide) s.size s (Nat.le_refl _)
  rw [linesOf_length]
  have e : (str [10]).size = 1 := rfl
  rw [e, Nat.mul_one] at this
  exact Nat.succ_le_succ this
theorem linesOf_sub {s : ByteArray} {l : List UInt8} (h : l ∈ linesOf s) : l.length ≤ s.size ∧ ((∀ (j : Nat) b, s.data.toList[j]? = some b → b.toNat < 128) → ∀ (j : Nat) b, l[j]? = some b → b.toNat < 128) := by
  rw [linesOf_is] at h
  obtain ⟨a, b, rfl⟩ := splitK_sub _ _ _ _ _ h
  refine ⟨by rw [sz, List.length_take, List.length_drop]; omega, fun ha j c hc => ?_⟩
  rw [List.getElem?_take] at hc
  split at hc
  · rw [List.getElem?_drop] at hc
    exact ha _ c hc
  · cases hc
end Go.Proofs.YtniboffmdkeacaaDoor

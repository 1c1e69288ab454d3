/- Maps as lists of pairs: look-up, update, delete, length, for whatever keys read as keys (structs of numbers too). No program in sight. -/
import Derived.WalkKit
import Derived.Test.YtmhlokehdjnldaaDoorBase
import Derived.Maps.Keyed
import Derived.DeepKeys4
import Derived.Carry
namespace Go.Proofs.YtmhlokehdjnldaaDoor
open Go.RowKit Go.Maps
open Go.ChangeMaps (setBlock)
set_option linter.unusedSimpArgs false
set_option linter.unusedVariables false

section lists
variable {κ : Type} [DecidableEq κ] {β : Type}
def mget : List (κ × β) → κ → Option β
  | [], _ => none
  | (a, v) :: r, k => if a = k then some v else mget r k
def mput : List (κ × β) → κ → β → List (κ × β)
  | [], k, v => [(k, v)]
  | (a, u) :: r, k, v => if a = k then (a, v) :: r else (a, u) :: mput r k v
def mdel : List (κ × β) → κ → List (κ × β)
  | [], _ => []
  | (a, u) :: r, k => if a = k then r else (a, u) :: mdel r k

theorem mget_none_of {L : List (κ × β)} {k : κ} (h : ∀ x ∈ L, x.1 ≠ k) : mget L k = none := by
  induction L with
  | nil => rfl
  | cons x r ih =>
    simp only [mget]
    rw [if_neg (h x (by simp)), ih fun y hy => h y (by simp [hy])]
theorem mput_none_of {L : List (κ × β)} {k : κ} {v : β} (h : ∀ x ∈ L, x.1 ≠ k) : mput L k v = L ++ [(k, v)] := by
  induction L with
  | nil => rfl
  | cons x r ih =>
    simp only [mput]
    rw [if_neg (h x (by simp)), ih fun y hy => h y (by simp [hy])]
    rfl
theorem mdel_none_of {L : List (κ × β)} {k : κ} (h : ∀ x ∈ L, x.1 ≠ k) : mdel L k = L := by
  induction L with
  | nil => rfl
  | cons x r ih =>
    simp only [mdel]
    rw [if_neg (h x (by simp)), ih fun y hy => h y (by simp [hy])]
theorem mget_at {L : List (κ × β)} {k : κ} {v : β} {j : Nat} (hn : (L.map (·.1)).Nodup) (h : L[j]? = some (k, v)) : mget L k = some v := by
  induction L generalizing j with
  | nil => simp at h
  | cons x r ih =>
    simp only [List.map_cons, List.nodup_cons] at hn
    cases j with
    | zero => simp at h; subst h; simp [mget]
    | succ j =>
      simp at h
      have hne : x.1 ≠ k := fun e => hn.1 (e ▸ List.mem_map.2 ⟨_, List.mem_of_getElem? h, rfl⟩)
      simp only [mget]
      rw [if_neg hne, ih hn.2 h]
theorem mput_at {L : List (κ × β)} {k : κ} {v u : β} {j : Nat} (hn : (L.map (·.1)).Nodup) (h : L[j]? = some (k, v)) : mput L k u = L.set j (k, u) := by
  induction L generalizing j with
  | nil => simp at h
  | cons x r ih =>
    simp only [List.map_cons, List.nodup_cons] at hn
    cases j with
    | zero => simp at h; subst h; simp [mput]
    | succ j =>
      simp at h
      have hne : x.1 ≠ k := fun e => hn.1 (e ▸ List.mem_map.2 ⟨_, List.mem_of_getElem? h, rfl⟩)
      simp only [mput]
      rw [if_neg hne, ih hn.2 h]
      rfl
theorem mdel_at {L : List (κ × β)} {k : κ} {v : β} {j : Nat} (hn : (L.map (·.1)).Nodup) (h : L[j]? = some (k, v)) : mdel L k = L.eraseIdx j := by
  induction L generalizing j with
  | nil => simp at h
  | cons x r ih =>
    simp only [List.map_cons, List.nodup_cons] at hn
    cases j with
    | zero => simp at h; subst h; simp [mdel]
    | succ j =>
      simp at h
      have hne : x.1 ≠ k := fun e => hn.1 (e ▸ List.mem_map.2 ⟨_, List.mem_of_getElem? h, rfl⟩)
      simp only [mdel]
      rw [if_neg hne, ih hn.2 h]
      rfl
theorem mput_keys (L : List (κ × β)) (k : κ) (v : β) : (mput L k v).map (·.1) = if k ∈ L.map (·.1) then L.map (·.1) else L.map (·.1) ++ [k] := by
  induction L with
  | nil => simp [mput]
  | cons x r ih =>
    simp only [mput]
    by_cases h : x.1 = k
    · simp [h]
    · rw [if_neg h]
      simp only [List.map_cons, ih, List.mem_cons]
      by_cases h2 : k ∈ r.map (·.1)
      · simp [h2]
      · rw [if_neg h2, if_neg (by rintro (h3 | h3); exact h h3.symm; exact h2 h3)]
        rfl
theorem mput_nodup {L : List (κ × β)} (k : κ) (v : β) (h : (L.map (·.1)).Nodup) : ((mput L k v).map (·.1)).Nodup := by
  rw [mput_keys]
  split
  · exact h
  · rename_i hk
    rw [List.nodup_append]
    exact ⟨h, by simp, fun a ha b hb => by simp at hb; subst hb; exact fun e => hk (e ▸ ha)⟩
theorem mdel_sub (L : List (κ × β)) (k : κ) : (mdel L k).Sublist L := by
  induction L with
  | nil => exact List.Sublist.refl _
  | cons x r ih =>
    simp only [mdel]
    split
    · exact List.sublist_cons_self _ _
    · exact ih.cons_cons _
theorem mdel_nodup {L : List (κ × β)} (k : κ) (h : (L.map (·.1)).Nodup) : ((mdel L k).map (·.1)).Nodup := h.sublist ((mdel_sub L k).map _)
theorem mget_put (L : List (κ × β)) (k k' : κ) (v : β) : mget (mput L k v) k' = if k = k' then some v else mget L k' := by
  induction L with
  | nil => simp [mput, mget]
  | cons x r ih =>
    simp only [mput]
    by_cases h : x.1 = k
    · rw [if_pos h]
      simp only [mget, h]
      split <;> rfl
    · rw [if_neg h]
      simp only [mget, ih]
      by_cases h2 : x.1 = k'
      · rw [if_pos h2, if_pos h2, if_neg (fun e => h (h2.trans e.symm))]
      · rw [if_neg h2, if_neg h2]
theorem mget_mem {L : List (κ × β)} {k : κ} {v : β} (h : mget L k = some v) : (k, v) ∈ L := by
  induction L with
  | nil => simp [mget] at h
  | cons x r ih =>
    simp only [mget] at h
    split at h
    · rename_i hx
      simp at h
      subst h; subst hx
      simp
    · simp [ih h]
theorem mget_none_iff {L : List (κ × β)} {k : κ} : mget L k = none ↔ k ∉ L.map (·.1) := by
  constructor
  · intro h hk
    induction L with
    | nil => simp at hk
    | cons x r ih =>
      simp only [mget] at h
      split at h
      · cases h
      · rename_i hx
        simp only [List.map_cons, List.mem_cons] at hk
        rcases hk with hk | hk
        · exact hx hk.symm
        · exact ih h hk
  · intro h
    exact mget_none_of fun x hx e => h (e ▸ List.mem_map.2 ⟨x, hx, rfl⟩)
theorem mget_del {L : List (κ × β)} (hn : (L.map (·.1)).Nodup) (k k' : κ) : mget (mdel L k) k' = if k = k' then none else mget L k' := by
  induction L with
  | nil => simp [mdel, mget]
  | cons x r ih =>
    simp only [List.map_cons, List.nodup_cons] at hn
    simp only [mdel]
    by_cases h : x.1 = k
    · rw [if_pos h]
      by_cases h2 : k = k'
      · rw [if_pos h2]
        exact mget_none_iff.2 (by rw [← h2, ← h]; exact hn.1)
      · rw [if_neg h2]
        simp only [mget]
        rw [if_neg (fun e => h2 (h.symm.trans e))]
    · rw [if_neg h]
      simp only [mget, ih hn.2]
      by_cases h2 : x.1 = k'
      · rw [if_pos h2, if_pos h2, if_neg (fun e => h (h2.trans e.symm))]
      · rw [if_neg h2, if_neg h2]
theorem map_eraseIdx' {α γ : Type} (f : α → γ) : ∀ (l : List α) (i : Nat), (l.eraseIdx i).map f = (l.map f).eraseIdx i
  | [], _ => rfl
  | _ :: _, 0 => rfl
  | x :: r, i + 1 => by simp [List.eraseIdx, map_eraseIdx' f r i]
end lists

/-- Keys of type K, as Lean knows them. -/
structure KeyEnc (P : Program) (K : TypeId) {κ : Type} (kv : κ → Value) : Prop where
  keyed : Keyed P K
  reads : ∀ a, ∃ l, keyOf P K (kv a) = some l
  inj : ∀ a b, kv a = kv b → a = b

/-- Block m is a map that holds just these. -/
def MapIs {κ : Type} (kv : κ → Value) (w : World) (m : Nat) (L : List (κ × Value)) : Prop :=
  ∃ es clock, w.heap[m]? = some (.map es clock) ∧ es.toList.map (fun e => (e.key, e.val)) = L.map (fun x => (kv x.1, x.2)) ∧ (L.map (·.1)).Nodup

section
variable {P : Program} {K E T : TypeId} {κ : Type} {kv : κ → Value} {w w' : World} {m : Nat} {L : List (κ × Value)}

theorem MapIs.lt (h : MapIs kv w m L) : m < w.heap.size := by
  obtain ⟨es, c, hb, _⟩ := h
  exact (Array.getElem?_eq_some_iff.1 hb).1
theorem MapIs.keep (h : MapIs kv w m L) (hk : w'.heap[m]? = w.heap[m]?) : MapIs kv w' m L := by
  obtain ⟨es, c, hb, r⟩ := h
  exact ⟨es, c, hk.trans hb, r⟩
theorem MapIs.not_own {base n size : Nat} {e : TypeId} {v : Value} {xs : List Value} (h : MapIs kv w m L) (ho : w.ownsRow base e size v n xs) : v.ownBlock ≠ some m := by
  intro hv
  obtain ⟨es, c, hb, _⟩ := h
  rcases ho.2 with ⟨rfl, _⟩ | ⟨g', cap, cur, rfl, _, hh, _⟩
  · cases hv
  · simp only [Value.ownBlock, Option.some.injEq] at hv
    subst hv
    rw [hb] at hh
    cases hh
theorem blk_not_map {g : Nat} {t : TypeId} {cs : Array Value} (hB : Blk w g t cs) (h : MapIs kv w m L) (e : g = m) : False := by
  obtain ⟨es, c, hb, _⟩ := h
  subst e
  unfold Blk at hB
  rw [hb] at hB
  cases hB
theorem MapIs.made (w : World) (kv : κ → Value) : MapIs kv (w.alloc (.map #[] 0)) w.heap.size ([] : List (κ × Value)) :=
  ⟨#[], 0, heap_alloc_new w _, by simp, by simp⟩
theorem MapIs.nodup (h : MapIs kv w m L) : (L.map (·.1)).Nodup := by
  obtain ⟨es, c, hb, he, hn⟩ := h
  exact hn

theorem MapIs.find (he : KeyEnc P K kv) {es : Array MapEntry} (hes : es.toList.map (fun e => (e.key, e.val)) = L.map (fun x => (kv x.1, x.2))) (k : κ) (w : World) :
    ((Instr.findKey K (kv k) es.toList).run P w = .ok none w ∧ ∀ x ∈ L, x.1 ≠ k) ∨
    ∃ j v, (Instr.findKey K (kv k) es.toList).run P w = .ok (some (j, v)) w ∧ L[j]? = some (k, v) ∧ (es[j]?).map (·.key) = some (kv k) := by
  obtain ⟨lk, hlk⟩ := he.reads k
  have hall : ∀ e ∈ es.toList, ∃ l, keyOf P K e.key = some l := fun e hm => by
    have : (e.key, e.val) ∈ L.map (fun x => (kv x.1, x.2)) := hes ▸ List.mem_map.2 ⟨e, hm, rfl⟩
    obtain ⟨x, _, hx⟩ := List.mem_map.1 this
    simp only [Prod.mk.injEq] at hx
    rw [← hx.1]
    exact he.reads x.1
  rcases he.keyed.find w hlk es.toList hall with ⟨h1, h2⟩ | ⟨j, e, h1, h2, h3⟩
  · refine .inl ⟨h1, fun x hx ek => ?_⟩
    have : (kv x.1, x.2) ∈ es.toList.map (fun e => (e.key, e.val)) := hes ▸ List.mem_map.2 ⟨x, hx, rfl⟩
    obtain ⟨e, hm, hx'⟩ := List.mem_map.1 this
    simp only [Prod.mk.injEq] at hx'
    exact h2 e hm (by rw [hx'.1, ek])
  · refine .inr ⟨j, e.val, h1, ?_, ?_⟩
    · have h4 : (L.map (fun x => (kv x.1, x.2)))[j]? = some (e.key, e.val) := by rw [← hes, List.getElem?_map, h2]; rfl
      rw [List.getElem?_map] at h4
      cases hj : L[j]? with
      | none => rw [hj] at h4; simp at h4
      | some x =>
        rw [hj] at h4
        simp only [Option.map_some, Option.some.injEq, Prod.mk.injEq] at h4
        have : x.1 = k := he.inj _ _ (h4.1.trans h3)
        rw [← this, ← h4.2]
    · rw [Array.getElem?_toList] at h2
      rw [h2]; simp [h3]

variable [DecidableEq κ]
theorem MapIs.lookup (h : MapIs kv w m L) (he : KeyEnc P K kv) (ht : P.underlying T = some (.map K E)) {z : Value} (hz : (zeroValue E).run P w = .ok z w) (k : κ) (ok : Bool) :
    (Instr.lookup T (.map (some m)) (kv k) ok).run P w = .ok (if ok then .tuple #[(mget L k).getD z, .bool (mget L k).isSome] else (mget L k).getD z) w := by
  obtain ⟨es, c, hb, hes, hn⟩ := h
  obtain ⟨lk, hlk⟩ := he.reads k
  have hck := he.keyed.check w (em := es.isEmpty) hlk
  rcases MapIs.find he hes k w with ⟨h1, h2⟩ | ⟨j, v, h1, h2, _⟩
  · rw [mget_none_of h2]
    simp [Instr.lookup, run_underlying ht, MapKept.run_getObj_map hb, hck, h1, hz, Result.andThen]
  · rw [mget_at hn h2]
    simp [Instr.lookup, run_underlying ht, MapKept.run_getObj_map hb, hck, h1, Result.andThen]

/-- What a step on the map leaves: that block alone is another. -/
def OnlyMap (w w' : World) (m : Nat) : Prop := w.grownBy w' (some m) ∧ w'.heap.size = w.heap.size

theorem Tch.of_only {B : Nat} {w w' : World} {m : Nat} (h : OnlyMap w w' m) (hB : B ≤ w.heap.size) : Tch B (· = m) w w' :=
  Tch.grown h.1 hB fun k hk _ => by injection hk with hk; exact hk.symm

theorem onlyMap_set (w : World) (m : Nat) (o : Obj) (hm : m < w.heap.size) : OnlyMap w { w with heap := w.heap.setIfInBounds m o } m ∧ ({ w with heap := w.heap.setIfInBounds m o } : World).heap[m]? = some o := by
  refine ⟨⟨⟨rfl, rfl, rfl, by simp, fun k _ hk => ?_⟩, by simp⟩, by simp [hm]⟩
  have hne : m ≠ k := fun e => hk (by rw [e])
  simp [Array.getElem?_setIfInBounds_ne hne]

theorem MapIs.update (h : MapIs kv w m L) (he : KeyEnc P K kv) (ht : P.underlying T = some (.map K E)) (k : κ) (v : Value) :
    ∃ w', (Instr.mapUpdate T (.map (some m)) (kv k) v).run P w = .ok () w' ∧ MapIs kv w' m (mput L k v) ∧ OnlyMap w w' m := by
  have hlt := h.lt
  have hnd := mput_nodup k v h.nodup
  obtain ⟨es, c, hb, hes, hn⟩ := h
  obtain ⟨lk, hlk⟩ := he.reads k
  have hck := he.keyed.check w (em := false) hlk
  have hst := he.keyed.stays w hlk
  rcases MapIs.find he hes k w with ⟨h1, h2⟩ | ⟨j, u, h1, h2, h3⟩
  · obtain ⟨q1, q2⟩ := onlyMap_set w m (.map (es.push { key := kv k, val := v, born := c }) (c + 1)) hlt
    refine ⟨_, ?_, ⟨_, _, q2, ?_, hnd⟩, q1⟩
    · simp [Instr.mapUpdate, run_underlying ht, MapKept.run_getObj_map hb, hck, h1, MapKept.run_setObj_map _ hb, Result.andThen]
    · rw [mput_none_of h2]
      simp [hes]
  · obtain ⟨q1, q2⟩ := onlyMap_set w m (.map (es.modify j fun e => { e with key := kv k, val := v }) c) hlt
    refine ⟨_, ?_, ⟨_, _, q2, ?_, hnd⟩, q1⟩
    · simp [Instr.mapUpdate, run_underlying ht, MapKept.run_getObj_map hb, hck, h1, h3, hst, MapKept.run_setObj_map _ hb, Result.andThen]
    · rw [mput_at hn h2, Array.toList_modify]
      have hl : es.toList.length = L.length := by have := congrArg List.length hes; simpa using this
      have hj : j < L.length := (List.getElem?_eq_some_iff.1 h2).1
      apply List.ext_getElem?
      intro i
      simp only [List.getElem?_map, List.getElem?_modify, List.getElem?_set]
      have hi : (es.toList[i]?).map (fun e => (e.key, e.val)) = (L[i]?).map (fun x => (kv x.1, x.2)) := by
        have := congrArg (·[i]?) hes
        simpa [List.getElem?_map] using this
      by_cases hij : j = i
      · subst hij
        simp only [if_true, if_pos hj]
        have : j < es.toList.length := by omega
        rw [List.getElem?_eq_getElem this]
        simp
      · simp only [if_neg hij]
        cases hq : es.toList[i]? with
        | none => rw [hq] at hi; simpa using hi
        | some e => rw [hq] at hi; simpa using hi

theorem MapIs.delete (h : MapIs kv w m L) (he : KeyEnc P K kv) (ht : P.underlying T = some (.map K E)) (k : κ) (t2 ty : TypeId) :
    ∃ w', (Builtin.delete_ #[T, t2] ty #[.map (some m), kv k]).run P w = .ok (.tuple #[]) w' ∧ MapIs kv w' m (mdel L k) ∧ OnlyMap w w' m := by
  have hlt := h.lt
  have hnd := mdel_nodup k h.nodup
  obtain ⟨es, c, hb, hes, hn⟩ := h
  obtain ⟨lk, hlk⟩ := he.reads k
  have hck := he.keyed.check w (em := es.isEmpty) hlk
  rcases MapIs.find he hes k w with ⟨h1, h2⟩ | ⟨j, u, h1, h2, h3⟩
  · obtain ⟨q1, q2⟩ := onlyMap_set w m (.map es c) hlt
    refine ⟨_, ?_, ⟨_, _, q2, ?_, hnd⟩, q1⟩
    · simp [Builtin.delete_, run_underlying ht, MapKept.run_getObj_map hb, hck, h1, MapKept.run_setObj_map _ hb, Result.andThen]
    · rw [mdel_none_of h2, hes]
  · obtain ⟨q1, q2⟩ := onlyMap_set w m (.map (es.eraseIdxIfInBounds j) c) hlt
    refine ⟨_, ?_, ⟨_, _, q2, ?_, hnd⟩, q1⟩
    · simp [Builtin.delete_, run_underlying ht, MapKept.run_getObj_map hb, hck, h1, MapKept.run_setObj_map _ hb, Result.andThen]
    · rw [mdel_at hn h2]
      have hj : j < L.length := (List.getElem?_eq_some_iff.1 h2).1
      have hl : es.toList.length = L.length := by have := congrArg List.length hes; simpa using this
      have : (es.eraseIdxIfInBounds j).toList = es.toList.eraseIdx j := by
        rw [Array.eraseIdxIfInBounds, dif_pos (by simpa using (by omega : j < es.toList.length))]
        simp
      rw [this, map_eraseIdx', hes, map_eraseIdx']

omit [DecidableEq κ] in
theorem MapIs.len (h : MapIs kv w m L) (ht : P.underlying T = some (.map K E)) (ty : TypeId) : (Builtin.len_ #[T] ty #[.map (some m)]).run P w = .ok (.int .i64 L.length) w := by
  obtain ⟨es, c, hb, hes, hn⟩ := h
  have hl : es.size = L.length := by have := congrArg List.length hes; simpa using this
  simp [Builtin.len_, run_underlying ht, MapKept.run_getObj_map hb, hl, goInt, Result.andThen]
end

end Go.Proofs.YtmhlokehdjnldaaDoor

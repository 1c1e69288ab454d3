/- Maps whose entries' stamps are apart: update, clear, and what a range over them meets, in whatever order. No program in sight. -/
import Derived.Test.YtmhlokehdjnldaaDoorMap
import Derived.Maps.RangeWalk
namespace Go.Proofs.YtmhlokehdjnldaaDoor
open Go.RowKit Go.Maps
open Go.ChangeMaps (setBlock)
set_option linter.unusedSimpArgs false
set_option linter.unusedVariables false

/-- the facts of a map's entries -/
structure Ents {κ : Type} (kv : κ → Value) (es : Array MapEntry) (clock : Nat) (L : List (κ × Value)) : Prop where
  ents : es.toList.map (fun e => (e.key, e.val)) = L.map (fun x => (kv x.1, x.2))
  nodup : (L.map (·.1)).Nodup
  old : ∀ e ∈ es.toList, e.born < clock
  apart : (es.toList.map (·.born)).Nodup

/-- Block m is a map that holds just these, its stamps apart. -/
def MapR {κ : Type} (kv : κ → Value) (w : World) (m : Nat) (L : List (κ × Value)) : Prop :=
  ∃ es clock, w.heap[m]? = some (.map es clock) ∧ Ents kv es clock L

section
variable {P : Program} {K E T : TypeId} {κ : Type} {kv : κ → Value} {w w' : World} {m r : Nat} {L : List (κ × Value)} {done : List κ}

theorem MapR.is (h : MapR kv w m L) : MapIs kv w m L := by
  obtain ⟨es, c, hb, he⟩ := h
  exact ⟨es, c, hb, he.ents, he.nodup⟩
theorem MapR.lt (h : MapR kv w m L) : m < w.heap.size := h.is.lt
theorem MapR.keep (h : MapR kv w m L) (hk : w'.heap[m]? = w.heap[m]?) : MapR kv w' m L := by
  obtain ⟨es, c, hb, r⟩ := h
  exact ⟨es, c, hk.trans hb, r⟩
theorem MapR.below {B : Nat} (h : MapR kv w m L) (hb : Below B w w') (hm : m < B) : MapR kv w' m L := h.keep (hb.block m hm)
theorem MapR.made (w : World) (kv : κ → Value) : MapR kv (w.alloc (.map #[] 0)) w.heap.size ([] : List (κ × Value)) :=
  ⟨#[], 0, heap_alloc_new w _, by simp, by simp, by simp, by simp⟩
theorem MapR.nodup (h : MapR kv w m L) : (L.map (·.1)).Nodup := h.is.nodup

theorem MapR.clear (h : MapR kv w m L) {t ty : TypeId} (ht : P.underlying t = some (.map K E)) :
    ∃ w', (Builtin.clear_ #[t] ty #[.map (some m)]).run P w = .ok (.tuple #[]) w' ∧ MapR kv w' m ([] : List (κ × Value)) ∧ OnlyMap w w' m := by
  have hlt := h.lt
  obtain ⟨es, c, hb, _⟩ := h
  obtain ⟨q1, q2⟩ := onlyMap_set w m (.map #[] c) hlt
  refine ⟨_, ?_, ⟨_, _, q2, by simp, by simp, by simp, by simp⟩, q1⟩
  simp [Builtin.clear_, run_underlying ht, MapKept.run_getObj_map hb, MapKept.run_setObj_map _ hb, Result.andThen]

variable [DecidableEq κ]
theorem MapR.update (h : MapR kv w m L) (he : KeyEnc P K kv) (ht : P.underlying T = some (.map K E)) (k : κ) (v : Value) :
    ∃ w', (Instr.mapUpdate T (.map (some m)) (kv k) v).run P w = .ok () w' ∧ MapR kv w' m (mput L k v) ∧ OnlyMap w w' m := by
  have hlt := h.lt
  have hnd := mput_nodup k v h.nodup
  obtain ⟨es, c, hb, hE⟩ := h
  obtain ⟨hes, hn, ho, ha⟩ := hE
  obtain ⟨lk, hlk⟩ := he.reads k
  have hck := he.keyed.check w (em := false) hlk
  have hst := he.keyed.stays w hlk
  rcases MapIs.find he hes k w with ⟨h1, h2⟩ | ⟨j, u, h1, h2, h3⟩
  · obtain ⟨q1, q2⟩ := onlyMap_set w m (.map (es.push { key := kv k, val := v, born := c }) (c + 1)) hlt
    refine ⟨_, ?_, ⟨_, _, q2, ?_, hnd, ?_, ?_⟩, q1⟩
    · simp [Instr.mapUpdate, run_underlying ht, MapKept.run_getObj_map hb, hck, h1, MapKept.run_setObj_map _ hb, Result.andThen]
    · rw [mput_none_of h2]
      simp [hes]
    · intro e hm
      rw [Array.toList_push, List.mem_append, List.mem_singleton] at hm
      rcases hm with hm | rfl
      · have := ho e hm; omega
      · simp
    · rw [Array.toList_push, List.map_append, List.nodup_append]
      refine ⟨ha, by simp, ?_⟩
      intro a ha' b hb' e
      simp only [List.map_cons, List.map_nil, List.mem_singleton] at hb'
      obtain ⟨x, hx, rfl⟩ := List.mem_map.1 ha'
      have := ho x hx
      omega
  · obtain ⟨q1, q2⟩ := onlyMap_set w m (.map (es.modify j fun e => { e with key := kv k, val := v }) c) hlt
    have hb9 : ((es.modify j fun e => { e with key := kv k, val := v }).toList.map (·.born)) = es.toList.map (·.born) := by
      rw [Array.toList_modify]
      apply List.ext_getElem?
      intro i
      simp only [List.getElem?_map, List.getElem?_modify]
      cases hq : es.toList[i]? with
      | none => simp
      | some e => by_cases hij : j = i <;> simp [hij]
    refine ⟨_, ?_, ⟨_, _, q2, ?_, hnd, ?_, by rw [hb9]; exact ha⟩, q1⟩
    · simp [Instr.mapUpdate, run_underlying ht, MapKept.run_getObj_map hb, hck, h1, h3, hst, MapKept.run_setObj_map _ hb, Result.andThen]
    · rw [mput_at hn h2, Array.toList_modify]
      have hl : es.toList.length = L.length := by have := congrArg List.length hes; simpa using this
      have hj : j < L.length := (List.getElem?_eq_some_iff.1 h2).1
      apply List.ext_getElem?
      intro i
      simp only [List.getElem?_map, List.getElem?_modify, List.getElem?_set]
      have hi : (es.toList[i]?).map (fun e => (e.key, e.val)) = (L[i]?).map (fun x => (kv x.1, x.2)) := by
        have := congrArg (·[i]?) hes
        simpa [List.getElem?_map] using this
      by_cases hij : j = i
      · subst hij
        simp only [if_true, if_pos hj]
        have : j < es.toList.length := by omega
        rw [List.getElem?_eq_getElem this]
        simp
      · simp only [if_neg hij]
        cases hq : es.toList[i]? with
        | none => rw [hq] at hi; simpa using hi
        | some e => rw [hq] at hi; simpa using hi
    · intro e hm
      have : e.born ∈ es.toList.map (·.born) := hb9 ▸ List.mem_map.2 ⟨e, hm, rfl⟩
      obtain ⟨x, hx, hxe⟩ := List.mem_map.1 this
      have := ho x hx
      omega

/-- Map m, in which an entry of a key that was none has been made, and not been stored into. -/
def MapE (kv : κ → Value) (w : World) (m : Nat) (L : List (κ × Value)) (k : κ) (b : Nat) : Prop :=
  ∃ es clock z, w.heap[m]? = some (.map (es.push { key := kv k, val := z, born := clock }) (clock + 1)) ∧ Ents kv es clock L ∧ b = clock ∧ mget L k = none
theorem MapR.entry (h : MapR kv w m L) (he : KeyEnc P K kv) (ht : P.underlying T = some (.map K E)) {z : Value} (hz : ∀ w, (zeroValue E).run P w = .ok z w) (k : κ) (hk : mget L k = none) :
    ∃ (b : Nat) (w' : World), (Instr.mapEntry T (.map (some m)) (kv k)).run P w = .ok (.tuple #[z, .int .i64 (b : Int)]) w' ∧ MapE kv w' m L k b ∧ OnlyMap w w' m := by
  have hlt := h.lt
  obtain ⟨es, c, hb, hE⟩ := h
  obtain ⟨lk, hlk⟩ := he.reads k
  have hck := he.keyed.check w (em := false) hlk
  rcases MapIs.find he hE.ents k w with ⟨h1, h2⟩ | ⟨j, u, h1, h2, h3⟩
  · obtain ⟨q1, q2⟩ := onlyMap_set w m (.map (es.push { key := kv k, val := z, born := c }) (c + 1)) hlt
    refine ⟨c, _, ?_, ⟨es, c, z, q2, hE, rfl, hk⟩, q1⟩
    simp [Instr.mapEntry, run_underlying ht, MapKept.run_getObj_map hb, hck, h1, hz, MapKept.run_setObj_map _ hb, Result.andThen, goInt]
  · rw [mget_at hE.nodup h2] at hk
    cases hk
theorem MapE.lt {b : Nat} {k : κ} (h : MapE kv w m L k b) : m < w.heap.size := by
  obtain ⟨es, c, z, hb, _⟩ := h
  exact (Array.getElem?_eq_some_iff.1 hb).1
theorem MapE.keep {b : Nat} {k : κ} (h : MapE kv w m L k b) (hk : w'.heap[m]? = w.heap[m]?) : MapE kv w' m L k b := by
  obtain ⟨es, c, z, hb, r⟩ := h
  exact ⟨es, c, z, hk.trans hb, r⟩
theorem MapE.store {b : Nat} {k : κ} (h : MapE kv w m L k b) (v : Value) :
    ∃ w', (Instr.entryStore T (.map (some m)) (.int .i64 (b : Int)) v).run P w = .ok () w' ∧ MapR kv w' m (mput L k v) ∧ OnlyMap w w' m := by
  have hlt := h.lt
  obtain ⟨es, c, z, hb, hE, rfl, hk⟩ := h
  have hfi : (es.push { key := kv k, val := z, born := b }).findIdx? (fun e => (e.born : Int) == (b : Int)) = some es.size := by
    have h0 : es.findIdx? (fun e => (e.born : Int) == (b : Int)) = none := by
      rw [Array.findIdx?_eq_none_iff]
      intro x hx
      have := hE.old x (by simpa using hx)
      simp
      omega
    simp [Array.findIdx?_push, h0]
  obtain ⟨q1, q2⟩ := onlyMap_set w m (.map ((es.push { key := kv k, val := z, born := b }).modify es.size fun e => { e with val := v }) (b + 1)) hlt
  have hmod : (es.push { key := kv k, val := z, born := b }).modify es.size (fun e => { e with val := v }) = es.push { key := kv k, val := v, born := b } := by
    apply Array.toList_inj.1
    rw [Array.toList_modify, Array.toList_push, Array.toList_push]
    have : es.size = es.toList.length := by simp
    rw [this]
    apply List.ext_getElem?
    intro i
    rw [List.getElem?_modify]
    by_cases hi : i < es.toList.length
    · rw [List.getElem?_append_left hi, List.getElem?_append_left hi]
      have hne : es.size ≠ i := by rw [this]; omega
      cases es.toList[i]? <;> simp [hne]
    · by_cases h2 : i = es.toList.length
      · subst h2
        simp
      · rw [List.getElem?_eq_none (by simp at hi ⊢; omega), List.getElem?_eq_none (by simp at hi ⊢; omega)]
        rfl
  rw [hmod] at q1 q2
  refine ⟨_, ?_, ⟨_, _, q2, ?_, mput_nodup k v hE.nodup, ?_, ?_⟩, q1⟩
  · simp [Instr.entryStore, MapKept.run_getObj_map hb, hfi, MapKept.run_setObj_map _ hb, Result.andThen, asInt, asIntOf, hmod]
  · rw [mput_none_of fun x hx e => (mget_none_iff.1 hk) (List.mem_map.2 ⟨x, hx, e⟩)]
    simp [hE.ents]
  · intro e hm
    rw [Array.toList_push, List.mem_append, List.mem_singleton] at hm
    rcases hm with hm | rfl
    · have := hE.old e hm; omega
    · simp
  · rw [Array.toList_push, List.map_append, List.nodup_append]
    refine ⟨hE.apart, by simp, ?_⟩
    intro a ha' b' hb' e
    simp only [List.map_cons, List.map_nil, List.mem_singleton] at hb'
    obtain ⟨x, hx, rfl⟩ := List.mem_map.1 ha'
    have := hE.old x hx
    omega
omit [DecidableEq κ]

/-- A range over map m, its iterator in block r, under way: 'done' have come. -/
def Iter (kv : κ → Value) (w : World) (m r : Nat) (L : List (κ × Value)) (done : List κ) : Prop :=
  ∃ es clock seen, w.heap[m]? = some (.map es clock) ∧ Ents kv es clock L ∧ w.heap[r]? = some (.mapIter (some m) clock seen clock) ∧
    done.Nodup ∧ (∀ k ∈ done, k ∈ L.map (·.1)) ∧ ∀ (j : Nat) (x : κ × Value) (e : MapEntry), L[j]? = some x → es.toList[j]? = some e → (x.1 ∈ done ↔ seen.contains e.born = true)

theorem Iter.map (h : Iter kv w m r L done) : MapR kv w m L := by
  obtain ⟨es, clock, seen, hb, he, _⟩ := h
  exact ⟨es, clock, hb, he⟩
theorem Iter.lt (h : Iter kv w m r L done) : r < w.heap.size := by
  obtain ⟨es, clock, seen, hb, he, hr, _⟩ := h
  exact (Array.getElem?_eq_some_iff.1 hr).1
theorem Iter.ne (h : Iter kv w m r L done) : r ≠ m := by
  obtain ⟨es, clock, seen, hb, he, hr, _⟩ := h
  intro e
  rw [e, hb] at hr
  cases hr
theorem Iter.keep (h : Iter kv w m r L done) (hm : w'.heap[m]? = w.heap[m]?) (hr' : w'.heap[r]? = w.heap[r]?) : Iter kv w' m r L done := by
  obtain ⟨es, clock, seen, hb, he, hr, rest⟩ := h
  exact ⟨es, clock, seen, hm.trans hb, he, hr'.trans hr, rest⟩
theorem Iter.kept {row : Option Nat} (h : Iter kv w m r L done) (hg : w.grownBy w' row) (hm : some m ≠ row) (hr' : some r ≠ row) : Iter kv w' m r L done :=
  h.keep (hg.block m h.map.lt hm) (hg.block r h.lt hr')
theorem nodup_len {α : Type} : ∀ {l l' : List α}, l.Nodup → (∀ a ∈ l, a ∈ l') → l.length ≤ l'.length
  | [], _, _, _ => Nat.zero_le _
  | x :: r, l', hn, hs => by
    obtain ⟨p, q, rfl⟩ := List.append_of_mem (hs x (by simp))
    obtain ⟨h1, h2⟩ := List.nodup_cons.1 hn
    have := nodup_len (l' := p ++ q) h2 fun a ha => by
      have := hs a (by simp [ha])
      simp only [List.mem_append, List.mem_cons] at this ⊢
      rcases this with h | h | h
      · exact .inl h
      · subst h; exact absurd ha h1
      · exact .inr h
    simp only [List.length_append, List.length_cons] at this ⊢
    omega
theorem Iter.sub (h : Iter kv w m r L done) : done.length ≤ L.length := by
  obtain ⟨es, clock, seen, hb, he, hr, hn, hs, _⟩ := h
  simpa using nodup_len hn hs

theorem MapR.range {t e : TypeId} (h : MapR kv w m L) (ht : P.underlying t = some (.map K E)) :
    ∃ w', (Instr.range t (.map (some m))).run P w = .ok (.pointer (some ⟨w.heap.size, 0, none⟩)) w' ∧ Iter kv w' m w.heap.size L [] ∧ Below w.heap.size w w' ∧ w'.heap.size = w.heap.size + 1 := by
  have hlt := h.lt
  obtain ⟨es, clock, hb, he⟩ := h
  refine ⟨_, run_range_map w t K E m es clock ht hb, ⟨es, clock, #[], ((MapKept.heap_alloc w _).2 m hlt).trans hb, he, (MapKept.heap_alloc w _).1, by simp, by simp, by simp⟩, (Below.refl _ _).alloc (Nat.le_refl _) _, by simp⟩

theorem Iter.next (h : Iter kv w m r L done) (hk : ∀ a b, kv a = kv b → a = b) (ty : TypeId) :
    ((∀ k ∈ L.map (·.1), k ∈ done) ∧ (Instr.next (.pointer (some ⟨r, 0, none⟩)) false ty).run P w = .ok (.tuple #[.bool false]) w) ∨
    ∃ k v w', (k, v) ∈ L ∧ k ∉ done ∧ (Instr.next (.pointer (some ⟨r, 0, none⟩)) false ty).run P w = .ok (.tuple #[.bool true, kv k, v]) w' ∧
      Iter kv w' m r L (done ++ [k]) ∧ w.grownBy w' (some r) ∧ w'.heap.size = w.heap.size ∧ (Instr.entry (.pointer (some ⟨r, 0, none⟩))).run P w' = .ok (.tuple #[kv k, v]) w' := by
  have hne := h.ne
  obtain ⟨es, clock, seen, hb, hE, hr, hn, hs, hd⟩ := h
  have hl : es.toList.length = L.length := by have := congrArg List.length hE.ents; simpa using this
  rcases run_next_at (P := P) w ty r m clock clock seen es clock hr hb hE.old (Nat.le_refl _) with ⟨h0, hrun⟩ | ⟨e, he, w1, hal, hrun⟩
  · refine Or.inl ⟨fun k hkm => ?_, hrun⟩
    obtain ⟨x, hx, rfl⟩ := List.mem_map.1 hkm
    obtain ⟨j, hj⟩ := List.getElem?_of_mem hx
    have hjl : j < es.toList.length := by rw [hl]; exact (List.getElem?_eq_some_iff.1 hj).1
    have hej := List.getElem?_eq_getElem hjl
    exact (hd j x _ hj hej).2 (all_seen es seen h0 _ (List.getElem_mem hjl))
  · obtain ⟨hem, hes⟩ := mem_left he
    obtain ⟨j, hj⟩ := List.getElem?_of_mem hem
    have hjl : j < L.length := by rw [← hl]; exact (List.getElem?_eq_some_iff.1 hj).1
    have hxj := List.getElem?_eq_getElem hjl
    have hkv : (e.key, e.val) = (kv (L[j]).1, (L[j]).2) := by
      have := congrArg (·[j]?) hE.ents
      simp only [List.getElem?_map, hj, hxj, Option.map_some, Option.some.injEq] at this
      exact this
    simp only [Prod.mk.injEq] at hkv
    have hr1 : w1.heap[r]? = some (.mapIter (some m) clock seen clock) := by rcases hal with rfl | rfl <;> exact hr
    have hb1 : w1.heap[m]? = some (.map es clock) := by rcases hal with rfl | rfl <;> exact hb
    have hset := MapKept.heap_set (o' := .mapIter (some m) clock (seen.push e.born) clock) hr1
    have hb' : (setBlock w1 r (.mapIter (some m) clock (seen.push e.born) clock)).heap[m]? = some (.map es clock) := (hset.2 m (fun e1 => hne e1.symm)).trans hb1
    have hnd : (L[j]).1 ∉ done := fun hc => by
      have := (hd j _ e hxj hj).1 hc
      rw [hes] at this
      cases this
    refine Or.inr ⟨(L[j]).1, (L[j]).2, _, List.getElem_mem hjl, hnd, by rw [← hkv.1, ← hkv.2]; exact hrun, ⟨es, clock, seen.push e.born, hb', hE, hset.1, ?_, ?_, ?_⟩, ?_, ?_, ?_⟩
    · rw [List.nodup_append]
      exact ⟨hn, by simp, fun a ha b hb e' => by simp at hb; subst hb; subst e'; exact hnd ha⟩
    · intro k hkm
      rcases List.mem_append.1 hkm with h1 | h1
      · exact hs k h1
      · simp at h1
        subst h1
        exact List.mem_map.2 ⟨_, List.getElem_mem hjl, rfl⟩
    · intro i x y hx hy
      rw [List.mem_append, List.mem_singleton, hd i x y hx hy, contains_push]
      have hiff : x.1 = (L[j]).1 ↔ y.born = e.born := by
        constructor
        · intro hxe
          have hij : i = j := by
            have hi : i < (L.map (·.1)).length := by simpa using (List.getElem?_eq_some_iff.1 hx).1
            have hj' : j < (L.map (·.1)).length := by simpa using hjl
            refine (List.getElem_inj (h₀ := hi) (h₁ := hj') hE.nodup).1 ?_
            have := (List.getElem?_eq_some_iff.1 hx).2
            simp [this, hxe]
          subst hij
          rw [hj] at hy
          injection hy with hy
          rw [hy]
        · intro hye
          have hij : i = j := by
            have hi : i < (es.toList.map (·.born)).length := by simpa using (List.getElem?_eq_some_iff.1 hy).1
            have hj' : j < (es.toList.map (·.born)).length := by simpa using (List.getElem?_eq_some_iff.1 hj).1
            refine (List.getElem_inj (h₀ := hi) (h₁ := hj') hE.apart).1 ?_
            have h1 := (List.getElem?_eq_some_iff.1 hy).2
            have h2 := (List.getElem?_eq_some_iff.1 hj).2
            rw [List.getElem_map, List.getElem_map, h1, h2, hye]
          subst hij
          rw [hxj] at hx
          injection hx with hx
          rw [hx]
      rw [hiff]
      cases seen.contains y.born <;> simp
    · rcases hal with rfl | rfl <;> exact ⟨rfl, rfl, rfl, by simp [setBlock], fun i _ hi => hset.2 i (fun e1 => hi (by rw [e1]))⟩
    · rcases hal with rfl | rfl <;> simp [setBlock]
    · have := run_entry_at (P := P) _ r m clock seen es clock e hset.1 hb' hem hE.apart
      rw [← hkv.1, ← hkv.2]
      exact this

theorem Iter.perm (h : Iter kv w m r L done) (hall : ∀ k ∈ L.map (·.1), k ∈ done) : done.Perm (L.map (·.1)) := by
  obtain ⟨es, clock, seen, hb, he, hr, hn, hs, _⟩ := h
  exact (List.perm_ext_iff_of_nodup hn he.nodup).2 fun k => ⟨hs k, hall k⟩

section
variable {ops : Array Oper} {rest : List Oper} {o : Oper} {a : Act} {Q : Exit → Act → World → Prop}
theorem wpList_range_map (hg : o.guard = none) (x : Operand) (t : TypeId) (hop : o.op = Op.range t x) (ht : P.underlying t = some (.map K E))
    (hm : a.eval x = .map (some m)) (h : MapR kv w m L)
    (hK : ∀ w', Iter kv w' m w.heap.size L [] → Below w.heap.size w w' → w'.heap.size = w.heap.size + 1 → wpList P ops Q rest (a.put o.dst (.pointer (some ⟨w.heap.size, 0, none⟩))) w') :
    wpList P ops Q (o :: rest) a w := by
  refine wpList_plain hg fun K' hK' => ?_
  obtain ⟨w', hrun, r1, r2, r3⟩ := h.range (P := P) (e := E) ht
  unfold Oper.wp
  simp [execOp, hop, hm, hrun, Result.andThen]
  exact hK' _ _ (hK w' r1 r2 r3)

theorem wpList_next_map (hg : o.guard = none) (it : Operand) (hop : o.op = Op.next it false)
    (hit : a.eval it = .pointer (some ⟨r, 0, none⟩)) (h : Iter kv w m r L done) (hk : ∀ a b, kv a = kv b → a = b)
    (hDone : (∀ k ∈ L.map (·.1), k ∈ done) → wpList P ops Q rest (a.put o.dst (.tuple #[.bool false])) w)
    (hMore : ∀ (k : κ) (v : Value) (w' : World), (k, v) ∈ L → k ∉ done → Iter kv w' m r L (done ++ [k]) → w.grownBy w' (some r) → w'.heap.size = w.heap.size →
      (Instr.entry (.pointer (some ⟨r, 0, none⟩))).run P w' = .ok (.tuple #[kv k, v]) w' → wpList P ops Q rest (a.put o.dst (.tuple #[.bool true, kv k, v])) w') :
    wpList P ops Q (o :: rest) a w := by
  refine wpList_plain hg fun K' hK' => ?_
  unfold Oper.wp
  rcases h.next (P := P) hk o.type with ⟨h0, hrun⟩ | ⟨k, v, w', h1, h2, hrun, h3, h4, h5, h6⟩
  · simp [execOp, hop, hit, hrun, Result.andThen]
    exact hK' _ _ (hDone h0)
  · simp [execOp, hop, hit, hrun, Result.andThen]
    exact hK' _ _ (hMore k v w' h1 h2 h3 h4 h5 h6)
end
end

end Go.Proofs.YtmhlokehdjnldaaDoor

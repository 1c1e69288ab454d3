/- Operations on blocks known whole: an array laid, read, written, whatever its length. No program in sight. -/
import Derived.Test.YtmhlokehdjnldaaDoorFsPure
import Derived.Laws.Tables
import Derived.Laws.CopyRow
import Derived.Deep.MidRow
import Derived.OwnWalk
namespace Go.Proofs.YtmhlokehdjnldaaDoor
open Go.RowKit
set_option linter.unusedSimpArgs false
set_option linter.unusedVariables false

theorem bvs_oneCell (b : List UInt8) : (bvs b).toArray.all (·.oneCell') = true := all_oneCell_toArray (bvs_one b)
theorem bvs_size {b : List UInt8} (h : b.length = 64) : (bvs b).toArray.size = 64 := by simp [bvs, h]
theorem zero_size : (bvs zeroB).toArray.size = 64 := bvs_size zeroB_length
theorem bval_cells (b : List UInt8) : (bval b).cells = (bvs b).toArray := rfl

section
variable {P : Program} {ops : Array Oper} {rest : List Oper} {o : Oper} {a : Act} {w : World} {Q : Exit → Act → World → Prop}

theorem at_store (ty : TypeId) (x y : Operand) {d : Option Tmp} {k : TypeId} {p : String} {f : Array Edge} {g : Option (Nat × Bool)} (h : wpList P ops Q (⟨d, .store ty x y, k, p, f, g⟩ :: rest) a w) : wpList P ops Q (⟨d, .store ty x y, k, p, f, g⟩ :: rest) a w := h
theorem at_load (ty : TypeId) (x : Operand) {d : Option Tmp} {k : TypeId} {p : String} {f : Array Edge} {g : Option (Nat × Bool)} (h : wpList P ops Q (⟨d, .load ty x, k, p, f, g⟩ :: rest) a w) : wpList P ops Q (⟨d, .load ty x, k, p, f, g⟩ :: rest) a w := h
theorem at_alloc (ty : TypeId) {d : Option Tmp} {k : TypeId} {p : String} {f : Array Edge} {g : Option (Nat × Bool)} (h : wpList P ops Q (⟨d, .alloc ty, k, p, f, g⟩ :: rest) a w) : wpList P ops Q (⟨d, .alloc ty, k, p, f, g⟩ :: rest) a w := h
theorem at_build (ty : TypeId) (l : Array (Nat × Operand)) {d : Option Tmp} {k : TypeId} {p : String} {f : Array Edge} {g : Option (Nat × Bool)} (h : wpList P ops Q (⟨d, .build ty l, k, p, f, g⟩ :: rest) a w) : wpList P ops Q (⟨d, .build ty l, k, p, f, g⟩ :: rest) a w := h
theorem at_look (ty : TypeId) (x y : Operand) (ok : Bool) {d : Option Tmp} {k : TypeId} {p : String} {f : Array Edge} {g : Option (Nat × Bool)} (h : wpList P ops Q (⟨d, .lookup ty x y ok, k, p, f, g⟩ :: rest) a w) : wpList P ops Q (⟨d, .lookup ty x y ok, k, p, f, g⟩ :: rest) a w := h

theorem at_end {fn : Func} {R : Ending → World → Prop} (h : bodyPost P fn R Exit.ret a w) : bodyPost P fn R Exit.ret a w := h

theorem wpList_alloc_as (hgd : o.guard = none) (ty : TypeId) (ho : o.op = .alloc ty) (cs : Array Value) (hz : (zeroValue ty).run P w = .ok (.agg cs) w)
    (h : wpList P ops Q rest (a.put o.dst (.pointer (some ⟨w.heap.size, 0, none⟩))) (w.alloc (.cells cs ty))) : wpList P ops Q (o :: rest) a w := by
  refine wpList_plain hgd fun K hK => ?_
  unfold Oper.wp
  simp only [execOp, ho, Instr.alloc, Sem.run_bind, hz, Result.andThen_ok]
  simp [newVar, newRow, Value.cells, Result.andThen, Oper.upon]
  exact hK _ _ h

theorem wpList_lookup_map {κ : Type} [DecidableEq κ] {kv : κ → Value} {K E : TypeId} {m : Nat} {L : List (κ × Value)} {z : Value} (hgd : o.guard = none) (t : TypeId) (x y : Operand) (ok : Bool) (ho : o.op = .lookup t x y ok) (k : κ)
    (hm : a.eval x = .map (some m)) (hy : a.eval y = kv k) (h : MapIs kv w m L) (he : KeyEnc P K kv) (ht : P.underlying t = some (.map K E)) (hz : (zeroValue E).run P w = .ok z w) (v : Value)
    (hv : (if ok then .tuple #[(mget L k).getD z, .bool (mget L k).isSome] else (mget L k).getD z) = v)
    (hK : wpList P ops Q rest (a.put o.dst v) w) : wpList P ops Q (o :: rest) a w := by
  refine wpList_plain hgd fun K' hK' => ?_
  have hrun := h.lookup he ht hz k ok
  rw [hv] at hrun
  unfold Oper.wp
  simp only [execOp, ho, hm, hy, Sem.run_bind, hrun, Result.andThen_ok]
  simp [Result.andThen, Oper.upon]
  exact hK' _ _ hK

theorem wp_update_map {κ : Type} [DecidableEq κ] {kv : κ → Value} {K E : TypeId} {m : Nat} {L : List (κ × Value)} {K' : Act → World → Prop} (t : TypeId) (x y z : Operand) (ho : o.op = .mapUpdate t x y z) (k : κ) (v : Value)
    (hm : a.eval x = .map (some m)) (hy : a.eval y = kv k) (hz : a.eval z = v) (h : MapR kv w m L) (he : KeyEnc P K kv) (ht : P.underlying t = some (.map K E))
    (hK : ∀ w', MapR kv w' m (mput L k v) → OnlyMap w w' m → K' (a.put o.dst undef) w') : o.wp P a w K' Q := by
  obtain ⟨w', hrun, h1, h2⟩ := h.update (P := P) (E := E) he ht k v
  unfold Oper.wp
  simp only [execOp, ho, hm, hy, hz, Sem.run_bind, hrun, Result.andThen_ok]
  simp [Result.andThen, Oper.upon]
  exact hK w' h1 h2

theorem at_index (ty : TypeId) (x y : Operand) {d : Option Tmp} {k : TypeId} {p : String} {f : Array Edge} {g : Option (Nat × Bool)} (h : wpList P ops Q (⟨d, .index ty x y, k, p, f, g⟩ :: rest) a w) : wpList P ops Q (⟨d, .index ty x y, k, p, f, g⟩ :: rest) a w := h
theorem run_index_arr (ty e : TypeId) (n j : Nat) (k : IntKind) (q : IntKind) (cs : Array Value) (v : Value) (hj : j < n) (hv : cs[j]? = some v)
    (hu : P.underlying ty = some (.array n e)) (he : P.underlying e = some (.int q)) (hs : (P.info? e).map (·.size) = some 1) : (Instr.index ty (.agg cs) (.int k (j : Int))).run P w = .ok v w := by
  cases hq : P.info? e with
  | none => simp [hq] at hs
  | some i =>
    have hi : i.size = 1 := by simpa [hq] using hs
    have hjz : (j : Int) < (n : Int) := by omega
    simp [Instr.index, asIntOf, run_underlying hu, hj, sizeOf, typeInfo, hq, hi, part, isAgg, run_underlying he, hv]
theorem wpList_index_arr (hgd : o.guard = none) (ty e : TypeId) (x y : Operand) (ho : o.op = .index ty x y) (n j : Nat) (k q : IntKind) (cs : Array Value) (v : Value) (hx : a.eval x = .agg cs) (hy : a.eval y = .int k (j : Int)) (hj : j < n) (hv : cs[j]? = some v)
    (hu : P.underlying ty = some (.array n e)) (he : P.underlying e = some (.int q)) (hs : (P.info? e).map (·.size) = some 1) (h : wpList P ops Q rest (a.put o.dst v) w) : wpList P ops Q (o :: rest) a w := by
  refine wpList_plain hgd fun K hK => ?_
  have hrun := run_index_arr (P := P) (w := w) ty e n j k q cs v hj hv hu he hs
  unfold Oper.wp
  simp only [execOp, ho, hx, hy, Sem.run_bind, hrun, Result.andThen_ok]
  simp [Result.andThen, Oper.upon]
  exact hK _ _ h

theorem run_storeVar_cell (ty : TypeId) (g i : Nat) (t : TypeId) (cs : Array Value) (v : Value) (hB : Blk w g t cs) (hi : i < cs.size) (h1 : v.oneCell' = true) (hs : (P.info? ty).map (·.size) = some 1) :
    (storeVar ty ⟨g, i, none⟩ v).run P w = .ok () (w.setCell ⟨g, i, none⟩ v) := by
  have hc : v.cells = #[v] := by cases v <;> first | rfl | cases h1
  have hcell := hB.cell i
  have hf := hB.frozen i
  rw [Array.getElem?_eq_getElem hi] at hcell
  cases hq : P.info? ty with
  | none => simp [hq] at hs
  | some j =>
    have hs : j.size = 1 := by simpa [hq] using hs
    have hadd : (⟨g, i, none⟩ : Addr).add 0 = ⟨g, i, none⟩ := by simp [Addr.add]
    have hst : (store ⟨g, i, none⟩ v).run P w = .ok () (w.setCell ⟨g, i, none⟩ v) := by
      rw [run_store P w _ v _ h1, hcell]
      simp [hf]
    simp [storeVar, sizeOf, typeInfo, hq, hs, hc, storeCells, Sem.run_bind, hadd, hst, Result.andThen]
/-- one cell of a block known whole is written -/
theorem wp_store_cell {K : Act → World → Prop} (ty : TypeId) (x y : Operand) (ho : o.op = .store ty x y) (g i : Nat) (t : TypeId) (cs : Array Value) (v : Value) (hx : a.eval x = .pointer (some ⟨g, i, none⟩)) (hy : a.eval y = v)
    (hB : Blk w g t cs) (hi : i < cs.size) (h1 : v.oneCell' = true) (hs : (P.info? ty).map (·.size) = some 1) (h : K (a.put o.dst undef) (w.setCell ⟨g, i, none⟩ v)) : o.wp P a w K Q := by
  unfold Oper.wp execOp
  simp only [ho, hx, hy, Instr.storeAt, Instr.sureAddr, Sem.run_bind, Sem.run_pure, Result.andThen_ok, run_storeVar_cell ty g i t cs v hB hi h1 hs]
  exact h

theorem wpList_store_cell (hgd : o.guard = none) (ty : TypeId) (x y : Operand) (ho : o.op = .store ty x y) (g i : Nat) (t : TypeId) (cs : Array Value) (v : Value) (hx : a.eval x = .pointer (some ⟨g, i, none⟩)) (hy : a.eval y = v)
    (hB : Blk w g t cs) (hi : i < cs.size) (h1 : v.oneCell' = true) (hs : (P.info? ty).map (·.size) = some 1) (h : wpList P ops Q rest (a.put o.dst undef) (w.setCell ⟨g, i, none⟩ v)) : wpList P ops Q (o :: rest) a w :=
  wpList_plain hgd fun _ hK => wp_store_cell ty x y ho g i t cs v hx hy hB hi h1 hs (hK _ _ h)
theorem wp_alloc_as {K : Act → World → Prop} (ty : TypeId) (ho : o.op = .alloc ty) (cs : Array Value) (hz : (zeroValue ty).run P w = .ok (.agg cs) w)
    (h : K (a.put o.dst (.pointer (some ⟨w.heap.size, 0, none⟩))) (w.alloc (.cells cs ty))) : o.wp P a w K Q := by
  unfold Oper.wp
  simp only [execOp, ho, Instr.alloc, Sem.run_bind, hz, Result.andThen_ok]
  simp [newVar, newRow, Value.cells, Result.andThen, Oper.upon]
  exact h
theorem wp_store_blk {K : Act → World → Prop} (ty : TypeId) (x y : Operand) (ho : o.op = .store ty x y) (g : Nat) (t : TypeId) (old cells : Array Value) (hx : a.eval x = .pointer (some ⟨g, 0, none⟩)) (hy : a.eval y = .agg cells)
    (hB : Blk w g t old) (hi : (P.info? ty).map (·.size) = some cells.size) (hold : old.size = cells.size) (h1 : cells.all (·.oneCell') = true)
    (h : Blk (w.setRow g cells) g t cells → K (a.put o.dst undef) (w.setRow g cells)) : o.wp P a w K Q :=
  wp_store_row ty x y ho g cells hx hy t old hB hi hold h1 (h (setRow_heap w g old cells t (0, 0) hB))

theorem wpList_zero_as (hgd : o.guard = none) (ty : TypeId) (ho : o.op = .build ty #[]) (v : Value) (hb : (Instr.build ty #[]).run P w = .ok v w)
    (h : wpList P ops Q rest (a.put o.dst v) w) : wpList P ops Q (o :: rest) a w := by
  refine wpList_plain hgd fun K hK => ?_
  unfold Oper.wp
  simp only [execOp, ho, Sem.run_bind, Array.map_empty, List.map_toArray, List.map_nil, hb, Result.andThen_ok]
  simp [Result.andThen, Oper.upon]
  exact hK _ _ h

/-- the whole of a block known whole is read -/
theorem wpList_load_blk (hgd : o.guard = none) (ty : TypeId) (x : Operand) (ho : o.op = .load ty x) (g : Nat) (t : TypeId) (cs : Array Value) (d : TypeDesc) (hx : a.eval x = .pointer (some ⟨g, 0, none⟩)) (hB : Blk w g t cs)
    (hu : P.underlying ty = some d) (hd : d.isRow = true) (hi : (P.info? ty).map (·.size) = some cs.size)
    (h : wpList P ops Q rest (a.put o.dst (.agg cs)) w) : wpList P ops Q (o :: rest) a w :=
  wpList_load_row hgd ty x ho g hx t cs (0, 0) d hB hu (by cases d <;> first | rfl | cases hd) hi h

theorem exec_load_blk (ty : TypeId) (x : Operand) (ho : o.op = .load ty x) (g : Nat) (t : TypeId) (cs : Array Value) (d : TypeDesc) (hx : a.eval x = .pointer (some ⟨g, 0, none⟩)) (hB : Blk w g t cs)
    (hu : P.underlying ty = some d) (hd : d.isRow = true) (hi : (P.info? ty).map (·.size) = some cs.size) : (execOp a.eval o).run P w = .ok (.value (.agg cs)) w := by
  unfold execOp
  simp only [ho, hx, Instr.loadAt, Instr.sureAddr, Sem.run_bind, Sem.run_pure, Result.andThen_ok, run_loadVar_row w g t ty cs (0, 0) d hB hu (by cases d <;> first | rfl | cases hd) hi]
theorem exec_load_mid (ty : TypeId) (x : Operand) (ho : o.op = .load ty x) (b q : Nat) (hx : a.eval x = .pointer (some ⟨b, q, none⟩)) (cs : List Value) (d : TypeDesc) (hc : w.rangeAt b q cs)
    (hu : P.underlying ty = some d) (hd : d.isRow = true) (hi : (P.info? ty).map (·.size) = some cs.length) : (execOp a.eval o).run P w = .ok (.value (.agg cs.toArray)) w := by
  unfold execOp
  simp only [ho, hx, Instr.loadAt, Instr.sureAddr, Sem.run_bind, Sem.run_pure, Result.andThen_ok, run_loadVar_mid w b q ty cs d hc hu hd hi]

/-- the whole of a block known whole is written -/
theorem wpList_store_blk (hgd : o.guard = none) (ty : TypeId) (x y : Operand) (ho : o.op = .store ty x y) (g : Nat) (t : TypeId) (old cells : Array Value) (hx : a.eval x = .pointer (some ⟨g, 0, none⟩)) (hy : a.eval y = .agg cells)
    (hB : Blk w g t old) (hi : (P.info? ty).map (·.size) = some cells.size) (hold : old.size = cells.size) (h1 : cells.all (·.oneCell') = true)
    (h : Blk (w.setRow g cells) g t cells → wpList P ops Q rest (a.put o.dst undef) (w.setRow g cells)) : wpList P ops Q (o :: rest) a w :=
  wpList_store_row hgd ty x y ho g cells hx hy t old hB hi hold h1 (h (setRow_heap w g old cells t (0, 0) hB))
end

section
variable {B g : Nat} {S : Nat → Prop} {t : TypeId} {cs : Array Value} {w w' : World}
theorem Blk.setRow_far (h : Blk w g t cs) {k : Nat} (hk : g ≠ k) (c : Array Value) : Blk (w.setRow k c) g t cs := (setRow_other w k g c hk).trans h
theorem Blk.setRow_same (h : Blk w g t cs) (c : Array Value) : Blk (w.setRow g c) g t c := setRow_heap w g cs c t (0, 0) h
theorem Blk.tch (h : Blk w g t cs) (ht : Tch B S w w') (hg : g < B) (hS : ¬ S g) : Blk w' g t cs := (ht.block g hg hS).trans h
theorem Tch.setRow {c : Array Value} (hp : g < B → S g) : Tch B S w (w.setRow g c) :=
  ⟨rfl, rfl, rfl, by simp, fun k hk hn => setRow_other w g k c (fun e => hn (by subst e; exact hp hk))⟩
theorem Tch.refl (B : Nat) (S : Nat → Prop) (w : World) : Tch B S w w := ⟨rfl, rfl, rfl, Nat.le_refl _, fun _ _ _ => rfl⟩
theorem Tch.alloc {w0 : World} (h : Tch B S w0 w) (hB : B ≤ w0.heap.size) (o : Obj) : Tch B S w0 (w.alloc o) :=
  h.trans (Tch.of_below (((Below.refl _ w).alloc (Nat.le_refl _) o).mono (Nat.le_trans hB h.size)))
theorem Tch.sub {S' : Nat → Prop} (h : Tch B S w w') (hS : ∀ k, S k → S' k) : Tch B S' w w' := h.mono (Nat.le_refl _) fun k _ hk => hS k hk
/-- two steps, each told from its own beginning -/
theorem Tch.then_ {w'' : World} (h : Tch w.heap.size S w w') (k : Tch w'.heap.size S w' w'') : Tch w.heap.size S w w'' := h.trans (k.mono h.size fun _ _ hk => hk)
/-- of a block there is only one element type -/
theorem Blk.ne {g' : Nat} {t' : TypeId} {cs' : Array Value} (h : Blk w g t cs) (h' : Blk w g' t' cs') (hne : t ≠ t') : g ≠ g' := by
  rintro rfl
  unfold Blk at h h'
  rw [h] at h'
  simp only [Option.some.injEq, Obj.cells.injEq] at h'
  exact hne h'.2.1
theorem Blk.ne_map {κ : Type} {kv : κ → Value} {m : Nat} {L : List (κ × Value)} (h : Blk w g t cs) (hm : MapIs kv w m L) : g ≠ m := fun e => blk_not_map h hm e
theorem Blk.same {t' : TypeId} {cs' : Array Value} (h : Blk w g t cs) (h' : Blk w g t' cs') : cs = cs' := by
  unfold Blk at h h'
  rw [h] at h'
  simp only [Option.some.injEq, Obj.cells.injEq] at h'
  exact h'.1
/-- a row of one's own, filled to its capacity, is a block known whole -/
theorem own_blk {base n size : Nat} {e : TypeId} {xs : List Value} (h : w.ownsRow base e size (.slice (some ⟨g, 0, none⟩) n n) n xs) : Blk w g e xs.toArray := by
  rcases h.2 with ⟨h', _⟩ | ⟨g', cap', cur, h', hg, hh, hnc, hcm, hcs, htake⟩
  · cases h'
  · simp only [Value.slice.injEq, Option.some.injEq, Addr.mk.injEq] at h'
    obtain ⟨⟨rfl, _, _⟩, _, rfl⟩ := h'
    have : cur.toList = xs := by rw [← htake, List.take_of_length_le (by simp; omega)]
    rw [← this]
    exact hh
/-- a piece of a block known whole -/
theorem Blk.range (h : Blk w g t cs) {o : Nat} {xs : List Value} (hx : ∀ j v, xs[j]? = some v → cs[o + j]? = some v) : w.rangeAt g o xs := fun j v hj => by
  rw [h.cell]; exact hx j v hj
theorem Blk.there (h : Blk w g t cs) {o n : Nat} (hn : o + n ≤ cs.size) : w.there g o n := fun j hj => by
  rw [h.cell, h.frozen]
  refine ⟨?_, rfl⟩
  rw [Array.getElem?_eq_getElem (by omega)]
  rfl
/-- a piece of a block known whole, written -/
theorem Blk.setCells (h : Blk w g t cs) (o : Nat) : ∀ (vs : List Value), o + vs.length ≤ cs.size → Blk (w.setCells g o vs) g t (cs.toList.take o ++ vs ++ cs.toList.drop (o + vs.length)).toArray := by
  intro vs
  induction vs generalizing w cs o with
  | nil => intro _; simpa [World.setCells] using h
  | cons v r ih =>
    intro hl
    simp only [List.length_cons] at hl
    have h1 := h.set_ o v
    have h2 := ih h1 (o + 1) (by simp; omega)
    have e : (w.setCells g o (v :: r)) = (w.setCell ⟨g, o, none⟩ v).setCells g (o + 1) r := rfl
    rw [e]
    have hl2 : o < cs.toList.length := by simp; omega
    have e2 : (cs.setIfInBounds o v).toList.take (o + 1) = cs.toList.take o ++ [v] := by
      rw [Array.toList_setIfInBounds, List.take_set, List.take_succ_eq_append_getElem hl2, List.set_append_right _ _ (by simp [Nat.min_eq_left (Nat.le_of_lt hl2)]; omega)]
      simp [Nat.min_eq_left (show o ≤ cs.size by omega)]
    have e3 : (cs.setIfInBounds o v).toList.drop (o + 1 + r.length) = cs.toList.drop (o + (v :: r).length) := by
      rw [Array.toList_setIfInBounds, List.drop_set_of_lt (by omega), List.length_cons, show o + 1 + r.length = o + (r.length + 1) from by omega]
    rw [e2, e3] at h2
    simpa using h2
theorem Tch.setCells (hp : g < B → S g) : ∀ (vs : List Value) (o : Nat) (w : World), Tch B S w (w.setCells g o vs)
  | [], o, w => Tch.refl _ _ _
  | v :: r, o, w => (Tch.setCell (p := ⟨g, o, none⟩) hp).trans (Tch.setCells hp r (o + 1) (w.setCell ⟨g, o, none⟩ v))
end

theorem ResV.row {P : Program} {w : World} {tmps : Array Value} {p : Tmp} {ty g : Nat} {t : TypeId} {cs : Array Value} {d : TypeDesc} (hp : tmps.getD p undef = .pointer (some ⟨g, 0, none⟩)) (hb : Blk w g t cs)
    (hu : P.underlying ty = some d) (hd : d.isRow = true) (hi : (P.info? ty).map (·.size) = some cs.size) : ResV P w tmps (.cell p ty) (.agg cs) := by
  unfold ResV resRun
  simp only [hp]
  simp [asAddr, run_loadVar_row w g t ty cs (0, 0) d hb hu (by cases d <;> first | rfl | cases hd) hi]

/-- one block among a disk's -/
theorem flatB_set {D : List BlkV} (h : ∀ b ∈ D, b.length = 64) {k : Nat} (hk : k < D.length) {b : BlkV} (hb : b.length = 64) :
    (flatB D).take (64 * k) ++ bvs b ++ (flatB D).drop (64 * k + 64) = flatB (D.set k b) := by
  induction D generalizing k with
  | nil => simp at hk
  | cons c r ih =>
    have hc : (bvs c).length = 64 := by rw [bvs_length]; exact h c (by simp)
    have e : flatB (c :: r) = bvs c ++ flatB r := rfl
    rw [e]
    cases k with
    | zero =>
      rw [Nat.mul_zero, Nat.zero_add, List.take_zero, List.nil_append, List.drop_append_of_le_length (by omega), List.drop_of_length_le (by omega)]
      rfl
    | succ k =>
      simp at hk
      have := ih (fun x hx => h x (by simp [hx])) hk
      rw [List.take_append, List.take_of_length_le (by omega), List.drop_append, List.drop_of_length_le (by omega), hc, show 64 * (k + 1) - 64 = 64 * k from by omega, show 64 * (k + 1) + 64 - 64 = 64 * k + 64 from by omega, List.nil_append]
      show _ = bvs c ++ flatB (r.set k b)
      rw [← this]
      simp
theorem set_lens {D : List BlkV} (h : ∀ b ∈ D, b.length = 64) {k : Nat} {b : BlkV} (hb : b.length = 64) : ∀ x ∈ D.set k b, x.length = 64 := fun x hx => by
  rcases List.mem_or_eq_of_mem_set hx with hx | rfl
  · exact h x hx
  · exact hb
theorem flatB_zero (n : Nat) : flatB (List.replicate n zeroB) = List.replicate (64 * n) (.int .u8 0) := by
  induction n with
  | zero => rfl
  | succ n ih =>
    rw [List.replicate_succ]
    show bvs zeroB ++ flatB (List.replicate n zeroB) = _
    have : bvs zeroB = List.replicate 64 (.int .u8 0) := by simp [bvs, zeroB, bv]
    rw [ih, this, List.replicate_append_replicate]
    congr 1
    omega
end Go.Proofs.YtmhlokehdjnldaaDoor

/- Blocks and nodes, compared. -/
import Derived.Test.YtoeejeieplhifaaFsNode1
import Derived.DeepKeys
namespace Go.Proofs.Ytoeejeieplhifaa
open Go.RowKit
set_option linter.unusedSimpArgs false
set_option linter.unusedVariables false

section
variable {P : Program} {ops : Array Oper} {rest : List Oper} {o : Oper} {a : Act} {w : World} {Q : Exit → Act → World → Prop}
theorem run_equal_lits (w : World) {m D : Nat} (hm : m ≤ 10000) {k : TypeId} (hk : P.keyTypeAt m k = true) {x y : Array Value} {lx ly : List Lit}
    (fx : (Value.agg x).formed P k = true) (fy : (Value.agg y).formed P k = true) (hx : P.keyLits D k x.toList = some lx) (hy : P.keyLits D k y.toList = some ly) :
    ∃ r : Bool, (Op.equalIn 10000 k (.agg x) (.agg y)).run P w = .ok r w ∧ (r = true ↔ lx = ly) := by
  have := run_equalIn_deep (10000 - m) m k hk w D D (.agg x) (.agg y) lx ly fx fy hx hy
  rwa [show 10000 - m + m = 10000 from by omega] at this
theorem lits_ints {t e : TypeId} {n d : Nat} {q : IntKind} (ht : P.underlying t = some (.array n e)) (he : P.underlying e = some (.int q)) (hct : P.cellsOf t = n) (hce : P.cellsOf e = 1)
    {xs : List Int} (hl : xs.length = n) (hw : ∀ x ∈ xs, (Lit.int q x).wf = true) : P.keyLits (d + 2) t (xs.map (Value.int q)) = some (xs.map (Lit.int q)) := by
  have h1 : ∀ i, i < n → P.keyLits (d + 1) e (((xs.map (Value.int q)).drop (i * 1)).take 1) = some [Lit.int q (xs.getD i 0)] := fun i hi => by
    have : ((xs.map (Value.int q)).drop (i * 1)).take 1 = [.int q (xs.getD i 0)] := by
      rw [Nat.mul_one, List.drop_eq_getElem_cons (by simpa using (by omega : i < xs.length)), List.take_succ_cons, List.take_zero, List.getElem_map, List.getD_eq_getElem?_getD, List.getElem?_eq_getElem (by omega)]
      rfl
    rw [this]
    unfold Program.keyLits
    rw [he]
    have hmem : xs.getD i 0 ∈ xs := by
      rw [List.getD_eq_getElem?_getD, List.getElem?_eq_getElem (by omega)]
      exact List.getElem_mem _
    have hw' := hw _ hmem
    simp only [List.getD_eq_getElem?_getD] at hw' ⊢
    simp [hw']
  have h2 : ((List.range n).mapM fun i => P.keyLits (d + 1) e (((xs.map (Value.int q)).drop (i * 1)).take 1)) = some ((List.range n).map fun i => [Lit.int q (xs.getD i 0)]) := by
    have : ∀ l : List Nat, (∀ i ∈ l, i < n) → (l.mapM fun i => P.keyLits (d + 1) e (((xs.map (Value.int q)).drop (i * 1)).take 1)) = some (l.map fun i => [Lit.int q (xs.getD i 0)]) := by
      intro l
      induction l with
      | nil => intro _; rfl
      | cons i r ih =>
        intro h
        rw [List.mapM_cons, h1 i (h i (by simp)), ih fun j hj => h j (by simp [hj])]
        rfl
    exact this _ fun i hi => List.mem_range.1 hi
  unfold Program.keyLits
  rw [ht]
  simp only [List.length_map, hl, hct, if_true, hce]
  rw [h2, Option.map_some]
  congr 1
  apply List.ext_getElem?
  intro j
  have : ((List.range n).map fun i => [Lit.int q (xs.getD i 0)]).flatten = (List.range n).map fun i => Lit.int q (xs.getD i 0) := by
    generalize List.range n = l
    induction l with
    | nil => rfl
    | cons i r ih => rw [List.map_cons, List.flatten_cons, ih]; rfl
  rw [this]
  simp only [List.getElem?_map]
  by_cases hj : j < n
  · rw [List.getElem?_range hj, List.getElem?_eq_getElem (by omega)]
    simp [List.getD_eq_getElem?_getD, List.getElem?_eq_getElem (show j < xs.length by omega)]
  · rw [List.getElem?_eq_none (by simpa using hj), List.getElem?_eq_none (by omega)]
    rfl
theorem at_binop (op : BinOp) (ty : TypeId) (x y : Operand) (t2 : TypeId) {d : Option Tmp} {k : TypeId} {p : String} {f : Array Edge} {g : Option (Nat × Bool)} (h : wpList P ops Q (⟨d, .binOp op ty x y t2, k, p, f, g⟩ :: rest) a w) : wpList P ops Q (⟨d, .binOp op ty x y t2, k, p, f, g⟩ :: rest) a w := h
theorem exec_eql_agg (ty : TypeId) (x y : Operand) (t2 : TypeId) (ho : o.op = .binOp .eql ty x y t2) (xs ys : Array Value) (hx : a.eval x = .agg xs) (hy : a.eval y = .agg ys) (hg : P.eqGuardType P.depth ty = false) (r : Bool)
    (hr : (Op.equalIn 10000 ty (.agg xs) (.agg ys)).run P w = .ok r w) : (execOp a.eval o).run P w = .ok (.value (.bool r)) w := by
  unfold execOp
  simp [ho, hx, hy, run_eqGuard_agg w _ _ _ _ _ _ hg, run_eql_struct, hr, Result.andThen]
theorem exec_neq_agg (ty : TypeId) (x y : Operand) (t2 : TypeId) (ho : o.op = .binOp .neq ty x y t2) (xs ys : Array Value) (hx : a.eval x = .agg xs) (hy : a.eval y = .agg ys) (hg : P.eqGuardType P.depth ty = false) (r : Bool)
    (hr : (Op.equalIn 10000 ty (.agg xs) (.agg ys)).run P w = .ok r w) : (execOp a.eval o).run P w = .ok (.value (.bool !r)) w := by
  unfold execOp
  simp [ho, hx, hy, run_eqGuard_agg w _ _ _ _ _ _ hg, run_neq_struct, hr, Result.andThen]
theorem exec_build (ty : TypeId) (parts : Array (Nat × Operand)) (ho : o.op = .build ty parts) (vs : Array (Nat × Value)) (hvs : (parts.map fun (i, x) => (i, a.eval x)) = vs) (v : Value) (hr : (Instr.build ty vs).run P w = .ok v w) : (execOp a.eval o).run P w = .ok (.value v) w := by
  unfold execOp
  simp only [ho, hvs, Sem.run_bind, hr, Result.andThen_ok, Sem.run_pure]
theorem wpList_run (hgd : o.guard = none) (v : Value) (hr : (execOp a.eval o).run P w = .ok (.value v) w) (h : wpList P ops Q rest (a.put o.dst v) w) : wpList P ops Q (o :: rest) a w := by
  refine wpList_plain hgd fun K hK => ?_
  unfold Oper.wp
  rw [hr, Oper.upon_value]
  exact hK _ _ h
end

theorem wf8 (b : UInt8) : (Lit.int .u8 (b.toNat : Int)).wf = true := by
  have := b.toNat_lt
  simp [Lit.wf, IntKind.min, IntKind.max, IntKind.signed, IntKind.bits]
  omega
theorem wf16 (b : UInt16) : (Lit.int .u16 (b.toNat : Int)).wf = true := by
  have := b.toNat_lt
  simp [Lit.wf, IntKind.min, IntKind.max, IntKind.signed, IntKind.bits]
  omega
theorem wf32 (b : UInt32) : (Lit.int .u32 (b.toNat : Int)).wf = true := by
  have := b.toNat_lt
  simp [Lit.wf, IntKind.min, IntKind.max, IntKind.signed, IntKind.bits]
  omega
theorem block_lits (d : Nat) {b : BlkV} (hb : b.length = 64) : Try.prog.keyLits (d + 2) 67 (bvs b) = some (b.map fun x => Lit.int .u8 (x.toNat : Int)) := by
  have := lits_ints (P := Try.prog) (d := d) Try.underlying67 Try.underlying5 (by kernel_rfl) (by kernel_rfl) (xs := b.map fun x => (x.toNat : Int)) (by simpa using hb) (fun x hx => by
    obtain ⟨y, _, rfl⟩ := List.mem_map.1 hx
    exact wf8 y)
  simpa [bvs, bv, List.map_map, Function.comp_def] using this
theorem lit_inj8 {a b : List UInt8} : (a.map fun x => Lit.int .u8 (x.toNat : Int)) = (b.map fun x => Lit.int .u8 (x.toNat : Int)) ↔ a = b := by
  constructor
  · intro h
    exact (List.map_inj_right (fun x y hxy => by simp at hxy; exact UInt8.toNat_inj.1 (by exact_mod_cast hxy))).1 h
  · rintro rfl; rfl
theorem block_eq (w : World) {a b : BlkV} (ha : a.length = 64) (hb : b.length = 64) : (Op.equalIn 10000 67 (bval a) (bval b)).run Try.prog w = .ok (decide (a = b)) w := by
  have hf : ∀ {b : BlkV}, b.length = 64 → (Value.agg (bvs b).toArray).formed Try.prog 67 = true := fun {b} hb => by
    unfold Value.formed
    rw [Try.underlying67]
    simp only [beq_iff_eq]
    rw [bvs_size hb]
    kernel_rfl
  obtain ⟨r, h1, h2⟩ := run_equal_lits (P := Try.prog) w (m := 2) (D := 2) (by decide) (k := 67) (by kernel_rfl) (hf ha) (hf hb) (block_lits 0 ha) (block_lits 0 hb)
  rw [lit_inj8] at h2
  unfold bval
  rw [h1, show r = decide (a = b) from by cases r <;> simp_all]

/-- a node's numbers -/
def NodeV.lits (n : NodeV) : List Lit := [Lit.int .u8 (n.kind.toNat : Int), Lit.int .u8 (n.links.toNat : Int), Lit.int .u16 (n.gen.toNat : Int), Lit.int .u32 (n.size.toNat : Int)] ++ n.dir.map (fun x => Lit.int .u16 (x.toNat : Int)) ++ [Lit.int .u16 (n.single.toNat : Int), Lit.int .u16 (n.double.toNat : Int)]
theorem node_inj {a b : NodeV} (ha : a.dir.length = 6) (hb : b.dir.length = 6) : a.lits = b.lits ↔ a = b := by
  constructor
  · intro h
    obtain ⟨a1, a2, a3, a4, a5, a6, a7⟩ := a
    obtain ⟨b1, b2, b3, b4, b5, b6, b7⟩ := b
    simp only [NodeV.lits, List.cons_append, List.nil_append, List.append_assoc, List.cons.injEq, Lit.int.injEq, true_and] at h
    obtain ⟨h1, h2, h3, h4, h5⟩ := h
    have h6 := List.append_inj h5 (by simpa using ha.trans hb.symm)
    have h7 := (List.map_inj_right (f := fun x : UInt16 => Lit.int .u16 (x.toNat : Int)) (fun x y hxy => by simp at hxy; exact UInt16.toNat_inj.1 (by exact_mod_cast hxy))).1 h6.1
    simp at h1 h2 h3 h4 h6
    simp only [NodeV.mk.injEq]
    exact ⟨UInt8.toNat_inj.1 (by omega), UInt8.toNat_inj.1 (by omega), UInt16.toNat_inj.1 (by omega), UInt32.toNat_inj.1 (by omega), h7, UInt16.toNat_inj.1 (by omega), UInt16.toNat_inj.1 (by omega)⟩
  · rintro rfl; rfl
theorem node_lits (d : Nat) {n : NodeV} (hn : n.dir.length = 6) : Try.prog.keyLits (d + 3) 52 n.cells = some n.lits := by
  have h8 : ∀ (x : UInt8) j, Try.prog.keyLits (j + 1) 5 [.int .u8 (x.toNat : Int)] = some [.int .u8 (x.toNat : Int)] := fun x j => by unfold Program.keyLits; rw [Try.underlying5]; simp [wf8]
  have hk8 : ∀ (x : UInt8) j, Try.prog.keyLits (j + 1) 48 [.int .u8 (x.toNat : Int)] = some [.int .u8 (x.toNat : Int)] := fun x j => by unfold Program.keyLits; rw [Try.underlying48]; simp [wf8]
  have h16 : ∀ (x : UInt16) j, Try.prog.keyLits (j + 1) 39 [.int .u16 (x.toNat : Int)] = some [.int .u16 (x.toNat : Int)] := fun x j => by unfold Program.keyLits; rw [Try.underlying39]; simp [wf16]
  have h32 : ∀ (x : UInt32) j, Try.prog.keyLits (j + 1) 49 [.int .u32 (x.toNat : Int)] = some [.int .u32 (x.toNat : Int)] := fun x j => by unfold Program.keyLits; rw [Try.underlying49]; simp [wf32]
  have c1 : Try.prog.cellsOf 5 = 1 := by kernel_rfl
  have c2 : Try.prog.cellsOf 48 = 1 := by kernel_rfl
  have c3 : Try.prog.cellsOf 39 = 1 := by kernel_rfl
  have c4 : Try.prog.cellsOf 49 = 1 := by kernel_rfl
  have c5 : Try.prog.cellsOf 50 = 6 := by kernel_rfl
  have c6 : Try.prog.cellsOf 52 = 12 := by kernel_rfl
  obtain ⟨k, l, g, s, dir, a, b⟩ := n
  simp only at hn
  obtain ⟨d0, d1, d2, d3, d4, d5, rfl⟩ : ∃ d0 d1 d2 d3 d4 d5, dir = [d0, d1, d2, d3, d4, d5] := by
    match dir, hn with
    | [d0, d1, d2, d3, d4, d5], _ => exact ⟨d0, d1, d2, d3, d4, d5, rfl⟩
  have hd := fun d => lits_ints (P := Try.prog) (d := d) Try.underlying50 Try.underlying39 (by kernel_rfl) (by kernel_rfl) (xs := [d0, d1, d2, d3, d4, d5].map fun x : UInt16 => (x.toNat : Int)) rfl (fun x hx => by
    obtain ⟨y, _, rfl⟩ := List.mem_map.1 hx
    exact wf16 y)
  simp only [List.map_cons, List.map_nil] at hd
  unfold Program.keyLits
  rw [Try.underlying52]
  simp only [NodeV.cells, NodeV.lits, List.map_cons, List.map_nil, List.cons_append, List.nil_append]
  simp [c1, c2, c3, c4, c5, c6, h8, hk8, h16, h32, hd]
theorem node_eq (w : World) {a b : NodeV} (ha : a.dir.length = 6) (hb : b.dir.length = 6) : (Op.equalIn 10000 52 a.val b.val).run Try.prog w = .ok (decide (a = b)) w := by
  have hf : ∀ {n : NodeV}, n.dir.length = 6 → n.val.formed Try.prog 52 = true := fun {n} hn => by
    unfold Value.formed NodeV.val
    rw [Try.underlying52]
    simp only [beq_iff_eq, List.size_toArray, NodeV.cells_length hn]
    kernel_rfl
  obtain ⟨r, h1, h2⟩ := run_equal_lits (P := Try.prog) w (m := 3) (D := 3) (by decide) (k := 52) (by kernel_rfl) (hf ha) (hf hb) (node_lits 0 ha) (node_lits 0 hb)
  rw [node_inj ha hb] at h2
  unfold NodeV.val
  rw [h1, show r = decide (a = b) from by cases r <;> simp_all]
end Go.Proofs.Ytoeejeieplhifaa

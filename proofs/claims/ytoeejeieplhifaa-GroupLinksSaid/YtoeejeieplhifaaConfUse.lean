/- Configurations: what one that was made answers. -/
import Derived.Test.YtoeejeieplhifaaConfAdd
import Derived.Test.YtoeejeieplhifaaConfSize
namespace Go.Proofs.Ytoeejeieplhifaa
open Go.RowKit Go.WideMaps
set_option linter.unusedSimpArgs false
set_option linter.unusedVariables false

theorem own_base {w : World} {B sz n c : Nat} {e : TypeId} {A : Option Addr} {xs : List Value} (h : w.ownsRow B e sz (.slice A n c) n xs) (hn : 0 < n) : ∃ g, A = some ⟨g, 0, none⟩ ∧ B ≤ g ∧ g < w.heap.size ∧ ∀ j v, xs[j]? = some v → w.cell? ⟨g, j, none⟩ = some v := by
  obtain ⟨b, o, hA, hb, hc⟩ := (Rd.of_own h).2 hn
  have ho : o = 0 := by
    rcases h.2 with ⟨h0, _⟩ | ⟨g, cap, cur, hv, _⟩
    · rw [hA] at h0; cases h0
    · rw [hA] at hv; cases hv; rfl
  subst ho
  subst hA
  refine ⟨b, rfl, (h.lt b rfl).1, hb, fun j v hj => ?_⟩
  rw [← Nat.zero_add j]
  exact hc j v hj

section
variable {B : Nat} {w w' : World} {c : Nat} {R : List RegV} {K : List MarkV} {tb nb lb : Nat} {A1 A2 A3 : Option Addr} {c1 c2 c3 : Nat}
def hasB (R : List RegV) (i : Int) : Bool := decide (0 ≤ i) && decide (i < (R.length : Int))
theorem hasB_nat {R : List RegV} {i : Int} (h : hasB R i = true) : ∃ (k : Nat) (r : RegV), i = (k : Int) ∧ R[k]? = some r ∧ k < R.length := by
  simp only [hasB, Bool.and_eq_true, decide_eq_true_eq] at h
  obtain ⟨k, rfl⟩ := Int.eq_ofNat_of_zero_le h.1
  have hk : k < R.length := by omega
  exact ⟨k, _, rfl, List.getElem?_eq_getElem hk, hk⟩
theorem regAt_has {R : List RegV} {i : Int} : hasB R i = (regAt R i).isSome := by
  unfold hasB regAt
  by_cases h : 0 ≤ i
  · obtain ⟨k, rfl⟩ := Int.eq_ofNat_of_zero_le h
    by_cases hk : k < R.length
    · simp [hk]
    · simp [hk]
  · simp [h]
theorem ConfIn.regc (h : ConfIn B w c R K tb nb lb A1 A2 A3 c1 c2 c3) {k : Nat} {r : RegV} (hk : R[k]? = some r) :
    ∃ g, A1 = some ⟨g, 0, none⟩ ∧ g < w.heap.size ∧ ∀ j v, r.cells[j]? = some v → w.cell? ⟨g, k * 9 + j, none⟩ = some v := by
  have hl : k < R.length := (List.getElem?_eq_some_iff.1 hk).1
  obtain ⟨g, hA, _, hg, hc⟩ := own_base h.regs (by omega)
  exact ⟨g, hA, hg, fun j v hv => hc _ _ (flat_get RegV.cells 9 (fun _ => rfl) R k r hk j v hv)⟩
theorem ConfIn.geoc (h : ConfIn B w c R K tb nb lb A1 A2 A3 c1 c2 c3) {k : Nat} {r : GeoV} (hk : (geosOf 32 R)[k]? = some r) :
    ∃ g, A3 = some ⟨g, 0, none⟩ ∧ g < w.heap.size ∧ ∀ j v, r.cells[j]? = some v → w.cell? ⟨g, k * 6 + j, none⟩ = some v := by
  have hl : k < (geosOf 32 R).length := (List.getElem?_eq_some_iff.1 hk).1
  obtain ⟨g, hA, _, hg, hc⟩ := own_base h.geos (by omega)
  exact ⟨g, hA, hg, fun j v hv => hc _ _ (flat_get GeoV.cells 6 (fun _ => rfl) _ k r hk j v hv)⟩

theorem len_ok (h : ConfIn B w c R K tb nb lb A1 A2 A3 c1 c2 c3) :
    Calls Try.prog 17 #[.pointer (some ⟨c, 0, none⟩)] w fun e w' => e = .returned (.int .i64 (R.length : Int)) ∧ w' = w := by
  have k0 := h.blk.cell 0
  have kl := h.blk.lt
  go_enter Try.func17, Try.ntmps17
  go_wp2
  go_returns
  exact ⟨rfl, rfl⟩
theorem len_nil (w : World) : Calls Try.prog 17 #[.pointer none] w fun e w' => e = .returned (.int .i64 0) ∧ w' = w := by
  go_enter Try.func17, Try.ntmps17
  go_wp2
  go_returns
  exact ⟨rfl, rfl⟩
theorem total_ok (h : ConfIn B w c R K tb nb lb A1 A2 A3 c1 c2 c3) :
    Calls Try.prog 61 #[.pointer (some ⟨c, 0, none⟩)] w fun e w' => e = .returned (.int .i64 (totalOf 32 R)) ∧ w' = w := by
  have k0 := h.blk.cell 6
  have kl := h.blk.lt
  go_enter Try.func61, Try.ntmps61
  go_wp2
  go_returns
  exact ⟨rfl, rfl⟩
theorem has_ok (h : ConfIn B w c R K tb nb lb A1 A2 A3 c1 c2 c3) (i : Int) :
    Calls Try.prog 47 #[.pointer (some ⟨c, 0, none⟩), .int .i64 i] w fun e w' => e = .returned (.bool (hasB R i)) ∧ w' = w := by
  by_cases hi : 0 ≤ i
  · have h1 : decide (0 ≤ i) = true := by simpa using hi
    go_enter Try.func47, Try.ntmps47
    go_wp2_with (refine (len_ok h).mono ?_; rintro e w' ⟨rfl, rfl⟩)
    go_returns
    exact ⟨by simp [hasB, hi], rfl⟩
  · have h1 : decide (0 ≤ i) = false := by simpa using hi
    go_enter Try.func47, Try.ntmps47
    go_wp2
    go_returns
    exact ⟨by rw [hasB, h1]; rfl, rfl⟩
theorem has_nil (w : World) (i : Int) :
    Calls Try.prog 47 #[.pointer none, .int .i64 i] w fun e w' => e = .returned (.bool false) ∧ w' = w := by
  by_cases hi : 0 ≤ i
  · have h1 : decide (0 ≤ i) = true := by simpa using hi
    have h2 : decide (i < 0) = false := by simpa using hi
    go_enter Try.func47, Try.ntmps47
    go_wp2_with (refine (len_nil _).mono ?_; rintro e w' ⟨rfl, rfl⟩)
    go_returns
    exact ⟨rfl, rfl⟩
  · have h1 : decide (0 ≤ i) = false := by simpa using hi
    go_enter Try.func47, Try.ntmps47
    go_wp2
    go_returns
    exact ⟨rfl, rfl⟩

set_option maxRecDepth 100000 in
set_option maxHeartbeats 400000 in
theorem reg_no (p : Option Addr) (i : Int) (w : World) (hh : ∀ W, Below w.heap.size w W → Calls Try.prog 47 #[.pointer p, .int .i64 i] W fun e w' => e = .returned (.bool false) ∧ w' = W) :
    Calls Try.prog 14 #[.pointer p, .int .i64 i] w fun e w' => e = .returned (.tuple #[.agg #[.string ByteArray.empty, .int .u8 0, .int .u16 0, .int .i64 0, .int .i64 0, .int .i64 0, .int .i64 0, .int .i64 0, .int .i64 0], .bool false]) ∧ Below w.heap.size w w' := by
  have hb1 : Below w.heap.size w (w.alloc (.cells #[.string ByteArray.empty, .int .u8 0, .int .u16 0, .int .i64 0, .int .i64 0, .int .i64 0, .int .i64 0, .int .i64 0, .int .i64 0] 43)) := (Below.refl _ _).alloc (Nat.le_refl _) _
  have B1 : Blk (w.alloc (.cells #[.string ByteArray.empty, .int .u8 0, .int .u16 0, .int .i64 0, .int .i64 0, .int .i64 0, .int .i64 0, .int .i64 0, .int .i64 0] 43)) w.heap.size 43 #[.string ByteArray.empty, .int .u8 0, .int .u16 0, .int .i64 0, .int .i64 0, .int .i64 0, .int .i64 0, .int .i64 0, .int .i64 0] := Blk.new w _ _
  go_enter Try.func14, Try.ntmps14
  go_wp2_with fail
  refine (hh _ hb1).mono ?_
  rintro e w' ⟨rfl, rfl⟩
  have z0 := B1.cell 0
  have f0 := B1.frozen 0
  have z1 := B1.cell 1
  have f1 := B1.frozen 1
  have z2 := B1.cell 2
  have f2 := B1.frozen 2
  have z3 := B1.cell 3
  have f3 := B1.frozen 3
  have z4 := B1.cell 4
  have f4 := B1.frozen 4
  have z5 := B1.cell 5
  have f5 := B1.frozen 5
  have z6 := B1.cell 6
  have f6 := B1.frozen 6
  have z7 := B1.cell 7
  have f7 := B1.frozen 7
  have z8 := B1.cell 8
  have f8 := B1.frozen 8
  have zl := B1.lt
  clear hh
  have HB := hide hb1
  have HB1 := hide B1
  clear hb1 B1
  go_wp2
  exact bodyPost_ret (results_run2 rfl (ResV.struct rfl HB1.out Try.underlying43 (by kernel_rfl)) rfl) rfl ⟨rfl, HB.out⟩
set_option maxRecDepth 100000 in
set_option maxHeartbeats 400000 in
theorem reg_ok (h : ConfIn B w c R K tb nb lb A1 A2 A3 c1 c2 c3) {k : Nat} {r : RegV} (hk : R[k]? = some r) :
    Calls Try.prog 14 #[.pointer (some ⟨c, 0, none⟩), .int .i64 (k : Int)] w fun e w' => e = .returned (.tuple #[.agg #[.string ⟨r.name.toArray⟩, .int .u8 (r.lev.toNat : Int), .int .u16 (r.cats.toNat : Int), .int .i64 r.blocks, .int .i64 r.nodes, .int .i64 r.frames, .int .i64 r.procs, .int .i64 r.opens, .int .i64 r.clear], .bool true]) ∧ Below w.heap.size w w' := by
  have hkl : k < R.length := by have := (List.getElem?_eq_some_iff.1 hk).1; first | exact this | (rw [geosOf_length] at this; exact this)
  have hhas : hasB R (k : Int) = true := by simp [hasB, hkl]
  have hb1 : Below w.heap.size w (w.alloc (.cells #[.string ByteArray.empty, .int .u8 0, .int .u16 0, .int .i64 0, .int .i64 0, .int .i64 0, .int .i64 0, .int .i64 0, .int .i64 0] 43)) := (Below.refl _ _).alloc (Nat.le_refl _) _
  have B1 : Blk (w.alloc (.cells #[.string ByteArray.empty, .int .u8 0, .int .u16 0, .int .i64 0, .int .i64 0, .int .i64 0, .int .i64 0, .int .i64 0, .int .i64 0] 43)) w.heap.size 43 #[.string ByteArray.empty, .int .u8 0, .int .u16 0, .int .i64 0, .int .i64 0, .int .i64 0, .int .i64 0, .int .i64 0, .int .i64 0] := Blk.new w _ _
  have h1 := h.below hb1
  obtain ⟨g, hA, hg, hcc⟩ := h1.regc hk
  subst hA
  have hgl : g < w.heap.size := by have := h.regc hk; obtain ⟨g', e, h2, _⟩ := this; cases e; exact h2
  have hkz : (k : Int) < (R.length : Int) := by omega
  go_enter Try.func14, Try.ntmps14
  go_wp2_with fail
  refine (has_ok h1 _).mono ?_
  rw [hhas]
  rintro e w' ⟨rfl, rfl⟩
  have y0 := hcc 0 _ rfl
  have y1 := hcc 1 _ rfl
  have y2 := hcc 2 _ rfl
  have y3 := hcc 3 _ rfl
  have y4 := hcc 4 _ rfl
  have y5 := hcc 5 _ rfl
  have y6 := hcc 6 _ rfl
  have y7 := hcc 7 _ rfl
  have y8 := hcc 8 _ rfl
  have kc := h1.blk.cell 0
  have kl := h1.blk.lt
  have z0 := B1.cell 0
  have f0 := B1.frozen 0
  have z1 := B1.cell 1
  have f1 := B1.frozen 1
  have z2 := B1.cell 2
  have f2 := B1.frozen 2
  have z3 := B1.cell 3
  have f3 := B1.frozen 3
  have z4 := B1.cell 4
  have f4 := B1.frozen 4
  have z5 := B1.cell 5
  have f5 := B1.frozen 5
  have z6 := B1.cell 6
  have f6 := B1.frozen 6
  have z7 := B1.cell 7
  have f7 := B1.frozen 7
  have z8 := B1.cell 8
  have f8 := B1.frozen 8
  have zl := B1.lt
  have HB := hide hb1
  have HB1 := hide B1
  clear hb1 B1 hhas hk hcc h h1
  simp only [geosOf_length, Nat.add_zero] at kc y0
  go_wp2
  refine at_world (fun W => Blk W w.heap.size 43 #[.string ⟨r.name.toArray⟩, .int .u8 (r.lev.toNat : Int), .int .u16 (r.cats.toNat : Int), .int .i64 r.blocks, .int .i64 r.nodes, .int .i64 r.frames, .int .i64 r.procs, .int .i64 r.opens, .int .i64 r.clear] ∧ Below w.heap.size w W) ⟨Blk.new w _ _, (Below.refl _ _).alloc (Nat.le_refl _) _⟩ (fun W h9 => ?_)
  exact bodyPost_ret (results_run2 rfl (ResV.struct rfl h9.1 Try.underlying43 (by kernel_rfl)) rfl) rfl ⟨rfl, h9.2⟩

set_option maxRecDepth 100000 in
set_option maxHeartbeats 400000 in
theorem geo_no (p : Option Addr) (i : Int) (w : World) (hh : ∀ W, Below w.heap.size w W → Calls Try.prog 47 #[.pointer p, .int .i64 i] W fun e w' => e = .returned (.bool false) ∧ w' = W) :
    Calls Try.prog 45 #[.pointer p, .int .i64 i] w fun e w' => e = .returned (.tuple #[.agg #[.int .i64 0, .int .i64 0, .int .i64 0, .int .i64 0, .int .i64 0, .int .i64 0], .bool false]) ∧ Below w.heap.size w w' := by
  have hb1 : Below w.heap.size w (w.alloc (.cells #[.int .i64 0, .int .i64 0, .int .i64 0, .int .i64 0, .int .i64 0, .int .i64 0] 112)) := (Below.refl _ _).alloc (Nat.le_refl _) _
  have B1 : Blk (w.alloc (.cells #[.int .i64 0, .int .i64 0, .int .i64 0, .int .i64 0, .int .i64 0, .int .i64 0] 112)) w.heap.size 112 #[.int .i64 0, .int .i64 0, .int .i64 0, .int .i64 0, .int .i64 0, .int .i64 0] := Blk.new w _ _
  go_enter Try.func45, Try.ntmps45
  go_wp2_with fail
  refine (hh _ hb1).mono ?_
  rintro e w' ⟨rfl, rfl⟩
  have z0 := B1.cell 0
  have f0 := B1.frozen 0
  have z1 := B1.cell 1
  have f1 := B1.frozen 1
  have z2 := B1.cell 2
  have f2 := B1.frozen 2
  have z3 := B1.cell 3
  have f3 := B1.frozen 3
  have z4 := B1.cell 4
  have f4 := B1.frozen 4
  have z5 := B1.cell 5
  have f5 := B1.frozen 5
  have zl := B1.lt
  clear hh
  have HB := hide hb1
  have HB1 := hide B1
  clear hb1 B1
  go_wp2
  exact bodyPost_ret (results_run2 rfl (ResV.struct rfl HB1.out Try.underlying112 (by kernel_rfl)) rfl) rfl ⟨rfl, HB.out⟩
set_option maxRecDepth 100000 in
set_option maxHeartbeats 400000 in
theorem geo_ok (h : ConfIn B w c R K tb nb lb A1 A2 A3 c1 c2 c3) {k : Nat} {r : GeoV} (hk : (geosOf 32 R)[k]? = some r) :
    Calls Try.prog 45 #[.pointer (some ⟨c, 0, none⟩), .int .i64 (k : Int)] w fun e w' => e = .returned (.tuple #[.agg #[.int .i64 r.base, .int .i64 r.bitmap, .int .i64 r.table, .int .i64 r.data, .int .i64 r.blocks, .int .i64 r.nodes], .bool true]) ∧ Below w.heap.size w w' := by
  have hkl : k < R.length := by have := (List.getElem?_eq_some_iff.1 hk).1; first | exact this | (rw [geosOf_length] at this; exact this)
  have hhas : hasB R (k : Int) = true := by simp [hasB, hkl]
  have hb1 : Below w.heap.size w (w.alloc (.cells #[.int .i64 0, .int .i64 0, .int .i64 0, .int .i64 0, .int .i64 0, .int .i64 0] 112)) := (Below.refl _ _).alloc (Nat.le_refl _) _
  have B1 : Blk (w.alloc (.cells #[.int .i64 0, .int .i64 0, .int .i64 0, .int .i64 0, .int .i64 0, .int .i64 0] 112)) w.heap.size 112 #[.int .i64 0, .int .i64 0, .int .i64 0, .int .i64 0, .int .i64 0, .int .i64 0] := Blk.new w _ _
  have h1 := h.below hb1
  obtain ⟨g, hA, hg, hcc⟩ := h1.geoc hk
  subst hA
  have hgl : g < w.heap.size := by have := h.geoc hk; obtain ⟨g', e, h2, _⟩ := this; cases e; exact h2
  have hkz : (k : Int) < (R.length : Int) := by omega
  go_enter Try.func45, Try.ntmps45
  go_wp2_with fail
  refine (has_ok h1 _).mono ?_
  rw [hhas]
  rintro e w' ⟨rfl, rfl⟩
  have y0 := hcc 0 _ rfl
  have y1 := hcc 1 _ rfl
  have y2 := hcc 2 _ rfl
  have y3 := hcc 3 _ rfl
  have y4 := hcc 4 _ rfl
  have y5 := hcc 5 _ rfl
  have kc := h1.blk.cell 5
  have kl := h1.blk.lt
  have z0 := B1.cell 0
  have f0 := B1.frozen 0
  have z1 := B1.cell 1
  have f1 := B1.frozen 1
  have z2 := B1.cell 2
  have f2 := B1.frozen 2
  have z3 := B1.cell 3
  have f3 := B1.frozen 3
  have z4 := B1.cell 4
  have f4 := B1.frozen 4
  have z5 := B1.cell 5
  have f5 := B1.frozen 5
  have zl := B1.lt
  have HB := hide hb1
  have HB1 := hide B1
  clear hb1 B1 hhas hk hcc h h1
  simp only [geosOf_length, Nat.add_zero] at kc y0
  go_wp2
  refine at_world (fun W => Blk W w.heap.size 112 #[.int .i64 r.base, .int .i64 r.bitmap, .int .i64 r.table, .int .i64 r.data, .int .i64 r.blocks, .int .i64 r.nodes] ∧ Below w.heap.size w W) ⟨Blk.new w _ _, (Below.refl _ _).alloc (Nat.le_refl _) _⟩ (fun W h9 => ?_)
  exact bodyPost_ret (results_run2 rfl (ResV.struct rfl h9.1 Try.underlying112 (by kernel_rfl)) rfl) rfl ⟨rfl, h9.2⟩

set_option maxRecDepth 100000 in
theorem leq_ok (h : ConfIn B w c R K tb nb lb A1 A2 A3 c1 c2 c3) (i k : Int) :
    Calls Try.prog 71 #[.pointer (some ⟨c, 0, none⟩), .int .i64 i, .int .i64 k] w fun e w' => e = .returned (.bool (leqAt R i k)) ∧ Below w.heap.size w w' := by
  cases hi : hasB R i with
  | false =>
    have e : leqAt R i k = false := by
      rw [regAt_has] at hi
      unfold leqAt
      cases hx : regAt R i with
      | none => rfl
      | some x => rw [hx] at hi; cases hi
    rw [e]
    clear e
    go_enter Try.func71, Try.ntmps71
    go_wp2_with fail
    refine wp_region_text [0, 0, 1, 0, 0, 0, 1, 0, 0, 0, 0, 0, 0, 0, 0, 0, 0, 0, 0, 0, 0, 0, 0, 0, 0, 1, 0, 0] (Below w.heap.size w) (by kernel_rfl) (by kernel_rfl) (Below.refl _ _).drew ?_
    iterate 2 (refine wpOrd_q (v := ?_) (by rfl) (fun W hW => ?_) ?_; rotate_left; (focus (go_simp; try with_reducible rfl)); try simp only [Act.put, List.setIfInBounds_toArray, List.set_cons_zero, List.set_cons_succ])
    refine wpOrd_x (by rfl) (fun K hK => ?_)
    go_simp
    refine (has_ok (h.below (Below.refl _ _).drew) _).mono ?_
    rw [hi]
    rintro e w' ⟨rfl, rfl⟩
    refine hK _ _ _ (fun _ h => h) (Below.refl _ _).drew ?_
    clear hK K
    try simp only [Act.put, List.setIfInBounds_toArray, List.set_cons_zero, List.set_cons_succ]
    iterate 1 (refine wpOrd_q (v := ?_) (by rfl) (fun W hW => ?_) ?_; rotate_left; (focus (go_simp; try with_reducible rfl)); try simp only [Act.put, List.setIfInBounds_toArray, List.set_cons_zero, List.set_cons_succ])
    iterate 3 (refine wpOrd_n (by rfl) ?_; try simp only [Act.put, List.setIfInBounds_toArray, List.set_cons_zero, List.set_cons_succ])
    iterate 2 (refine wpOrd_q (v := ?_) (by rfl) (fun W hW => ?_) ?_; rotate_left; (focus (go_simp; try with_reducible rfl)); try simp only [Act.put, List.setIfInBounds_toArray, List.set_cons_zero, List.set_cons_succ])
    iterate 17 (refine wpOrd_n (by rfl) ?_; try simp only [Act.put, List.setIfInBounds_toArray, List.set_cons_zero, List.set_cons_succ])
    iterate 2 (refine wpOrd_q (v := ?_) (by rfl) (fun W hW => ?_) ?_; rotate_left; (focus (go_simp; try with_reducible rfl)); try simp only [Act.put, List.setIfInBounds_toArray, List.set_cons_zero, List.set_cons_succ])
    refine wpOrd_nil ?_
    go_wp2
    go_returns
    exact ⟨rfl, (Below.refl _ _).drew⟩
  | true =>
    cases hk : hasB R k with
    | false =>
      have e : leqAt R i k = false := by
        rw [regAt_has] at hk
        unfold leqAt
        cases hx : regAt R k with
        | none => cases regAt R i <;> rfl
        | some x => rw [hx] at hk; cases hk
      rw [e]
      clear e
      go_enter Try.func71, Try.ntmps71
      go_wp2_with fail
      refine wp_region_text [0, 0, 1, 0, 0, 0, 1, 0, 0, 0, 0, 0, 0, 0, 0, 0, 0, 0, 0, 0, 0, 0, 0, 0, 0, 1, 0, 0] (Below w.heap.size w) (by kernel_rfl) (by kernel_rfl) (Below.refl _ _).drew ?_
      iterate 2 (refine wpOrd_q (v := ?_) (by rfl) (fun W hW => ?_) ?_; rotate_left; (focus (go_simp; try with_reducible rfl)); try simp only [Act.put, List.setIfInBounds_toArray, List.set_cons_zero, List.set_cons_succ])
      refine wpOrd_x (by rfl) (fun K hK => ?_)
      go_simp
      refine (has_ok (h.below (Below.refl _ _).drew) _).mono ?_
      rw [hi]
      rintro e w' ⟨rfl, rfl⟩
      refine hK _ _ _ (fun _ h => h) (Below.refl _ _).drew ?_
      clear hK K
      try simp only [Act.put, List.setIfInBounds_toArray, List.set_cons_zero, List.set_cons_succ]
      iterate 3 (refine wpOrd_q (v := ?_) (by rfl) (fun W hW => ?_) ?_; rotate_left; (focus (go_simp; try with_reducible rfl)); try simp only [Act.put, List.setIfInBounds_toArray, List.set_cons_zero, List.set_cons_succ])
      refine wpOrd_x (by rfl) (fun K hK => ?_)
      go_simp
      refine (has_ok (h.below (Below.refl _ _).drew) _).mono ?_
      rw [hk]
      rintro e w' ⟨rfl, rfl⟩
      refine hK _ _ _ (fun _ h => h) (Below.refl _ _).drew ?_
      clear hK K
      try simp only [Act.put, List.setIfInBounds_toArray, List.set_cons_zero, List.set_cons_succ]
      iterate 2 (refine wpOrd_q (v := ?_) (by rfl) (fun W hW => ?_) ?_; rotate_left; (focus (go_simp; try with_reducible rfl)); try simp only [Act.put, List.setIfInBounds_toArray, List.set_cons_zero, List.set_cons_succ])
      iterate 17 (refine wpOrd_n (by rfl) ?_; try simp only [Act.put, List.setIfInBounds_toArray, List.set_cons_zero, List.set_cons_succ])
      iterate 2 (refine wpOrd_q (v := ?_) (by rfl) (fun W hW => ?_) ?_; rotate_left; (focus (go_simp; try with_reducible rfl)); try simp only [Act.put, List.setIfInBounds_toArray, List.set_cons_zero, List.set_cons_succ])
      refine wpOrd_nil ?_
      go_wp2
      go_returns
      exact ⟨rfl, (Below.refl _ _).drew⟩
    | true =>
      obtain ⟨i, r1, rfl, hr1, hl1⟩ := hasB_nat hi
      obtain ⟨k, r2, rfl, hr2, hl2⟩ := hasB_nat hk
      have e : leqAt R (i : Int) (k : Int) = lleB r1.lev r1.cats r2.lev r2.cats := by
        simp only [leqAt, reg_at, hr1, hr2, leqB]
      rw [e]
      clear e
      obtain ⟨g, rfl, hg, hc1⟩ := h.regc hr1
      obtain ⟨g', e', _, hc2⟩ := h.regc hr2
      cases e'
      have y1 := hc1 1 _ rfl
      have y2 := hc1 2 _ rfl
      have z1 := hc2 1 _ rfl
      have z2 := hc2 2 _ rfl
      have k0 := h.blk.cell 0
      have kl := h.blk.lt
      have hz1 : (i : Int) < R.length := by omega
      have hz2 : (k : Int) < R.length := by omega
      clear hc1 hc2
      go_enter Try.func71, Try.ntmps71
      go_wp2_with fail
      refine wp_region_text [0, 0, 1, 0, 0, 0, 1, 0, 0, 0, 0, 0, 0, 0, 0, 0, 0, 0, 0, 0, 0, 0, 0, 0, 0, 1, 0, 0] (Below w.heap.size w) (by kernel_rfl) (by kernel_rfl) (Below.refl _ _).drew ?_
      iterate 2 (refine wpOrd_q (v := ?_) (by rfl) (fun W hW => ?_) ?_; rotate_left; (focus (go_simp; try with_reducible rfl)); try simp only [Act.put, List.setIfInBounds_toArray, List.set_cons_zero, List.set_cons_succ])
      refine wpOrd_x (by rfl) (fun K hK => ?_)
      go_simp
      refine (has_ok (h.below (Below.refl _ _).drew) _).mono ?_
      rw [hi]
      rintro e w' ⟨rfl, rfl⟩
      refine hK _ _ _ (fun _ h => h) (Below.refl _ _).drew ?_
      clear hK K
      try simp only [Act.put, List.setIfInBounds_toArray, List.set_cons_zero, List.set_cons_succ]
      iterate 3 (refine wpOrd_q (v := ?_) (by rfl) (fun W hW => ?_) ?_; rotate_left; (focus (go_simp; try with_reducible rfl)); try simp only [Act.put, List.setIfInBounds_toArray, List.set_cons_zero, List.set_cons_succ])
      refine wpOrd_x (by rfl) (fun K hK => ?_)
      go_simp
      refine (has_ok (h.below (Below.refl _ _).drew) _).mono ?_
      rw [hk]
      rintro e w' ⟨rfl, rfl⟩
      refine hK _ _ _ (fun _ h => h) (Below.refl _ _).drew ?_
      clear hK K
      try simp only [Act.put, List.setIfInBounds_toArray, List.set_cons_zero, List.set_cons_succ]
      iterate 18 (refine wpOrd_q (v := ?_) (by rfl) (fun W hW => ?_) ?_; rotate_left; (focus ((obtain ⟨hWc, hWf⟩ := bcell hW); go_simp; try with_reducible rfl)); try simp only [Act.put, List.setIfInBounds_toArray, List.set_cons_zero, List.set_cons_succ])
      refine wpOrd_x (by rfl) (fun K hK => ?_)
      go_simp
      refine (label_leq _ _ _ _ _).mono ?_
      rintro e w8 ⟨rfl, hb8⟩
      refine hK _ _ _ (fun _ h => h) ((Below.refl _ _).drew.trans hb8) ?_
      clear hK K
      try simp only [Act.put, List.setIfInBounds_toArray, List.set_cons_zero, List.set_cons_succ]
      iterate 2 (refine wpOrd_q (v := ?_) (by rfl) (fun W hW => ?_) ?_; rotate_left; (focus (go_simp; try with_reducible rfl)); try simp only [Act.put, List.setIfInBounds_toArray, List.set_cons_zero, List.set_cons_succ])
      have HB8 := hide hb8
      clear hb8
      refine wpOrd_nil ?_
      go_wp2
      go_returns
      exact ⟨rfl, (Below.refl _ _).drew.trans HB8.out⟩
end

end Go.Proofs.Ytoeejeieplhifaa

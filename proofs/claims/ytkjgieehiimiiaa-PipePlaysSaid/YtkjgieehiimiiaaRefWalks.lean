/- Layer 21, the document's pipes: the walks. -/
import Derived.Test.YtkjgieehiimiiaaRefAt
import Derived.BigQuiet
import Derived.Deep.LoopGhost
import Derived.Deep.Cut
namespace Go.Proofs.Ytkjgieehiimiiaa
open Go.RowKit

section
variable (p : Nat) (nm : Bool) (lb : UInt8) (nu ge : UInt16) (A : Option Addr) (n c : Nat) (es : List RE) (nx : List UInt16) (F : Nat → Prop) (w : World)
theorem info_pipe : (Try.prog.info? 75).map (fun i => (i.zero, i.size, i.bytes)) = some (some (.agg #[.bool false, .int .u8 0, .int .u16 0, .int .u16 0, .slice none 0 0, .int .i64 0, .int .i64 0]), 7, 48) := by kernel_rfl

set_option maxRecDepth 100000 in
set_option maxHeartbeats 4000000 in
theorem rjoin_rw (h : RefIn w p F es nx A n c) (hn : n ≤ 60000) {i : Nat} {e0 : RE} (hpos : pos es (nm, lb, nu, ge) = some i) (he : es[i]? = some e0) (hr : e0.r < 60000) (hs : e0.s < 60000) (hl : e0.l.length ≤ 256) :
    Calls Try.prog 29 #[.pointer (some ⟨p, 0, none⟩), .bool nm, .agg #[.int .u8 (lb.toNat : Int), .int .u16 (nu.toNat : Int), .int .u16 (ge.toNat : Int)], .bool true, .bool true] w fun ex w' =>
      ex = .returned (.tuple #[]) ∧ ∃ F', RefIn w' p F' (es.set i ⟨e0.k, e0.A, e0.l, e0.c, (e0.r + 1), (e0.s + 1)⟩) nx A n c ∧ Went w w' F F' := by
  go_enter Try.func29, Try.ntmps29
  go_wp2_with fail
  have hb1 : Below w.heap.size w (w.alloc (.cells #[.int .u8 (lb.toNat : Int), .int .u16 (nu.toNat : Int), .int .u16 (ge.toNat : Int)] 39)) := (Below.refl _ _).alloc (Nat.le_refl _) _
  have kB1 := Blk.new w 39 #[.int .u8 (lb.toNat : Int), .int .u16 (nu.toNat : Int), .int .u16 (ge.toNat : Int)]
  have h1 := h.below hb1
  refine (ref_find p nm lb nu ge _ n c es _ (h1.blk.cell 0) (h1.lt p h1.fp) (Rd.of_own h1.row) hn).mono ?_
  rw [show posI es (nm, lb, nu, ge) = (i : Int) from by unfold posI; rw [hpos]]
  rintro ex w2 ⟨rfl, hb2⟩
  have hb := hb1.trans (hb2.mono hb1.size)
  have kB := kB1.below hb2 kB1.lt
  clear h1 kB1 hb1 hb2
  obtain ⟨g, rfl, a0⟩ := h.at7 he
  have a7 := a0.below hb
  have H := hide h
  clear a0 h hb kB hpos he
  have hneg : decide ((i : Int) < 0) = false := by simp
  go_wp2_with fail
  have p0 := a7.hd
  have c5 := a7.cell 5 (v := .int .i64 (e0.r : Int)) rfl
  have c6 := a7.cell 6 (v := .int .i64 (e0.s : Int)) rfl
  have c4 := a7.cell 4 (v := .slice e0.A e0.l.length e0.c) rfl
  have f4 := a7.frozen (i * 7 + 4)
  have f5 := a7.frozen (i * 7 + 5)
  have f6 := a7.frozen (i * 7 + 6)
  have gl := a7.gl
  have pl := a7.pl
  have hiz : (i : Int) < n := by have := a7.hi; omega
  have wr : IntKind.i64.wrap ((e0.r : Int) + 1) = ((e0.r + 1 : Nat) : Int) := by rw [IntWalk.i64_in _ (by omega)]; rfl
  refine wp_region_text [0, 0, 0, 0, 0, 0, 0, 0, 0, 0, 0, 0, 0, 0, 0, 0, 2] (Below w2.heap.size w2) (by kernel_rfl) (by kernel_rfl) (Below.refl _ _).drew ?_
  iterate 16 (refine wpOrd_q (v := ?_) (by rfl) (fun W hW => ?_) ?_; rotate_left; (focus ((obtain ⟨hWc, hWf⟩ := bcell hW); go_simp; try with_reducible rfl)); try simp only [Act.put, List.setIfInBounds_toArray, List.set_cons_zero, List.set_cons_succ])
  refine wpOrd_b (by rfl) (fun K hK => ?_)
  go_simp
  refine hK (fun _ => True) _ _ trivial ?_
  clear hK K
  try simp only [Act.put, List.setIfInBounds_toArray, List.set_cons_zero, List.set_cons_succ]
  refine wpOrd_nil ?_
  refine at_world (fun W => At7 w W p g n c i es e0 ⟨e0.k, e0.A, e0.l, e0.c, e0.r + 1, e0.s⟩) (a7.drew.store (e' := ⟨e0.k, e0.A, e0.l, e0.c, e0.r + 1, e0.s⟩) (j := 5) (u := .int .i64 ((e0.r + 1 : Nat) : Int)) (by omega) rfl rfl rfl rfl) (fun w3 a8 => ?_)
  clear wr a7
  clear p0 c4 c5 c6 f4 f5 f6 gl pl hiz
  have a7 := a8
  clear a8
  go_wp2_with fail
  have p0 := a7.hd
  have c5 := a7.cell 5 (v := .int .i64 ((⟨e0.k, e0.A, e0.l, e0.c, e0.r + 1, e0.s⟩ : RE).r : Int)) rfl
  have c6 := a7.cell 6 (v := .int .i64 ((⟨e0.k, e0.A, e0.l, e0.c, e0.r + 1, e0.s⟩ : RE).s : Int)) rfl
  have c4 := a7.cell 4 (v := .slice (⟨e0.k, e0.A, e0.l, e0.c, e0.r + 1, e0.s⟩ : RE).A (⟨e0.k, e0.A, e0.l, e0.c, e0.r + 1, e0.s⟩ : RE).l.length (⟨e0.k, e0.A, e0.l, e0.c, e0.r + 1, e0.s⟩ : RE).c) rfl
  have f4 := a7.frozen (i * 7 + 4)
  have f5 := a7.frozen (i * 7 + 5)
  have f6 := a7.frozen (i * 7 + 6)
  have gl := a7.gl
  have pl := a7.pl
  have hiz : (i : Int) < n := by have := a7.hi; omega
  have wr : IntKind.i64.wrap ((e0.s : Int) + 1) = ((e0.s + 1 : Nat) : Int) := by rw [IntWalk.i64_in _ (by omega)]; rfl
  refine wp_region_text [0, 0, 0, 0, 0, 0, 0, 0, 0, 0, 0, 0, 0, 0, 0, 0, 2] (Below w3.heap.size w3) (by kernel_rfl) (by kernel_rfl) (Below.refl _ _).drew ?_
  iterate 16 (refine wpOrd_q (v := ?_) (by rfl) (fun W hW => ?_) ?_; rotate_left; (focus ((obtain ⟨hWc, hWf⟩ := bcell hW); go_simp; try with_reducible rfl)); try simp only [Act.put, List.setIfInBounds_toArray, List.set_cons_zero, List.set_cons_succ])
  refine wpOrd_b (by rfl) (fun K hK => ?_)
  go_simp
  refine hK (fun _ => True) _ _ trivial ?_
  clear hK K
  try simp only [Act.put, List.setIfInBounds_toArray, List.set_cons_zero, List.set_cons_succ]
  refine wpOrd_nil ?_
  refine at_world (fun W => At7 w W p g n c i es e0 ⟨e0.k, e0.A, e0.l, e0.c, e0.r + 1, e0.s + 1⟩) (a7.drew.store (e' := ⟨e0.k, e0.A, e0.l, e0.c, e0.r + 1, e0.s + 1⟩) (j := 6) (u := .int .i64 ((e0.s + 1 : Nat) : Int)) (by omega) rfl rfl rfl rfl) (fun w4 a8 => ?_)
  clear wr a7
  clear p0 c4 c5 c6 f4 f5 f6 gl pl hiz
  have a7 := a8
  clear a8
  go_wp2
  go_returns
  exact ⟨rfl, H.out.of_at7 a7 hl⟩

set_option maxRecDepth 100000 in
set_option maxHeartbeats 4000000 in
theorem rjoin_r (h : RefIn w p F es nx A n c) (hn : n ≤ 60000) {i : Nat} {e0 : RE} (hpos : pos es (nm, lb, nu, ge) = some i) (he : es[i]? = some e0) (hr : e0.r < 60000) (hs : e0.s < 60000) (hl : e0.l.length ≤ 256) :
    Calls Try.prog 29 #[.pointer (some ⟨p, 0, none⟩), .bool nm, .agg #[.int .u8 (lb.toNat : Int), .int .u16 (nu.toNat : Int), .int .u16 (ge.toNat : Int)], .bool true, .bool false] w fun ex w' =>
      ex = .returned (.tuple #[]) ∧ ∃ F', RefIn w' p F' (es.set i ⟨e0.k, e0.A, e0.l, e0.c, (e0.r + 1), e0.s⟩) nx A n c ∧ Went w w' F F' := by
  go_enter Try.func29, Try.ntmps29
  go_wp2_with fail
  have hb1 : Below w.heap.size w (w.alloc (.cells #[.int .u8 (lb.toNat : Int), .int .u16 (nu.toNat : Int), .int .u16 (ge.toNat : Int)] 39)) := (Below.refl _ _).alloc (Nat.le_refl _) _
  have kB1 := Blk.new w 39 #[.int .u8 (lb.toNat : Int), .int .u16 (nu.toNat : Int), .int .u16 (ge.toNat : Int)]
  have h1 := h.below hb1
  refine (ref_find p nm lb nu ge _ n c es _ (h1.blk.cell 0) (h1.lt p h1.fp) (Rd.of_own h1.row) hn).mono ?_
  rw [show posI es (nm, lb, nu, ge) = (i : Int) from by unfold posI; rw [hpos]]
  rintro ex w2 ⟨rfl, hb2⟩
  have hb := hb1.trans (hb2.mono hb1.size)
  have kB := kB1.below hb2 kB1.lt
  clear h1 kB1 hb1 hb2
  obtain ⟨g, rfl, a0⟩ := h.at7 he
  have a7 := a0.below hb
  have H := hide h
  clear a0 h hb kB hpos he
  have hneg : decide ((i : Int) < 0) = false := by simp
  go_wp2_with fail
  have p0 := a7.hd
  have c5 := a7.cell 5 (v := .int .i64 (e0.r : Int)) rfl
  have c6 := a7.cell 6 (v := .int .i64 (e0.s : Int)) rfl
  have c4 := a7.cell 4 (v := .slice e0.A e0.l.length e0.c) rfl
  have f4 := a7.frozen (i * 7 + 4)
  have f5 := a7.frozen (i * 7 + 5)
  have f6 := a7.frozen (i * 7 + 6)
  have gl := a7.gl
  have pl := a7.pl
  have hiz : (i : Int) < n := by have := a7.hi; omega
  have wr : IntKind.i64.wrap ((e0.r : Int) + 1) = ((e0.r + 1 : Nat) : Int) := by rw [IntWalk.i64_in _ (by omega)]; rfl
  refine wp_region_text [0, 0, 0, 0, 0, 0, 0, 0, 0, 0, 0, 0, 0, 0, 0, 0, 2] (Below w2.heap.size w2) (by kernel_rfl) (by kernel_rfl) (Below.refl _ _).drew ?_
  iterate 16 (refine wpOrd_q (v := ?_) (by rfl) (fun W hW => ?_) ?_; rotate_left; (focus ((obtain ⟨hWc, hWf⟩ := bcell hW); go_simp; try with_reducible rfl)); try simp only [Act.put, List.setIfInBounds_toArray, List.set_cons_zero, List.set_cons_succ])
  refine wpOrd_b (by rfl) (fun K hK => ?_)
  go_simp
  refine hK (fun _ => True) _ _ trivial ?_
  clear hK K
  try simp only [Act.put, List.setIfInBounds_toArray, List.set_cons_zero, List.set_cons_succ]
  refine wpOrd_nil ?_
  refine at_world (fun W => At7 w W p g n c i es e0 ⟨e0.k, e0.A, e0.l, e0.c, e0.r + 1, e0.s⟩) (a7.drew.store (e' := ⟨e0.k, e0.A, e0.l, e0.c, e0.r + 1, e0.s⟩) (j := 5) (u := .int .i64 ((e0.r + 1 : Nat) : Int)) (by omega) rfl rfl rfl rfl) (fun w3 a8 => ?_)
  clear wr a7
  clear p0 c4 c5 c6 f4 f5 f6 gl pl hiz
  have a7 := a8
  clear a8
  go_wp2_with fail
  go_wp2
  go_returns
  exact ⟨rfl, H.out.of_at7 a7 hl⟩

set_option maxRecDepth 100000 in
set_option maxHeartbeats 4000000 in
theorem rjoin_w (h : RefIn w p F es nx A n c) (hn : n ≤ 60000) {i : Nat} {e0 : RE} (hpos : pos es (nm, lb, nu, ge) = some i) (he : es[i]? = some e0) (hr : e0.r < 60000) (hs : e0.s < 60000) (hl : e0.l.length ≤ 256) :
    Calls Try.prog 29 #[.pointer (some ⟨p, 0, none⟩), .bool nm, .agg #[.int .u8 (lb.toNat : Int), .int .u16 (nu.toNat : Int), .int .u16 (ge.toNat : Int)], .bool false, .bool true] w fun ex w' =>
      ex = .returned (.tuple #[]) ∧ ∃ F', RefIn w' p F' (es.set i ⟨e0.k, e0.A, e0.l, e0.c, e0.r, (e0.s + 1)⟩) nx A n c ∧ Went w w' F F' := by
  go_enter Try.func29, Try.ntmps29
  go_wp2_with fail
  have hb1 : Below w.heap.size w (w.alloc (.cells #[.int .u8 (lb.toNat : Int), .int .u16 (nu.toNat : Int), .int .u16 (ge.toNat : Int)] 39)) := (Below.refl _ _).alloc (Nat.le_refl _) _
  have kB1 := Blk.new w 39 #[.int .u8 (lb.toNat : Int), .int .u16 (nu.toNat : Int), .int .u16 (ge.toNat : Int)]
  have h1 := h.below hb1
  refine (ref_find p nm lb nu ge _ n c es _ (h1.blk.cell 0) (h1.lt p h1.fp) (Rd.of_own h1.row) hn).mono ?_
  rw [show posI es (nm, lb, nu, ge) = (i : Int) from by unfold posI; rw [hpos]]
  rintro ex w2 ⟨rfl, hb2⟩
  have hb := hb1.trans (hb2.mono hb1.size)
  have kB := kB1.below hb2 kB1.lt
  clear h1 kB1 hb1 hb2
  obtain ⟨g, rfl, a0⟩ := h.at7 he
  have a7 := a0.below hb
  have H := hide h
  clear a0 h hb kB hpos he
  have hneg : decide ((i : Int) < 0) = false := by simp
  go_wp2_with fail
  have p0 := a7.hd
  have c5 := a7.cell 5 (v := .int .i64 (e0.r : Int)) rfl
  have c6 := a7.cell 6 (v := .int .i64 (e0.s : Int)) rfl
  have c4 := a7.cell 4 (v := .slice e0.A e0.l.length e0.c) rfl
  have f4 := a7.frozen (i * 7 + 4)
  have f5 := a7.frozen (i * 7 + 5)
  have f6 := a7.frozen (i * 7 + 6)
  have gl := a7.gl
  have pl := a7.pl
  have hiz : (i : Int) < n := by have := a7.hi; omega
  have wr : IntKind.i64.wrap ((e0.s : Int) + 1) = ((e0.s + 1 : Nat) : Int) := by rw [IntWalk.i64_in _ (by omega)]; rfl
  refine wp_region_text [0, 0, 0, 0, 0, 0, 0, 0, 0, 0, 0, 0, 0, 0, 0, 0, 2] (Below w2.heap.size w2) (by kernel_rfl) (by kernel_rfl) (Below.refl _ _).drew ?_
  iterate 16 (refine wpOrd_q (v := ?_) (by rfl) (fun W hW => ?_) ?_; rotate_left; (focus ((obtain ⟨hWc, hWf⟩ := bcell hW); go_simp; try with_reducible rfl)); try simp only [Act.put, List.setIfInBounds_toArray, List.set_cons_zero, List.set_cons_succ])
  refine wpOrd_b (by rfl) (fun K hK => ?_)
  go_simp
  refine hK (fun _ => True) _ _ trivial ?_
  clear hK K
  try simp only [Act.put, List.setIfInBounds_toArray, List.set_cons_zero, List.set_cons_succ]
  refine wpOrd_nil ?_
  refine at_world (fun W => At7 w W p g n c i es e0 ⟨e0.k, e0.A, e0.l, e0.c, e0.r, e0.s + 1⟩) (a7.drew.store (e' := ⟨e0.k, e0.A, e0.l, e0.c, e0.r, e0.s + 1⟩) (j := 6) (u := .int .i64 ((e0.s + 1 : Nat) : Int)) (by omega) rfl rfl rfl rfl) (fun w4 a8 => ?_)
  clear wr a7
  clear p0 c4 c5 c6 f4 f5 f6 gl pl hiz
  have a7 := a8
  clear a8
  go_wp2
  go_returns
  exact ⟨rfl, H.out.of_at7 a7 hl⟩

set_option maxRecDepth 100000 in
set_option maxHeartbeats 4000000 in
theorem rjoinnew_rw (h : RefIn w p F es nx A n c) (hn : n ≤ 60000) (hpos : pos es (nm, lb, nu, ge) = none) :
    Calls Try.prog 29 #[.pointer (some ⟨p, 0, none⟩), .bool nm, .agg #[.int .u8 (lb.toNat : Int), .int .u16 (nu.toNat : Int), .int .u16 (ge.toNat : Int)], .bool true, .bool true] w fun ex w' =>
      ex = .returned (.tuple #[]) ∧ ∃ F' A' n' c', RefIn w' p F' (es ++ [⟨(nm, lb, nu, ge), none, [], 0, 1, 1⟩]) nx A' n' c' ∧ Went w w' F F' := by
  obtain ⟨i0, hi0, i1, i2, i3⟩ := info_parts info_pipe
  go_enter Try.func29, Try.ntmps29
  go_wp2_with fail
  have hb1 : Below w.heap.size w (w.alloc (.cells #[.int .u8 (lb.toNat : Int), .int .u16 (nu.toNat : Int), .int .u16 (ge.toNat : Int)] 39)) := (Below.refl _ _).alloc (Nat.le_refl _) _
  have kB1 := Blk.new w 39 #[.int .u8 (lb.toNat : Int), .int .u16 (nu.toNat : Int), .int .u16 (ge.toNat : Int)]
  have h1 := h.below hb1
  refine (ref_find p nm lb nu ge _ n c es _ (h1.blk.cell 0) (h1.lt p h1.fp) (Rd.of_own h1.row) hn).mono ?_
  rw [show posI es (nm, lb, nu, ge) = (-1) from by unfold posI; rw [hpos]]
  rintro ex w2 ⟨rfl, hb2⟩
  have hb := hb1.trans (hb2.mono hb1.size)
  have kB := kB1.below hb2 kB1.lt
  clear h1 kB1 hb1 hb2
  have h2 := h.below hb
  have hp2 := h2.blk.cell 0
  have hf2 := h2.blk.frozen 0
  have hl2 := h2.blk.lt
  go_wp2_with fail
  refine wp_region_text [0, 0, 0, 0, 0, 0, 0, 0, 1, 1, 0, 0, 2] (fun W => W.cell? ⟨p, 0, none⟩ = some (.slice A n c) ∧ W.frozen? ⟨p, 0, none⟩ = false ∧ Blk W w.heap.size 39 #[.int .u8 (lb.toNat : Int), .int .u16 (nu.toNat : Int), .int .u16 (ge.toNat : Int)] ∧ p < W.heap.size ∧ w2.heap.size ≤ W.heap.size) (by kernel_rfl) (by kernel_rfl) ⟨hp2, hf2, kB, hl2, Nat.le_refl _⟩ ?_
  iterate 8 (refine wpOrd_q (v := ?_) (by rfl) (fun W hW => ?_) ?_; rotate_left; (focus ((obtain ⟨q0, qf, qB, ql, qk⟩ := hW; have k0 := qB.cell 0; have k1 := qB.cell 1; have k2 := qB.cell 2; have lk := qB.lt); go_simp; try with_reducible rfl)); try simp only [Act.put, List.setIfInBounds_toArray, List.set_cons_zero, List.set_cons_succ])
  refine wpOrd_x (by rfl) (fun K hK => ?_)
  go_simp
  have ra := own_lit (w := w2) (base := 0) (e := 75) (size := 7) (n := 1) (cs := (recells (⟨(nm, lb, nu, ge), none, [], 0, 0, 0⟩ : RE)).toArray) rfl rfl (Nat.zero_le _) (by simp [maxLen]) rfl
  have hb3 : Below w2.heap.size w2 (w2.alloc (.cells (recells (⟨(nm, lb, nu, ge), none, [], 0, 0, 0⟩ : RE)).toArray 75)).drew := ((Below.refl _ _).alloc (Nat.le_refl _) _).drew
  refine hK (fun W => W.cell? ⟨p, 0, none⟩ = some (.slice A n c) ∧ W.frozen? ⟨p, 0, none⟩ = false ∧ Blk W w.heap.size 39 #[.int .u8 (lb.toNat : Int), .int .u16 (nu.toNat : Int), .int .u16 (ge.toNat : Int)] ∧ p < W.heap.size ∧ w2.heap.size ≤ W.heap.size) _ _ (fun _ h => h) ⟨(hb3.cell (p := ⟨p, 0, none⟩) hl2).trans hp2, (hb3.frozen (p := ⟨p, 0, none⟩) hl2).trans hf2, kB.below hb3 kB.lt, Nat.lt_of_lt_of_le hl2 hb3.size, hb3.size⟩ ?_
  clear hK K
  try simp only [Act.put, List.setIfInBounds_toArray, List.set_cons_zero, List.set_cons_succ]
  refine wpOrd_x (by rfl) (fun K hK => ?_)
  have h3 := h2.below hb3
  refine wp_append_rd _ (.tmp 27) (.tmp 31) 59 (by rfl) 0 75 i0 (.agg #[.bool false, .int .u8 0, .int .u16 0, .int .u16 0, .slice none 0 0, .int .i64 0, .int .i64 0]) 7 48 Try.underlying59 hi0 i1 i2 i3 rfl (by decide) (.slice A n c) n (flat7 es) (by rfl) h3.row _ (some ⟨w2.heap.size, 0, none⟩) 1 1 (recells (⟨(nm, lb, nu, ge), none, [], 0, 0, 0⟩ : RE)) (by rfl) (Rd.of_own ra).drew (fun u hu => flat7_one [(⟨(nm, lb, nu, ge), none, [], 0, 0, 0⟩ : RE)] u hu) (by simp only [maxLen]; omega) (by omega) (Nat.zero_le _) ?_
  intro v' w4 ho4 hg4 _ hat
  obtain ⟨A', c', rfl, hnc', hcm', hA'⟩ := own_form ho4
  have hpo : (Value.slice A n c).ownBlock ≠ some p := blk_not_own h3.blk h3.row (by decide)
  have hko : (Value.slice A n c).ownBlock ≠ some w.heap.size := fun e => absurd (h.lt _ (h.fr _ e)) (Nat.lt_irrefl _)
  have b4 := h3.blk.grown hg4 (fun e => hpo e.symm)
  have bl4 := b4.lt
  have bf4 := b4.frozen 0
  have bc4 := b4.cell 0
  refine hK (fun W => W = w4) _ _ (fun x e => ?_) rfl ?_
  · subst e; exact ⟨b4.cell 0, b4.frozen 0, (kB.below hb3 kB.lt).grown hg4 (fun e => hko e.symm), b4.lt, Nat.le_trans hb3.size hg4.size⟩
  clear hK K
  try simp only [Act.put, List.setIfInBounds_toArray, List.set_cons_zero, List.set_cons_succ]
  iterate 2 (refine wpOrd_q (v := ?_) (by rfl) (fun W hW => ?_) ?_; rotate_left; (focus (go_simp; try with_reducible rfl)); try simp only [Act.put, List.setIfInBounds_toArray, List.set_cons_zero, List.set_cons_succ])
  refine wpOrd_b (by rfl) (fun K hK => ?_)
  go_simp
  refine hK (fun _ => True) _ _ trivial ?_
  clear hK K
  try simp only [Act.put, List.setIfInBounds_toArray, List.set_cons_zero, List.set_cons_succ]
  refine wpOrd_nil ?_
  have hp5 : ∃ F5, RefIn (w4.setCell ⟨p, 0, none⟩ (.slice A' (n + 1) c')) p F5 (es ++ [(⟨(nm, lb, nu, ge), none, [], 0, 0, 0⟩ : RE)]) nx A' (n + 1) c' ∧ Went w2 (w4.setCell ⟨p, 0, none⟩ (.slice A' (n + 1) c')) F F5 := by
    refine h2.push (e' := (⟨(nm, lb, nu, ge), none, [], 0, 0, 0⟩ : RE)) rfl rfl rfl ?_ ?_ ?_ ?_
    · exact (Tch.of_below hb3).trans ((Tch.grown hg4 hb3.size fun k hk _ => .inr hk).trans (Tch.setCell fun _ => .inl rfl))
    · have := b4.set_ 0 (.slice A' (n + 1) c')
      rwa [rcells_set0] at this
    · refine ownsRow_setCell_other (by rw [flat7_append]; exact ho4) ?_ _
      exact blk_not_own b4 ho4 (by decide)
    · intro g hg
      rcases hat with e | e
      · exact .inl (e ▸ hg)
      · rw [e] at hg; cases hg; exact .inr hb3.size
  have HB := hide hb
  have HE := hide h2.len
  clear ra hb3 h3 ho4 hg4 hat b4 bl4 bf4 bc4 hpo hko kB hp2 hf2 hl2 hpos h2 hnc' hcm' hA' hb
  refine at_world (fun W => ∃ F5, RefIn W p F5 (es ++ [(⟨(nm, lb, nu, ge), none, [], 0, 0, 0⟩ : RE)]) nx A' (n + 1) c' ∧ Went w2 W F F5) hp5 (fun w5 h5 => ?_)
  clear hp5
  obtain ⟨F5, h5, hW5⟩ := h5
  have hp5 : w5.cell? ⟨p, 0, none⟩ = some (.slice A' (n + 1) c') := h5.blk.cell 0
  have wr0 : IntKind.i64.wrap (((n + 1 : Nat) : Int) - 1) = n := by rw [IntWalk.i64_in _ (by omega)]; omega
  have wr1 : IntKind.i64.wrap ((n : Int) + 1 - 1) = n := by rw [IntWalk.i64_in _ (by omega)]; omega
  go_wp2_with fail
  have HH := hide h
  have HW := hide hW5
  have hat5 : (es ++ [(⟨(nm, lb, nu, ge), none, [], 0, 0, 0⟩ : RE)])[n]? = some (⟨(nm, lb, nu, ge), none, [], 0, 0, 0⟩ : RE) := by rw [← HE.out]; simp
  obtain ⟨g, rfl, a7⟩ := h5.at7 hat5
  have H := hide h5
  clear h5 hW5 h hp5 wr0 wr1 hat5
  have p0 := a7.hd
  have c5 := a7.cell 5 (v := .int .i64 ((⟨(nm, lb, nu, ge), none, [], 0, 0, 0⟩ : RE).r : Int)) rfl
  have c6 := a7.cell 6 (v := .int .i64 ((⟨(nm, lb, nu, ge), none, [], 0, 0, 0⟩ : RE).s : Int)) rfl
  have c4 := a7.cell 4 (v := .slice (⟨(nm, lb, nu, ge), none, [], 0, 0, 0⟩ : RE).A (⟨(nm, lb, nu, ge), none, [], 0, 0, 0⟩ : RE).l.length (⟨(nm, lb, nu, ge), none, [], 0, 0, 0⟩ : RE).c) rfl
  have f4 := a7.frozen (n * 7 + 4)
  have f5 := a7.frozen (n * 7 + 5)
  have f6 := a7.frozen (n * 7 + 6)
  have gl := a7.gl
  have pl := a7.pl
  have hiz : (n : Int) < (n : Int) + 1 := by have := a7.hi; omega
  have wr : IntKind.i64.wrap (((0 : Nat) : Int) + 1) = ((0 + 1 : Nat) : Int) := by rw [IntWalk.i64_in _ (by omega)]; rfl
  refine wp_region_text [0, 0, 0, 0, 0, 0, 0, 0, 0, 0, 0, 0, 0, 0, 0, 0, 2] (Below w5.heap.size w5) (by kernel_rfl) (by kernel_rfl) (Below.refl _ _).drew ?_
  iterate 16 (refine wpOrd_q (v := ?_) (by rfl) (fun W hW => ?_) ?_; rotate_left; (focus ((obtain ⟨hWc, hWf⟩ := bcell hW); go_simp; try with_reducible rfl)); try simp only [Act.put, List.setIfInBounds_toArray, List.set_cons_zero, List.set_cons_succ])
  refine wpOrd_b (by rfl) (fun K hK => ?_)
  go_simp
  refine hK (fun _ => True) _ _ trivial ?_
  clear hK K
  try simp only [Act.put, List.setIfInBounds_toArray, List.set_cons_zero, List.set_cons_succ]
  refine wpOrd_nil ?_
  refine at_world (fun W => At7 w5 W p g (n + 1) c' n (es ++ [(⟨(nm, lb, nu, ge), none, [], 0, 0, 0⟩ : RE)]) (⟨(nm, lb, nu, ge), none, [], 0, 0, 0⟩ : RE) ⟨(nm, lb, nu, ge), none, [], 0, 1, 0⟩) (a7.drew.store (e' := ⟨(nm, lb, nu, ge), none, [], 0, 1, 0⟩) (j := 5) (u := .int .i64 ((0 + 1 : Nat) : Int)) (by omega) rfl rfl rfl rfl) (fun w6 a8 => ?_)
  clear wr a7
  clear p0 c4 c5 c6 f4 f5 f6 gl pl hiz
  have a7 := a8
  clear a8
  go_wp2_with fail
  have p0 := a7.hd
  have c5 := a7.cell 5 (v := .int .i64 ((⟨(nm, lb, nu, ge), none, [], 0, 1, 0⟩ : RE).r : Int)) rfl
  have c6 := a7.cell 6 (v := .int .i64 ((⟨(nm, lb, nu, ge), none, [], 0, 1, 0⟩ : RE).s : Int)) rfl
  have c4 := a7.cell 4 (v := .slice (⟨(nm, lb, nu, ge), none, [], 0, 1, 0⟩ : RE).A (⟨(nm, lb, nu, ge), none, [], 0, 1, 0⟩ : RE).l.length (⟨(nm, lb, nu, ge), none, [], 0, 1, 0⟩ : RE).c) rfl
  have f4 := a7.frozen (n * 7 + 4)
  have f5 := a7.frozen (n * 7 + 5)
  have f6 := a7.frozen (n * 7 + 6)
  have gl := a7.gl
  have pl := a7.pl
  have hiz : (n : Int) < (n : Int) + 1 := by have := a7.hi; omega
  have wr : IntKind.i64.wrap (((0 : Nat) : Int) + 1) = ((0 + 1 : Nat) : Int) := by rw [IntWalk.i64_in _ (by omega)]; rfl
  refine wp_region_text [0, 0, 0, 0, 0, 0, 0, 0, 0, 0, 0, 0, 0, 0, 0, 0, 2] (Below w6.heap.size w6) (by kernel_rfl) (by kernel_rfl) (Below.refl _ _).drew ?_
  iterate 16 (refine wpOrd_q (v := ?_) (by rfl) (fun W hW => ?_) ?_; rotate_left; (focus ((obtain ⟨hWc, hWf⟩ := bcell hW); go_simp; try with_reducible rfl)); try simp only [Act.put, List.setIfInBounds_toArray, List.set_cons_zero, List.set_cons_succ])
  refine wpOrd_b (by rfl) (fun K hK => ?_)
  go_simp
  refine hK (fun _ => True) _ _ trivial ?_
  clear hK K
  try simp only [Act.put, List.setIfInBounds_toArray, List.set_cons_zero, List.set_cons_succ]
  refine wpOrd_nil ?_
  refine at_world (fun W => At7 w5 W p g (n + 1) c' n (es ++ [(⟨(nm, lb, nu, ge), none, [], 0, 0, 0⟩ : RE)]) (⟨(nm, lb, nu, ge), none, [], 0, 0, 0⟩ : RE) ⟨(nm, lb, nu, ge), none, [], 0, 1, 1⟩) (a7.drew.store (e' := ⟨(nm, lb, nu, ge), none, [], 0, 1, 1⟩) (j := 6) (u := .int .i64 ((0 + 1 : Nat) : Int)) (by omega) rfl rfl rfl rfl) (fun w7 a8 => ?_)
  clear wr a7
  clear p0 c4 c5 c6 f4 f5 f6 gl pl hiz
  have a7 := a8
  clear a8
  go_wp2
  go_returns
  obtain ⟨F', h8, h9⟩ := H.out.of_at7 a7 (by simp)
  rw [show (es ++ [(⟨(nm, lb, nu, ge), none, [], 0, 0, 0⟩ : RE)]).set n (⟨(nm, lb, nu, ge), none, [], 0, 1, 1⟩ : RE) = es ++ [(⟨(nm, lb, nu, ge), none, [], 0, 1, 1⟩ : RE)] from by rw [← HE.out]; simp] at h8
  exact ⟨rfl, F', _, _, _, h8, Went.trans_ (Went.of_below HB.out) (Went.trans_ HW.out h9)⟩

set_option maxRecDepth 100000 in
set_option maxHeartbeats 4000000 in
theorem rjoinnew_r (h : RefIn w p F es nx A n c) (hn : n ≤ 60000) (hpos : pos es (nm, lb, nu, ge) = none) :
    Calls Try.prog 29 #[.pointer (some ⟨p, 0, none⟩), .bool nm, .agg #[.int .u8 (lb.toNat : Int), .int .u16 (nu.toNat : Int), .int .u16 (ge.toNat : Int)], .bool true, .bool false] w fun ex w' =>
      ex = .returned (.tuple #[]) ∧ ∃ F' A' n' c', RefIn w' p F' (es ++ [⟨(nm, lb, nu, ge), none, [], 0, 1, 0⟩]) nx A' n' c' ∧ Went w w' F F' := by
  obtain ⟨i0, hi0, i1, i2, i3⟩ := info_parts info_pipe
  go_enter Try.func29, Try.ntmps29
  go_wp2_with fail
  have hb1 : Below w.heap.size w (w.alloc (.cells #[.int .u8 (lb.toNat : Int), .int .u16 (nu.toNat : Int), .int .u16 (ge.toNat : Int)] 39)) := (Below.refl _ _).alloc (Nat.le_refl _) _
  have kB1 := Blk.new w 39 #[.int .u8 (lb.toNat : Int), .int .u16 (nu.toNat : Int), .int .u16 (ge.toNat : Int)]
  have h1 := h.below hb1
  refine (ref_find p nm lb nu ge _ n c es _ (h1.blk.cell 0) (h1.lt p h1.fp) (Rd.of_own h1.row) hn).mono ?_
  rw [show posI es (nm, lb, nu, ge) = (-1) from by unfold posI; rw [hpos]]
  rintro ex w2 ⟨rfl, hb2⟩
  have hb := hb1.trans (hb2.mono hb1.size)
  have kB := kB1.below hb2 kB1.lt
  clear h1 kB1 hb1 hb2
  have h2 := h.below hb
  have hp2 := h2.blk.cell 0
  have hf2 := h2.blk.frozen 0
  have hl2 := h2.blk.lt
  go_wp2_with fail
  refine wp_region_text [0, 0, 0, 0, 0, 0, 0, 0, 1, 1, 0, 0, 2] (fun W => W.cell? ⟨p, 0, none⟩ = some (.slice A n c) ∧ W.frozen? ⟨p, 0, none⟩ = false ∧ Blk W w.heap.size 39 #[.int .u8 (lb.toNat : Int), .int .u16 (nu.toNat : Int), .int .u16 (ge.toNat : Int)] ∧ p < W.heap.size ∧ w2.heap.size ≤ W.heap.size) (by kernel_rfl) (by kernel_rfl) ⟨hp2, hf2, kB, hl2, Nat.le_refl _⟩ ?_
  iterate 8 (refine wpOrd_q (v := ?_) (by rfl) (fun W hW => ?_) ?_; rotate_left; (focus ((obtain ⟨q0, qf, qB, ql, qk⟩ := hW; have k0 := qB.cell 0; have k1 := qB.cell 1; have k2 := qB.cell 2; have lk := qB.lt); go_simp; try with_reducible rfl)); try simp only [Act.put, List.setIfInBounds_toArray, List.set_cons_zero, List.set_cons_succ])
  refine wpOrd_x (by rfl) (fun K hK => ?_)
  go_simp
  have ra := own_lit (w := w2) (base := 0) (e := 75) (size := 7) (n := 1) (cs := (recells (⟨(nm, lb, nu, ge), none, [], 0, 0, 0⟩ : RE)).toArray) rfl rfl (Nat.zero_le _) (by simp [maxLen]) rfl
  have hb3 : Below w2.heap.size w2 (w2.alloc (.cells (recells (⟨(nm, lb, nu, ge), none, [], 0, 0, 0⟩ : RE)).toArray 75)).drew := ((Below.refl _ _).alloc (Nat.le_refl _) _).drew
  refine hK (fun W => W.cell? ⟨p, 0, none⟩ = some (.slice A n c) ∧ W.frozen? ⟨p, 0, none⟩ = false ∧ Blk W w.heap.size 39 #[.int .u8 (lb.toNat : Int), .int .u16 (nu.toNat : Int), .int .u16 (ge.toNat : Int)] ∧ p < W.heap.size ∧ w2.heap.size ≤ W.heap.size) _ _ (fun _ h => h) ⟨(hb3.cell (p := ⟨p, 0, none⟩) hl2).trans hp2, (hb3.frozen (p := ⟨p, 0, none⟩) hl2).trans hf2, kB.below hb3 kB.lt, Nat.lt_of_lt_of_le hl2 hb3.size, hb3.size⟩ ?_
  clear hK K
  try simp only [Act.put, List.setIfInBounds_toArray, List.set_cons_zero, List.set_cons_succ]
  refine wpOrd_x (by rfl) (fun K hK => ?_)
  have h3 := h2.below hb3
  refine wp_append_rd _ (.tmp 27) (.tmp 31) 59 (by rfl) 0 75 i0 (.agg #[.bool false, .int .u8 0, .int .u16 0, .int .u16 0, .slice none 0 0, .int .i64 0, .int .i64 0]) 7 48 Try.underlying59 hi0 i1 i2 i3 rfl (by decide) (.slice A n c) n (flat7 es) (by rfl) h3.row _ (some ⟨w2.heap.size, 0, none⟩) 1 1 (recells (⟨(nm, lb, nu, ge), none, [], 0, 0, 0⟩ : RE)) (by rfl) (Rd.of_own ra).drew (fun u hu => flat7_one [(⟨(nm, lb, nu, ge), none, [], 0, 0, 0⟩ : RE)] u hu) (by simp only [maxLen]; omega) (by omega) (Nat.zero_le _) ?_
  intro v' w4 ho4 hg4 _ hat
  obtain ⟨A', c', rfl, hnc', hcm', hA'⟩ := own_form ho4
  have hpo : (Value.slice A n c).ownBlock ≠ some p := blk_not_own h3.blk h3.row (by decide)
  have hko : (Value.slice A n c).ownBlock ≠ some w.heap.size := fun e => absurd (h.lt _ (h.fr _ e)) (Nat.lt_irrefl _)
  have b4 := h3.blk.grown hg4 (fun e => hpo e.symm)
  have bl4 := b4.lt
  have bf4 := b4.frozen 0
  have bc4 := b4.cell 0
  refine hK (fun W => W = w4) _ _ (fun x e => ?_) rfl ?_
  · subst e; exact ⟨b4.cell 0, b4.frozen 0, (kB.below hb3 kB.lt).grown hg4 (fun e => hko e.symm), b4.lt, Nat.le_trans hb3.size hg4.size⟩
  clear hK K
  try simp only [Act.put, List.setIfInBounds_toArray, List.set_cons_zero, List.set_cons_succ]
  iterate 2 (refine wpOrd_q (v := ?_) (by rfl) (fun W hW => ?_) ?_; rotate_left; (focus (go_simp; try with_reducible rfl)); try simp only [Act.put, List.setIfInBounds_toArray, List.set_cons_zero, List.set_cons_succ])
  refine wpOrd_b (by rfl) (fun K hK => ?_)
  go_simp
  refine hK (fun _ => True) _ _ trivial ?_
  clear hK K
  try simp only [Act.put, List.setIfInBounds_toArray, List.set_cons_zero, List.set_cons_succ]
  refine wpOrd_nil ?_
  have hp5 : ∃ F5, RefIn (w4.setCell ⟨p, 0, none⟩ (.slice A' (n + 1) c')) p F5 (es ++ [(⟨(nm, lb, nu, ge), none, [], 0, 0, 0⟩ : RE)]) nx A' (n + 1) c' ∧ Went w2 (w4.setCell ⟨p, 0, none⟩ (.slice A' (n + 1) c')) F F5 := by
    refine h2.push (e' := (⟨(nm, lb, nu, ge), none, [], 0, 0, 0⟩ : RE)) rfl rfl rfl ?_ ?_ ?_ ?_
    · exact (Tch.of_below hb3).trans ((Tch.grown hg4 hb3.size fun k hk _ => .inr hk).trans (Tch.setCell fun _ => .inl rfl))
    · have := b4.set_ 0 (.slice A' (n + 1) c')
      rwa [rcells_set0] at this
    · refine ownsRow_setCell_other (by rw [flat7_append]; exact ho4) ?_ _
      exact blk_not_own b4 ho4 (by decide)
    · intro g hg
      rcases hat with e | e
      · exact .inl (e ▸ hg)
      · rw [e] at hg; cases hg; exact .inr hb3.size
  have HB := hide hb
  have HE := hide h2.len
  clear ra hb3 h3 ho4 hg4 hat b4 bl4 bf4 bc4 hpo hko kB hp2 hf2 hl2 hpos h2 hnc' hcm' hA' hb
  refine at_world (fun W => ∃ F5, RefIn W p F5 (es ++ [(⟨(nm, lb, nu, ge), none, [], 0, 0, 0⟩ : RE)]) nx A' (n + 1) c' ∧ Went w2 W F F5) hp5 (fun w5 h5 => ?_)
  clear hp5
  obtain ⟨F5, h5, hW5⟩ := h5
  have hp5 : w5.cell? ⟨p, 0, none⟩ = some (.slice A' (n + 1) c') := h5.blk.cell 0
  have wr0 : IntKind.i64.wrap (((n + 1 : Nat) : Int) - 1) = n := by rw [IntWalk.i64_in _ (by omega)]; omega
  have wr1 : IntKind.i64.wrap ((n : Int) + 1 - 1) = n := by rw [IntWalk.i64_in _ (by omega)]; omega
  go_wp2_with fail
  have HH := hide h
  have HW := hide hW5
  have hat5 : (es ++ [(⟨(nm, lb, nu, ge), none, [], 0, 0, 0⟩ : RE)])[n]? = some (⟨(nm, lb, nu, ge), none, [], 0, 0, 0⟩ : RE) := by rw [← HE.out]; simp
  obtain ⟨g, rfl, a7⟩ := h5.at7 hat5
  have H := hide h5
  clear h5 hW5 h hp5 wr0 wr1 hat5
  have p0 := a7.hd
  have c5 := a7.cell 5 (v := .int .i64 ((⟨(nm, lb, nu, ge), none, [], 0, 0, 0⟩ : RE).r : Int)) rfl
  have c6 := a7.cell 6 (v := .int .i64 ((⟨(nm, lb, nu, ge), none, [], 0, 0, 0⟩ : RE).s : Int)) rfl
  have c4 := a7.cell 4 (v := .slice (⟨(nm, lb, nu, ge), none, [], 0, 0, 0⟩ : RE).A (⟨(nm, lb, nu, ge), none, [], 0, 0, 0⟩ : RE).l.length (⟨(nm, lb, nu, ge), none, [], 0, 0, 0⟩ : RE).c) rfl
  have f4 := a7.frozen (n * 7 + 4)
  have f5 := a7.frozen (n * 7 + 5)
  have f6 := a7.frozen (n * 7 + 6)
  have gl := a7.gl
  have pl := a7.pl
  have hiz : (n : Int) < (n : Int) + 1 := by have := a7.hi; omega
  have wr : IntKind.i64.wrap (((0 : Nat) : Int) + 1) = ((0 + 1 : Nat) : Int) := by rw [IntWalk.i64_in _ (by omega)]; rfl
  refine wp_region_text [0, 0, 0, 0, 0, 0, 0, 0, 0, 0, 0, 0, 0, 0, 0, 0, 2] (Below w5.heap.size w5) (by kernel_rfl) (by kernel_rfl) (Below.refl _ _).drew ?_
  iterate 16 (refine wpOrd_q (v := ?_) (by rfl) (fun W hW => ?_) ?_; rotate_left; (focus ((obtain ⟨hWc, hWf⟩ := bcell hW); go_simp; try with_reducible rfl)); try simp only [Act.put, List.setIfInBounds_toArray, List.set_cons_zero, List.set_cons_succ])
  refine wpOrd_b (by rfl) (fun K hK => ?_)
  go_simp
  refine hK (fun _ => True) _ _ trivial ?_
  clear hK K
  try simp only [Act.put, List.setIfInBounds_toArray, List.set_cons_zero, List.set_cons_succ]
  refine wpOrd_nil ?_
  refine at_world (fun W => At7 w5 W p g (n + 1) c' n (es ++ [(⟨(nm, lb, nu, ge), none, [], 0, 0, 0⟩ : RE)]) (⟨(nm, lb, nu, ge), none, [], 0, 0, 0⟩ : RE) ⟨(nm, lb, nu, ge), none, [], 0, 1, 0⟩) (a7.drew.store (e' := ⟨(nm, lb, nu, ge), none, [], 0, 1, 0⟩) (j := 5) (u := .int .i64 ((0 + 1 : Nat) : Int)) (by omega) rfl rfl rfl rfl) (fun w6 a8 => ?_)
  clear wr a7
  clear p0 c4 c5 c6 f4 f5 f6 gl pl hiz
  have a7 := a8
  clear a8
  go_wp2_with fail
  go_wp2
  go_returns
  obtain ⟨F', h8, h9⟩ := H.out.of_at7 a7 (by simp)
  rw [show (es ++ [(⟨(nm, lb, nu, ge), none, [], 0, 0, 0⟩ : RE)]).set n (⟨(nm, lb, nu, ge), none, [], 0, 1, 0⟩ : RE) = es ++ [(⟨(nm, lb, nu, ge), none, [], 0, 1, 0⟩ : RE)] from by rw [← HE.out]; simp] at h8
  exact ⟨rfl, F', _, _, _, h8, Went.trans_ (Went.of_below HB.out) (Went.trans_ HW.out h9)⟩

set_option maxRecDepth 100000 in
set_option maxHeartbeats 4000000 in
theorem rjoinnew_w (h : RefIn w p F es nx A n c) (hn : n ≤ 60000) (hpos : pos es (nm, lb, nu, ge) = none) :
    Calls Try.prog 29 #[.pointer (some ⟨p, 0, none⟩), .bool nm, .agg #[.int .u8 (lb.toNat : Int), .int .u16 (nu.toNat : Int), .int .u16 (ge.toNat : Int)], .bool false, .bool true] w fun ex w' =>
      ex = .returned (.tuple #[]) ∧ ∃ F' A' n' c', RefIn w' p F' (es ++ [⟨(nm, lb, nu, ge), none, [], 0, 0, 1⟩]) nx A' n' c' ∧ Went w w' F F' := by
  obtain ⟨i0, hi0, i1, i2, i3⟩ := info_parts info_pipe
  go_enter Try.func29, Try.ntmps29
  go_wp2_with fail
  have hb1 : Below w.heap.size w (w.alloc (.cells #[.int .u8 (lb.toNat : Int), .int .u16 (nu.toNat : Int), .int .u16 (ge.toNat : Int)] 39)) := (Below.refl _ _).alloc (Nat.le_refl _) _
  have kB1 := Blk.new w 39 #[.int .u8 (lb.toNat : Int), .int .u16 (nu.toNat : Int), .int .u16 (ge.toNat : Int)]
  have h1 := h.below hb1
  refine (ref_find p nm lb nu ge _ n c es _ (h1.blk.cell 0) (h1.lt p h1.fp) (Rd.of_own h1.row) hn).mono ?_
  rw [show posI es (nm, lb, nu, ge) = (-1) from by unfold posI; rw [hpos]]
  rintro ex w2 ⟨rfl, hb2⟩
  have hb := hb1.trans (hb2.mono hb1.size)
  have kB := kB1.below hb2 kB1.lt
  clear h1 kB1 hb1 hb2
  have h2 := h.below hb
  have hp2 := h2.blk.cell 0
  have hf2 := h2.blk.frozen 0
  have hl2 := h2.blk.lt
  go_wp2_with fail
  refine wp_region_text [0, 0, 0, 0, 0, 0, 0, 0, 1, 1, 0, 0, 2] (fun W => W.cell? ⟨p, 0, none⟩ = some (.slice A n c) ∧ W.frozen? ⟨p, 0, none⟩ = false ∧ Blk W w.heap.size 39 #[.int .u8 (lb.toNat : Int), .int .u16 (nu.toNat : Int), .int .u16 (ge.toNat : Int)] ∧ p < W.heap.size ∧ w2.heap.size ≤ W.heap.size) (by kernel_rfl) (by kernel_rfl) ⟨hp2, hf2, kB, hl2, Nat.le_refl _⟩ ?_
  iterate 8 (refine wpOrd_q (v := ?_) (by rfl) (fun W hW => ?_) ?_; rotate_left; (focus ((obtain ⟨q0, qf, qB, ql, qk⟩ := hW; have k0 := qB.cell 0; have k1 := qB.cell 1; have k2 := qB.cell 2; have lk := qB.lt); go_simp; try with_reducible rfl)); try simp only [Act.put, List.setIfInBounds_toArray, List.set_cons_zero, List.set_cons_succ])
  refine wpOrd_x (by rfl) (fun K hK => ?_)
  go_simp
  have ra := own_lit (w := w2) (base := 0) (e := 75) (size := 7) (n := 1) (cs := (recells (⟨(nm, lb, nu, ge), none, [], 0, 0, 0⟩ : RE)).toArray) rfl rfl (Nat.zero_le _) (by simp [maxLen]) rfl
  have hb3 : Below w2.heap.size w2 (w2.alloc (.cells (recells (⟨(nm, lb, nu, ge), none, [], 0, 0, 0⟩ : RE)).toArray 75)).drew := ((Below.refl _ _).alloc (Nat.le_refl _) _).drew
  refine hK (fun W => W.cell? ⟨p, 0, none⟩ = some (.slice A n c) ∧ W.frozen? ⟨p, 0, none⟩ = false ∧ Blk W w.heap.size 39 #[.int .u8 (lb.toNat : Int), .int .u16 (nu.toNat : Int), .int .u16 (ge.toNat : Int)] ∧ p < W.heap.size ∧ w2.heap.size ≤ W.heap.size) _ _ (fun _ h => h) ⟨(hb3.cell (p := ⟨p, 0, none⟩) hl2).trans hp2, (hb3.frozen (p := ⟨p, 0, none⟩) hl2).trans hf2, kB.below hb3 kB.lt, Nat.lt_of_lt_of_le hl2 hb3.size, hb3.size⟩ ?_
  clear hK K
  try simp only [Act.put, List.setIfInBounds_toArray, List.set_cons_zero, List.set_cons_succ]
  refine wpOrd_x (by rfl) (fun K hK => ?_)
  have h3 := h2.below hb3
  refine wp_append_rd _ (.tmp 27) (.tmp 31) 59 (by rfl) 0 75 i0 (.agg #[.bool false, .int .u8 0, .int .u16 0, .int .u16 0, .slice none 0 0, .int .i64 0, .int .i64 0]) 7 48 Try.underlying59 hi0 i1 i2 i3 rfl (by decide) (.slice A n c) n (flat7 es) (by rfl) h3.row _ (some ⟨w2.heap.size, 0, none⟩) 1 1 (recells (⟨(nm, lb, nu, ge), none, [], 0, 0, 0⟩ : RE)) (by rfl) (Rd.of_own ra).drew (fun u hu => flat7_one [(⟨(nm, lb, nu, ge), none, [], 0, 0, 0⟩ : RE)] u hu) (by simp only [maxLen]; omega) (by omega) (Nat.zero_le _) ?_
  intro v' w4 ho4 hg4 _ hat
  obtain ⟨A', c', rfl, hnc', hcm', hA'⟩ := own_form ho4
  have hpo : (Value.slice A n c).ownBlock ≠ some p := blk_not_own h3.blk h3.row (by decide)
  have hko : (Value.slice A n c).ownBlock ≠ some w.heap.size := fun e => absurd (h.lt _ (h.fr _ e)) (Nat.lt_irrefl _)
  have b4 := h3.blk.grown hg4 (fun e => hpo e.symm)
  have bl4 := b4.lt
  have bf4 := b4.frozen 0
  have bc4 := b4.cell 0
  refine hK (fun W => W = w4) _ _ (fun x e => ?_) rfl ?_
  · subst e; exact ⟨b4.cell 0, b4.frozen 0, (kB.below hb3 kB.lt).grown hg4 (fun e => hko e.symm), b4.lt, Nat.le_trans hb3.size hg4.size⟩
  clear hK K
  try simp only [Act.put, List.setIfInBounds_toArray, List.set_cons_zero, List.set_cons_succ]
  iterate 2 (refine wpOrd_q (v := ?_) (by rfl) (fun W hW => ?_) ?_; rotate_left; (focus (go_simp; try with_reducible rfl)); try simp only [Act.put, List.setIfInBounds_toArray, List.set_cons_zero, List.set_cons_succ])
  refine wpOrd_b (by rfl) (fun K hK => ?_)
  go_simp
  refine hK (fun _ => True) _ _ trivial ?_
  clear hK K
  try simp only [Act.put, List.setIfInBounds_toArray, List.set_cons_zero, List.set_cons_succ]
  refine wpOrd_nil ?_
  have hp5 : ∃ F5, RefIn (w4.setCell ⟨p, 0, none⟩ (.slice A' (n + 1) c')) p F5 (es ++ [(⟨(nm, lb, nu, ge), none, [], 0, 0, 0⟩ : RE)]) nx A' (n + 1) c' ∧ Went w2 (w4.setCell ⟨p, 0, none⟩ (.slice A' (n + 1) c')) F F5 := by
    refine h2.push (e' := (⟨(nm, lb, nu, ge), none, [], 0, 0, 0⟩ : RE)) rfl rfl rfl ?_ ?_ ?_ ?_
    · exact (Tch.of_below hb3).trans ((Tch.grown hg4 hb3.size fun k hk _ => .inr hk).trans (Tch.setCell fun _ => .inl rfl))
    · have := b4.set_ 0 (.slice A' (n + 1) c')
      rwa [rcells_set0] at this
    · refine ownsRow_setCell_other (by rw [flat7_append]; exact ho4) ?_ _
      exact blk_not_own b4 ho4 (by decide)
    · intro g hg
      rcases hat with e | e
      · exact .inl (e ▸ hg)
      · rw [e] at hg; cases hg; exact .inr hb3.size
  have HB := hide hb
  have HE := hide h2.len
  clear ra hb3 h3 ho4 hg4 hat b4 bl4 bf4 bc4 hpo hko kB hp2 hf2 hl2 hpos h2 hnc' hcm' hA' hb
  refine at_world (fun W => ∃ F5, RefIn W p F5 (es ++ [(⟨(nm, lb, nu, ge), none, [], 0, 0, 0⟩ : RE)]) nx A' (n + 1) c' ∧ Went w2 W F F5) hp5 (fun w5 h5 => ?_)
  clear hp5
  obtain ⟨F5, h5, hW5⟩ := h5
  have hp5 : w5.cell? ⟨p, 0, none⟩ = some (.slice A' (n + 1) c') := h5.blk.cell 0
  have wr0 : IntKind.i64.wrap (((n + 1 : Nat) : Int) - 1) = n := by rw [IntWalk.i64_in _ (by omega)]; omega
  have wr1 : IntKind.i64.wrap ((n : Int) + 1 - 1) = n := by rw [IntWalk.i64_in _ (by omega)]; omega
  go_wp2_with fail
  have HH := hide h
  have HW := hide hW5
  have hat5 : (es ++ [(⟨(nm, lb, nu, ge), none, [], 0, 0, 0⟩ : RE)])[n]? = some (⟨(nm, lb, nu, ge), none, [], 0, 0, 0⟩ : RE) := by rw [← HE.out]; simp
  obtain ⟨g, rfl, a7⟩ := h5.at7 hat5
  have H := hide h5
  clear h5 hW5 h hp5 wr0 wr1 hat5
  have p0 := a7.hd
  have c5 := a7.cell 5 (v := .int .i64 ((⟨(nm, lb, nu, ge), none, [], 0, 0, 0⟩ : RE).r : Int)) rfl
  have c6 := a7.cell 6 (v := .int .i64 ((⟨(nm, lb, nu, ge), none, [], 0, 0, 0⟩ : RE).s : Int)) rfl
  have c4 := a7.cell 4 (v := .slice (⟨(nm, lb, nu, ge), none, [], 0, 0, 0⟩ : RE).A (⟨(nm, lb, nu, ge), none, [], 0, 0, 0⟩ : RE).l.length (⟨(nm, lb, nu, ge), none, [], 0, 0, 0⟩ : RE).c) rfl
  have f4 := a7.frozen (n * 7 + 4)
  have f5 := a7.frozen (n * 7 + 5)
  have f6 := a7.frozen (n * 7 + 6)
  have gl := a7.gl
  have pl := a7.pl
  have hiz : (n : Int) < (n : Int) + 1 := by have := a7.hi; omega
  have wr : IntKind.i64.wrap (((0 : Nat) : Int) + 1) = ((0 + 1 : Nat) : Int) := by rw [IntWalk.i64_in _ (by omega)]; rfl
  refine wp_region_text [0, 0, 0, 0, 0, 0, 0, 0, 0, 0, 0, 0, 0, 0, 0, 0, 2] (Below w5.heap.size w5) (by kernel_rfl) (by kernel_rfl) (Below.refl _ _).drew ?_
  iterate 16 (refine wpOrd_q (v := ?_) (by rfl) (fun W hW => ?_) ?_; rotate_left; (focus ((obtain ⟨hWc, hWf⟩ := bcell hW); go_simp; try with_reducible rfl)); try simp only [Act.put, List.setIfInBounds_toArray, List.set_cons_zero, List.set_cons_succ])
  refine wpOrd_b (by rfl) (fun K hK => ?_)
  go_simp
  refine hK (fun _ => True) _ _ trivial ?_
  clear hK K
  try simp only [Act.put, List.setIfInBounds_toArray, List.set_cons_zero, List.set_cons_succ]
  refine wpOrd_nil ?_
  refine at_world (fun W => At7 w5 W p g (n + 1) c' n (es ++ [(⟨(nm, lb, nu, ge), none, [], 0, 0, 0⟩ : RE)]) (⟨(nm, lb, nu, ge), none, [], 0, 0, 0⟩ : RE) ⟨(nm, lb, nu, ge), none, [], 0, 0, 1⟩) (a7.drew.store (e' := ⟨(nm, lb, nu, ge), none, [], 0, 0, 1⟩) (j := 6) (u := .int .i64 ((0 + 1 : Nat) : Int)) (by omega) rfl rfl rfl rfl) (fun w7 a8 => ?_)
  clear wr a7
  clear p0 c4 c5 c6 f4 f5 f6 gl pl hiz
  have a7 := a8
  clear a8
  go_wp2
  go_returns
  obtain ⟨F', h8, h9⟩ := H.out.of_at7 a7 (by simp)
  rw [show (es ++ [(⟨(nm, lb, nu, ge), none, [], 0, 0, 0⟩ : RE)]).set n (⟨(nm, lb, nu, ge), none, [], 0, 0, 1⟩ : RE) = es ++ [(⟨(nm, lb, nu, ge), none, [], 0, 0, 1⟩ : RE)] from by rw [← HE.out]; simp] at h8
  exact ⟨rfl, F', _, _, _, h8, Went.trans_ (Went.of_below HB.out) (Went.trans_ HW.out h9)⟩

set_option maxRecDepth 100000 in
set_option maxHeartbeats 4000000 in
theorem rleave_nn_stay (h : RefIn w p F es nx A n c) (hn : n ≤ 60000) {i : Nat} {k0 : PKey} {A0 : Option Addr} {l0 : List UInt8} {c0 : Nat} {r : Nat} {s : Nat} (hpos : pos es (nm, lb, nu, ge) = some i) (he : es[i]? = some (⟨k0, A0, l0, c0, r, s⟩ : RE)) (hr : r < 60000) (hs : s < 60000) (hz : ¬ (r + s = 0)) (hl : l0.length ≤ 256) :
    Calls Try.prog 25 #[.pointer (some ⟨p, 0, none⟩), .bool nm, .agg #[.int .u8 (lb.toNat : Int), .int .u16 (nu.toNat : Int), .int .u16 (ge.toNat : Int)], .bool false, .bool false] w fun ex w' =>
      ex = .returned (.tuple #[]) ∧ ∃ F', RefIn w' p F' (es.set i ⟨k0, A0, l0, c0, r, s⟩) nx A n c ∧ Went w w' F F' := by
  go_enter Try.func25, Try.ntmps25
  go_wp2_with fail
  have hb1 : Below w.heap.size w (w.alloc (.cells #[.int .u8 (lb.toNat : Int), .int .u16 (nu.toNat : Int), .int .u16 (ge.toNat : Int)] 39)) := (Below.refl _ _).alloc (Nat.le_refl _) _
  have kB1 := Blk.new w 39 #[.int .u8 (lb.toNat : Int), .int .u16 (nu.toNat : Int), .int .u16 (ge.toNat : Int)]
  have h1 := h.below hb1
  refine (ref_find p nm lb nu ge _ n c es _ (h1.blk.cell 0) (h1.lt p h1.fp) (Rd.of_own h1.row) hn).mono ?_
  rw [show posI es (nm, lb, nu, ge) = (i : Int) from by unfold posI; rw [hpos]]
  rintro ex w2 ⟨rfl, hb2⟩
  have hb := hb1.trans (hb2.mono hb1.size)
  have kB := kB1.below hb2 kB1.lt
  clear h1 kB1 hb1 hb2
  obtain ⟨g, rfl, a0⟩ := h.at7 he
  have a7 := a0.below hb
  have H := hide h
  clear a0 h hb kB hpos he
  have hneg : decide ((i : Int) < 0) = false := by simp
  have p0 := a7.hd
  have c5 := a7.cell 5 (v := .int .i64 ((⟨k0, A0, l0, c0, r, s⟩ : RE).r : Int)) rfl
  have c6 := a7.cell 6 (v := .int .i64 ((⟨k0, A0, l0, c0, r, s⟩ : RE).s : Int)) rfl
  have c4 := a7.cell 4 (v := .slice (⟨k0, A0, l0, c0, r, s⟩ : RE).A (⟨k0, A0, l0, c0, r, s⟩ : RE).l.length (⟨k0, A0, l0, c0, r, s⟩ : RE).c) rfl
  have f4 := a7.frozen (i * 7 + 4)
  have f5 := a7.frozen (i * 7 + 5)
  have f6 := a7.frozen (i * 7 + 6)
  have gl := a7.gl
  have pl := a7.pl
  have hiz : (i : Int) < n := by have := a7.hi; omega
  have H7 := hide a7
  clear a7
  by_cases hr1 : r = 0
  · have hs1 : ((s : Int) == 0) = false := by simp; omega
    have hr2 : ((r : Int) == 0) = true := by simp; omega
    clear hr1 hz
    go_wp2
    go_returns
    exact ⟨rfl, H.out.of_at7 H7.out hl⟩
  · have hr2 : ((r : Int) == 0) = false := by simpa using hr1
    clear hz hr1
    go_wp2
    go_returns
    exact ⟨rfl, H.out.of_at7 H7.out hl⟩

set_option maxRecDepth 100000 in
set_option maxHeartbeats 4000000 in
theorem rleave_nn_gone (h : RefIn w p F es nx A n c) (hn : n ≤ 60000) {i : Nat} {k0 : PKey} {A0 : Option Addr} {l0 : List UInt8} {c0 : Nat} (hpos : pos es (nm, lb, nu, ge) = some i) (he : es[i]? = some (⟨k0, A0, l0, c0, 0, 0⟩ : RE)) (hl : l0.length ≤ 256) :
    Calls Try.prog 25 #[.pointer (some ⟨p, 0, none⟩), .bool nm, .agg #[.int .u8 (lb.toNat : Int), .int .u16 (nu.toNat : Int), .int .u16 (ge.toNat : Int)], .bool false, .bool false] w fun ex w' =>
      ex = .returned (.tuple #[]) ∧ ∃ F' A' n' c', RefIn w' p F' (es.take i ++ es.drop (i + 1)) nx A' n' c' ∧ Went w w' F F' := by
  obtain ⟨i0, hi0, i1, i2, i3⟩ := info_parts info_pipe
  go_enter Try.func25, Try.ntmps25
  go_wp2_with fail
  have hb1 : Below w.heap.size w (w.alloc (.cells #[.int .u8 (lb.toNat : Int), .int .u16 (nu.toNat : Int), .int .u16 (ge.toNat : Int)] 39)) := (Below.refl _ _).alloc (Nat.le_refl _) _
  have kB1 := Blk.new w 39 #[.int .u8 (lb.toNat : Int), .int .u16 (nu.toNat : Int), .int .u16 (ge.toNat : Int)]
  have h1 := h.below hb1
  refine (ref_find p nm lb nu ge _ n c es _ (h1.blk.cell 0) (h1.lt p h1.fp) (Rd.of_own h1.row) hn).mono ?_
  rw [show posI es (nm, lb, nu, ge) = (i : Int) from by unfold posI; rw [hpos]]
  rintro ex w2 ⟨rfl, hb2⟩
  have hb := hb1.trans (hb2.mono hb1.size)
  have kB := kB1.below hb2 kB1.lt
  clear h1 kB1 hb1 hb2
  obtain ⟨g, rfl, a0⟩ := h.at7 he
  have a7 := a0.below hb
  have H := hide h
  clear a0 h hb kB hpos he
  have hneg : decide ((i : Int) < 0) = false := by simp
  have p0 := a7.hd
  have c5 := a7.cell 5 (v := .int .i64 ((⟨k0, A0, l0, c0, 0, 0⟩ : RE).r : Int)) rfl
  have c6 := a7.cell 6 (v := .int .i64 ((⟨k0, A0, l0, c0, 0, 0⟩ : RE).s : Int)) rfl
  have c4 := a7.cell 4 (v := .slice (⟨k0, A0, l0, c0, 0, 0⟩ : RE).A (⟨k0, A0, l0, c0, 0, 0⟩ : RE).l.length (⟨k0, A0, l0, c0, 0, 0⟩ : RE).c) rfl
  have f4 := a7.frozen (i * 7 + 4)
  have f5 := a7.frozen (i * 7 + 5)
  have f6 := a7.frozen (i * 7 + 6)
  have gl := a7.gl
  have pl := a7.pl
  have hiz : (i : Int) < n := by have := a7.hi; omega
  go_wp2_with fail
  obtain ⟨F6, h6, hW6⟩ := H.out.of_at7 a7 hl
  have hi := a7.hi
  have a7nc := a7.nc
  have HS := hide a7.size
  clear a7
  clear p0 c4 c5 c6 f4 f5 f6 gl pl hiz
  have p0 : w2.cell? ⟨p, 0, none⟩ = some (.slice (some ⟨g, 0, none⟩) n c) := h6.blk.cell 0
  have pf := h6.blk.frozen 0
  have pl := h6.blk.lt
  have hiz : (i : Int) ≤ n := by omega
  have hic : (i : Int) ≤ c := by have := a7nc; omega
  have R6 := Rd.of_own h6.row
  have r1 := R6.take (m := i) (by omega)
  have r2 := R6.cut (k := i + 1) (by omega) a7nc
  rw [flat7_take] at r1
  rw [flat7_drop] at r2
  obtain ⟨A2, hA2⟩ : ∃ A2, (if c = i + 1 then (some ⟨g, 0, none⟩ : Option Addr) else some ⟨g, (i + 1) * 7, none⟩) = A2 := ⟨_, rfl⟩
  have hA3 : (if c = i + 1 then (some ⟨g, 0, none⟩ : Option Addr) else (some (⟨g, 0, none⟩ : Addr)).map (·.add ((i + 1) * 7))) = A2 := by rw [← hA2]; simp [Addr.add]
  rw [hA3] at r2
  rw [show (es.set i ⟨k0, A0, l0, c0, 0, 0⟩).take i = es.take i from List.take_set_of_le (Nat.le_refl _)] at r1
  rw [show (es.set i ⟨k0, A0, l0, c0, 0, 0⟩).drop (i + 1) = es.drop (i + 1) from List.drop_set_of_lt (by omega)] at r2
  have hw1 : IntKind.i64.wrap ((i : Int) + 1) = (i : Int) + 1 := IntWalk.i64_in _ (by omega)
  have hw2 : (0 : Int) ≤ (i : Int) + 1 := by omega
  have hw3 : ((i : Int) + 1).toNat = i + 1 := by omega
  have hw4 : (i : Int) + 1 ≤ n := by omega
  clear hA3 R6
  refine wp_region_ord [0, 2, 3, 4, 5, 6, 7, 9, 10, 11, 12, 13, 14, 15, 1, 8, 16, 17, 18, 19] [0, 0, 0, 0, 0, 0, 0, 0, 0, 0, 0, 0, 0, 0, 1, 1, 1, 0, 0, 2] (Below w2.heap.size w2) (by kernel_rfl) (by kernel_rfl) (Below.refl _ _).drew ?_
  iterate 14 (refine wpOrd_q (v := ?_) (by rfl) (fun W hW => ?_) ?_; rotate_left; (focus ((obtain ⟨hWc, hWf⟩ := bcell hW); go_simp; try with_reducible rfl)); try simp only [Act.put, List.setIfInBounds_toArray, List.set_cons_zero, List.set_cons_succ])
  clear hw1 hw2 hw3 hw4 hA2 p0
  refine wpOrd_x (by rfl) (fun K hK => ?_)
  go_simp
  refine hK _ _ _ (fun _ h => h) ((Below.refl _ _).drew.alloc (Nat.le_refl _) _) ?_
  clear hK K
  try simp only [Act.put, List.setIfInBounds_toArray, List.set_cons_zero, List.set_cons_succ]
  have oa := own_lit (w := w2.drew) (base := w2.heap.size) (e := 75) (size := 7) (n := 0) (cs := #[]) rfl rfl (Nat.le_refl _) (by simp [maxLen]) rfl
  have hb3 : Below w2.heap.size w2 (w2.drew.alloc (.cells #[] 75)) := (Below.refl _ _).drew.alloc (Nat.le_refl _) _
  refine wpOrd_x (by rfl) (fun K hK => ?_)
  refine wp_append_rd _ (.tmp 94) (.tmp 100) 59 (by rfl) w2.heap.size 75 i0 (.agg #[.bool false, .int .u8 0, .int .u16 0, .int .u16 0, .slice none 0 0, .int .i64 0, .int .i64 0]) 7 48 Try.underlying59 hi0 i1 i2 i3 rfl (by decide) (.slice (some ⟨w2.heap.size, 0, none⟩) 0 0) 0 [] (by rfl) oa _ (some ⟨g, 0, none⟩) i c (flat7 (es.take i)) (by rfl) (r1.below hb3) (flat7_one _) (by simp only [maxLen]; omega) (by omega) hb3.size ?_
  intro v' w5 ho5 hg5 _ hat5
  rw [List.nil_append, Nat.zero_add] at ho5
  obtain ⟨A5, c5, rfl, hnc5, hcm5, hA5⟩ := own_form ho5
  have hb5 : Below w2.heap.size w2 w5 := hb3.trans ((Tch.grown (S := fun _ => False) hg5 hb3.size fun k hk hlt => by cases hk; exact absurd hlt (Nat.lt_irrefl _)).below fun _ _ h => h)
  refine hK _ _ _ (fun _ h => h) hb5 ?_
  clear hK K oa hg5 hat5
  try simp only [Act.put, List.setIfInBounds_toArray, List.set_cons_zero, List.set_cons_succ]
  refine wpOrd_x (by rfl) (fun K hK => ?_)
  refine wp_append_rd _ (.tmp 101) (.tmp 108) 59 (by rfl) w2.heap.size 75 i0 (.agg #[.bool false, .int .u8 0, .int .u16 0, .int .u16 0, .slice none 0 0, .int .i64 0, .int .i64 0]) 7 48 Try.underlying59 hi0 i1 i2 i3 rfl (by decide) (.slice A5 i c5) i (flat7 (es.take i)) (by rfl) ho5 _ A2 (n - (i + 1)) (c - (i + 1)) (flat7 (es.drop (i + 1))) (by rfl) (r2.below hb5) (flat7_one _) (by simp only [maxLen]; omega) (by omega) hb5.size ?_
  intro v' w6 ho6 hg6 _ hat6
  rw [← flat7_append, show i + (n - (i + 1)) = n - 1 by omega] at ho6
  obtain ⟨A6, c6, rfl, hnc6, hcm6, hA6⟩ := own_form ho6
  have hb6 : Below w2.heap.size w2 w6 := hb5.trans ((Tch.grown (S := fun _ => False) hg6 hb5.size fun k hk hlt => by have := (ho5.lt k hk).1; omega).below fun _ _ h => h)
  refine hK _ _ _ (fun _ h => h) hb6 ?_
  clear hK K
  try simp only [Act.put, List.setIfInBounds_toArray, List.set_cons_zero, List.set_cons_succ]
  iterate 2 (refine wpOrd_q (v := ?_) (by rfl) (fun W hW => ?_) ?_; rotate_left; (focus (go_simp; try with_reducible rfl)); try simp only [Act.put, List.setIfInBounds_toArray, List.set_cons_zero, List.set_cons_succ])
  have b6 := h6.blk.below hb6 h6.blk.lt
  have bl6 := b6.lt
  have bf6 := b6.frozen 0
  have bc6 := b6.cell 0
  refine wpOrd_b (by rfl) (fun K hK => ?_)
  go_simp
  refine hK (fun _ => True) _ _ trivial ?_
  clear hK K
  try simp only [Act.put, List.setIfInBounds_toArray, List.set_cons_zero, List.set_cons_succ]
  refine wpOrd_nil ?_
  go_wp2
  go_returns
  obtain ⟨F7, h7, hW7⟩ := h6.gone (A' := A6) (n' := n - 1) (c' := c6) (i := i) (w' := w6.setCell ⟨p, 0, none⟩ (.slice A6 (n - 1) c6))
    ((Tch.of_below hb6).trans (Tch.setCell fun _ => rfl)) (by have := b6.set_ 0 (.slice A6 (n - 1) c6); rwa [rcells_set0] at this)
    (by
      rw [show (es.set i ⟨k0, A0, l0, c0, 0, 0⟩).take i = es.take i from List.take_set_of_le (Nat.le_refl _), show (es.set i ⟨k0, A0, l0, c0, 0, 0⟩).drop (i + 1) = es.drop (i + 1) from List.drop_set_of_lt (by omega)]
      exact ownsRow_setCell_other (own_mono ho6 (Nat.zero_le _)) (blk_not_own b6 ho6 (by decide)) _)
    (fun x hx => (ho6.lt x hx).1)
  rw [show (es.set i ⟨k0, A0, l0, c0, 0, 0⟩).take i = es.take i from List.take_set_of_le (Nat.le_refl _), show (es.set i ⟨k0, A0, l0, c0, 0, 0⟩).drop (i + 1) = es.drop (i + 1) from List.drop_set_of_lt (by omega)] at h7
  exact ⟨rfl, F7, _, _, _, h7, Went.trans_ hW6 hW7⟩

set_option maxRecDepth 100000 in
set_option maxHeartbeats 4000000 in
theorem rleave_nz_stay (h : RefIn w p F es nx A n c) (hn : n ≤ 60000) {i : Nat} {k0 : PKey} {A0 : Option Addr} {l0 : List UInt8} {c0 : Nat} {r : Nat} (hpos : pos es (nm, lb, nu, ge) = some i) (he : es[i]? = some (⟨k0, A0, l0, c0, r, 0⟩ : RE)) (hr : r < 60000) (hz : ¬ (r + 0 = 0)) (hl : l0.length ≤ 256) :
    Calls Try.prog 25 #[.pointer (some ⟨p, 0, none⟩), .bool nm, .agg #[.int .u8 (lb.toNat : Int), .int .u16 (nu.toNat : Int), .int .u16 (ge.toNat : Int)], .bool false, .bool true] w fun ex w' =>
      ex = .returned (.tuple #[]) ∧ ∃ F', RefIn w' p F' (es.set i ⟨k0, A0, l0, c0, r, 0⟩) nx A n c ∧ Went w w' F F' := by
  go_enter Try.func25, Try.ntmps25
  go_wp2_with fail
  have hb1 : Below w.heap.size w (w.alloc (.cells #[.int .u8 (lb.toNat : Int), .int .u16 (nu.toNat : Int), .int .u16 (ge.toNat : Int)] 39)) := (Below.refl _ _).alloc (Nat.le_refl _) _
  have kB1 := Blk.new w 39 #[.int .u8 (lb.toNat : Int), .int .u16 (nu.toNat : Int), .int .u16 (ge.toNat : Int)]
  have h1 := h.below hb1
  refine (ref_find p nm lb nu ge _ n c es _ (h1.blk.cell 0) (h1.lt p h1.fp) (Rd.of_own h1.row) hn).mono ?_
  rw [show posI es (nm, lb, nu, ge) = (i : Int) from by unfold posI; rw [hpos]]
  rintro ex w2 ⟨rfl, hb2⟩
  have hb := hb1.trans (hb2.mono hb1.size)
  have kB := kB1.below hb2 kB1.lt
  clear h1 kB1 hb1 hb2
  obtain ⟨g, rfl, a0⟩ := h.at7 he
  have a7 := a0.below hb
  have H := hide h
  clear a0 h hb kB hpos he
  have hneg : decide ((i : Int) < 0) = false := by simp
  have p0 := a7.hd
  have c5 := a7.cell 5 (v := .int .i64 ((⟨k0, A0, l0, c0, r, 0⟩ : RE).r : Int)) rfl
  have c6 := a7.cell 6 (v := .int .i64 ((⟨k0, A0, l0, c0, r, 0⟩ : RE).s : Int)) rfl
  have c4 := a7.cell 4 (v := .slice (⟨k0, A0, l0, c0, r, 0⟩ : RE).A (⟨k0, A0, l0, c0, r, 0⟩ : RE).l.length (⟨k0, A0, l0, c0, r, 0⟩ : RE).c) rfl
  have f4 := a7.frozen (i * 7 + 4)
  have f5 := a7.frozen (i * 7 + 5)
  have f6 := a7.frozen (i * 7 + 6)
  have gl := a7.gl
  have pl := a7.pl
  have hiz : (i : Int) < n := by have := a7.hi; omega
  have H7 := hide a7
  clear a7
  · have hr2 : ((r : Int) == 0) = false := by simp; omega
    clear hz
    go_wp2
    go_returns
    exact ⟨rfl, H.out.of_at7 H7.out hl⟩

set_option maxRecDepth 100000 in
set_option maxHeartbeats 4000000 in
theorem rleave_nz_gone (h : RefIn w p F es nx A n c) (hn : n ≤ 60000) {i : Nat} {k0 : PKey} {A0 : Option Addr} {l0 : List UInt8} {c0 : Nat} (hpos : pos es (nm, lb, nu, ge) = some i) (he : es[i]? = some (⟨k0, A0, l0, c0, 0, 0⟩ : RE)) (hl : l0.length ≤ 256) :
    Calls Try.prog 25 #[.pointer (some ⟨p, 0, none⟩), .bool nm, .agg #[.int .u8 (lb.toNat : Int), .int .u16 (nu.toNat : Int), .int .u16 (ge.toNat : Int)], .bool false, .bool true] w fun ex w' =>
      ex = .returned (.tuple #[]) ∧ ∃ F' A' n' c', RefIn w' p F' (es.take i ++ es.drop (i + 1)) nx A' n' c' ∧ Went w w' F F' := by
  obtain ⟨i0, hi0, i1, i2, i3⟩ := info_parts info_pipe
  go_enter Try.func25, Try.ntmps25
  go_wp2_with fail
  have hb1 : Below w.heap.size w (w.alloc (.cells #[.int .u8 (lb.toNat : Int), .int .u16 (nu.toNat : Int), .int .u16 (ge.toNat : Int)] 39)) := (Below.refl _ _).alloc (Nat.le_refl _) _
  have kB1 := Blk.new w 39 #[.int .u8 (lb.toNat : Int), .int .u16 (nu.toNat : Int), .int .u16 (ge.toNat : Int)]
  have h1 := h.below hb1
  refine (ref_find p nm lb nu ge _ n c es _ (h1.blk.cell 0) (h1.lt p h1.fp) (Rd.of_own h1.row) hn).mono ?_
  rw [show posI es (nm, lb, nu, ge) = (i : Int) from by unfold posI; rw [hpos]]
  rintro ex w2 ⟨rfl, hb2⟩
  have hb := hb1.trans (hb2.mono hb1.size)
  have kB := kB1.below hb2 kB1.lt
  clear h1 kB1 hb1 hb2
  obtain ⟨g, rfl, a0⟩ := h.at7 he
  have a7 := a0.below hb
  have H := hide h
  clear a0 h hb kB hpos he
  have hneg : decide ((i : Int) < 0) = false := by simp
  have p0 := a7.hd
  have c5 := a7.cell 5 (v := .int .i64 ((⟨k0, A0, l0, c0, 0, 0⟩ : RE).r : Int)) rfl
  have c6 := a7.cell 6 (v := .int .i64 ((⟨k0, A0, l0, c0, 0, 0⟩ : RE).s : Int)) rfl
  have c4 := a7.cell 4 (v := .slice (⟨k0, A0, l0, c0, 0, 0⟩ : RE).A (⟨k0, A0, l0, c0, 0, 0⟩ : RE).l.length (⟨k0, A0, l0, c0, 0, 0⟩ : RE).c) rfl
  have f4 := a7.frozen (i * 7 + 4)
  have f5 := a7.frozen (i * 7 + 5)
  have f6 := a7.frozen (i * 7 + 6)
  have gl := a7.gl
  have pl := a7.pl
  have hiz : (i : Int) < n := by have := a7.hi; omega
  go_wp2_with fail
  obtain ⟨F6, h6, hW6⟩ := H.out.of_at7 a7 hl
  have hi := a7.hi
  have a7nc := a7.nc
  have HS := hide a7.size
  clear a7
  clear p0 c4 c5 c6 f4 f5 f6 gl pl hiz
  have p0 : w2.cell? ⟨p, 0, none⟩ = some (.slice (some ⟨g, 0, none⟩) n c) := h6.blk.cell 0
  have pf := h6.blk.frozen 0
  have pl := h6.blk.lt
  have hiz : (i : Int) ≤ n := by omega
  have hic : (i : Int) ≤ c := by have := a7nc; omega
  have R6 := Rd.of_own h6.row
  have r1 := R6.take (m := i) (by omega)
  have r2 := R6.cut (k := i + 1) (by omega) a7nc
  rw [flat7_take] at r1
  rw [flat7_drop] at r2
  obtain ⟨A2, hA2⟩ : ∃ A2, (if c = i + 1 then (some ⟨g, 0, none⟩ : Option Addr) else some ⟨g, (i + 1) * 7, none⟩) = A2 := ⟨_, rfl⟩
  have hA3 : (if c = i + 1 then (some ⟨g, 0, none⟩ : Option Addr) else (some (⟨g, 0, none⟩ : Addr)).map (·.add ((i + 1) * 7))) = A2 := by rw [← hA2]; simp [Addr.add]
  rw [hA3] at r2
  rw [show (es.set i ⟨k0, A0, l0, c0, 0, 0⟩).take i = es.take i from List.take_set_of_le (Nat.le_refl _)] at r1
  rw [show (es.set i ⟨k0, A0, l0, c0, 0, 0⟩).drop (i + 1) = es.drop (i + 1) from List.drop_set_of_lt (by omega)] at r2
  have hw1 : IntKind.i64.wrap ((i : Int) + 1) = (i : Int) + 1 := IntWalk.i64_in _ (by omega)
  have hw2 : (0 : Int) ≤ (i : Int) + 1 := by omega
  have hw3 : ((i : Int) + 1).toNat = i + 1 := by omega
  have hw4 : (i : Int) + 1 ≤ n := by omega
  clear hA3 R6
  refine wp_region_ord [0, 2, 3, 4, 5, 6, 7, 9, 10, 11, 12, 13, 14, 15, 1, 8, 16, 17, 18, 19] [0, 0, 0, 0, 0, 0, 0, 0, 0, 0, 0, 0, 0, 0, 1, 1, 1, 0, 0, 2] (Below w2.heap.size w2) (by kernel_rfl) (by kernel_rfl) (Below.refl _ _).drew ?_
  iterate 14 (refine wpOrd_q (v := ?_) (by rfl) (fun W hW => ?_) ?_; rotate_left; (focus ((obtain ⟨hWc, hWf⟩ := bcell hW); go_simp; try with_reducible rfl)); try simp only [Act.put, List.setIfInBounds_toArray, List.set_cons_zero, List.set_cons_succ])
  clear hw1 hw2 hw3 hw4 hA2 p0
  refine wpOrd_x (by rfl) (fun K hK => ?_)
  go_simp
  refine hK _ _ _ (fun _ h => h) ((Below.refl _ _).drew.alloc (Nat.le_refl _) _) ?_
  clear hK K
  try simp only [Act.put, List.setIfInBounds_toArray, List.set_cons_zero, List.set_cons_succ]
  have oa := own_lit (w := w2.drew) (base := w2.heap.size) (e := 75) (size := 7) (n := 0) (cs := #[]) rfl rfl (Nat.le_refl _) (by simp [maxLen]) rfl
  have hb3 : Below w2.heap.size w2 (w2.drew.alloc (.cells #[] 75)) := (Below.refl _ _).drew.alloc (Nat.le_refl _) _
  refine wpOrd_x (by rfl) (fun K hK => ?_)
  refine wp_append_rd _ (.tmp 94) (.tmp 100) 59 (by rfl) w2.heap.size 75 i0 (.agg #[.bool false, .int .u8 0, .int .u16 0, .int .u16 0, .slice none 0 0, .int .i64 0, .int .i64 0]) 7 48 Try.underlying59 hi0 i1 i2 i3 rfl (by decide) (.slice (some ⟨w2.heap.size, 0, none⟩) 0 0) 0 [] (by rfl) oa _ (some ⟨g, 0, none⟩) i c (flat7 (es.take i)) (by rfl) (r1.below hb3) (flat7_one _) (by simp only [maxLen]; omega) (by omega) hb3.size ?_
  intro v' w5 ho5 hg5 _ hat5
  rw [List.nil_append, Nat.zero_add] at ho5
  obtain ⟨A5, c5, rfl, hnc5, hcm5, hA5⟩ := own_form ho5
  have hb5 : Below w2.heap.size w2 w5 := hb3.trans ((Tch.grown (S := fun _ => False) hg5 hb3.size fun k hk hlt => by cases hk; exact absurd hlt (Nat.lt_irrefl _)).below fun _ _ h => h)
  refine hK _ _ _ (fun _ h => h) hb5 ?_
  clear hK K oa hg5 hat5
  try simp only [Act.put, List.setIfInBounds_toArray, List.set_cons_zero, List.set_cons_succ]
  refine wpOrd_x (by rfl) (fun K hK => ?_)
  refine wp_append_rd _ (.tmp 101) (.tmp 108) 59 (by rfl) w2.heap.size 75 i0 (.agg #[.bool false, .int .u8 0, .int .u16 0, .int .u16 0, .slice none 0 0, .int .i64 0, .int .i64 0]) 7 48 Try.underlying59 hi0 i1 i2 i3 rfl (by decide) (.slice A5 i c5) i (flat7 (es.take i)) (by rfl) ho5 _ A2 (n - (i + 1)) (c - (i + 1)) (flat7 (es.drop (i + 1))) (by rfl) (r2.below hb5) (flat7_one _) (by simp only [maxLen]; omega) (by omega) hb5.size ?_
  intro v' w6 ho6 hg6 _ hat6
  rw [← flat7_append, show i + (n - (i + 1)) = n - 1 by omega] at ho6
  obtain ⟨A6, c6, rfl, hnc6, hcm6, hA6⟩ := own_form ho6
  have hb6 : Below w2.heap.size w2 w6 := hb5.trans ((Tch.grown (S := fun _ => False) hg6 hb5.size fun k hk hlt => by have := (ho5.lt k hk).1; omega).below fun _ _ h => h)
  refine hK _ _ _ (fun _ h => h) hb6 ?_
  clear hK K
  try simp only [Act.put, List.setIfInBounds_toArray, List.set_cons_zero, List.set_cons_succ]
  iterate 2 (refine wpOrd_q (v := ?_) (by rfl) (fun W hW => ?_) ?_; rotate_left; (focus (go_simp; try with_reducible rfl)); try simp only [Act.put, List.setIfInBounds_toArray, List.set_cons_zero, List.set_cons_succ])
  have b6 := h6.blk.below hb6 h6.blk.lt
  have bl6 := b6.lt
  have bf6 := b6.frozen 0
  have bc6 := b6.cell 0
  refine wpOrd_b (by rfl) (fun K hK => ?_)
  go_simp
  refine hK (fun _ => True) _ _ trivial ?_
  clear hK K
  try simp only [Act.put, List.setIfInBounds_toArray, List.set_cons_zero, List.set_cons_succ]
  refine wpOrd_nil ?_
  go_wp2
  go_returns
  obtain ⟨F7, h7, hW7⟩ := h6.gone (A' := A6) (n' := n - 1) (c' := c6) (i := i) (w' := w6.setCell ⟨p, 0, none⟩ (.slice A6 (n - 1) c6))
    ((Tch.of_below hb6).trans (Tch.setCell fun _ => rfl)) (by have := b6.set_ 0 (.slice A6 (n - 1) c6); rwa [rcells_set0] at this)
    (by
      rw [show (es.set i ⟨k0, A0, l0, c0, 0, 0⟩).take i = es.take i from List.take_set_of_le (Nat.le_refl _), show (es.set i ⟨k0, A0, l0, c0, 0, 0⟩).drop (i + 1) = es.drop (i + 1) from List.drop_set_of_lt (by omega)]
      exact ownsRow_setCell_other (own_mono ho6 (Nat.zero_le _)) (blk_not_own b6 ho6 (by decide)) _)
    (fun x hx => (ho6.lt x hx).1)
  rw [show (es.set i ⟨k0, A0, l0, c0, 0, 0⟩).take i = es.take i from List.take_set_of_le (Nat.le_refl _), show (es.set i ⟨k0, A0, l0, c0, 0, 0⟩).drop (i + 1) = es.drop (i + 1) from List.drop_set_of_lt (by omega)] at h7
  exact ⟨rfl, F7, _, _, _, h7, Went.trans_ hW6 hW7⟩

set_option maxRecDepth 100000 in
set_option maxHeartbeats 4000000 in
theorem rleave_np_stay (h : RefIn w p F es nx A n c) (hn : n ≤ 60000) {i : Nat} {k0 : PKey} {A0 : Option Addr} {l0 : List UInt8} {c0 : Nat} {r : Nat} {s : Nat} (hpos : pos es (nm, lb, nu, ge) = some i) (he : es[i]? = some (⟨k0, A0, l0, c0, r, s + 1⟩ : RE)) (hr : r < 60000) (hs : s + 1 < 60000) (hz : ¬ (r + s = 0)) (hl : l0.length ≤ 256) :
    Calls Try.prog 25 #[.pointer (some ⟨p, 0, none⟩), .bool nm, .agg #[.int .u8 (lb.toNat : Int), .int .u16 (nu.toNat : Int), .int .u16 (ge.toNat : Int)], .bool false, .bool true] w fun ex w' =>
      ex = .returned (.tuple #[]) ∧ ∃ F', RefIn w' p F' (es.set i ⟨k0, A0, l0, c0, r, s⟩) nx A n c ∧ Went w w' F F' := by
  go_enter Try.func25, Try.ntmps25
  go_wp2_with fail
  have hb1 : Below w.heap.size w (w.alloc (.cells #[.int .u8 (lb.toNat : Int), .int .u16 (nu.toNat : Int), .int .u16 (ge.toNat : Int)] 39)) := (Below.refl _ _).alloc (Nat.le_refl _) _
  have kB1 := Blk.new w 39 #[.int .u8 (lb.toNat : Int), .int .u16 (nu.toNat : Int), .int .u16 (ge.toNat : Int)]
  have h1 := h.below hb1
  refine (ref_find p nm lb nu ge _ n c es _ (h1.blk.cell 0) (h1.lt p h1.fp) (Rd.of_own h1.row) hn).mono ?_
  rw [show posI es (nm, lb, nu, ge) = (i : Int) from by unfold posI; rw [hpos]]
  rintro ex w2 ⟨rfl, hb2⟩
  have hb := hb1.trans (hb2.mono hb1.size)
  have kB := kB1.below hb2 kB1.lt
  clear h1 kB1 hb1 hb2
  obtain ⟨g, rfl, a0⟩ := h.at7 he
  have a7 := a0.below hb
  have H := hide h
  clear a0 h hb kB hpos he
  have hneg : decide ((i : Int) < 0) = false := by simp
  have p0 := a7.hd
  have c5 := a7.cell 5 (v := .int .i64 ((⟨k0, A0, l0, c0, r, s + 1⟩ : RE).r : Int)) rfl
  have c6 := a7.cell 6 (v := .int .i64 ((⟨k0, A0, l0, c0, r, s + 1⟩ : RE).s : Int)) rfl
  have c4 := a7.cell 4 (v := .slice (⟨k0, A0, l0, c0, r, s + 1⟩ : RE).A (⟨k0, A0, l0, c0, r, s + 1⟩ : RE).l.length (⟨k0, A0, l0, c0, r, s + 1⟩ : RE).c) rfl
  have f4 := a7.frozen (i * 7 + 4)
  have f5 := a7.frozen (i * 7 + 5)
  have f6 := a7.frozen (i * 7 + 6)
  have gl := a7.gl
  have pl := a7.pl
  have hiz : (i : Int) < n := by have := a7.hi; omega
  have td : decide ((0 : Int) < (s : Int) + 1) = true := decide_eq_true (by omega)
  go_wp2_with fail
  clear p0 c4 c5 c6 f4 f5 f6 gl pl hiz
  clear td
  have p0 := a7.hd
  have c5 := a7.cell 5 (v := .int .i64 ((⟨k0, A0, l0, c0, r, s + 1⟩ : RE).r : Int)) rfl
  have c6 := a7.cell 6 (v := .int .i64 ((⟨k0, A0, l0, c0, r, s + 1⟩ : RE).s : Int)) rfl
  have c4 := a7.cell 4 (v := .slice (⟨k0, A0, l0, c0, r, s + 1⟩ : RE).A (⟨k0, A0, l0, c0, r, s + 1⟩ : RE).l.length (⟨k0, A0, l0, c0, r, s + 1⟩ : RE).c) rfl
  have f4 := a7.frozen (i * 7 + 4)
  have f5 := a7.frozen (i * 7 + 5)
  have f6 := a7.frozen (i * 7 + 6)
  have gl := a7.gl
  have pl := a7.pl
  have hiz : (i : Int) < n := by have := a7.hi; omega
  have wr : IntKind.i64.wrap ((s : Int)) = (s : Int) := IntWalk.i64_in _ (by omega)
  refine wp_region_text [0, 0, 0, 0, 0, 0, 0, 0, 0, 0, 0, 0, 0, 0, 0, 0, 2] (Below w2.heap.size w2) (by kernel_rfl) (by kernel_rfl) (Below.refl _ _).drew ?_
  iterate 16 (refine wpOrd_q (v := ?_) (by rfl) (fun W hW => ?_) ?_; rotate_left; (focus ((obtain ⟨hWc, hWf⟩ := bcell hW); go_simp; try with_reducible rfl)); try simp only [Act.put, List.setIfInBounds_toArray, List.set_cons_zero, List.set_cons_succ])
  refine wpOrd_b (by rfl) (fun K hK => ?_)
  go_simp
  refine hK (fun _ => True) _ _ trivial ?_
  clear hK K
  try simp only [Act.put, List.setIfInBounds_toArray, List.set_cons_zero, List.set_cons_succ]
  refine wpOrd_nil ?_
  refine at_world (fun W => At7 w W p g n c i es (⟨k0, A0, l0, c0, r, s + 1⟩ : RE) ⟨k0, A0, l0, c0, r, s⟩) (a7.drew.store (e' := ⟨k0, A0, l0, c0, r, s⟩) (j := 6) (u := .int .i64 ((s : Nat) : Int)) (by omega) rfl rfl rfl rfl) (fun w4 a8 => ?_)
  clear wr a7
  clear p0 c4 c5 c6 f4 f5 f6 gl pl hiz
  have a7 := a8
  clear a8
  have p0 := a7.hd
  have c5 := a7.cell 5 (v := .int .i64 ((⟨k0, A0, l0, c0, r, s⟩ : RE).r : Int)) rfl
  have c6 := a7.cell 6 (v := .int .i64 ((⟨k0, A0, l0, c0, r, s⟩ : RE).s : Int)) rfl
  have c4 := a7.cell 4 (v := .slice (⟨k0, A0, l0, c0, r, s⟩ : RE).A (⟨k0, A0, l0, c0, r, s⟩ : RE).l.length (⟨k0, A0, l0, c0, r, s⟩ : RE).c) rfl
  have f4 := a7.frozen (i * 7 + 4)
  have f5 := a7.frozen (i * 7 + 5)
  have f6 := a7.frozen (i * 7 + 6)
  have gl := a7.gl
  have pl := a7.pl
  have hiz : (i : Int) < n := by have := a7.hi; omega
  have H7 := hide a7
  clear a7
  by_cases hr1 : r = 0
  · have hs1 : ((s : Int) == 0) = false := by simp; omega
    have hr2 : ((r : Int) == 0) = true := by simp; omega
    clear hr1 hz
    go_wp2
    go_returns
    exact ⟨rfl, H.out.of_at7 H7.out hl⟩
  · have hr2 : ((r : Int) == 0) = false := by simpa using hr1
    clear hz hr1
    go_wp2
    go_returns
    exact ⟨rfl, H.out.of_at7 H7.out hl⟩

set_option maxRecDepth 100000 in
set_option maxHeartbeats 4000000 in
theorem rleave_np_gone (h : RefIn w p F es nx A n c) (hn : n ≤ 60000) {i : Nat} {k0 : PKey} {A0 : Option Addr} {l0 : List UInt8} {c0 : Nat} (hpos : pos es (nm, lb, nu, ge) = some i) (he : es[i]? = some (⟨k0, A0, l0, c0, 0, 1⟩ : RE)) (hl : l0.length ≤ 256) :
    Calls Try.prog 25 #[.pointer (some ⟨p, 0, none⟩), .bool nm, .agg #[.int .u8 (lb.toNat : Int), .int .u16 (nu.toNat : Int), .int .u16 (ge.toNat : Int)], .bool false, .bool true] w fun ex w' =>
      ex = .returned (.tuple #[]) ∧ ∃ F' A' n' c', RefIn w' p F' (es.take i ++ es.drop (i + 1)) nx A' n' c' ∧ Went w w' F F' := by
  obtain ⟨i0, hi0, i1, i2, i3⟩ := info_parts info_pipe
  go_enter Try.func25, Try.ntmps25
  go_wp2_with fail
  have hb1 : Below w.heap.size w (w.alloc (.cells #[.int .u8 (lb.toNat : Int), .int .u16 (nu.toNat : Int), .int .u16 (ge.toNat : Int)] 39)) := (Below.refl _ _).alloc (Nat.le_refl _) _
  have kB1 := Blk.new w 39 #[.int .u8 (lb.toNat : Int), .int .u16 (nu.toNat : Int), .int .u16 (ge.toNat : Int)]
  have h1 := h.below hb1
  refine (ref_find p nm lb nu ge _ n c es _ (h1.blk.cell 0) (h1.lt p h1.fp) (Rd.of_own h1.row) hn).mono ?_
  rw [show posI es (nm, lb, nu, ge) = (i : Int) from by unfold posI; rw [hpos]]
  rintro ex w2 ⟨rfl, hb2⟩
  have hb := hb1.trans (hb2.mono hb1.size)
  have kB := kB1.below hb2 kB1.lt
  clear h1 kB1 hb1 hb2
  obtain ⟨g, rfl, a0⟩ := h.at7 he
  have a7 := a0.below hb
  have H := hide h
  clear a0 h hb kB hpos he
  have hneg : decide ((i : Int) < 0) = false := by simp
  have p0 := a7.hd
  have c5 := a7.cell 5 (v := .int .i64 ((⟨k0, A0, l0, c0, 0, 1⟩ : RE).r : Int)) rfl
  have c6 := a7.cell 6 (v := .int .i64 ((⟨k0, A0, l0, c0, 0, 1⟩ : RE).s : Int)) rfl
  have c4 := a7.cell 4 (v := .slice (⟨k0, A0, l0, c0, 0, 1⟩ : RE).A (⟨k0, A0, l0, c0, 0, 1⟩ : RE).l.length (⟨k0, A0, l0, c0, 0, 1⟩ : RE).c) rfl
  have f4 := a7.frozen (i * 7 + 4)
  have f5 := a7.frozen (i * 7 + 5)
  have f6 := a7.frozen (i * 7 + 6)
  have gl := a7.gl
  have pl := a7.pl
  have hiz : (i : Int) < n := by have := a7.hi; omega
  have td : decide ((0 : Int) < (0 : Int) + 1) = true := decide_eq_true (by omega)
  go_wp2_with fail
  clear p0 c4 c5 c6 f4 f5 f6 gl pl hiz
  clear td
  have p0 := a7.hd
  have c5 := a7.cell 5 (v := .int .i64 ((⟨k0, A0, l0, c0, 0, 1⟩ : RE).r : Int)) rfl
  have c6 := a7.cell 6 (v := .int .i64 ((⟨k0, A0, l0, c0, 0, 1⟩ : RE).s : Int)) rfl
  have c4 := a7.cell 4 (v := .slice (⟨k0, A0, l0, c0, 0, 1⟩ : RE).A (⟨k0, A0, l0, c0, 0, 1⟩ : RE).l.length (⟨k0, A0, l0, c0, 0, 1⟩ : RE).c) rfl
  have f4 := a7.frozen (i * 7 + 4)
  have f5 := a7.frozen (i * 7 + 5)
  have f6 := a7.frozen (i * 7 + 6)
  have gl := a7.gl
  have pl := a7.pl
  have hiz : (i : Int) < n := by have := a7.hi; omega
  have wr : IntKind.i64.wrap ((0 : Int)) = (0 : Int) := IntWalk.i64_in _ (by omega)
  refine wp_region_text [0, 0, 0, 0, 0, 0, 0, 0, 0, 0, 0, 0, 0, 0, 0, 0, 2] (Below w2.heap.size w2) (by kernel_rfl) (by kernel_rfl) (Below.refl _ _).drew ?_
  iterate 16 (refine wpOrd_q (v := ?_) (by rfl) (fun W hW => ?_) ?_; rotate_left; (focus ((obtain ⟨hWc, hWf⟩ := bcell hW); go_simp; try with_reducible rfl)); try simp only [Act.put, List.setIfInBounds_toArray, List.set_cons_zero, List.set_cons_succ])
  refine wpOrd_b (by rfl) (fun K hK => ?_)
  go_simp
  refine hK (fun _ => True) _ _ trivial ?_
  clear hK K
  try simp only [Act.put, List.setIfInBounds_toArray, List.set_cons_zero, List.set_cons_succ]
  refine wpOrd_nil ?_
  refine at_world (fun W => At7 w W p g n c i es (⟨k0, A0, l0, c0, 0, 1⟩ : RE) ⟨k0, A0, l0, c0, 0, 0⟩) (a7.drew.store (e' := ⟨k0, A0, l0, c0, 0, 0⟩) (j := 6) (u := .int .i64 ((0 : Nat) : Int)) (by omega) rfl rfl rfl rfl) (fun w4 a8 => ?_)
  clear wr a7
  clear p0 c4 c5 c6 f4 f5 f6 gl pl hiz
  have a7 := a8
  clear a8
  have p0 := a7.hd
  have c5 := a7.cell 5 (v := .int .i64 ((⟨k0, A0, l0, c0, 0, 0⟩ : RE).r : Int)) rfl
  have c6 := a7.cell 6 (v := .int .i64 ((⟨k0, A0, l0, c0, 0, 0⟩ : RE).s : Int)) rfl
  have c4 := a7.cell 4 (v := .slice (⟨k0, A0, l0, c0, 0, 0⟩ : RE).A (⟨k0, A0, l0, c0, 0, 0⟩ : RE).l.length (⟨k0, A0, l0, c0, 0, 0⟩ : RE).c) rfl
  have f4 := a7.frozen (i * 7 + 4)
  have f5 := a7.frozen (i * 7 + 5)
  have f6 := a7.frozen (i * 7 + 6)
  have gl := a7.gl
  have pl := a7.pl
  have hiz : (i : Int) < n := by have := a7.hi; omega
  go_wp2_with fail
  obtain ⟨F6, h6, hW6⟩ := H.out.of_at7 a7 hl
  have hi := a7.hi
  have a7nc := a7.nc
  have HS := hide a7.size
  clear a7
  clear p0 c4 c5 c6 f4 f5 f6 gl pl hiz
  have p0 : w4.cell? ⟨p, 0, none⟩ = some (.slice (some ⟨g, 0, none⟩) n c) := h6.blk.cell 0
  have pf := h6.blk.frozen 0
  have pl := h6.blk.lt
  have hiz : (i : Int) ≤ n := by omega
  have hic : (i : Int) ≤ c := by have := a7nc; omega
  have R6 := Rd.of_own h6.row
  have r1 := R6.take (m := i) (by omega)
  have r2 := R6.cut (k := i + 1) (by omega) a7nc
  rw [flat7_take] at r1
  rw [flat7_drop] at r2
  obtain ⟨A2, hA2⟩ : ∃ A2, (if c = i + 1 then (some ⟨g, 0, none⟩ : Option Addr) else some ⟨g, (i + 1) * 7, none⟩) = A2 := ⟨_, rfl⟩
  have hA3 : (if c = i + 1 then (some ⟨g, 0, none⟩ : Option Addr) else (some (⟨g, 0, none⟩ : Addr)).map (·.add ((i + 1) * 7))) = A2 := by rw [← hA2]; simp [Addr.add]
  rw [hA3] at r2
  rw [show (es.set i ⟨k0, A0, l0, c0, 0, 0⟩).take i = es.take i from List.take_set_of_le (Nat.le_refl _)] at r1
  rw [show (es.set i ⟨k0, A0, l0, c0, 0, 0⟩).drop (i + 1) = es.drop (i + 1) from List.drop_set_of_lt (by omega)] at r2
  have hw1 : IntKind.i64.wrap ((i : Int) + 1) = (i : Int) + 1 := IntWalk.i64_in _ (by omega)
  have hw2 : (0 : Int) ≤ (i : Int) + 1 := by omega
  have hw3 : ((i : Int) + 1).toNat = i + 1 := by omega
  have hw4 : (i : Int) + 1 ≤ n := by omega
  clear hA3 R6
  refine wp_region_ord [0, 2, 3, 4, 5, 6, 7, 9, 10, 11, 12, 13, 14, 15, 1, 8, 16, 17, 18, 19] [0, 0, 0, 0, 0, 0, 0, 0, 0, 0, 0, 0, 0, 0, 1, 1, 1, 0, 0, 2] (Below w4.heap.size w4) (by kernel_rfl) (by kernel_rfl) (Below.refl _ _).drew ?_
  iterate 14 (refine wpOrd_q (v := ?_) (by rfl) (fun W hW => ?_) ?_; rotate_left; (focus ((obtain ⟨hWc, hWf⟩ := bcell hW); go_simp; try with_reducible rfl)); try simp only [Act.put, List.setIfInBounds_toArray, List.set_cons_zero, List.set_cons_succ])
  clear hw1 hw2 hw3 hw4 hA2 p0
  refine wpOrd_x (by rfl) (fun K hK => ?_)
  go_simp
  refine hK _ _ _ (fun _ h => h) ((Below.refl _ _).drew.alloc (Nat.le_refl _) _) ?_
  clear hK K
  try simp only [Act.put, List.setIfInBounds_toArray, List.set_cons_zero, List.set_cons_succ]
  have oa := own_lit (w := w4.drew) (base := w4.heap.size) (e := 75) (size := 7) (n := 0) (cs := #[]) rfl rfl (Nat.le_refl _) (by simp [maxLen]) rfl
  have hb3 : Below w4.heap.size w4 (w4.drew.alloc (.cells #[] 75)) := (Below.refl _ _).drew.alloc (Nat.le_refl _) _
  refine wpOrd_x (by rfl) (fun K hK => ?_)
  refine wp_append_rd _ (.tmp 94) (.tmp 100) 59 (by rfl) w4.heap.size 75 i0 (.agg #[.bool false, .int .u8 0, .int .u16 0, .int .u16 0, .slice none 0 0, .int .i64 0, .int .i64 0]) 7 48 Try.underlying59 hi0 i1 i2 i3 rfl (by decide) (.slice (some ⟨w4.heap.size, 0, none⟩) 0 0) 0 [] (by rfl) oa _ (some ⟨g, 0, none⟩) i c (flat7 (es.take i)) (by rfl) (r1.below hb3) (flat7_one _) (by simp only [maxLen]; omega) (by omega) hb3.size ?_
  intro v' w5 ho5 hg5 _ hat5
  rw [List.nil_append, Nat.zero_add] at ho5
  obtain ⟨A5, c5, rfl, hnc5, hcm5, hA5⟩ := own_form ho5
  have hb5 : Below w4.heap.size w4 w5 := hb3.trans ((Tch.grown (S := fun _ => False) hg5 hb3.size fun k hk hlt => by cases hk; exact absurd hlt (Nat.lt_irrefl _)).below fun _ _ h => h)
  refine hK _ _ _ (fun _ h => h) hb5 ?_
  clear hK K oa hg5 hat5
  try simp only [Act.put, List.setIfInBounds_toArray, List.set_cons_zero, List.set_cons_succ]
  refine wpOrd_x (by rfl) (fun K hK => ?_)
  refine wp_append_rd _ (.tmp 101) (.tmp 108) 59 (by rfl) w4.heap.size 75 i0 (.agg #[.bool false, .int .u8 0, .int .u16 0, .int .u16 0, .slice none 0 0, .int .i64 0, .int .i64 0]) 7 48 Try.underlying59 hi0 i1 i2 i3 rfl (by decide) (.slice A5 i c5) i (flat7 (es.take i)) (by rfl) ho5 _ A2 (n - (i + 1)) (c - (i + 1)) (flat7 (es.drop (i + 1))) (by rfl) (r2.below hb5) (flat7_one _) (by simp only [maxLen]; omega) (by omega) hb5.size ?_
  intro v' w6 ho6 hg6 _ hat6
  rw [← flat7_append, show i + (n - (i + 1)) = n - 1 by omega] at ho6
  obtain ⟨A6, c6, rfl, hnc6, hcm6, hA6⟩ := own_form ho6
  have hb6 : Below w4.heap.size w4 w6 := hb5.trans ((Tch.grown (S := fun _ => False) hg6 hb5.size fun k hk hlt => by have := (ho5.lt k hk).1; omega).below fun _ _ h => h)
  refine hK _ _ _ (fun _ h => h) hb6 ?_
  clear hK K
  try simp only [Act.put, List.setIfInBounds_toArray, List.set_cons_zero, List.set_cons_succ]
  iterate 2 (refine wpOrd_q (v := ?_) (by rfl) (fun W hW => ?_) ?_; rotate_left; (focus (go_simp; try with_reducible rfl)); try simp only [Act.put, List.setIfInBounds_toArray, List.set_cons_zero, List.set_cons_succ])
  have b6 := h6.blk.below hb6 h6.blk.lt
  have bl6 := b6.lt
  have bf6 := b6.frozen 0
  have bc6 := b6.cell 0
  refine wpOrd_b (by rfl) (fun K hK => ?_)
  go_simp
  refine hK (fun _ => True) _ _ trivial ?_
  clear hK K
  try simp only [Act.put, List.setIfInBounds_toArray, List.set_cons_zero, List.set_cons_succ]
  refine wpOrd_nil ?_
  go_wp2
  go_returns
  obtain ⟨F7, h7, hW7⟩ := h6.gone (A' := A6) (n' := n - 1) (c' := c6) (i := i) (w' := w6.setCell ⟨p, 0, none⟩ (.slice A6 (n - 1) c6))
    ((Tch.of_below hb6).trans (Tch.setCell fun _ => rfl)) (by have := b6.set_ 0 (.slice A6 (n - 1) c6); rwa [rcells_set0] at this)
    (by
      rw [show (es.set i ⟨k0, A0, l0, c0, 0, 0⟩).take i = es.take i from List.take_set_of_le (Nat.le_refl _), show (es.set i ⟨k0, A0, l0, c0, 0, 0⟩).drop (i + 1) = es.drop (i + 1) from List.drop_set_of_lt (by omega)]
      exact ownsRow_setCell_other (own_mono ho6 (Nat.zero_le _)) (blk_not_own b6 ho6 (by decide)) _)
    (fun x hx => (ho6.lt x hx).1)
  rw [show (es.set i ⟨k0, A0, l0, c0, 0, 0⟩).take i = es.take i from List.take_set_of_le (Nat.le_refl _), show (es.set i ⟨k0, A0, l0, c0, 0, 0⟩).drop (i + 1) = es.drop (i + 1) from List.drop_set_of_lt (by omega)] at h7
  exact ⟨rfl, F7, _, _, _, h7, Went.trans_ hW6 hW7⟩

set_option maxRecDepth 100000 in
set_option maxHeartbeats 4000000 in
theorem rleave_zn_stay (h : RefIn w p F es nx A n c) (hn : n ≤ 60000) {i : Nat} {k0 : PKey} {A0 : Option Addr} {l0 : List UInt8} {c0 : Nat} {s : Nat} (hpos : pos es (nm, lb, nu, ge) = some i) (he : es[i]? = some (⟨k0, A0, l0, c0, 0, s⟩ : RE)) (hs : s < 60000) (hz : ¬ (0 + s = 0)) (hl : l0.length ≤ 256) :
    Calls Try.prog 25 #[.pointer (some ⟨p, 0, none⟩), .bool nm, .agg #[.int .u8 (lb.toNat : Int), .int .u16 (nu.toNat : Int), .int .u16 (ge.toNat : Int)], .bool true, .bool false] w fun ex w' =>
      ex = .returned (.tuple #[]) ∧ ∃ F', RefIn w' p F' (es.set i ⟨k0, A0, l0, c0, 0, s⟩) nx A n c ∧ Went w w' F F' := by
  go_enter Try.func25, Try.ntmps25
  go_wp2_with fail
  have hb1 : Below w.heap.size w (w.alloc (.cells #[.int .u8 (lb.toNat : Int), .int .u16 (nu.toNat : Int), .int .u16 (ge.toNat : Int)] 39)) := (Below.refl _ _).alloc (Nat.le_refl _) _
  have kB1 := Blk.new w 39 #[.int .u8 (lb.toNat : Int), .int .u16 (nu.toNat : Int), .int .u16 (ge.toNat : Int)]
  have h1 := h.below hb1
  refine (ref_find p nm lb nu ge _ n c es _ (h1.blk.cell 0) (h1.lt p h1.fp) (Rd.of_own h1.row) hn).mono ?_
  rw [show posI es (nm, lb, nu, ge) = (i : Int) from by unfold posI; rw [hpos]]
  rintro ex w2 ⟨rfl, hb2⟩
  have hb := hb1.trans (hb2.mono hb1.size)
  have kB := kB1.below hb2 kB1.lt
  clear h1 kB1 hb1 hb2
  obtain ⟨g, rfl, a0⟩ := h.at7 he
  have a7 := a0.below hb
  have H := hide h
  clear a0 h hb kB hpos he
  have hneg : decide ((i : Int) < 0) = false := by simp
  have p0 := a7.hd
  have c5 := a7.cell 5 (v := .int .i64 ((⟨k0, A0, l0, c0, 0, s⟩ : RE).r : Int)) rfl
  have c6 := a7.cell 6 (v := .int .i64 ((⟨k0, A0, l0, c0, 0, s⟩ : RE).s : Int)) rfl
  have c4 := a7.cell 4 (v := .slice (⟨k0, A0, l0, c0, 0, s⟩ : RE).A (⟨k0, A0, l0, c0, 0, s⟩ : RE).l.length (⟨k0, A0, l0, c0, 0, s⟩ : RE).c) rfl
  have f4 := a7.frozen (i * 7 + 4)
  have f5 := a7.frozen (i * 7 + 5)
  have f6 := a7.frozen (i * 7 + 6)
  have gl := a7.gl
  have pl := a7.pl
  have hiz : (i : Int) < n := by have := a7.hi; omega
  have H7 := hide a7
  clear a7
  · have hs2 : ((s : Int) == 0) = false := by simp; omega
    clear hz
    go_wp2
    go_returns
    exact ⟨rfl, H.out.of_at7 H7.out hl⟩

set_option maxRecDepth 100000 in
set_option maxHeartbeats 4000000 in
theorem rleave_zn_gone (h : RefIn w p F es nx A n c) (hn : n ≤ 60000) {i : Nat} {k0 : PKey} {A0 : Option Addr} {l0 : List UInt8} {c0 : Nat} (hpos : pos es (nm, lb, nu, ge) = some i) (he : es[i]? = some (⟨k0, A0, l0, c0, 0, 0⟩ : RE)) (hl : l0.length ≤ 256) :
    Calls Try.prog 25 #[.pointer (some ⟨p, 0, none⟩), .bool nm, .agg #[.int .u8 (lb.toNat : Int), .int .u16 (nu.toNat : Int), .int .u16 (ge.toNat : Int)], .bool true, .bool false] w fun ex w' =>
      ex = .returned (.tuple #[]) ∧ ∃ F' A' n' c', RefIn w' p F' (es.take i ++ es.drop (i + 1)) nx A' n' c' ∧ Went w w' F F' := by
  obtain ⟨i0, hi0, i1, i2, i3⟩ := info_parts info_pipe
  go_enter Try.func25, Try.ntmps25
  go_wp2_with fail
  have hb1 : Below w.heap.size w (w.alloc (.cells #[.int .u8 (lb.toNat : Int), .int .u16 (nu.toNat : Int), .int .u16 (ge.toNat : Int)] 39)) := (Below.refl _ _).alloc (Nat.le_refl _) _
  have kB1 := Blk.new w 39 #[.int .u8 (lb.toNat : Int), .int .u16 (nu.toNat : Int), .int .u16 (ge.toNat : Int)]
  have h1 := h.below hb1
  refine (ref_find p nm lb nu ge _ n c es _ (h1.blk.cell 0) (h1.lt p h1.fp) (Rd.of_own h1.row) hn).mono ?_
  rw [show posI es (nm, lb, nu, ge) = (i : Int) from by unfold posI; rw [hpos]]
  rintro ex w2 ⟨rfl, hb2⟩
  have hb := hb1.trans (hb2.mono hb1.size)
  have kB := kB1.below hb2 kB1.lt
  clear h1 kB1 hb1 hb2
  obtain ⟨g, rfl, a0⟩ := h.at7 he
  have a7 := a0.below hb
  have H := hide h
  clear a0 h hb kB hpos he
  have hneg : decide ((i : Int) < 0) = false := by simp
  have p0 := a7.hd
  have c5 := a7.cell 5 (v := .int .i64 ((⟨k0, A0, l0, c0, 0, 0⟩ : RE).r : Int)) rfl
  have c6 := a7.cell 6 (v := .int .i64 ((⟨k0, A0, l0, c0, 0, 0⟩ : RE).s : Int)) rfl
  have c4 := a7.cell 4 (v := .slice (⟨k0, A0, l0, c0, 0, 0⟩ : RE).A (⟨k0, A0, l0, c0, 0, 0⟩ : RE).l.length (⟨k0, A0, l0, c0, 0, 0⟩ : RE).c) rfl
  have f4 := a7.frozen (i * 7 + 4)
  have f5 := a7.frozen (i * 7 + 5)
  have f6 := a7.frozen (i * 7 + 6)
  have gl := a7.gl
  have pl := a7.pl
  have hiz : (i : Int) < n := by have := a7.hi; omega
  go_wp2_with fail
  obtain ⟨F6, h6, hW6⟩ := H.out.of_at7 a7 hl
  have hi := a7.hi
  have a7nc := a7.nc
  have HS := hide a7.size
  clear a7
  clear p0 c4 c5 c6 f4 f5 f6 gl pl hiz
  have p0 : w2.cell? ⟨p, 0, none⟩ = some (.slice (some ⟨g, 0, none⟩) n c) := h6.blk.cell 0
  have pf := h6.blk.frozen 0
  have pl := h6.blk.lt
  have hiz : (i : Int) ≤ n := by omega
  have hic : (i : Int) ≤ c := by have := a7nc; omega
  have R6 := Rd.of_own h6.row
  have r1 := R6.take (m := i) (by omega)
  have r2 := R6.cut (k := i + 1) (by omega) a7nc
  rw [flat7_take] at r1
  rw [flat7_drop] at r2
  obtain ⟨A2, hA2⟩ : ∃ A2, (if c = i + 1 then (some ⟨g, 0, none⟩ : Option Addr) else some ⟨g, (i + 1) * 7, none⟩) = A2 := ⟨_, rfl⟩
  have hA3 : (if c = i + 1 then (some ⟨g, 0, none⟩ : Option Addr) else (some (⟨g, 0, none⟩ : Addr)).map (·.add ((i + 1) * 7))) = A2 := by rw [← hA2]; simp [Addr.add]
  rw [hA3] at r2
  rw [show (es.set i ⟨k0, A0, l0, c0, 0, 0⟩).take i = es.take i from List.take_set_of_le (Nat.le_refl _)] at r1
  rw [show (es.set i ⟨k0, A0, l0, c0, 0, 0⟩).drop (i + 1) = es.drop (i + 1) from List.drop_set_of_lt (by omega)] at r2
  have hw1 : IntKind.i64.wrap ((i : Int) + 1) = (i : Int) + 1 := IntWalk.i64_in _ (by omega)
  have hw2 : (0 : Int) ≤ (i : Int) + 1 := by omega
  have hw3 : ((i : Int) + 1).toNat = i + 1 := by omega
  have hw4 : (i : Int) + 1 ≤ n := by omega
  clear hA3 R6
  refine wp_region_ord [0, 2, 3, 4, 5, 6, 7, 9, 10, 11, 12, 13, 14, 15, 1, 8, 16, 17, 18, 19] [0, 0, 0, 0, 0, 0, 0, 0, 0, 0, 0, 0, 0, 0, 1, 1, 1, 0, 0, 2] (Below w2.heap.size w2) (by kernel_rfl) (by kernel_rfl) (Below.refl _ _).drew ?_
  iterate 14 (refine wpOrd_q (v := ?_) (by rfl) (fun W hW => ?_) ?_; rotate_left; (focus ((obtain ⟨hWc, hWf⟩ := bcell hW); go_simp; try with_reducible rfl)); try simp only [Act.put, List.setIfInBounds_toArray, List.set_cons_zero, List.set_cons_succ])
  clear hw1 hw2 hw3 hw4 hA2 p0
  refine wpOrd_x (by rfl) (fun K hK => ?_)
  go_simp
  refine hK _ _ _ (fun _ h => h) ((Below.refl _ _).drew.alloc (Nat.le_refl _) _) ?_
  clear hK K
  try simp only [Act.put, List.setIfInBounds_toArray, List.set_cons_zero, List.set_cons_succ]
  have oa := own_lit (w := w2.drew) (base := w2.heap.size) (e := 75) (size := 7) (n := 0) (cs := #[]) rfl rfl (Nat.le_refl _) (by simp [maxLen]) rfl
  have hb3 : Below w2.heap.size w2 (w2.drew.alloc (.cells #[] 75)) := (Below.refl _ _).drew.alloc (Nat.le_refl _) _
  refine wpOrd_x (by rfl) (fun K hK => ?_)
  refine wp_append_rd _ (.tmp 94) (.tmp 100) 59 (by rfl) w2.heap.size 75 i0 (.agg #[.bool false, .int .u8 0, .int .u16 0, .int .u16 0, .slice none 0 0, .int .i64 0, .int .i64 0]) 7 48 Try.underlying59 hi0 i1 i2 i3 rfl (by decide) (.slice (some ⟨w2.heap.size, 0, none⟩) 0 0) 0 [] (by rfl) oa _ (some ⟨g, 0, none⟩) i c (flat7 (es.take i)) (by rfl) (r1.below hb3) (flat7_one _) (by simp only [maxLen]; omega) (by omega) hb3.size ?_
  intro v' w5 ho5 hg5 _ hat5
  rw [List.nil_append, Nat.zero_add] at ho5
  obtain ⟨A5, c5, rfl, hnc5, hcm5, hA5⟩ := own_form ho5
  have hb5 : Below w2.heap.size w2 w5 := hb3.trans ((Tch.grown (S := fun _ => False) hg5 hb3.size fun k hk hlt => by cases hk; exact absurd hlt (Nat.lt_irrefl _)).below fun _ _ h => h)
  refine hK _ _ _ (fun _ h => h) hb5 ?_
  clear hK K oa hg5 hat5
  try simp only [Act.put, List.setIfInBounds_toArray, List.set_cons_zero, List.set_cons_succ]
  refine wpOrd_x (by rfl) (fun K hK => ?_)
  refine wp_append_rd _ (.tmp 101) (.tmp 108) 59 (by rfl) w2.heap.size 75 i0 (.agg #[.bool false, .int .u8 0, .int .u16 0, .int .u16 0, .slice none 0 0, .int .i64 0, .int .i64 0]) 7 48 Try.underlying59 hi0 i1 i2 i3 rfl (by decide) (.slice A5 i c5) i (flat7 (es.take i)) (by rfl) ho5 _ A2 (n - (i + 1)) (c - (i + 1)) (flat7 (es.drop (i + 1))) (by rfl) (r2.below hb5) (flat7_one _) (by simp only [maxLen]; omega) (by omega) hb5.size ?_
  intro v' w6 ho6 hg6 _ hat6
  rw [← flat7_append, show i + (n - (i + 1)) = n - 1 by omega] at ho6
  obtain ⟨A6, c6, rfl, hnc6, hcm6, hA6⟩ := own_form ho6
  have hb6 : Below w2.heap.size w2 w6 := hb5.trans ((Tch.grown (S := fun _ => False) hg6 hb5.size fun k hk hlt => by have := (ho5.lt k hk).1; omega).below fun _ _ h => h)
  refine hK _ _ _ (fun _ h => h) hb6 ?_
  clear hK K
  try simp only [Act.put, List.setIfInBounds_toArray, List.set_cons_zero, List.set_cons_succ]
  iterate 2 (refine wpOrd_q (v := ?_) (by rfl) (fun W hW => ?_) ?_; rotate_left; (focus (go_simp; try with_reducible rfl)); try simp only [Act.put, List.setIfInBounds_toArray, List.set_cons_zero, List.set_cons_succ])
  have b6 := h6.blk.below hb6 h6.blk.lt
  have bl6 := b6.lt
  have bf6 := b6.frozen 0
  have bc6 := b6.cell 0
  refine wpOrd_b (by rfl) (fun K hK => ?_)
  go_simp
  refine hK (fun _ => True) _ _ trivial ?_
  clear hK K
  try simp only [Act.put, List.setIfInBounds_toArray, List.set_cons_zero, List.set_cons_succ]
  refine wpOrd_nil ?_
  go_wp2
  go_returns
  obtain ⟨F7, h7, hW7⟩ := h6.gone (A' := A6) (n' := n - 1) (c' := c6) (i := i) (w' := w6.setCell ⟨p, 0, none⟩ (.slice A6 (n - 1) c6))
    ((Tch.of_below hb6).trans (Tch.setCell fun _ => rfl)) (by have := b6.set_ 0 (.slice A6 (n - 1) c6); rwa [rcells_set0] at this)
    (by
      rw [show (es.set i ⟨k0, A0, l0, c0, 0, 0⟩).take i = es.take i from List.take_set_of_le (Nat.le_refl _), show (es.set i ⟨k0, A0, l0, c0, 0, 0⟩).drop (i + 1) = es.drop (i + 1) from List.drop_set_of_lt (by omega)]
      exact ownsRow_setCell_other (own_mono ho6 (Nat.zero_le _)) (blk_not_own b6 ho6 (by decide)) _)
    (fun x hx => (ho6.lt x hx).1)
  rw [show (es.set i ⟨k0, A0, l0, c0, 0, 0⟩).take i = es.take i from List.take_set_of_le (Nat.le_refl _), show (es.set i ⟨k0, A0, l0, c0, 0, 0⟩).drop (i + 1) = es.drop (i + 1) from List.drop_set_of_lt (by omega)] at h7
  exact ⟨rfl, F7, _, _, _, h7, Went.trans_ hW6 hW7⟩

set_option maxRecDepth 100000 in
set_option maxHeartbeats 4000000 in
theorem rleave_zz_gone (h : RefIn w p F es nx A n c) (hn : n ≤ 60000) {i : Nat} {k0 : PKey} {A0 : Option Addr} {l0 : List UInt8} {c0 : Nat} (hpos : pos es (nm, lb, nu, ge) = some i) (he : es[i]? = some (⟨k0, A0, l0, c0, 0, 0⟩ : RE)) (hl : l0.length ≤ 256) :
    Calls Try.prog 25 #[.pointer (some ⟨p, 0, none⟩), .bool nm, .agg #[.int .u8 (lb.toNat : Int), .int .u16 (nu.toNat : Int), .int .u16 (ge.toNat : Int)], .bool true, .bool true] w fun ex w' =>
      ex = .returned (.tuple #[]) ∧ ∃ F' A' n' c', RefIn w' p F' (es.take i ++ es.drop (i + 1)) nx A' n' c' ∧ Went w w' F F' := by
  obtain ⟨i0, hi0, i1, i2, i3⟩ := info_parts info_pipe
  go_enter Try.func25, Try.ntmps25
  go_wp2_with fail
  have hb1 : Below w.heap.size w (w.alloc (.cells #[.int .u8 (lb.toNat : Int), .int .u16 (nu.toNat : Int), .int .u16 (ge.toNat : Int)] 39)) := (Below.refl _ _).alloc (Nat.le_refl _) _
  have kB1 := Blk.new w 39 #[.int .u8 (lb.toNat : Int), .int .u16 (nu.toNat : Int), .int .u16 (ge.toNat : Int)]
  have h1 := h.below hb1
  refine (ref_find p nm lb nu ge _ n c es _ (h1.blk.cell 0) (h1.lt p h1.fp) (Rd.of_own h1.row) hn).mono ?_
  rw [show posI es (nm, lb, nu, ge) = (i : Int) from by unfold posI; rw [hpos]]
  rintro ex w2 ⟨rfl, hb2⟩
  have hb := hb1.trans (hb2.mono hb1.size)
  have kB := kB1.below hb2 kB1.lt
  clear h1 kB1 hb1 hb2
  obtain ⟨g, rfl, a0⟩ := h.at7 he
  have a7 := a0.below hb
  have H := hide h
  clear a0 h hb kB hpos he
  have hneg : decide ((i : Int) < 0) = false := by simp
  have p0 := a7.hd
  have c5 := a7.cell 5 (v := .int .i64 ((⟨k0, A0, l0, c0, 0, 0⟩ : RE).r : Int)) rfl
  have c6 := a7.cell 6 (v := .int .i64 ((⟨k0, A0, l0, c0, 0, 0⟩ : RE).s : Int)) rfl
  have c4 := a7.cell 4 (v := .slice (⟨k0, A0, l0, c0, 0, 0⟩ : RE).A (⟨k0, A0, l0, c0, 0, 0⟩ : RE).l.length (⟨k0, A0, l0, c0, 0, 0⟩ : RE).c) rfl
  have f4 := a7.frozen (i * 7 + 4)
  have f5 := a7.frozen (i * 7 + 5)
  have f6 := a7.frozen (i * 7 + 6)
  have gl := a7.gl
  have pl := a7.pl
  have hiz : (i : Int) < n := by have := a7.hi; omega
  go_wp2_with fail
  obtain ⟨F6, h6, hW6⟩ := H.out.of_at7 a7 hl
  have hi := a7.hi
  have a7nc := a7.nc
  have HS := hide a7.size
  clear a7
  clear p0 c4 c5 c6 f4 f5 f6 gl pl hiz
  have p0 : w2.cell? ⟨p, 0, none⟩ = some (.slice (some ⟨g, 0, none⟩) n c) := h6.blk.cell 0
  have pf := h6.blk.frozen 0
  have pl := h6.blk.lt
  have hiz : (i : Int) ≤ n := by omega
  have hic : (i : Int) ≤ c := by have := a7nc; omega
  have R6 := Rd.of_own h6.row
  have r1 := R6.take (m := i) (by omega)
  have r2 := R6.cut (k := i + 1) (by omega) a7nc
  rw [flat7_take] at r1
  rw [flat7_drop] at r2
  obtain ⟨A2, hA2⟩ : ∃ A2, (if c = i + 1 then (some ⟨g, 0, none⟩ : Option Addr) else some ⟨g, (i + 1) * 7, none⟩) = A2 := ⟨_, rfl⟩
  have hA3 : (if c = i + 1 then (some ⟨g, 0, none⟩ : Option Addr) else (some (⟨g, 0, none⟩ : Addr)).map (·.add ((i + 1) * 7))) = A2 := by rw [← hA2]; simp [Addr.add]
  rw [hA3] at r2
  rw [show (es.set i ⟨k0, A0, l0, c0, 0, 0⟩).take i = es.take i from List.take_set_of_le (Nat.le_refl _)] at r1
  rw [show (es.set i ⟨k0, A0, l0, c0, 0, 0⟩).drop (i + 1) = es.drop (i + 1) from List.drop_set_of_lt (by omega)] at r2
  have hw1 : IntKind.i64.wrap ((i : Int) + 1) = (i : Int) + 1 := IntWalk.i64_in _ (by omega)
  have hw2 : (0 : Int) ≤ (i : Int) + 1 := by omega
  have hw3 : ((i : Int) + 1).toNat = i + 1 := by omega
  have hw4 : (i : Int) + 1 ≤ n := by omega
  clear hA3 R6
  refine wp_region_ord [0, 2, 3, 4, 5, 6, 7, 9, 10, 11, 12, 13, 14, 15, 1, 8, 16, 17, 18, 19] [0, 0, 0, 0, 0, 0, 0, 0, 0, 0, 0, 0, 0, 0, 1, 1, 1, 0, 0, 2] (Below w2.heap.size w2) (by kernel_rfl) (by kernel_rfl) (Below.refl _ _).drew ?_
  iterate 14 (refine wpOrd_q (v := ?_) (by rfl) (fun W hW => ?_) ?_; rotate_left; (focus ((obtain ⟨hWc, hWf⟩ := bcell hW); go_simp; try with_reducible rfl)); try simp only [Act.put, List.setIfInBounds_toArray, List.set_cons_zero, List.set_cons_succ])
  clear hw1 hw2 hw3 hw4 hA2 p0
  refine wpOrd_x (by rfl) (fun K hK => ?_)
  go_simp
  refine hK _ _ _ (fun _ h => h) ((Below.refl _ _).drew.alloc (Nat.le_refl _) _) ?_
  clear hK K
  try simp only [Act.put, List.setIfInBounds_toArray, List.set_cons_zero, List.set_cons_succ]
  have oa := own_lit (w := w2.drew) (base := w2.heap.size) (e := 75) (size := 7) (n := 0) (cs := #[]) rfl rfl (Nat.le_refl _) (by simp [maxLen]) rfl
  have hb3 : Below w2.heap.size w2 (w2.drew.alloc (.cells #[] 75)) := (Below.refl _ _).drew.alloc (Nat.le_refl _) _
  refine wpOrd_x (by rfl) (fun K hK => ?_)
  refine wp_append_rd _ (.tmp 94) (.tmp 100) 59 (by rfl) w2.heap.size 75 i0 (.agg #[.bool false, .int .u8 0, .int .u16 0, .int .u16 0, .slice none 0 0, .int .i64 0, .int .i64 0]) 7 48 Try.underlying59 hi0 i1 i2 i3 rfl (by decide) (.slice (some ⟨w2.heap.size, 0, none⟩) 0 0) 0 [] (by rfl) oa _ (some ⟨g, 0, none⟩) i c (flat7 (es.take i)) (by rfl) (r1.below hb3) (flat7_one _) (by simp only [maxLen]; omega) (by omega) hb3.size ?_
  intro v' w5 ho5 hg5 _ hat5
  rw [List.nil_append, Nat.zero_add] at ho5
  obtain ⟨A5, c5, rfl, hnc5, hcm5, hA5⟩ := own_form ho5
  have hb5 : Below w2.heap.size w2 w5 := hb3.trans ((Tch.grown (S := fun _ => False) hg5 hb3.size fun k hk hlt => by cases hk; exact absurd hlt (Nat.lt_irrefl _)).below fun _ _ h => h)
  refine hK _ _ _ (fun _ h => h) hb5 ?_
  clear hK K oa hg5 hat5
  try simp only [Act.put, List.setIfInBounds_toArray, List.set_cons_zero, List.set_cons_succ]
  refine wpOrd_x (by rfl) (fun K hK => ?_)
  refine wp_append_rd _ (.tmp 101) (.tmp 108) 59 (by rfl) w2.heap.size 75 i0 (.agg #[.bool false, .int .u8 0, .int .u16 0, .int .u16 0, .slice none 0 0, .int .i64 0, .int .i64 0]) 7 48 Try.underlying59 hi0 i1 i2 i3 rfl (by decide) (.slice A5 i c5) i (flat7 (es.take i)) (by rfl) ho5 _ A2 (n - (i + 1)) (c - (i + 1)) (flat7 (es.drop (i + 1))) (by rfl) (r2.below hb5) (flat7_one _) (by simp only [maxLen]; omega) (by omega) hb5.size ?_
  intro v' w6 ho6 hg6 _ hat6
  rw [← flat7_append, show i + (n - (i + 1)) = n - 1 by omega] at ho6
  obtain ⟨A6, c6, rfl, hnc6, hcm6, hA6⟩ := own_form ho6
  have hb6 : Below w2.heap.size w2 w6 := hb5.trans ((Tch.grown (S := fun _ => False) hg6 hb5.size fun k hk hlt => by have := (ho5.lt k hk).1; omega).below fun _ _ h => h)
  refine hK _ _ _ (fun _ h => h) hb6 ?_
  clear hK K
  try simp only [Act.put, List.setIfInBounds_toArray, List.set_cons_zero, List.set_cons_succ]
  iterate 2 (refine wpOrd_q (v := ?_) (by rfl) (fun W hW => ?_) ?_; rotate_left; (focus (go_simp; try with_reducible rfl)); try simp only [Act.put, List.setIfInBounds_toArray, List.set_cons_zero, List.set_cons_succ])
  have b6 := h6.blk.below hb6 h6.blk.lt
  have bl6 := b6.lt
  have bf6 := b6.frozen 0
  have bc6 := b6.cell 0
  refine wpOrd_b (by rfl) (fun K hK => ?_)
  go_simp
  refine hK (fun _ => True) _ _ trivial ?_
  clear hK K
  try simp only [Act.put, List.setIfInBounds_toArray, List.set_cons_zero, List.set_cons_succ]
  refine wpOrd_nil ?_
  go_wp2
  go_returns
  obtain ⟨F7, h7, hW7⟩ := h6.gone (A' := A6) (n' := n - 1) (c' := c6) (i := i) (w' := w6.setCell ⟨p, 0, none⟩ (.slice A6 (n - 1) c6))
    ((Tch.of_below hb6).trans (Tch.setCell fun _ => rfl)) (by have := b6.set_ 0 (.slice A6 (n - 1) c6); rwa [rcells_set0] at this)
    (by
      rw [show (es.set i ⟨k0, A0, l0, c0, 0, 0⟩).take i = es.take i from List.take_set_of_le (Nat.le_refl _), show (es.set i ⟨k0, A0, l0, c0, 0, 0⟩).drop (i + 1) = es.drop (i + 1) from List.drop_set_of_lt (by omega)]
      exact ownsRow_setCell_other (own_mono ho6 (Nat.zero_le _)) (blk_not_own b6 ho6 (by decide)) _)
    (fun x hx => (ho6.lt x hx).1)
  rw [show (es.set i ⟨k0, A0, l0, c0, 0, 0⟩).take i = es.take i from List.take_set_of_le (Nat.le_refl _), show (es.set i ⟨k0, A0, l0, c0, 0, 0⟩).drop (i + 1) = es.drop (i + 1) from List.drop_set_of_lt (by omega)] at h7
  exact ⟨rfl, F7, _, _, _, h7, Went.trans_ hW6 hW7⟩

set_option maxRecDepth 100000 in
set_option maxHeartbeats 4000000 in
theorem rleave_zp_stay (h : RefIn w p F es nx A n c) (hn : n ≤ 60000) {i : Nat} {k0 : PKey} {A0 : Option Addr} {l0 : List UInt8} {c0 : Nat} {s : Nat} (hpos : pos es (nm, lb, nu, ge) = some i) (he : es[i]? = some (⟨k0, A0, l0, c0, 0, s + 1⟩ : RE)) (hs : s + 1 < 60000) (hz : ¬ (0 + s = 0)) (hl : l0.length ≤ 256) :
    Calls Try.prog 25 #[.pointer (some ⟨p, 0, none⟩), .bool nm, .agg #[.int .u8 (lb.toNat : Int), .int .u16 (nu.toNat : Int), .int .u16 (ge.toNat : Int)], .bool true, .bool true] w fun ex w' =>
      ex = .returned (.tuple #[]) ∧ ∃ F', RefIn w' p F' (es.set i ⟨k0, A0, l0, c0, 0, s⟩) nx A n c ∧ Went w w' F F' := by
  go_enter Try.func25, Try.ntmps25
  go_wp2_with fail
  have hb1 : Below w.heap.size w (w.alloc (.cells #[.int .u8 (lb.toNat : Int), .int .u16 (nu.toNat : Int), .int .u16 (ge.toNat : Int)] 39)) := (Below.refl _ _).alloc (Nat.le_refl _) _
  have kB1 := Blk.new w 39 #[.int .u8 (lb.toNat : Int), .int .u16 (nu.toNat : Int), .int .u16 (ge.toNat : Int)]
  have h1 := h.below hb1
  refine (ref_find p nm lb nu ge _ n c es _ (h1.blk.cell 0) (h1.lt p h1.fp) (Rd.of_own h1.row) hn).mono ?_
  rw [show posI es (nm, lb, nu, ge) = (i : Int) from by unfold posI; rw [hpos]]
  rintro ex w2 ⟨rfl, hb2⟩
  have hb := hb1.trans (hb2.mono hb1.size)
  have kB := kB1.below hb2 kB1.lt
  clear h1 kB1 hb1 hb2
  obtain ⟨g, rfl, a0⟩ := h.at7 he
  have a7 := a0.below hb
  have H := hide h
  clear a0 h hb kB hpos he
  have hneg : decide ((i : Int) < 0) = false := by simp
  have p0 := a7.hd
  have c5 := a7.cell 5 (v := .int .i64 ((⟨k0, A0, l0, c0, 0, s + 1⟩ : RE).r : Int)) rfl
  have c6 := a7.cell 6 (v := .int .i64 ((⟨k0, A0, l0, c0, 0, s + 1⟩ : RE).s : Int)) rfl
  have c4 := a7.cell 4 (v := .slice (⟨k0, A0, l0, c0, 0, s + 1⟩ : RE).A (⟨k0, A0, l0, c0, 0, s + 1⟩ : RE).l.length (⟨k0, A0, l0, c0, 0, s + 1⟩ : RE).c) rfl
  have f4 := a7.frozen (i * 7 + 4)
  have f5 := a7.frozen (i * 7 + 5)
  have f6 := a7.frozen (i * 7 + 6)
  have gl := a7.gl
  have pl := a7.pl
  have hiz : (i : Int) < n := by have := a7.hi; omega
  have td : decide ((0 : Int) < (s : Int) + 1) = true := decide_eq_true (by omega)
  go_wp2_with fail
  clear p0 c4 c5 c6 f4 f5 f6 gl pl hiz
  clear td
  have p0 := a7.hd
  have c5 := a7.cell 5 (v := .int .i64 ((⟨k0, A0, l0, c0, 0, s + 1⟩ : RE).r : Int)) rfl
  have c6 := a7.cell 6 (v := .int .i64 ((⟨k0, A0, l0, c0, 0, s + 1⟩ : RE).s : Int)) rfl
  have c4 := a7.cell 4 (v := .slice (⟨k0, A0, l0, c0, 0, s + 1⟩ : RE).A (⟨k0, A0, l0, c0, 0, s + 1⟩ : RE).l.length (⟨k0, A0, l0, c0, 0, s + 1⟩ : RE).c) rfl
  have f4 := a7.frozen (i * 7 + 4)
  have f5 := a7.frozen (i * 7 + 5)
  have f6 := a7.frozen (i * 7 + 6)
  have gl := a7.gl
  have pl := a7.pl
  have hiz : (i : Int) < n := by have := a7.hi; omega
  have wr : IntKind.i64.wrap ((s : Int)) = (s : Int) := IntWalk.i64_in _ (by omega)
  refine wp_region_text [0, 0, 0, 0, 0, 0, 0, 0, 0, 0, 0, 0, 0, 0, 0, 0, 2] (Below w2.heap.size w2) (by kernel_rfl) (by kernel_rfl) (Below.refl _ _).drew ?_
  iterate 16 (refine wpOrd_q (v := ?_) (by rfl) (fun W hW => ?_) ?_; rotate_left; (focus ((obtain ⟨hWc, hWf⟩ := bcell hW); go_simp; try with_reducible rfl)); try simp only [Act.put, List.setIfInBounds_toArray, List.set_cons_zero, List.set_cons_succ])
  refine wpOrd_b (by rfl) (fun K hK => ?_)
  go_simp
  refine hK (fun _ => True) _ _ trivial ?_
  clear hK K
  try simp only [Act.put, List.setIfInBounds_toArray, List.set_cons_zero, List.set_cons_succ]
  refine wpOrd_nil ?_
  refine at_world (fun W => At7 w W p g n c i es (⟨k0, A0, l0, c0, 0, s + 1⟩ : RE) ⟨k0, A0, l0, c0, 0, s⟩) (a7.drew.store (e' := ⟨k0, A0, l0, c0, 0, s⟩) (j := 6) (u := .int .i64 ((s : Nat) : Int)) (by omega) rfl rfl rfl rfl) (fun w4 a8 => ?_)
  clear wr a7
  clear p0 c4 c5 c6 f4 f5 f6 gl pl hiz
  have a7 := a8
  clear a8
  have p0 := a7.hd
  have c5 := a7.cell 5 (v := .int .i64 ((⟨k0, A0, l0, c0, 0, s⟩ : RE).r : Int)) rfl
  have c6 := a7.cell 6 (v := .int .i64 ((⟨k0, A0, l0, c0, 0, s⟩ : RE).s : Int)) rfl
  have c4 := a7.cell 4 (v := .slice (⟨k0, A0, l0, c0, 0, s⟩ : RE).A (⟨k0, A0, l0, c0, 0, s⟩ : RE).l.length (⟨k0, A0, l0, c0, 0, s⟩ : RE).c) rfl
  have f4 := a7.frozen (i * 7 + 4)
  have f5 := a7.frozen (i * 7 + 5)
  have f6 := a7.frozen (i * 7 + 6)
  have gl := a7.gl
  have pl := a7.pl
  have hiz : (i : Int) < n := by have := a7.hi; omega
  have H7 := hide a7
  clear a7
  · have hs2 : ((s : Int) == 0) = false := by simp; omega
    clear hz
    go_wp2
    go_returns
    exact ⟨rfl, H.out.of_at7 H7.out hl⟩

set_option maxRecDepth 100000 in
set_option maxHeartbeats 4000000 in
theorem rleave_zp_gone (h : RefIn w p F es nx A n c) (hn : n ≤ 60000) {i : Nat} {k0 : PKey} {A0 : Option Addr} {l0 : List UInt8} {c0 : Nat} (hpos : pos es (nm, lb, nu, ge) = some i) (he : es[i]? = some (⟨k0, A0, l0, c0, 0, 1⟩ : RE)) (hl : l0.length ≤ 256) :
    Calls Try.prog 25 #[.pointer (some ⟨p, 0, none⟩), .bool nm, .agg #[.int .u8 (lb.toNat : Int), .int .u16 (nu.toNat : Int), .int .u16 (ge.toNat : Int)], .bool true, .bool true] w fun ex w' =>
      ex = .returned (.tuple #[]) ∧ ∃ F' A' n' c', RefIn w' p F' (es.take i ++ es.drop (i + 1)) nx A' n' c' ∧ Went w w' F F' := by
  obtain ⟨i0, hi0, i1, i2, i3⟩ := info_parts info_pipe
  go_enter Try.func25, Try.ntmps25
  go_wp2_with fail
  have hb1 : Below w.heap.size w (w.alloc (.cells #[.int .u8 (lb.toNat : Int), .int .u16 (nu.toNat : Int), .int .u16 (ge.toNat : Int)] 39)) := (Below.refl _ _).alloc (Nat.le_refl _) _
  have kB1 := Blk.new w 39 #[.int .u8 (lb.toNat : Int), .int .u16 (nu.toNat : Int), .int .u16 (ge.toNat : Int)]
  have h1 := h.below hb1
  refine (ref_find p nm lb nu ge _ n c es _ (h1.blk.cell 0) (h1.lt p h1.fp) (Rd.of_own h1.row) hn).mono ?_
  rw [show posI es (nm, lb, nu, ge) = (i : Int) from by unfold posI; rw [hpos]]
  rintro ex w2 ⟨rfl, hb2⟩
  have hb := hb1.trans (hb2.mono hb1.size)
  have kB := kB1.below hb2 kB1.lt
  clear h1 kB1 hb1 hb2
  obtain ⟨g, rfl, a0⟩ := h.at7 he
  have a7 := a0.below hb
  have H := hide h
  clear a0 h hb kB hpos he
  have hneg : decide ((i : Int) < 0) = false := by simp
  have p0 := a7.hd
  have c5 := a7.cell 5 (v := .int .i64 ((⟨k0, A0, l0, c0, 0, 1⟩ : RE).r : Int)) rfl
  have c6 := a7.cell 6 (v := .int .i64 ((⟨k0, A0, l0, c0, 0, 1⟩ : RE).s : Int)) rfl
  have c4 := a7.cell 4 (v := .slice (⟨k0, A0, l0, c0, 0, 1⟩ : RE).A (⟨k0, A0, l0, c0, 0, 1⟩ : RE).l.length (⟨k0, A0, l0, c0, 0, 1⟩ : RE).c) rfl
  have f4 := a7.frozen (i * 7 + 4)
  have f5 := a7.frozen (i * 7 + 5)
  have f6 := a7.frozen (i * 7 + 6)
  have gl := a7.gl
  have pl := a7.pl
  have hiz : (i : Int) < n := by have := a7.hi; omega
  have td : decide ((0 : Int) < (0 : Int) + 1) = true := decide_eq_true (by omega)
  go_wp2_with fail
  clear p0 c4 c5 c6 f4 f5 f6 gl pl hiz
  clear td
  have p0 := a7.hd
  have c5 := a7.cell 5 (v := .int .i64 ((⟨k0, A0, l0, c0, 0, 1⟩ : RE).r : Int)) rfl
  have c6 := a7.cell 6 (v := .int .i64 ((⟨k0, A0, l0, c0, 0, 1⟩ : RE).s : Int)) rfl
  have c4 := a7.cell 4 (v := .slice (⟨k0, A0, l0, c0, 0, 1⟩ : RE).A (⟨k0, A0, l0, c0, 0, 1⟩ : RE).l.length (⟨k0, A0, l0, c0, 0, 1⟩ : RE).c) rfl
  have f4 := a7.frozen (i * 7 + 4)
  have f5 := a7.frozen (i * 7 + 5)
  have f6 := a7.frozen (i * 7 + 6)
  have gl := a7.gl
  have pl := a7.pl
  have hiz : (i : Int) < n := by have := a7.hi; omega
  have wr : IntKind.i64.wrap ((0 : Int)) = (0 : Int) := IntWalk.i64_in _ (by omega)
  refine wp_region_text [0, 0, 0, 0, 0, 0, 0, 0, 0, 0, 0, 0, 0, 0, 0, 0, 2] (Below w2.heap.size w2) (by kernel_rfl) (by kernel_rfl) (Below.refl _ _).drew ?_
  iterate 16 (refine wpOrd_q (v := ?_) (by rfl) (fun W hW => ?_) ?_; rotate_left; (focus ((obtain ⟨hWc, hWf⟩ := bcell hW); go_simp; try with_reducible rfl)); try simp only [Act.put, List.setIfInBounds_toArray, List.set_cons_zero, List.set_cons_succ])
  refine wpOrd_b (by rfl) (fun K hK => ?_)
  go_simp
  refine hK (fun _ => True) _ _ trivial ?_
  clear hK K
  try simp only [Act.put, List.setIfInBounds_toArray, List.set_cons_zero, List.set_cons_succ]
  refine wpOrd_nil ?_
  refine at_world (fun W => At7 w W p g n c i es (⟨k0, A0, l0, c0, 0, 1⟩ : RE) ⟨k0, A0, l0, c0, 0, 0⟩) (a7.drew.store (e' := ⟨k0, A0, l0, c0, 0, 0⟩) (j := 6) (u := .int .i64 ((0 : Nat) : Int)) (by omega) rfl rfl rfl rfl) (fun w4 a8 => ?_)
  clear wr a7
  clear p0 c4 c5 c6 f4 f5 f6 gl pl hiz
  have a7 := a8
  clear a8
  have p0 := a7.hd
  have c5 := a7.cell 5 (v := .int .i64 ((⟨k0, A0, l0, c0, 0, 0⟩ : RE).r : Int)) rfl
  have c6 := a7.cell 6 (v := .int .i64 ((⟨k0, A0, l0, c0, 0, 0⟩ : RE).s : Int)) rfl
  have c4 := a7.cell 4 (v := .slice (⟨k0, A0, l0, c0, 0, 0⟩ : RE).A (⟨k0, A0, l0, c0, 0, 0⟩ : RE).l.length (⟨k0, A0, l0, c0, 0, 0⟩ : RE).c) rfl
  have f4 := a7.frozen (i * 7 + 4)
  have f5 := a7.frozen (i * 7 + 5)
  have f6 := a7.frozen (i * 7 + 6)
  have gl := a7.gl
  have pl := a7.pl
  have hiz : (i : Int) < n := by have := a7.hi; omega
  go_wp2_with fail
  obtain ⟨F6, h6, hW6⟩ := H.out.of_at7 a7 hl
  have hi := a7.hi
  have a7nc := a7.nc
  have HS := hide a7.size
  clear a7
  clear p0 c4 c5 c6 f4 f5 f6 gl pl hiz
  have p0 : w4.cell? ⟨p, 0, none⟩ = some (.slice (some ⟨g, 0, none⟩) n c) := h6.blk.cell 0
  have pf := h6.blk.frozen 0
  have pl := h6.blk.lt
  have hiz : (i : Int) ≤ n := by omega
  have hic : (i : Int) ≤ c := by have := a7nc; omega
  have R6 := Rd.of_own h6.row
  have r1 := R6.take (m := i) (by omega)
  have r2 := R6.cut (k := i + 1) (by omega) a7nc
  rw [flat7_take] at r1
  rw [flat7_drop] at r2
  obtain ⟨A2, hA2⟩ : ∃ A2, (if c = i + 1 then (some ⟨g, 0, none⟩ : Option Addr) else some ⟨g, (i + 1) * 7, none⟩) = A2 := ⟨_, rfl⟩
  have hA3 : (if c = i + 1 then (some ⟨g, 0, none⟩ : Option Addr) else (some (⟨g, 0, none⟩ : Addr)).map (·.add ((i + 1) * 7))) = A2 := by rw [← hA2]; simp [Addr.add]
  rw [hA3] at r2
  rw [show (es.set i ⟨k0, A0, l0, c0, 0, 0⟩).take i = es.take i from List.take_set_of_le (Nat.le_refl _)] at r1
  rw [show (es.set i ⟨k0, A0, l0, c0, 0, 0⟩).drop (i + 1) = es.drop (i + 1) from List.drop_set_of_lt (by omega)] at r2
  have hw1 : IntKind.i64.wrap ((i : Int) + 1) = (i : Int) + 1 := IntWalk.i64_in _ (by omega)
  have hw2 : (0 : Int) ≤ (i : Int) + 1 := by omega
  have hw3 : ((i : Int) + 1).toNat = i + 1 := by omega
  have hw4 : (i : Int) + 1 ≤ n := by omega
  clear hA3 R6
  refine wp_region_ord [0, 2, 3, 4, 5, 6, 7, 9, 10, 11, 12, 13, 14, 15, 1, 8, 16, 17, 18, 19] [0, 0, 0, 0, 0, 0, 0, 0, 0, 0, 0, 0, 0, 0, 1, 1, 1, 0, 0, 2] (Below w4.heap.size w4) (by kernel_rfl) (by kernel_rfl) (Below.refl _ _).drew ?_
  iterate 14 (refine wpOrd_q (v := ?_) (by rfl) (fun W hW => ?_) ?_; rotate_left; (focus ((obtain ⟨hWc, hWf⟩ := bcell hW); go_simp; try with_reducible rfl)); try simp only [Act.put, List.setIfInBounds_toArray, List.set_cons_zero, List.set_cons_succ])
  clear hw1 hw2 hw3 hw4 hA2 p0
  refine wpOrd_x (by rfl) (fun K hK => ?_)
  go_simp
  refine hK _ _ _ (fun _ h => h) ((Below.refl _ _).drew.alloc (Nat.le_refl _) _) ?_
  clear hK K
  try simp only [Act.put, List.setIfInBounds_toArray, List.set_cons_zero, List.set_cons_succ]
  have oa := own_lit (w := w4.drew) (base := w4.heap.size) (e := 75) (size := 7) (n := 0) (cs := #[]) rfl rfl (Nat.le_refl _) (by simp [maxLen]) rfl
  have hb3 : Below w4.heap.size w4 (w4.drew.alloc (.cells #[] 75)) := (Below.refl _ _).drew.alloc (Nat.le_refl _) _
  refine wpOrd_x (by rfl) (fun K hK => ?_)
  refine wp_append_rd _ (.tmp 94) (.tmp 100) 59 (by rfl) w4.heap.size 75 i0 (.agg #[.bool false, .int .u8 0, .int .u16 0, .int .u16 0, .slice none 0 0, .int .i64 0, .int .i64 0]) 7 48 Try.underlying59 hi0 i1 i2 i3 rfl (by decide) (.slice (some ⟨w4.heap.size, 0, none⟩) 0 0) 0 [] (by rfl) oa _ (some ⟨g, 0, none⟩) i c (flat7 (es.take i)) (by rfl) (r1.below hb3) (flat7_one _) (by simp only [maxLen]; omega) (by omega) hb3.size ?_
  intro v' w5 ho5 hg5 _ hat5
  rw [List.nil_append, Nat.zero_add] at ho5
  obtain ⟨A5, c5, rfl, hnc5, hcm5, hA5⟩ := own_form ho5
  have hb5 : Below w4.heap.size w4 w5 := hb3.trans ((Tch.grown (S := fun _ => False) hg5 hb3.size fun k hk hlt => by cases hk; exact absurd hlt (Nat.lt_irrefl _)).below fun _ _ h => h)
  refine hK _ _ _ (fun _ h => h) hb5 ?_
  clear hK K oa hg5 hat5
  try simp only [Act.put, List.setIfInBounds_toArray, List.set_cons_zero, List.set_cons_succ]
  refine wpOrd_x (by rfl) (fun K hK => ?_)
  refine wp_append_rd _ (.tmp 101) (.tmp 108) 59 (by rfl) w4.heap.size 75 i0 (.agg #[.bool false, .int .u8 0, .int .u16 0, .int .u16 0, .slice none 0 0, .int .i64 0, .int .i64 0]) 7 48 Try.underlying59 hi0 i1 i2 i3 rfl (by decide) (.slice A5 i c5) i (flat7 (es.take i)) (by rfl) ho5 _ A2 (n - (i + 1)) (c - (i + 1)) (flat7 (es.drop (i + 1))) (by rfl) (r2.below hb5) (flat7_one _) (by simp only [maxLen]; omega) (by omega) hb5.size ?_
  intro v' w6 ho6 hg6 _ hat6
  rw [← flat7_append, show i + (n - (i + 1)) = n - 1 by omega] at ho6
  obtain ⟨A6, c6, rfl, hnc6, hcm6, hA6⟩ := own_form ho6
  have hb6 : Below w4.heap.size w4 w6 := hb5.trans ((Tch.grown (S := fun _ => False) hg6 hb5.size fun k hk hlt => by have := (ho5.lt k hk).1; omega).below fun _ _ h => h)
  refine hK _ _ _ (fun _ h => h) hb6 ?_
  clear hK K
  try simp only [Act.put, List.setIfInBounds_toArray, List.set_cons_zero, List.set_cons_succ]
  iterate 2 (refine wpOrd_q (v := ?_) (by rfl) (fun W hW => ?_) ?_; rotate_left; (focus (go_simp; try with_reducible rfl)); try simp only [Act.put, List.setIfInBounds_toArray, List.set_cons_zero, List.set_cons_succ])
  have b6 := h6.blk.below hb6 h6.blk.lt
  have bl6 := b6.lt
  have bf6 := b6.frozen 0
  have bc6 := b6.cell 0
  refine wpOrd_b (by rfl) (fun K hK => ?_)
  go_simp
  refine hK (fun _ => True) _ _ trivial ?_
  clear hK K
  try simp only [Act.put, List.setIfInBounds_toArray, List.set_cons_zero, List.set_cons_succ]
  refine wpOrd_nil ?_
  go_wp2
  go_returns
  obtain ⟨F7, h7, hW7⟩ := h6.gone (A' := A6) (n' := n - 1) (c' := c6) (i := i) (w' := w6.setCell ⟨p, 0, none⟩ (.slice A6 (n - 1) c6))
    ((Tch.of_below hb6).trans (Tch.setCell fun _ => rfl)) (by have := b6.set_ 0 (.slice A6 (n - 1) c6); rwa [rcells_set0] at this)
    (by
      rw [show (es.set i ⟨k0, A0, l0, c0, 0, 0⟩).take i = es.take i from List.take_set_of_le (Nat.le_refl _), show (es.set i ⟨k0, A0, l0, c0, 0, 0⟩).drop (i + 1) = es.drop (i + 1) from List.drop_set_of_lt (by omega)]
      exact ownsRow_setCell_other (own_mono ho6 (Nat.zero_le _)) (blk_not_own b6 ho6 (by decide)) _)
    (fun x hx => (ho6.lt x hx).1)
  rw [show (es.set i ⟨k0, A0, l0, c0, 0, 0⟩).take i = es.take i from List.take_set_of_le (Nat.le_refl _), show (es.set i ⟨k0, A0, l0, c0, 0, 0⟩).drop (i + 1) = es.drop (i + 1) from List.drop_set_of_lt (by omega)] at h7
  exact ⟨rfl, F7, _, _, _, h7, Went.trans_ hW6 hW7⟩

set_option maxRecDepth 100000 in
set_option maxHeartbeats 4000000 in
theorem rleave_pn_stay (h : RefIn w p F es nx A n c) (hn : n ≤ 60000) {i : Nat} {k0 : PKey} {A0 : Option Addr} {l0 : List UInt8} {c0 : Nat} {r : Nat} {s : Nat} (hpos : pos es (nm, lb, nu, ge) = some i) (he : es[i]? = some (⟨k0, A0, l0, c0, r + 1, s⟩ : RE)) (hr : r + 1 < 60000) (hs : s < 60000) (hz : ¬ (r + s = 0)) (hl : l0.length ≤ 256) :
    Calls Try.prog 25 #[.pointer (some ⟨p, 0, none⟩), .bool nm, .agg #[.int .u8 (lb.toNat : Int), .int .u16 (nu.toNat : Int), .int .u16 (ge.toNat : Int)], .bool true, .bool false] w fun ex w' =>
      ex = .returned (.tuple #[]) ∧ ∃ F', RefIn w' p F' (es.set i ⟨k0, A0, l0, c0, r, s⟩) nx A n c ∧ Went w w' F F' := by
  go_enter Try.func25, Try.ntmps25
  go_wp2_with fail
  have hb1 : Below w.heap.size w (w.alloc (.cells #[.int .u8 (lb.toNat : Int), .int .u16 (nu.toNat : Int), .int .u16 (ge.toNat : Int)] 39)) := (Below.refl _ _).alloc (Nat.le_refl _) _
  have kB1 := Blk.new w 39 #[.int .u8 (lb.toNat : Int), .int .u16 (nu.toNat : Int), .int .u16 (ge.toNat : Int)]
  have h1 := h.below hb1
  refine (ref_find p nm lb nu ge _ n c es _ (h1.blk.cell 0) (h1.lt p h1.fp) (Rd.of_own h1.row) hn).mono ?_
  rw [show posI es (nm, lb, nu, ge) = (i : Int) from by unfold posI; rw [hpos]]
  rintro ex w2 ⟨rfl, hb2⟩
  have hb := hb1.trans (hb2.mono hb1.size)
  have kB := kB1.below hb2 kB1.lt
  clear h1 kB1 hb1 hb2
  obtain ⟨g, rfl, a0⟩ := h.at7 he
  have a7 := a0.below hb
  have H := hide h
  clear a0 h hb kB hpos he
  have hneg : decide ((i : Int) < 0) = false := by simp
  have p0 := a7.hd
  have c5 := a7.cell 5 (v := .int .i64 ((⟨k0, A0, l0, c0, r + 1, s⟩ : RE).r : Int)) rfl
  have c6 := a7.cell 6 (v := .int .i64 ((⟨k0, A0, l0, c0, r + 1, s⟩ : RE).s : Int)) rfl
  have c4 := a7.cell 4 (v := .slice (⟨k0, A0, l0, c0, r + 1, s⟩ : RE).A (⟨k0, A0, l0, c0, r + 1, s⟩ : RE).l.length (⟨k0, A0, l0, c0, r + 1, s⟩ : RE).c) rfl
  have f4 := a7.frozen (i * 7 + 4)
  have f5 := a7.frozen (i * 7 + 5)
  have f6 := a7.frozen (i * 7 + 6)
  have gl := a7.gl
  have pl := a7.pl
  have hiz : (i : Int) < n := by have := a7.hi; omega
  have td : decide ((0 : Int) < (r : Int) + 1) = true := decide_eq_true (by omega)
  go_wp2_with fail
  clear p0 c4 c5 c6 f4 f5 f6 gl pl hiz
  clear td
  have p0 := a7.hd
  have c5 := a7.cell 5 (v := .int .i64 ((⟨k0, A0, l0, c0, r + 1, s⟩ : RE).r : Int)) rfl
  have c6 := a7.cell 6 (v := .int .i64 ((⟨k0, A0, l0, c0, r + 1, s⟩ : RE).s : Int)) rfl
  have c4 := a7.cell 4 (v := .slice (⟨k0, A0, l0, c0, r + 1, s⟩ : RE).A (⟨k0, A0, l0, c0, r + 1, s⟩ : RE).l.length (⟨k0, A0, l0, c0, r + 1, s⟩ : RE).c) rfl
  have f4 := a7.frozen (i * 7 + 4)
  have f5 := a7.frozen (i * 7 + 5)
  have f6 := a7.frozen (i * 7 + 6)
  have gl := a7.gl
  have pl := a7.pl
  have hiz : (i : Int) < n := by have := a7.hi; omega
  have wr : IntKind.i64.wrap ((r : Int)) = (r : Int) := IntWalk.i64_in _ (by omega)
  refine wp_region_text [0, 0, 0, 0, 0, 0, 0, 0, 0, 0, 0, 0, 0, 0, 0, 0, 2] (Below w2.heap.size w2) (by kernel_rfl) (by kernel_rfl) (Below.refl _ _).drew ?_
  iterate 16 (refine wpOrd_q (v := ?_) (by rfl) (fun W hW => ?_) ?_; rotate_left; (focus ((obtain ⟨hWc, hWf⟩ := bcell hW); go_simp; try with_reducible rfl)); try simp only [Act.put, List.setIfInBounds_toArray, List.set_cons_zero, List.set_cons_succ])
  refine wpOrd_b (by rfl) (fun K hK => ?_)
  go_simp
  refine hK (fun _ => True) _ _ trivial ?_
  clear hK K
  try simp only [Act.put, List.setIfInBounds_toArray, List.set_cons_zero, List.set_cons_succ]
  refine wpOrd_nil ?_
  refine at_world (fun W => At7 w W p g n c i es (⟨k0, A0, l0, c0, r + 1, s⟩ : RE) ⟨k0, A0, l0, c0, r, s⟩) (a7.drew.store (e' := ⟨k0, A0, l0, c0, r, s⟩) (j := 5) (u := .int .i64 ((r : Nat) : Int)) (by omega) rfl rfl rfl rfl) (fun w3 a8 => ?_)
  clear wr a7
  clear p0 c4 c5 c6 f4 f5 f6 gl pl hiz
  have a7 := a8
  clear a8
  have p0 := a7.hd
  have c5 := a7.cell 5 (v := .int .i64 ((⟨k0, A0, l0, c0, r, s⟩ : RE).r : Int)) rfl
  have c6 := a7.cell 6 (v := .int .i64 ((⟨k0, A0, l0, c0, r, s⟩ : RE).s : Int)) rfl
  have c4 := a7.cell 4 (v := .slice (⟨k0, A0, l0, c0, r, s⟩ : RE).A (⟨k0, A0, l0, c0, r, s⟩ : RE).l.length (⟨k0, A0, l0, c0, r, s⟩ : RE).c) rfl
  have f4 := a7.frozen (i * 7 + 4)
  have f5 := a7.frozen (i * 7 + 5)
  have f6 := a7.frozen (i * 7 + 6)
  have gl := a7.gl
  have pl := a7.pl
  have hiz : (i : Int) < n := by have := a7.hi; omega
  have H7 := hide a7
  clear a7
  by_cases hr1 : r = 0
  · have hs1 : ((s : Int) == 0) = false := by simp; omega
    have hr2 : ((r : Int) == 0) = true := by simp; omega
    clear hr1 hz
    go_wp2
    go_returns
    exact ⟨rfl, H.out.of_at7 H7.out hl⟩
  · have hr2 : ((r : Int) == 0) = false := by simpa using hr1
    clear hz hr1
    go_wp2
    go_returns
    exact ⟨rfl, H.out.of_at7 H7.out hl⟩

set_option maxRecDepth 100000 in
set_option maxHeartbeats 4000000 in
theorem rleave_pn_gone (h : RefIn w p F es nx A n c) (hn : n ≤ 60000) {i : Nat} {k0 : PKey} {A0 : Option Addr} {l0 : List UInt8} {c0 : Nat} (hpos : pos es (nm, lb, nu, ge) = some i) (he : es[i]? = some (⟨k0, A0, l0, c0, 1, 0⟩ : RE)) (hl : l0.length ≤ 256) :
    Calls Try.prog 25 #[.pointer (some ⟨p, 0, none⟩), .bool nm, .agg #[.int .u8 (lb.toNat : Int), .int .u16 (nu.toNat : Int), .int .u16 (ge.toNat : Int)], .bool true, .bool false] w fun ex w' =>
      ex = .returned (.tuple #[]) ∧ ∃ F' A' n' c', RefIn w' p F' (es.take i ++ es.drop (i + 1)) nx A' n' c' ∧ Went w w' F F' := by
  obtain ⟨i0, hi0, i1, i2, i3⟩ := info_parts info_pipe
  go_enter Try.func25, Try.ntmps25
  go_wp2_with fail
  have hb1 : Below w.heap.size w (w.alloc (.cells #[.int .u8 (lb.toNat : Int), .int .u16 (nu.toNat : Int), .int .u16 (ge.toNat : Int)] 39)) := (Below.refl _ _).alloc (Nat.le_refl _) _
  have kB1 := Blk.new w 39 #[.int .u8 (lb.toNat : Int), .int .u16 (nu.toNat : Int), .int .u16 (ge.toNat : Int)]
  have h1 := h.below hb1
  refine (ref_find p nm lb nu ge _ n c es _ (h1.blk.cell 0) (h1.lt p h1.fp) (Rd.of_own h1.row) hn).mono ?_
  rw [show posI es (nm, lb, nu, ge) = (i : Int) from by unfold posI; rw [hpos]]
  rintro ex w2 ⟨rfl, hb2⟩
  have hb := hb1.trans (hb2.mono hb1.size)
  have kB := kB1.below hb2 kB1.lt
  clear h1 kB1 hb1 hb2
  obtain ⟨g, rfl, a0⟩ := h.at7 he
  have a7 := a0.below hb
  have H := hide h
  clear a0 h hb kB hpos he
  have hneg : decide ((i : Int) < 0) = false := by simp
  have p0 := a7.hd
  have c5 := a7.cell 5 (v := .int .i64 ((⟨k0, A0, l0, c0, 1, 0⟩ : RE).r : Int)) rfl
  have c6 := a7.cell 6 (v := .int .i64 ((⟨k0, A0, l0, c0, 1, 0⟩ : RE).s : Int)) rfl
  have c4 := a7.cell 4 (v := .slice (⟨k0, A0, l0, c0, 1, 0⟩ : RE).A (⟨k0, A0, l0, c0, 1, 0⟩ : RE).l.length (⟨k0, A0, l0, c0, 1, 0⟩ : RE).c) rfl
  have f4 := a7.frozen (i * 7 + 4)
  have f5 := a7.frozen (i * 7 + 5)
  have f6 := a7.frozen (i * 7 + 6)
  have gl := a7.gl
  have pl := a7.pl
  have hiz : (i : Int) < n := by have := a7.hi; omega
  have td : decide ((0 : Int) < (0 : Int) + 1) = true := decide_eq_true (by omega)
  go_wp2_with fail
  clear p0 c4 c5 c6 f4 f5 f6 gl pl hiz
  clear td
  have p0 := a7.hd
  have c5 := a7.cell 5 (v := .int .i64 ((⟨k0, A0, l0, c0, 1, 0⟩ : RE).r : Int)) rfl
  have c6 := a7.cell 6 (v := .int .i64 ((⟨k0, A0, l0, c0, 1, 0⟩ : RE).s : Int)) rfl
  have c4 := a7.cell 4 (v := .slice (⟨k0, A0, l0, c0, 1, 0⟩ : RE).A (⟨k0, A0, l0, c0, 1, 0⟩ : RE).l.length (⟨k0, A0, l0, c0, 1, 0⟩ : RE).c) rfl
  have f4 := a7.frozen (i * 7 + 4)
  have f5 := a7.frozen (i * 7 + 5)
  have f6 := a7.frozen (i * 7 + 6)
  have gl := a7.gl
  have pl := a7.pl
  have hiz : (i : Int) < n := by have := a7.hi; omega
  have wr : IntKind.i64.wrap ((0 : Int)) = (0 : Int) := IntWalk.i64_in _ (by omega)
  refine wp_region_text [0, 0, 0, 0, 0, 0, 0, 0, 0, 0, 0, 0, 0, 0, 0, 0, 2] (Below w2.heap.size w2) (by kernel_rfl) (by kernel_rfl) (Below.refl _ _).drew ?_
  iterate 16 (refine wpOrd_q (v := ?_) (by rfl) (fun W hW => ?_) ?_; rotate_left; (focus ((obtain ⟨hWc, hWf⟩ := bcell hW); go_simp; try with_reducible rfl)); try simp only [Act.put, List.setIfInBounds_toArray, List.set_cons_zero, List.set_cons_succ])
  refine wpOrd_b (by rfl) (fun K hK => ?_)
  go_simp
  refine hK (fun _ => True) _ _ trivial ?_
  clear hK K
  try simp only [Act.put, List.setIfInBounds_toArray, List.set_cons_zero, List.set_cons_succ]
  refine wpOrd_nil ?_
  refine at_world (fun W => At7 w W p g n c i es (⟨k0, A0, l0, c0, 1, 0⟩ : RE) ⟨k0, A0, l0, c0, 0, 0⟩) (a7.drew.store (e' := ⟨k0, A0, l0, c0, 0, 0⟩) (j := 5) (u := .int .i64 ((0 : Nat) : Int)) (by omega) rfl rfl rfl rfl) (fun w3 a8 => ?_)
  clear wr a7
  clear p0 c4 c5 c6 f4 f5 f6 gl pl hiz
  have a7 := a8
  clear a8
  have p0 := a7.hd
  have c5 := a7.cell 5 (v := .int .i64 ((⟨k0, A0, l0, c0, 0, 0⟩ : RE).r : Int)) rfl
  have c6 := a7.cell 6 (v := .int .i64 ((⟨k0, A0, l0, c0, 0, 0⟩ : RE).s : Int)) rfl
  have c4 := a7.cell 4 (v := .slice (⟨k0, A0, l0, c0, 0, 0⟩ : RE).A (⟨k0, A0, l0, c0, 0, 0⟩ : RE).l.length (⟨k0, A0, l0, c0, 0, 0⟩ : RE).c) rfl
  have f4 := a7.frozen (i * 7 + 4)
  have f5 := a7.frozen (i * 7 + 5)
  have f6 := a7.frozen (i * 7 + 6)
  have gl := a7.gl
  have pl := a7.pl
  have hiz : (i : Int) < n := by have := a7.hi; omega
  go_wp2_with fail
  obtain ⟨F6, h6, hW6⟩ := H.out.of_at7 a7 hl
  have hi := a7.hi
  have a7nc := a7.nc
  have HS := hide a7.size
  clear a7
  clear p0 c4 c5 c6 f4 f5 f6 gl pl hiz
  have p0 : w3.cell? ⟨p, 0, none⟩ = some (.slice (some ⟨g, 0, none⟩) n c) := h6.blk.cell 0
  have pf := h6.blk.frozen 0
  have pl := h6.blk.lt
  have hiz : (i : Int) ≤ n := by omega
  have hic : (i : Int) ≤ c := by have := a7nc; omega
  have R6 := Rd.of_own h6.row
  have r1 := R6.take (m := i) (by omega)
  have r2 := R6.cut (k := i + 1) (by omega) a7nc
  rw [flat7_take] at r1
  rw [flat7_drop] at r2
  obtain ⟨A2, hA2⟩ : ∃ A2, (if c = i + 1 then (some ⟨g, 0, none⟩ : Option Addr) else some ⟨g, (i + 1) * 7, none⟩) = A2 := ⟨_, rfl⟩
  have hA3 : (if c = i + 1 then (some ⟨g, 0, none⟩ : Option Addr) else (some (⟨g, 0, none⟩ : Addr)).map (·.add ((i + 1) * 7))) = A2 := by rw [← hA2]; simp [Addr.add]
  rw [hA3] at r2
  rw [show (es.set i ⟨k0, A0, l0, c0, 0, 0⟩).take i = es.take i from List.take_set_of_le (Nat.le_refl _)] at r1
  rw [show (es.set i ⟨k0, A0, l0, c0, 0, 0⟩).drop (i + 1) = es.drop (i + 1) from List.drop_set_of_lt (by omega)] at r2
  have hw1 : IntKind.i64.wrap ((i : Int) + 1) = (i : Int) + 1 := IntWalk.i64_in _ (by omega)
  have hw2 : (0 : Int) ≤ (i : Int) + 1 := by omega
  have hw3 : ((i : Int) + 1).toNat = i + 1 := by omega
  have hw4 : (i : Int) + 1 ≤ n := by omega
  clear hA3 R6
  refine wp_region_ord [0, 2, 3, 4, 5, 6, 7, 9, 10, 11, 12, 13, 14, 15, 1, 8, 16, 17, 18, 19] [0, 0, 0, 0, 0, 0, 0, 0, 0, 0, 0, 0, 0, 0, 1, 1, 1, 0, 0, 2] (Below w3.heap.size w3) (by kernel_rfl) (by kernel_rfl) (Below.refl _ _).drew ?_
  iterate 14 (refine wpOrd_q (v := ?_) (by rfl) (fun W hW => ?_) ?_; rotate_left; (focus ((obtain ⟨hWc, hWf⟩ := bcell hW); go_simp; try with_reducible rfl)); try simp only [Act.put, List.setIfInBounds_toArray, List.set_cons_zero, List.set_cons_succ])
  clear hw1 hw2 hw3 hw4 hA2 p0
  refine wpOrd_x (by rfl) (fun K hK => ?_)
  go_simp
  refine hK _ _ _ (fun _ h => h) ((Below.refl _ _).drew.alloc (Nat.le_refl _) _) ?_
  clear hK K
  try simp only [Act.put, List.setIfInBounds_toArray, List.set_cons_zero, List.set_cons_succ]
  have oa := own_lit (w := w3.drew) (base := w3.heap.size) (e := 75) (size := 7) (n := 0) (cs := #[]) rfl rfl (Nat.le_refl _) (by simp [maxLen]) rfl
  have hb3 : Below w3.heap.size w3 (w3.drew.alloc (.cells #[] 75)) := (Below.refl _ _).drew.alloc (Nat.le_refl _) _
  refine wpOrd_x (by rfl) (fun K hK => ?_)
  refine wp_append_rd _ (.tmp 94) (.tmp 100) 59 (by rfl) w3.heap.size 75 i0 (.agg #[.bool false, .int .u8 0, .int .u16 0, .int .u16 0, .slice none 0 0, .int .i64 0, .int .i64 0]) 7 48 Try.underlying59 hi0 i1 i2 i3 rfl (by decide) (.slice (some ⟨w3.heap.size, 0, none⟩) 0 0) 0 [] (by rfl) oa _ (some ⟨g, 0, none⟩) i c (flat7 (es.take i)) (by rfl) (r1.below hb3) (flat7_one _) (by simp only [maxLen]; omega) (by omega) hb3.size ?_
  intro v' w5 ho5 hg5 _ hat5
  rw [List.nil_append, Nat.zero_add] at ho5
  obtain ⟨A5, c5, rfl, hnc5, hcm5, hA5⟩ := own_form ho5
  have hb5 : Below w3.heap.size w3 w5 := hb3.trans ((Tch.grown (S := fun _ => False) hg5 hb3.size fun k hk hlt => by cases hk; exact absurd hlt (Nat.lt_irrefl _)).below fun _ _ h => h)
  refine hK _ _ _ (fun _ h => h) hb5 ?_
  clear hK K oa hg5 hat5
  try simp only [Act.put, List.setIfInBounds_toArray, List.set_cons_zero, List.set_cons_succ]
  refine wpOrd_x (by rfl) (fun K hK => ?_)
  refine wp_append_rd _ (.tmp 101) (.tmp 108) 59 (by rfl) w3.heap.size 75 i0 (.agg #[.bool false, .int .u8 0, .int .u16 0, .int .u16 0, .slice none 0 0, .int .i64 0, .int .i64 0]) 7 48 Try.underlying59 hi0 i1 i2 i3 rfl (by decide) (.slice A5 i c5) i (flat7 (es.take i)) (by rfl) ho5 _ A2 (n - (i + 1)) (c - (i + 1)) (flat7 (es.drop (i + 1))) (by rfl) (r2.below hb5) (flat7_one _) (by simp only [maxLen]; omega) (by omega) hb5.size ?_
  intro v' w6 ho6 hg6 _ hat6
  rw [← flat7_append, show i + (n - (i + 1)) = n - 1 by omega] at ho6
  obtain ⟨A6, c6, rfl, hnc6, hcm6, hA6⟩ := own_form ho6
  have hb6 : Below w3.heap.size w3 w6 := hb5.trans ((Tch.grown (S := fun _ => False) hg6 hb5.size fun k hk hlt => by have := (ho5.lt k hk).1; omega).below fun _ _ h => h)
  refine hK _ _ _ (fun _ h => h) hb6 ?_
  clear hK K
  try simp only [Act.put, List.setIfInBounds_toArray, List.set_cons_zero, List.set_cons_succ]
  iterate 2 (refine wpOrd_q (v := ?_) (by rfl) (fun W hW => ?_) ?_; rotate_left; (focus (go_simp; try with_reducible rfl)); try simp only [Act.put, List.setIfInBounds_toArray, List.set_cons_zero, List.set_cons_succ])
  have b6 := h6.blk.below hb6 h6.blk.lt
  have bl6 := b6.lt
  have bf6 := b6.frozen 0
  have bc6 := b6.cell 0
  refine wpOrd_b (by rfl) (fun K hK => ?_)
  go_simp
  refine hK (fun _ => True) _ _ trivial ?_
  clear hK K
  try simp only [Act.put, List.setIfInBounds_toArray, List.set_cons_zero, List.set_cons_succ]
  refine wpOrd_nil ?_
  go_wp2
  go_returns
  obtain ⟨F7, h7, hW7⟩ := h6.gone (A' := A6) (n' := n - 1) (c' := c6) (i := i) (w' := w6.setCell ⟨p, 0, none⟩ (.slice A6 (n - 1) c6))
    ((Tch.of_below hb6).trans (Tch.setCell fun _ => rfl)) (by have := b6.set_ 0 (.slice A6 (n - 1) c6); rwa [rcells_set0] at this)
    (by
      rw [show (es.set i ⟨k0, A0, l0, c0, 0, 0⟩).take i = es.take i from List.take_set_of_le (Nat.le_refl _), show (es.set i ⟨k0, A0, l0, c0, 0, 0⟩).drop (i + 1) = es.drop (i + 1) from List.drop_set_of_lt (by omega)]
      exact ownsRow_setCell_other (own_mono ho6 (Nat.zero_le _)) (blk_not_own b6 ho6 (by decide)) _)
    (fun x hx => (ho6.lt x hx).1)
  rw [show (es.set i ⟨k0, A0, l0, c0, 0, 0⟩).take i = es.take i from List.take_set_of_le (Nat.le_refl _), show (es.set i ⟨k0, A0, l0, c0, 0, 0⟩).drop (i + 1) = es.drop (i + 1) from List.drop_set_of_lt (by omega)] at h7
  exact ⟨rfl, F7, _, _, _, h7, Went.trans_ hW6 hW7⟩

set_option maxRecDepth 100000 in
set_option maxHeartbeats 4000000 in
theorem rleave_pz_stay (h : RefIn w p F es nx A n c) (hn : n ≤ 60000) {i : Nat} {k0 : PKey} {A0 : Option Addr} {l0 : List UInt8} {c0 : Nat} {r : Nat} (hpos : pos es (nm, lb, nu, ge) = some i) (he : es[i]? = some (⟨k0, A0, l0, c0, r + 1, 0⟩ : RE)) (hr : r + 1 < 60000) (hz : ¬ (r + 0 = 0)) (hl : l0.length ≤ 256) :
    Calls Try.prog 25 #[.pointer (some ⟨p, 0, none⟩), .bool nm, .agg #[.int .u8 (lb.toNat : Int), .int .u16 (nu.toNat : Int), .int .u16 (ge.toNat : Int)], .bool true, .bool true] w fun ex w' =>
      ex = .returned (.tuple #[]) ∧ ∃ F', RefIn w' p F' (es.set i ⟨k0, A0, l0, c0, r, 0⟩) nx A n c ∧ Went w w' F F' := by
  go_enter Try.func25, Try.ntmps25
  go_wp2_with fail
  have hb1 : Below w.heap.size w (w.alloc (.cells #[.int .u8 (lb.toNat : Int), .int .u16 (nu.toNat : Int), .int .u16 (ge.toNat : Int)] 39)) := (Below.refl _ _).alloc (Nat.le_refl _) _
  have kB1 := Blk.new w 39 #[.int .u8 (lb.toNat : Int), .int .u16 (nu.toNat : Int), .int .u16 (ge.toNat : Int)]
  have h1 := h.below hb1
  refine (ref_find p nm lb nu ge _ n c es _ (h1.blk.cell 0) (h1.lt p h1.fp) (Rd.of_own h1.row) hn).mono ?_
  rw [show posI es (nm, lb, nu, ge) = (i : Int) from by unfold posI; rw [hpos]]
  rintro ex w2 ⟨rfl, hb2⟩
  have hb := hb1.trans (hb2.mono hb1.size)
  have kB := kB1.below hb2 kB1.lt
  clear h1 kB1 hb1 hb2
  obtain ⟨g, rfl, a0⟩ := h.at7 he
  have a7 := a0.below hb
  have H := hide h
  clear a0 h hb kB hpos he
  have hneg : decide ((i : Int) < 0) = false := by simp
  have p0 := a7.hd
  have c5 := a7.cell 5 (v := .int .i64 ((⟨k0, A0, l0, c0, r + 1, 0⟩ : RE).r : Int)) rfl
  have c6 := a7.cell 6 (v := .int .i64 ((⟨k0, A0, l0, c0, r + 1, 0⟩ : RE).s : Int)) rfl
  have c4 := a7.cell 4 (v := .slice (⟨k0, A0, l0, c0, r + 1, 0⟩ : RE).A (⟨k0, A0, l0, c0, r + 1, 0⟩ : RE).l.length (⟨k0, A0, l0, c0, r + 1, 0⟩ : RE).c) rfl
  have f4 := a7.frozen (i * 7 + 4)
  have f5 := a7.frozen (i * 7 + 5)
  have f6 := a7.frozen (i * 7 + 6)
  have gl := a7.gl
  have pl := a7.pl
  have hiz : (i : Int) < n := by have := a7.hi; omega
  have td : decide ((0 : Int) < (r : Int) + 1) = true := decide_eq_true (by omega)
  go_wp2_with fail
  clear p0 c4 c5 c6 f4 f5 f6 gl pl hiz
  clear td
  have p0 := a7.hd
  have c5 := a7.cell 5 (v := .int .i64 ((⟨k0, A0, l0, c0, r + 1, 0⟩ : RE).r : Int)) rfl
  have c6 := a7.cell 6 (v := .int .i64 ((⟨k0, A0, l0, c0, r + 1, 0⟩ : RE).s : Int)) rfl
  have c4 := a7.cell 4 (v := .slice (⟨k0, A0, l0, c0, r + 1, 0⟩ : RE).A (⟨k0, A0, l0, c0, r + 1, 0⟩ : RE).l.length (⟨k0, A0, l0, c0, r + 1, 0⟩ : RE).c) rfl
  have f4 := a7.frozen (i * 7 + 4)
  have f5 := a7.frozen (i * 7 + 5)
  have f6 := a7.frozen (i * 7 + 6)
  have gl := a7.gl
  have pl := a7.pl
  have hiz : (i : Int) < n := by have := a7.hi; omega
  have wr : IntKind.i64.wrap ((r : Int)) = (r : Int) := IntWalk.i64_in _ (by omega)
  refine wp_region_text [0, 0, 0, 0, 0, 0, 0, 0, 0, 0, 0, 0, 0, 0, 0, 0, 2] (Below w2.heap.size w2) (by kernel_rfl) (by kernel_rfl) (Below.refl _ _).drew ?_
  iterate 16 (refine wpOrd_q (v := ?_) (by rfl) (fun W hW => ?_) ?_; rotate_left; (focus ((obtain ⟨hWc, hWf⟩ := bcell hW); go_simp; try with_reducible rfl)); try simp only [Act.put, List.setIfInBounds_toArray, List.set_cons_zero, List.set_cons_succ])
  refine wpOrd_b (by rfl) (fun K hK => ?_)
  go_simp
  refine hK (fun _ => True) _ _ trivial ?_
  clear hK K
  try simp only [Act.put, List.setIfInBounds_toArray, List.set_cons_zero, List.set_cons_succ]
  refine wpOrd_nil ?_
  refine at_world (fun W => At7 w W p g n c i es (⟨k0, A0, l0, c0, r + 1, 0⟩ : RE) ⟨k0, A0, l0, c0, r, 0⟩) (a7.drew.store (e' := ⟨k0, A0, l0, c0, r, 0⟩) (j := 5) (u := .int .i64 ((r : Nat) : Int)) (by omega) rfl rfl rfl rfl) (fun w3 a8 => ?_)
  clear wr a7
  clear p0 c4 c5 c6 f4 f5 f6 gl pl hiz
  have a7 := a8
  clear a8
  have p0 := a7.hd
  have c5 := a7.cell 5 (v := .int .i64 ((⟨k0, A0, l0, c0, r, 0⟩ : RE).r : Int)) rfl
  have c6 := a7.cell 6 (v := .int .i64 ((⟨k0, A0, l0, c0, r, 0⟩ : RE).s : Int)) rfl
  have c4 := a7.cell 4 (v := .slice (⟨k0, A0, l0, c0, r, 0⟩ : RE).A (⟨k0, A0, l0, c0, r, 0⟩ : RE).l.length (⟨k0, A0, l0, c0, r, 0⟩ : RE).c) rfl
  have f4 := a7.frozen (i * 7 + 4)
  have f5 := a7.frozen (i * 7 + 5)
  have f6 := a7.frozen (i * 7 + 6)
  have gl := a7.gl
  have pl := a7.pl
  have hiz : (i : Int) < n := by have := a7.hi; omega
  have H7 := hide a7
  clear a7
  · have hr2 : ((r : Int) == 0) = false := by simp; omega
    clear hz
    go_wp2
    go_returns
    exact ⟨rfl, H.out.of_at7 H7.out hl⟩

set_option maxRecDepth 100000 in
set_option maxHeartbeats 4000000 in
theorem rleave_pz_gone (h : RefIn w p F es nx A n c) (hn : n ≤ 60000) {i : Nat} {k0 : PKey} {A0 : Option Addr} {l0 : List UInt8} {c0 : Nat} (hpos : pos es (nm, lb, nu, ge) = some i) (he : es[i]? = some (⟨k0, A0, l0, c0, 1, 0⟩ : RE)) (hl : l0.length ≤ 256) :
    Calls Try.prog 25 #[.pointer (some ⟨p, 0, none⟩), .bool nm, .agg #[.int .u8 (lb.toNat : Int), .int .u16 (nu.toNat : Int), .int .u16 (ge.toNat : Int)], .bool true, .bool true] w fun ex w' =>
      ex = .returned (.tuple #[]) ∧ ∃ F' A' n' c', RefIn w' p F' (es.take i ++ es.drop (i + 1)) nx A' n' c' ∧ Went w w' F F' := by
  obtain ⟨i0, hi0, i1, i2, i3⟩ := info_parts info_pipe
  go_enter Try.func25, Try.ntmps25
  go_wp2_with fail
  have hb1 : Below w.heap.size w (w.alloc (.cells #[.int .u8 (lb.toNat : Int), .int .u16 (nu.toNat : Int), .int .u16 (ge.toNat : Int)] 39)) := (Below.refl _ _).alloc (Nat.le_refl _) _
  have kB1 := Blk.new w 39 #[.int .u8 (lb.toNat : Int), .int .u16 (nu.toNat : Int), .int .u16 (ge.toNat : Int)]
  have h1 := h.below hb1
  refine (ref_find p nm lb nu ge _ n c es _ (h1.blk.cell 0) (h1.lt p h1.fp) (Rd.of_own h1.row) hn).mono ?_
  rw [show posI es (nm, lb, nu, ge) = (i : Int) from by unfold posI; rw [hpos]]
  rintro ex w2 ⟨rfl, hb2⟩
  have hb := hb1.trans (hb2.mono hb1.size)
  have kB := kB1.below hb2 kB1.lt
  clear h1 kB1 hb1 hb2
  obtain ⟨g, rfl, a0⟩ := h.at7 he
  have a7 := a0.below hb
  have H := hide h
  clear a0 h hb kB hpos he
  have hneg : decide ((i : Int) < 0) = false := by simp
  have p0 := a7.hd
  have c5 := a7.cell 5 (v := .int .i64 ((⟨k0, A0, l0, c0, 1, 0⟩ : RE).r : Int)) rfl
  have c6 := a7.cell 6 (v := .int .i64 ((⟨k0, A0, l0, c0, 1, 0⟩ : RE).s : Int)) rfl
  have c4 := a7.cell 4 (v := .slice (⟨k0, A0, l0, c0, 1, 0⟩ : RE).A (⟨k0, A0, l0, c0, 1, 0⟩ : RE).l.length (⟨k0, A0, l0, c0, 1, 0⟩ : RE).c) rfl
  have f4 := a7.frozen (i * 7 + 4)
  have f5 := a7.frozen (i * 7 + 5)
  have f6 := a7.frozen (i * 7 + 6)
  have gl := a7.gl
  have pl := a7.pl
  have hiz : (i : Int) < n := by have := a7.hi; omega
  have td : decide ((0 : Int) < (0 : Int) + 1) = true := decide_eq_true (by omega)
  go_wp2_with fail
  clear p0 c4 c5 c6 f4 f5 f6 gl pl hiz
  clear td
  have p0 := a7.hd
  have c5 := a7.cell 5 (v := .int .i64 ((⟨k0, A0, l0, c0, 1, 0⟩ : RE).r : Int)) rfl
  have c6 := a7.cell 6 (v := .int .i64 ((⟨k0, A0, l0, c0, 1, 0⟩ : RE).s : Int)) rfl
  have c4 := a7.cell 4 (v := .slice (⟨k0, A0, l0, c0, 1, 0⟩ : RE).A (⟨k0, A0, l0, c0, 1, 0⟩ : RE).l.length (⟨k0, A0, l0, c0, 1, 0⟩ : RE).c) rfl
  have f4 := a7.frozen (i * 7 + 4)
  have f5 := a7.frozen (i * 7 + 5)
  have f6 := a7.frozen (i * 7 + 6)
  have gl := a7.gl
  have pl := a7.pl
  have hiz : (i : Int) < n := by have := a7.hi; omega
  have wr : IntKind.i64.wrap ((0 : Int)) = (0 : Int) := IntWalk.i64_in _ (by omega)
  refine wp_region_text [0, 0, 0, 0, 0, 0, 0, 0, 0, 0, 0, 0, 0, 0, 0, 0, 2] (Below w2.heap.size w2) (by kernel_rfl) (by kernel_rfl) (Below.refl _ _).drew ?_
  iterate 16 (refine wpOrd_q (v := ?_) (by rfl) (fun W hW => ?_) ?_; rotate_left; (focus ((obtain ⟨hWc, hWf⟩ := bcell hW); go_simp; try with_reducible rfl)); try simp only [Act.put, List.setIfInBounds_toArray, List.set_cons_zero, List.set_cons_succ])
  refine wpOrd_b (by rfl) (fun K hK => ?_)
  go_simp
  refine hK (fun _ => True) _ _ trivial ?_
  clear hK K
  try simp only [Act.put, List.setIfInBounds_toArray, List.set_cons_zero, List.set_cons_succ]
  refine wpOrd_nil ?_
  refine at_world (fun W => At7 w W p g n c i es (⟨k0, A0, l0, c0, 1, 0⟩ : RE) ⟨k0, A0, l0, c0, 0, 0⟩) (a7.drew.store (e' := ⟨k0, A0, l0, c0, 0, 0⟩) (j := 5) (u := .int .i64 ((0 : Nat) : Int)) (by omega) rfl rfl rfl rfl) (fun w3 a8 => ?_)
  clear wr a7
  clear p0 c4 c5 c6 f4 f5 f6 gl pl hiz
  have a7 := a8
  clear a8
  have p0 := a7.hd
  have c5 := a7.cell 5 (v := .int .i64 ((⟨k0, A0, l0, c0, 0, 0⟩ : RE).r : Int)) rfl
  have c6 := a7.cell 6 (v := .int .i64 ((⟨k0, A0, l0, c0, 0, 0⟩ : RE).s : Int)) rfl
  have c4 := a7.cell 4 (v := .slice (⟨k0, A0, l0, c0, 0, 0⟩ : RE).A (⟨k0, A0, l0, c0, 0, 0⟩ : RE).l.length (⟨k0, A0, l0, c0, 0, 0⟩ : RE).c) rfl
  have f4 := a7.frozen (i * 7 + 4)
  have f5 := a7.frozen (i * 7 + 5)
  have f6 := a7.frozen (i * 7 + 6)
  have gl := a7.gl
  have pl := a7.pl
  have hiz : (i : Int) < n := by have := a7.hi; omega
  go_wp2_with fail
  obtain ⟨F6, h6, hW6⟩ := H.out.of_at7 a7 hl
  have hi := a7.hi
  have a7nc := a7.nc
  have HS := hide a7.size
  clear a7
  clear p0 c4 c5 c6 f4 f5 f6 gl pl hiz
  have p0 : w3.cell? ⟨p, 0, none⟩ = some (.slice (some ⟨g, 0, none⟩) n c) := h6.blk.cell 0
  have pf := h6.blk.frozen 0
  have pl := h6.blk.lt
  have hiz : (i : Int) ≤ n := by omega
  have hic : (i : Int) ≤ c := by have := a7nc; omega
  have R6 := Rd.of_own h6.row
  have r1 := R6.take (m := i) (by omega)
  have r2 := R6.cut (k := i + 1) (by omega) a7nc
  rw [flat7_take] at r1
  rw [flat7_drop] at r2
  obtain ⟨A2, hA2⟩ : ∃ A2, (if c = i + 1 then (some ⟨g, 0, none⟩ : Option Addr) else some ⟨g, (i + 1) * 7, none⟩) = A2 := ⟨_, rfl⟩
  have hA3 : (if c = i + 1 then (some ⟨g, 0, none⟩ : Option Addr) else (some (⟨g, 0, none⟩ : Addr)).map (·.add ((i + 1) * 7))) = A2 := by rw [← hA2]; simp [Addr.add]
  rw [hA3] at r2
  rw [show (es.set i ⟨k0, A0, l0, c0, 0, 0⟩).take i = es.take i from List.take_set_of_le (Nat.le_refl _)] at r1
  rw [show (es.set i ⟨k0, A0, l0, c0, 0, 0⟩).drop (i + 1) = es.drop (i + 1) from List.drop_set_of_lt (by omega)] at r2
  have hw1 : IntKind.i64.wrap ((i : Int) + 1) = (i : Int) + 1 := IntWalk.i64_in _ (by omega)
  have hw2 : (0 : Int) ≤ (i : Int) + 1 := by omega
  have hw3 : ((i : Int) + 1).toNat = i + 1 := by omega
  have hw4 : (i : Int) + 1 ≤ n := by omega
  clear hA3 R6
  refine wp_region_ord [0, 2, 3, 4, 5, 6, 7, 9, 10, 11, 12, 13, 14, 15, 1, 8, 16, 17, 18, 19] [0, 0, 0, 0, 0, 0, 0, 0, 0, 0, 0, 0, 0, 0, 1, 1, 1, 0, 0, 2] (Below w3.heap.size w3) (by kernel_rfl) (by kernel_rfl) (Below.refl _ _).drew ?_
  iterate 14 (refine wpOrd_q (v := ?_) (by rfl) (fun W hW => ?_) ?_; rotate_left; (focus ((obtain ⟨hWc, hWf⟩ := bcell hW); go_simp; try with_reducible rfl)); try simp only [Act.put, List.setIfInBounds_toArray, List.set_cons_zero, List.set_cons_succ])
  clear hw1 hw2 hw3 hw4 hA2 p0
  refine wpOrd_x (by rfl) (fun K hK => ?_)
  go_simp
  refine hK _ _ _ (fun _ h => h) ((Below.refl _ _).drew.alloc (Nat.le_refl _) _) ?_
  clear hK K
  try simp only [Act.put, List.setIfInBounds_toArray, List.set_cons_zero, List.set_cons_succ]
  have oa := own_lit (w := w3.drew) (base := w3.heap.size) (e := 75) (size := 7) (n := 0) (cs := #[]) rfl rfl (Nat.le_refl _) (by simp [maxLen]) rfl
  have hb3 : Below w3.heap.size w3 (w3.drew.alloc (.cells #[] 75)) := (Below.refl _ _).drew.alloc (Nat.le_refl _) _
  refine wpOrd_x (by rfl) (fun K hK => ?_)
  refine wp_append_rd _ (.tmp 94) (.tmp 100) 59 (by rfl) w3.heap.size 75 i0 (.agg #[.bool false, .int .u8 0, .int .u16 0, .int .u16 0, .slice none 0 0, .int .i64 0, .int .i64 0]) 7 48 Try.underlying59 hi0 i1 i2 i3 rfl (by decide) (.slice (some ⟨w3.heap.size, 0, none⟩) 0 0) 0 [] (by rfl) oa _ (some ⟨g, 0, none⟩) i c (flat7 (es.take i)) (by rfl) (r1.below hb3) (flat7_one _) (by simp only [maxLen]; omega) (by omega) hb3.size ?_
  intro v' w5 ho5 hg5 _ hat5
  rw [List.nil_append, Nat.zero_add] at ho5
  obtain ⟨A5, c5, rfl, hnc5, hcm5, hA5⟩ := own_form ho5
  have hb5 : Below w3.heap.size w3 w5 := hb3.trans ((Tch.grown (S := fun _ => False) hg5 hb3.size fun k hk hlt => by cases hk; exact absurd hlt (Nat.lt_irrefl _)).below fun _ _ h => h)
  refine hK _ _ _ (fun _ h => h) hb5 ?_
  clear hK K oa hg5 hat5
  try simp only [Act.put, List.setIfInBounds_toArray, List.set_cons_zero, List.set_cons_succ]
  refine wpOrd_x (by rfl) (fun K hK => ?_)
  refine wp_append_rd _ (.tmp 101) (.tmp 108) 59 (by rfl) w3.heap.size 75 i0 (.agg #[.bool false, .int .u8 0, .int .u16 0, .int .u16 0, .slice none 0 0, .int .i64 0, .int .i64 0]) 7 48 Try.underlying59 hi0 i1 i2 i3 rfl (by decide) (.slice A5 i c5) i (flat7 (es.take i)) (by rfl) ho5 _ A2 (n - (i + 1)) (c - (i + 1)) (flat7 (es.drop (i + 1))) (by rfl) (r2.below hb5) (flat7_one _) (by simp only [maxLen]; omega) (by omega) hb5.size ?_
  intro v' w6 ho6 hg6 _ hat6
  rw [← flat7_append, show i + (n - (i + 1)) = n - 1 by omega] at ho6
  obtain ⟨A6, c6, rfl, hnc6, hcm6, hA6⟩ := own_form ho6
  have hb6 : Below w3.heap.size w3 w6 := hb5.trans ((Tch.grown (S := fun _ => False) hg6 hb5.size fun k hk hlt => by have := (ho5.lt k hk).1; omega).below fun _ _ h => h)
  refine hK _ _ _ (fun _ h => h) hb6 ?_
  clear hK K
  try simp only [Act.put, List.setIfInBounds_toArray, List.set_cons_zero, List.set_cons_succ]
  iterate 2 (refine wpOrd_q (v := ?_) (by rfl) (fun W hW => ?_) ?_; rotate_left; (focus (go_simp; try with_reducible rfl)); try simp only [Act.put, List.setIfInBounds_toArray, List.set_cons_zero, List.set_cons_succ])
  have b6 := h6.blk.below hb6 h6.blk.lt
  have bl6 := b6.lt
  have bf6 := b6.frozen 0
  have bc6 := b6.cell 0
  refine wpOrd_b (by rfl) (fun K hK => ?_)
  go_simp
  refine hK (fun _ => True) _ _ trivial ?_
  clear hK K
  try simp only [Act.put, List.setIfInBounds_toArray, List.set_cons_zero, List.set_cons_succ]
  refine wpOrd_nil ?_
  go_wp2
  go_returns
  obtain ⟨F7, h7, hW7⟩ := h6.gone (A' := A6) (n' := n - 1) (c' := c6) (i := i) (w' := w6.setCell ⟨p, 0, none⟩ (.slice A6 (n - 1) c6))
    ((Tch.of_below hb6).trans (Tch.setCell fun _ => rfl)) (by have := b6.set_ 0 (.slice A6 (n - 1) c6); rwa [rcells_set0] at this)
    (by
      rw [show (es.set i ⟨k0, A0, l0, c0, 0, 0⟩).take i = es.take i from List.take_set_of_le (Nat.le_refl _), show (es.set i ⟨k0, A0, l0, c0, 0, 0⟩).drop (i + 1) = es.drop (i + 1) from List.drop_set_of_lt (by omega)]
      exact ownsRow_setCell_other (own_mono ho6 (Nat.zero_le _)) (blk_not_own b6 ho6 (by decide)) _)
    (fun x hx => (ho6.lt x hx).1)
  rw [show (es.set i ⟨k0, A0, l0, c0, 0, 0⟩).take i = es.take i from List.take_set_of_le (Nat.le_refl _), show (es.set i ⟨k0, A0, l0, c0, 0, 0⟩).drop (i + 1) = es.drop (i + 1) from List.drop_set_of_lt (by omega)] at h7
  exact ⟨rfl, F7, _, _, _, h7, Went.trans_ hW6 hW7⟩

set_option maxRecDepth 100000 in
set_option maxHeartbeats 4000000 in
theorem rleave_pp_stay (h : RefIn w p F es nx A n c) (hn : n ≤ 60000) {i : Nat} {k0 : PKey} {A0 : Option Addr} {l0 : List UInt8} {c0 : Nat} {r : Nat} {s : Nat} (hpos : pos es (nm, lb, nu, ge) = some i) (he : es[i]? = some (⟨k0, A0, l0, c0, r + 1, s + 1⟩ : RE)) (hr : r + 1 < 60000) (hs : s + 1 < 60000) (hz : ¬ (r + s = 0)) (hl : l0.length ≤ 256) :
    Calls Try.prog 25 #[.pointer (some ⟨p, 0, none⟩), .bool nm, .agg #[.int .u8 (lb.toNat : Int), .int .u16 (nu.toNat : Int), .int .u16 (ge.toNat : Int)], .bool true, .bool true] w fun ex w' =>
      ex = .returned (.tuple #[]) ∧ ∃ F', RefIn w' p F' (es.set i ⟨k0, A0, l0, c0, r, s⟩) nx A n c ∧ Went w w' F F' := by
  go_enter Try.func25, Try.ntmps25
  go_wp2_with fail
  have hb1 : Below w.heap.size w (w.alloc (.cells #[.int .u8 (lb.toNat : Int), .int .u16 (nu.toNat : Int), .int .u16 (ge.toNat : Int)] 39)) := (Below.refl _ _).alloc (Nat.le_refl _) _
  have kB1 := Blk.new w 39 #[.int .u8 (lb.toNat : Int), .int .u16 (nu.toNat : Int), .int .u16 (ge.toNat : Int)]
  have h1 := h.below hb1
  refine (ref_find p nm lb nu ge _ n c es _ (h1.blk.cell 0) (h1.lt p h1.fp) (Rd.of_own h1.row) hn).mono ?_
  rw [show posI es (nm, lb, nu, ge) = (i : Int) from by unfold posI; rw [hpos]]
  rintro ex w2 ⟨rfl, hb2⟩
  have hb := hb1.trans (hb2.mono hb1.size)
  have kB := kB1.below hb2 kB1.lt
  clear h1 kB1 hb1 hb2
  obtain ⟨g, rfl, a0⟩ := h.at7 he
  have a7 := a0.below hb
  have H := hide h
  clear a0 h hb kB hpos he
  have hneg : decide ((i : Int) < 0) = false := by simp
  have p0 := a7.hd
  have c5 := a7.cell 5 (v := .int .i64 ((⟨k0, A0, l0, c0, r + 1, s + 1⟩ : RE).r : Int)) rfl
  have c6 := a7.cell 6 (v := .int .i64 ((⟨k0, A0, l0, c0, r + 1, s + 1⟩ : RE).s : Int)) rfl
  have c4 := a7.cell 4 (v := .slice (⟨k0, A0, l0, c0, r + 1, s + 1⟩ : RE).A (⟨k0, A0, l0, c0, r + 1, s + 1⟩ : RE).l.length (⟨k0, A0, l0, c0, r + 1, s + 1⟩ : RE).c) rfl
  have f4 := a7.frozen (i * 7 + 4)
  have f5 := a7.frozen (i * 7 + 5)
  have f6 := a7.frozen (i * 7 + 6)
  have gl := a7.gl
  have pl := a7.pl
  have hiz : (i : Int) < n := by have := a7.hi; omega
  have td : decide ((0 : Int) < (r : Int) + 1) = true := decide_eq_true (by omega)
  go_wp2_with fail
  clear p0 c4 c5 c6 f4 f5 f6 gl pl hiz
  clear td
  have p0 := a7.hd
  have c5 := a7.cell 5 (v := .int .i64 ((⟨k0, A0, l0, c0, r + 1, s + 1⟩ : RE).r : Int)) rfl
  have c6 := a7.cell 6 (v := .int .i64 ((⟨k0, A0, l0, c0, r + 1, s + 1⟩ : RE).s : Int)) rfl
  have c4 := a7.cell 4 (v := .slice (⟨k0, A0, l0, c0, r + 1, s + 1⟩ : RE).A (⟨k0, A0, l0, c0, r + 1, s + 1⟩ : RE).l.length (⟨k0, A0, l0, c0, r + 1, s + 1⟩ : RE).c) rfl
  have f4 := a7.frozen (i * 7 + 4)
  have f5 := a7.frozen (i * 7 + 5)
  have f6 := a7.frozen (i * 7 + 6)
  have gl := a7.gl
  have pl := a7.pl
  have hiz : (i : Int) < n := by have := a7.hi; omega
  have wr : IntKind.i64.wrap ((r : Int)) = (r : Int) := IntWalk.i64_in _ (by omega)
  refine wp_region_text [0, 0, 0, 0, 0, 0, 0, 0, 0, 0, 0, 0, 0, 0, 0, 0, 2] (Below w2.heap.size w2) (by kernel_rfl) (by kernel_rfl) (Below.refl _ _).drew ?_
  iterate 16 (refine wpOrd_q (v := ?_) (by rfl) (fun W hW => ?_) ?_; rotate_left; (focus ((obtain ⟨hWc, hWf⟩ := bcell hW); go_simp; try with_reducible rfl)); try simp only [Act.put, List.setIfInBounds_toArray, List.set_cons_zero, List.set_cons_succ])
  refine wpOrd_b (by rfl) (fun K hK => ?_)
  go_simp
  refine hK (fun _ => True) _ _ trivial ?_
  clear hK K
  try simp only [Act.put, List.setIfInBounds_toArray, List.set_cons_zero, List.set_cons_succ]
  refine wpOrd_nil ?_
  refine at_world (fun W => At7 w W p g n c i es (⟨k0, A0, l0, c0, r + 1, s + 1⟩ : RE) ⟨k0, A0, l0, c0, r, s + 1⟩) (a7.drew.store (e' := ⟨k0, A0, l0, c0, r, s + 1⟩) (j := 5) (u := .int .i64 ((r : Nat) : Int)) (by omega) rfl rfl rfl rfl) (fun w3 a8 => ?_)
  clear wr a7
  clear p0 c4 c5 c6 f4 f5 f6 gl pl hiz
  have a7 := a8
  clear a8
  have p0 := a7.hd
  have c5 := a7.cell 5 (v := .int .i64 ((⟨k0, A0, l0, c0, r, s + 1⟩ : RE).r : Int)) rfl
  have c6 := a7.cell 6 (v := .int .i64 ((⟨k0, A0, l0, c0, r, s + 1⟩ : RE).s : Int)) rfl
  have c4 := a7.cell 4 (v := .slice (⟨k0, A0, l0, c0, r, s + 1⟩ : RE).A (⟨k0, A0, l0, c0, r, s + 1⟩ : RE).l.length (⟨k0, A0, l0, c0, r, s + 1⟩ : RE).c) rfl
  have f4 := a7.frozen (i * 7 + 4)
  have f5 := a7.frozen (i * 7 + 5)
  have f6 := a7.frozen (i * 7 + 6)
  have gl := a7.gl
  have pl := a7.pl
  have hiz : (i : Int) < n := by have := a7.hi; omega
  have td : decide ((0 : Int) < (s : Int) + 1) = true := decide_eq_true (by omega)
  go_wp2_with fail
  clear p0 c4 c5 c6 f4 f5 f6 gl pl hiz
  clear td
  have p0 := a7.hd
  have c5 := a7.cell 5 (v := .int .i64 ((⟨k0, A0, l0, c0, r, s + 1⟩ : RE).r : Int)) rfl
  have c6 := a7.cell 6 (v := .int .i64 ((⟨k0, A0, l0, c0, r, s + 1⟩ : RE).s : Int)) rfl
  have c4 := a7.cell 4 (v := .slice (⟨k0, A0, l0, c0, r, s + 1⟩ : RE).A (⟨k0, A0, l0, c0, r, s + 1⟩ : RE).l.length (⟨k0, A0, l0, c0, r, s + 1⟩ : RE).c) rfl
  have f4 := a7.frozen (i * 7 + 4)
  have f5 := a7.frozen (i * 7 + 5)
  have f6 := a7.frozen (i * 7 + 6)
  have gl := a7.gl
  have pl := a7.pl
  have hiz : (i : Int) < n := by have := a7.hi; omega
  have wr : IntKind.i64.wrap ((s : Int)) = (s : Int) := IntWalk.i64_in _ (by omega)
  refine wp_region_text [0, 0, 0, 0, 0, 0, 0, 0, 0, 0, 0, 0, 0, 0, 0, 0, 2] (Below w3.heap.size w3) (by kernel_rfl) (by kernel_rfl) (Below.refl _ _).drew ?_
  iterate 16 (refine wpOrd_q (v := ?_) (by rfl) (fun W hW => ?_) ?_; rotate_left; (focus ((obtain ⟨hWc, hWf⟩ := bcell hW); go_simp; try with_reducible rfl)); try simp only [Act.put, List.setIfInBounds_toArray, List.set_cons_zero, List.set_cons_succ])
  refine wpOrd_b (by rfl) (fun K hK => ?_)
  go_simp
  refine hK (fun _ => True) _ _ trivial ?_
  clear hK K
  try simp only [Act.put, List.setIfInBounds_toArray, List.set_cons_zero, List.set_cons_succ]
  refine wpOrd_nil ?_
  refine at_world (fun W => At7 w W p g n c i es (⟨k0, A0, l0, c0, r + 1, s + 1⟩ : RE) ⟨k0, A0, l0, c0, r, s⟩) (a7.drew.store (e' := ⟨k0, A0, l0, c0, r, s⟩) (j := 6) (u := .int .i64 ((s : Nat) : Int)) (by omega) rfl rfl rfl rfl) (fun w4 a8 => ?_)
  clear wr a7
  clear p0 c4 c5 c6 f4 f5 f6 gl pl hiz
  have a7 := a8
  clear a8
  have p0 := a7.hd
  have c5 := a7.cell 5 (v := .int .i64 ((⟨k0, A0, l0, c0, r, s⟩ : RE).r : Int)) rfl
  have c6 := a7.cell 6 (v := .int .i64 ((⟨k0, A0, l0, c0, r, s⟩ : RE).s : Int)) rfl
  have c4 := a7.cell 4 (v := .slice (⟨k0, A0, l0, c0, r, s⟩ : RE).A (⟨k0, A0, l0, c0, r, s⟩ : RE).l.length (⟨k0, A0, l0, c0, r, s⟩ : RE).c) rfl
  have f4 := a7.frozen (i * 7 + 4)
  have f5 := a7.frozen (i * 7 + 5)
  have f6 := a7.frozen (i * 7 + 6)
  have gl := a7.gl
  have pl := a7.pl
  have hiz : (i : Int) < n := by have := a7.hi; omega
  have H7 := hide a7
  clear a7
  by_cases hr1 : r = 0
  · have hs1 : ((s : Int) == 0) = false := by simp; omega
    have hr2 : ((r : Int) == 0) = true := by simp; omega
    clear hr1 hz
    go_wp2
    go_returns
    exact ⟨rfl, H.out.of_at7 H7.out hl⟩
  · have hr2 : ((r : Int) == 0) = false := by simpa using hr1
    clear hz hr1
    go_wp2
    go_returns
    exact ⟨rfl, H.out.of_at7 H7.out hl⟩

set_option maxRecDepth 100000 in
set_option maxHeartbeats 4000000 in
theorem rleave_pp_gone (h : RefIn w p F es nx A n c) (hn : n ≤ 60000) {i : Nat} {k0 : PKey} {A0 : Option Addr} {l0 : List UInt8} {c0 : Nat} (hpos : pos es (nm, lb, nu, ge) = some i) (he : es[i]? = some (⟨k0, A0, l0, c0, 1, 1⟩ : RE)) (hl : l0.length ≤ 256) :
    Calls Try.prog 25 #[.pointer (some ⟨p, 0, none⟩), .bool nm, .agg #[.int .u8 (lb.toNat : Int), .int .u16 (nu.toNat : Int), .int .u16 (ge.toNat : Int)], .bool true, .bool true] w fun ex w' =>
      ex = .returned (.tuple #[]) ∧ ∃ F' A' n' c', RefIn w' p F' (es.take i ++ es.drop (i + 1)) nx A' n' c' ∧ Went w w' F F' := by
  obtain ⟨i0, hi0, i1, i2, i3⟩ := info_parts info_pipe
  go_enter Try.func25, Try.ntmps25
  go_wp2_with fail
  have hb1 : Below w.heap.size w (w.alloc (.cells #[.int .u8 (lb.toNat : Int), .int .u16 (nu.toNat : Int), .int .u16 (ge.toNat : Int)] 39)) := (Below.refl _ _).alloc (Nat.le_refl _) _
  have kB1 := Blk.new w 39 #[.int .u8 (lb.toNat : Int), .int .u16 (nu.toNat : Int), .int .u16 (ge.toNat : Int)]
  have h1 := h.below hb1
  refine (ref_find p nm lb nu ge _ n c es _ (h1.blk.cell 0) (h1.lt p h1.fp) (Rd.of_own h1.row) hn).mono ?_
  rw [show posI es (nm, lb, nu, ge) = (i : Int) from by unfold posI; rw [hpos]]
  rintro ex w2 ⟨rfl, hb2⟩
  have hb := hb1.trans (hb2.mono hb1.size)
  have kB := kB1.below hb2 kB1.lt
  clear h1 kB1 hb1 hb2
  obtain ⟨g, rfl, a0⟩ := h.at7 he
  have a7 := a0.below hb
  have H := hide h
  clear a0 h hb kB hpos he
  have hneg : decide ((i : Int) < 0) = false := by simp
  have p0 := a7.hd
  have c5 := a7.cell 5 (v := .int .i64 ((⟨k0, A0, l0, c0, 1, 1⟩ : RE).r : Int)) rfl
  have c6 := a7.cell 6 (v := .int .i64 ((⟨k0, A0, l0, c0, 1, 1⟩ : RE).s : Int)) rfl
  have c4 := a7.cell 4 (v := .slice (⟨k0, A0, l0, c0, 1, 1⟩ : RE).A (⟨k0, A0, l0, c0, 1, 1⟩ : RE).l.length (⟨k0, A0, l0, c0, 1, 1⟩ : RE).c) rfl
  have f4 := a7.frozen (i * 7 + 4)
  have f5 := a7.frozen (i * 7 + 5)
  have f6 := a7.frozen (i * 7 + 6)
  have gl := a7.gl
  have pl := a7.pl
  have hiz : (i : Int) < n := by have := a7.hi; omega
  have td : decide ((0 : Int) < (0 : Int) + 1) = true := decide_eq_true (by omega)
  go_wp2_with fail
  clear p0 c4 c5 c6 f4 f5 f6 gl pl hiz
  clear td
  have p0 := a7.hd
  have c5 := a7.cell 5 (v := .int .i64 ((⟨k0, A0, l0, c0, 1, 1⟩ : RE).r : Int)) rfl
  have c6 := a7.cell 6 (v := .int .i64 ((⟨k0, A0, l0, c0, 1, 1⟩ : RE).s : Int)) rfl
  have c4 := a7.cell 4 (v := .slice (⟨k0, A0, l0, c0, 1, 1⟩ : RE).A (⟨k0, A0, l0, c0, 1, 1⟩ : RE).l.length (⟨k0, A0, l0, c0, 1, 1⟩ : RE).c) rfl
  have f4 := a7.frozen (i * 7 + 4)
  have f5 := a7.frozen (i * 7 + 5)
  have f6 := a7.frozen (i * 7 + 6)
  have gl := a7.gl
  have pl := a7.pl
  have hiz : (i : Int) < n := by have := a7.hi; omega
  have wr : IntKind.i64.wrap ((0 : Int)) = (0 : Int) := IntWalk.i64_in _ (by omega)
  refine wp_region_text [0, 0, 0, 0, 0, 0, 0, 0, 0, 0, 0, 0, 0, 0, 0, 0, 2] (Below w2.heap.size w2) (by kernel_rfl) (by kernel_rfl) (Below.refl _ _).drew ?_
  iterate 16 (refine wpOrd_q (v := ?_) (by rfl) (fun W hW => ?_) ?_; rotate_left; (focus ((obtain ⟨hWc, hWf⟩ := bcell hW); go_simp; try with_reducible rfl)); try simp only [Act.put, List.setIfInBounds_toArray, List.set_cons_zero, List.set_cons_succ])
  refine wpOrd_b (by rfl) (fun K hK => ?_)
  go_simp
  refine hK (fun _ => True) _ _ trivial ?_
  clear hK K
  try simp only [Act.put, List.setIfInBounds_toArray, List.set_cons_zero, List.set_cons_succ]
  refine wpOrd_nil ?_
  refine at_world (fun W => At7 w W p g n c i es (⟨k0, A0, l0, c0, 1, 1⟩ : RE) ⟨k0, A0, l0, c0, 0, 1⟩) (a7.drew.store (e' := ⟨k0, A0, l0, c0, 0, 1⟩) (j := 5) (u := .int .i64 ((0 : Nat) : Int)) (by omega) rfl rfl rfl rfl) (fun w3 a8 => ?_)
  clear wr a7
  clear p0 c4 c5 c6 f4 f5 f6 gl pl hiz
  have a7 := a8
  clear a8
  have p0 := a7.hd
  have c5 := a7.cell 5 (v := .int .i64 ((⟨k0, A0, l0, c0, 0, 1⟩ : RE).r : Int)) rfl
  have c6 := a7.cell 6 (v := .int .i64 ((⟨k0, A0, l0, c0, 0, 1⟩ : RE).s : Int)) rfl
  have c4 := a7.cell 4 (v := .slice (⟨k0, A0, l0, c0, 0, 1⟩ : RE).A (⟨k0, A0, l0, c0, 0, 1⟩ : RE).l.length (⟨k0, A0, l0, c0, 0, 1⟩ : RE).c) rfl
  have f4 := a7.frozen (i * 7 + 4)
  have f5 := a7.frozen (i * 7 + 5)
  have f6 := a7.frozen (i * 7 + 6)
  have gl := a7.gl
  have pl := a7.pl
  have hiz : (i : Int) < n := by have := a7.hi; omega
  have td : decide ((0 : Int) < (0 : Int) + 1) = true := decide_eq_true (by omega)
  go_wp2_with fail
  clear p0 c4 c5 c6 f4 f5 f6 gl pl hiz
  clear td
  have p0 := a7.hd
  have c5 := a7.cell 5 (v := .int .i64 ((⟨k0, A0, l0, c0, 0, 1⟩ : RE).r : Int)) rfl
  have c6 := a7.cell 6 (v := .int .i64 ((⟨k0, A0, l0, c0, 0, 1⟩ : RE).s : Int)) rfl
  have c4 := a7.cell 4 (v := .slice (⟨k0, A0, l0, c0, 0, 1⟩ : RE).A (⟨k0, A0, l0, c0, 0, 1⟩ : RE).l.length (⟨k0, A0, l0, c0, 0, 1⟩ : RE).c) rfl
  have f4 := a7.frozen (i * 7 + 4)
  have f5 := a7.frozen (i * 7 + 5)
  have f6 := a7.frozen (i * 7 + 6)
  have gl := a7.gl
  have pl := a7.pl
  have hiz : (i : Int) < n := by have := a7.hi; omega
  have wr : IntKind.i64.wrap ((0 : Int)) = (0 : Int) := IntWalk.i64_in _ (by omega)
  refine wp_region_text [0, 0, 0, 0, 0, 0, 0, 0, 0, 0, 0, 0, 0, 0, 0, 0, 2] (Below w3.heap.size w3) (by kernel_rfl) (by kernel_rfl) (Below.refl _ _).drew ?_
  iterate 16 (refine wpOrd_q (v := ?_) (by rfl) (fun W hW => ?_) ?_; rotate_left; (focus ((obtain ⟨hWc, hWf⟩ := bcell hW); go_simp; try with_reducible rfl)); try simp only [Act.put, List.setIfInBounds_toArray, List.set_cons_zero, List.set_cons_succ])
  refine wpOrd_b (by rfl) (fun K hK => ?_)
  go_simp
  refine hK (fun _ => True) _ _ trivial ?_
  clear hK K
  try simp only [Act.put, List.setIfInBounds_toArray, List.set_cons_zero, List.set_cons_succ]
  refine wpOrd_nil ?_
  refine at_world (fun W => At7 w W p g n c i es (⟨k0, A0, l0, c0, 1, 1⟩ : RE) ⟨k0, A0, l0, c0, 0, 0⟩) (a7.drew.store (e' := ⟨k0, A0, l0, c0, 0, 0⟩) (j := 6) (u := .int .i64 ((0 : Nat) : Int)) (by omega) rfl rfl rfl rfl) (fun w4 a8 => ?_)
  clear wr a7
  clear p0 c4 c5 c6 f4 f5 f6 gl pl hiz
  have a7 := a8
  clear a8
  have p0 := a7.hd
  have c5 := a7.cell 5 (v := .int .i64 ((⟨k0, A0, l0, c0, 0, 0⟩ : RE).r : Int)) rfl
  have c6 := a7.cell 6 (v := .int .i64 ((⟨k0, A0, l0, c0, 0, 0⟩ : RE).s : Int)) rfl
  have c4 := a7.cell 4 (v := .slice (⟨k0, A0, l0, c0, 0, 0⟩ : RE).A (⟨k0, A0, l0, c0, 0, 0⟩ : RE).l.length (⟨k0, A0, l0, c0, 0, 0⟩ : RE).c) rfl
  have f4 := a7.frozen (i * 7 + 4)
  have f5 := a7.frozen (i * 7 + 5)
  have f6 := a7.frozen (i * 7 + 6)
  have gl := a7.gl
  have pl := a7.pl
  have hiz : (i : Int) < n := by have := a7.hi; omega
  go_wp2_with fail
  obtain ⟨F6, h6, hW6⟩ := H.out.of_at7 a7 hl
  have hi := a7.hi
  have a7nc := a7.nc
  have HS := hide a7.size
  clear a7
  clear p0 c4 c5 c6 f4 f5 f6 gl pl hiz
  have p0 : w4.cell? ⟨p, 0, none⟩ = some (.slice (some ⟨g, 0, none⟩) n c) := h6.blk.cell 0
  have pf := h6.blk.frozen 0
  have pl := h6.blk.lt
  have hiz : (i : Int) ≤ n := by omega
  have hic : (i : Int) ≤ c := by have := a7nc; omega
  have R6 := Rd.of_own h6.row
  have r1 := R6.take (m := i) (by omega)
  have r2 := R6.cut (k := i + 1) (by omega) a7nc
  rw [flat7_take] at r1
  rw [flat7_drop] at r2
  obtain ⟨A2, hA2⟩ : ∃ A2, (if c = i + 1 then (some ⟨g, 0, none⟩ : Option Addr) else some ⟨g, (i + 1) * 7, none⟩) = A2 := ⟨_, rfl⟩
  have hA3 : (if c = i + 1 then (some ⟨g, 0, none⟩ : Option Addr) else (some (⟨g, 0, none⟩ : Addr)).map (·.add ((i + 1) * 7))) = A2 := by rw [← hA2]; simp [Addr.add]
  rw [hA3] at r2
  rw [show (es.set i ⟨k0, A0, l0, c0, 0, 0⟩).take i = es.take i from List.take_set_of_le (Nat.le_refl _)] at r1
  rw [show (es.set i ⟨k0, A0, l0, c0, 0, 0⟩).drop (i + 1) = es.drop (i + 1) from List.drop_set_of_lt (by omega)] at r2
  have hw1 : IntKind.i64.wrap ((i : Int) + 1) = (i : Int) + 1 := IntWalk.i64_in _ (by omega)
  have hw2 : (0 : Int) ≤ (i : Int) + 1 := by omega
  have hw3 : ((i : Int) + 1).toNat = i + 1 := by omega
  have hw4 : (i : Int) + 1 ≤ n := by omega
  clear hA3 R6
  refine wp_region_ord [0, 2, 3, 4, 5, 6, 7, 9, 10, 11, 12, 13, 14, 15, 1, 8, 16, 17, 18, 19] [0, 0, 0, 0, 0, 0, 0, 0, 0, 0, 0, 0, 0, 0, 1, 1, 1, 0, 0, 2] (Below w4.heap.size w4) (by kernel_rfl) (by kernel_rfl) (Below.refl _ _).drew ?_
  iterate 14 (refine wpOrd_q (v := ?_) (by rfl) (fun W hW => ?_) ?_; rotate_left; (focus ((obtain ⟨hWc, hWf⟩ := bcell hW); go_simp; try with_reducible rfl)); try simp only [Act.put, List.setIfInBounds_toArray, List.set_cons_zero, List.set_cons_succ])
  clear hw1 hw2 hw3 hw4 hA2 p0
  refine wpOrd_x (by rfl) (fun K hK => ?_)
  go_simp
  refine hK _ _ _ (fun _ h => h) ((Below.refl _ _).drew.alloc (Nat.le_refl _) _) ?_
  clear hK K
  try simp only [Act.put, List.setIfInBounds_toArray, List.set_cons_zero, List.set_cons_succ]
  have oa := own_lit (w := w4.drew) (base := w4.heap.size) (e := 75) (size := 7) (n := 0) (cs := #[]) rfl rfl (Nat.le_refl _) (by simp [maxLen]) rfl
  have hb3 : Below w4.heap.size w4 (w4.drew.alloc (.cells #[] 75)) := (Below.refl _ _).drew.alloc (Nat.le_refl _) _
  refine wpOrd_x (by rfl) (fun K hK => ?_)
  refine wp_append_rd _ (.tmp 94) (.tmp 100) 59 (by rfl) w4.heap.size 75 i0 (.agg #[.bool false, .int .u8 0, .int .u16 0, .int .u16 0, .slice none 0 0, .int .i64 0, .int .i64 0]) 7 48 Try.underlying59 hi0 i1 i2 i3 rfl (by decide) (.slice (some ⟨w4.heap.size, 0, none⟩) 0 0) 0 [] (by rfl) oa _ (some ⟨g, 0, none⟩) i c (flat7 (es.take i)) (by rfl) (r1.below hb3) (flat7_one _) (by simp only [maxLen]; omega) (by omega) hb3.size ?_
  intro v' w5 ho5 hg5 _ hat5
  rw [List.nil_append, Nat.zero_add] at ho5
  obtain ⟨A5, c5, rfl, hnc5, hcm5, hA5⟩ := own_form ho5
  have hb5 : Below w4.heap.size w4 w5 := hb3.trans ((Tch.grown (S := fun _ => False) hg5 hb3.size fun k hk hlt => by cases hk; exact absurd hlt (Nat.lt_irrefl _)).below fun _ _ h => h)
  refine hK _ _ _ (fun _ h => h) hb5 ?_
  clear hK K oa hg5 hat5
  try simp only [Act.put, List.setIfInBounds_toArray, List.set_cons_zero, List.set_cons_succ]
  refine wpOrd_x (by rfl) (fun K hK => ?_)
  refine wp_append_rd _ (.tmp 101) (.tmp 108) 59 (by rfl) w4.heap.size 75 i0 (.agg #[.bool false, .int .u8 0, .int .u16 0, .int .u16 0, .slice none 0 0, .int .i64 0, .int .i64 0]) 7 48 Try.underlying59 hi0 i1 i2 i3 rfl (by decide) (.slice A5 i c5) i (flat7 (es.take i)) (by rfl) ho5 _ A2 (n - (i + 1)) (c - (i + 1)) (flat7 (es.drop (i + 1))) (by rfl) (r2.below hb5) (flat7_one _) (by simp only [maxLen]; omega) (by omega) hb5.size ?_
  intro v' w6 ho6 hg6 _ hat6
  rw [← flat7_append, show i + (n - (i + 1)) = n - 1 by omega] at ho6
  obtain ⟨A6, c6, rfl, hnc6, hcm6, hA6⟩ := own_form ho6
  have hb6 : Below w4.heap.size w4 w6 := hb5.trans ((Tch.grown (S := fun _ => False) hg6 hb5.size fun k hk hlt => by have := (ho5.lt k hk).1; omega).below fun _ _ h => h)
  refine hK _ _ _ (fun _ h => h) hb6 ?_
  clear hK K
  try simp only [Act.put, List.setIfInBounds_toArray, List.set_cons_zero, List.set_cons_succ]
  iterate 2 (refine wpOrd_q (v := ?_) (by rfl) (fun W hW => ?_) ?_; rotate_left; (focus (go_simp; try with_reducible rfl)); try simp only [Act.put, List.setIfInBounds_toArray, List.set_cons_zero, List.set_cons_succ])
  have b6 := h6.blk.below hb6 h6.blk.lt
  have bl6 := b6.lt
  have bf6 := b6.frozen 0
  have bc6 := b6.cell 0
  refine wpOrd_b (by rfl) (fun K hK => ?_)
  go_simp
  refine hK (fun _ => True) _ _ trivial ?_
  clear hK K
  try simp only [Act.put, List.setIfInBounds_toArray, List.set_cons_zero, List.set_cons_succ]
  refine wpOrd_nil ?_
  go_wp2
  go_returns
  obtain ⟨F7, h7, hW7⟩ := h6.gone (A' := A6) (n' := n - 1) (c' := c6) (i := i) (w' := w6.setCell ⟨p, 0, none⟩ (.slice A6 (n - 1) c6))
    ((Tch.of_below hb6).trans (Tch.setCell fun _ => rfl)) (by have := b6.set_ 0 (.slice A6 (n - 1) c6); rwa [rcells_set0] at this)
    (by
      rw [show (es.set i ⟨k0, A0, l0, c0, 0, 0⟩).take i = es.take i from List.take_set_of_le (Nat.le_refl _), show (es.set i ⟨k0, A0, l0, c0, 0, 0⟩).drop (i + 1) = es.drop (i + 1) from List.drop_set_of_lt (by omega)]
      exact ownsRow_setCell_other (own_mono ho6 (Nat.zero_le _)) (blk_not_own b6 ho6 (by decide)) _)
    (fun x hx => (ho6.lt x hx).1)
  rw [show (es.set i ⟨k0, A0, l0, c0, 0, 0⟩).take i = es.take i from List.take_set_of_le (Nat.le_refl _), show (es.set i ⟨k0, A0, l0, c0, 0, 0⟩).drop (i + 1) = es.drop (i + 1) from List.drop_set_of_lt (by omega)] at h7
  exact ⟨rfl, F7, _, _, _, h7, Went.trans_ hW6 hW7⟩
end
end Go.Proofs.Ytkjgieehiimiiaa

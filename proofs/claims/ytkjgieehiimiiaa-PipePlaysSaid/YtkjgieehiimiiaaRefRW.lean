/- Layer 21, the document's pipes: the walks of Write, Blind, Read, Plain. -/
import Derived.Test.YtkjgieehiimiiaaRefAt
import Derived.BigQuiet
import Derived.Deep.LoopGhost
import Derived.Deep.Cut
namespace Go.Proofs.Ytkjgieehiimiiaa
open Go.RowKit

section
variable (p : Nat) (nm : Bool) (lb : UInt8) (nu ge : UInt16) (A : Option Addr) (n c : Nat) (es : List RE) (nx : List UInt16) (F : Nat → Prop) (w : World)
/-- what Write leaves -/
def WPost (p i n2 n c : Nat) (k0 : PKey) (l0 b : List UInt8) (r s : Nat) (es : List RE) (nx : List UInt16) (A : Option Addr) (F : Nat → Prop) (w : World) (ex : Ending) (w' : World) : Prop :=
  ex = .returned (.tuple #[.int .i64 ((min n2 (256 - l0.length) : Nat) : Int), .int .i64 (if min n2 (256 - l0.length) = 0 ∧ 0 < n2 then 33 else 0)]) ∧ ∃ F' A' c', RefIn w' p F' (es.set i ⟨k0, A', l0 ++ b.take (min n2 (256 - l0.length)), c', r, s⟩) nx A n c ∧ Went w w' F F'
theorem info_u8 : (Try.prog.info? 5).map (fun i => (i.zero, i.size, i.bytes)) = some (some (.int .u8 0), 1, 1) := by kernel_rfl

set_option maxRecDepth 100000 in
set_option maxHeartbeats 4000000 in
theorem rwrite_none (h : RefIn w p F es nx A n c) (hn : n ≤ 60000) (A2 : Option Addr) (n2 c2 : Nat) (hpos : pos es (nm, lb, nu, ge) = none) :
    Calls Try.prog 26 #[.pointer (some ⟨p, 0, none⟩), .bool nm, .agg #[.int .u8 (lb.toNat : Int), .int .u16 (nu.toNat : Int), .int .u16 (ge.toNat : Int)], .slice A2 n2 c2] w fun ex w' =>
      ex = .returned (.tuple #[.int .i64 0, .int .i64 3]) ∧ Below w.heap.size w w' := by
  go_enter Try.func26, Try.ntmps26
  go_wp2_with fail
  have hb1 : Below w.heap.size w (w.alloc (.cells #[.int .u8 (lb.toNat : Int), .int .u16 (nu.toNat : Int), .int .u16 (ge.toNat : Int)] 39)) := (Below.refl _ _).alloc (Nat.le_refl _) _
  have kB1 := Blk.new w 39 #[.int .u8 (lb.toNat : Int), .int .u16 (nu.toNat : Int), .int .u16 (ge.toNat : Int)]
  have h1 := h.below hb1
  refine (ref_find p nm lb nu ge _ n c es _ (h1.blk.cell 0) (h1.lt p h1.fp) (Rd.of_own h1.row) hn).mono ?_
  rw [show posI es (nm, lb, nu, ge) = (-1) from by unfold posI; rw [hpos]]
  rintro ex w2 ⟨rfl, hb2⟩
  have hb := hb1.trans (hb2.mono hb1.size)
  have kB := kB1.below hb2 kB1.lt
  clear h1 kB1 hb1 hb2
  clear h hpos kB
  go_wp2
  go_returns
  exact ⟨rfl, hb⟩

set_option maxRecDepth 100000 in
set_option maxHeartbeats 4000000 in
theorem rwrite_nobody (A2 : Option Addr) (n2 c2 : Nat) (h : RefIn w p F es nx A n c) (hn : n ≤ 60000) {i : Nat} {k0 : PKey} {A0 : Option Addr} {l0 : List UInt8} {c0 s : Nat} (hpos : pos es (nm, lb, nu, ge) = some i) (he : es[i]? = some (⟨k0, A0, l0, c0, 0, s⟩ : RE)) (hs : s < 60000) (hl : l0.length ≤ 256) :
    Calls Try.prog 26 #[.pointer (some ⟨p, 0, none⟩), .bool nm, .agg #[.int .u8 (lb.toNat : Int), .int .u16 (nu.toNat : Int), .int .u16 (ge.toNat : Int)], .slice A2 n2 c2] w fun ex w' =>
      ex = .returned (.tuple #[.int .i64 0, .int .i64 21]) ∧ Below w.heap.size w w' := by
  go_enter Try.func26, Try.ntmps26
  go_wp2_with fail
  have hb1 : Below w.heap.size w (w.alloc (.cells #[.int .u8 (lb.toNat : Int), .int .u16 (nu.toNat : Int), .int .u16 (ge.toNat : Int)] 39)) := (Below.refl _ _).alloc (Nat.le_refl _) _
  have kB1 := Blk.new w 39 #[.int .u8 (lb.toNat : Int), .int .u16 (nu.toNat : Int), .int .u16 (ge.toNat : Int)]
  have h1 := h.below hb1
  refine (ref_find p nm lb nu ge _ n c es _ (h1.blk.cell 0) (h1.lt p h1.fp) (Rd.of_own h1.row) hn).mono ?_
  rw [show posI es (nm, lb, nu, ge) = (i : Int) from by unfold posI; rw [hpos]]
  rintro ex w2 ⟨rfl, hb2⟩
  have hb := hb1.trans (hb2.mono hb1.size)
  have kB := kB1.below hb2 kB1.lt
  clear h1 kB1 hb1 hb2
  obtain ⟨g, rfl, a0⟩ := h.at7 he
  have a7 := a0.below hb
  have H := hide h
  have HB := hide hb
  clear a0 kB he h hb hpos
  have p0 := a7.hd
  have c5 := a7.cell 5 (v := .int .i64 ((⟨k0, A0, l0, c0, 0, s⟩ : RE).r : Int)) rfl
  have c6 := a7.cell 6 (v := .int .i64 ((⟨k0, A0, l0, c0, 0, s⟩ : RE).s : Int)) rfl
  have c4 := a7.cell 4 (v := .slice (⟨k0, A0, l0, c0, 0, s⟩ : RE).A (⟨k0, A0, l0, c0, 0, s⟩ : RE).l.length (⟨k0, A0, l0, c0, 0, s⟩ : RE).c) rfl
  have f4 := a7.frozen (i * 7 + 4)
  have f5 := a7.frozen (i * 7 + 5)
  have f6 := a7.frozen (i * 7 + 6)
  have gl := a7.gl
  have pl := a7.pl
  have hiz : (i : Int) < n := by have := a7.hi; omega
  go_wp2
  go_returns
  exact ⟨rfl, HB.out⟩

set_option maxRecDepth 100000 in
set_option maxHeartbeats 4000000 in
theorem rwrite_ok (h : RefIn w p F es nx A n c) (hn : n ≤ 60000) (A2 : Option Addr) (n2 c2 : Nat) (b : List UInt8) (B2 : Nat) (hr2 : Rd w B2 1 A2 n2 (bvs b)) (hB2 : B2 ≤ w.heap.size) (hF2 : ∀ x, F x → B2 ≤ x) (hn2 : n2 ≤ 60000) {i : Nat} {k0 : PKey} {A0 : Option Addr} {l0 : List UInt8} {c0 r s : Nat} (hpos : pos es (nm, lb, nu, ge) = some i) (he : es[i]? = some (⟨k0, A0, l0, c0, r, s⟩ : RE)) (hr : r < 60000) (hs : s < 60000) (hl : l0.length ≤ 256) (hr0 : 0 < r) :
    Calls Try.prog 26 #[.pointer (some ⟨p, 0, none⟩), .bool nm, .agg #[.int .u8 (lb.toNat : Int), .int .u16 (nu.toNat : Int), .int .u16 (ge.toNat : Int)], .slice A2 n2 c2] w fun ex w' =>
      WPost p i n2 n c k0 l0 b r s es nx A F w ex w' := by
  go_enter Try.func26, Try.ntmps26
  obtain ⟨u0, hu0, u1, u2, u3⟩ := info_parts info_u8
  go_wp2_with fail
  have hb1 : Below w.heap.size w (w.alloc (.cells #[.int .u8 (lb.toNat : Int), .int .u16 (nu.toNat : Int), .int .u16 (ge.toNat : Int)] 39)) := (Below.refl _ _).alloc (Nat.le_refl _) _
  have kB1 := Blk.new w 39 #[.int .u8 (lb.toNat : Int), .int .u16 (nu.toNat : Int), .int .u16 (ge.toNat : Int)]
  have h1 := h.below hb1
  refine (ref_find p nm lb nu ge _ n c es _ (h1.blk.cell 0) (h1.lt p h1.fp) (Rd.of_own h1.row) hn).mono ?_
  rw [show posI es (nm, lb, nu, ge) = (i : Int) from by unfold posI; rw [hpos]]
  rintro ex w2 ⟨rfl, hb2⟩
  have hb := hb1.trans (hb2.mono hb1.size)
  have kB := kB1.below hb2 kB1.lt
  clear h1 kB1 hb1 hb2
  have hbl : b.length = n2 := by have := hr2.len; rw [bvs_length] at this; omega
  obtain ⟨g, rfl, a0⟩ := h.at7 he
  have a7 := a0.below hb
  have hgB : B2 ≤ g := hF2 g (h.fr g rfl)
  have hoB : ∀ x, (⟨k0, A0, l0, c0, r, s⟩ : RE).v.ownBlock = some x → B2 ≤ x := fun x hx => hF2 x (h.bytes_far (List.mem_of_getElem? he) hx).2.2.1
  have H := hide h
  have HO := hide hoB
  have HR := hide hr2
  have HBL := hide hbl
  have hm1 : l0.length ≤ 256 := hl
  clear a0 kB he h hb hpos hoB hr2 hbl hF2
  have p0 := a7.hd
  have c5 := a7.cell 5 (v := .int .i64 ((⟨k0, A0, l0, c0, r, s⟩ : RE).r : Int)) rfl
  have c6 := a7.cell 6 (v := .int .i64 ((⟨k0, A0, l0, c0, r, s⟩ : RE).s : Int)) rfl
  have c4 := a7.cell 4 (v := .slice (⟨k0, A0, l0, c0, r, s⟩ : RE).A (⟨k0, A0, l0, c0, r, s⟩ : RE).l.length (⟨k0, A0, l0, c0, r, s⟩ : RE).c) rfl
  have f4 := a7.frozen (i * 7 + 4)
  have f5 := a7.frozen (i * 7 + 5)
  have f6 := a7.frozen (i * 7 + 6)
  have gl := a7.gl
  have pl := a7.pl
  have hiz : (i : Int) < n := by have := a7.hi; omega
  have t0 : ((r : Int) == 0) = false := by simp; omega
  go_wp2_with fail
  clear p0 c4 c5 c6 f4 f5 f6 gl pl hiz
  clear t0
  go_loopg [11] n2 (fun gh x11 wr => ∃ j : Nat, j ≤ n2 ∧ j ≤ 256 - l0.length ∧ gh = n2 - j ∧ x11 = .int .i64 j ∧ Aside (∃ A' c', At7 w wr p g n c i es (⟨k0, A0, l0, c0, r, s⟩ : RE) (⟨k0, A', l0 ++ b.take j, c', r, s⟩ : RE)))
  case atStart => exact ⟨0, Nat.zero_le _, Nat.zero_le _, rfl, rfl, A0, c0, by simpa using a7⟩
  case round =>
    obtain ⟨j, hj1, hj2, hgh, rfl, hA⟩ := hrel
    obtain ⟨A', c', a8⟩ := hA
    clear a7
    have hlj : (l0 ++ b.take j).length = l0.length + j := by have := HBL.out; simp; omega
    have HLJ := hide hlj
    clear hlj
    have p0 := a8.hd
    have c4 := a8.cell 4 (v := .slice A' (l0.length + j) c') (by rw [← HLJ.out]; rfl)
    have gl := a8.gl
    have pl := a8.pl
    have hiz : (i : Int) < n := by have := a8.hi; omega
    by_cases hjn : j < n2
    · have hjz : (j : Int) < n2 := by omega
      by_cases hfull : l0.length + j < 256
      · have hfz : ((l0.length : Int) + j) < 256 := by omega
        have br := a8.arg HR.out hB2 hgB HO.out
        obtain ⟨bb, oo, rfl, hbb, hcb⟩ := br.byte hjn
        have hbw : bb < wr.heap.size := Nat.lt_of_lt_of_le (Nat.lt_of_lt_of_le hbb hB2) a8.size
        have cb := hcb j hjn
        have HCB := hide hcb
        clear br hcb
        go_upto_region 8 with (fail)
        refine wp_region_text [0, 0, 0, 0, 0, 0, 0, 0, 0, 0, 0, 0, 0, 0, 0, 0, 0, 1, 1, 0, 0, 2] (fun W => W.cell? ⟨p, 0, none⟩ = some (.slice (some ⟨g, 0, none⟩) n c) ∧ W.cell? ⟨g, i * 7 + 4, none⟩ = some (.slice A' (l0.length + j) c') ∧ W.cell? ⟨bb, oo + j, none⟩ = some (.int .u8 ((b.getD j 0).toNat : Int))) (by kernel_rfl) (by kernel_rfl) ⟨p0, c4, cb⟩ ?_
        iterate 17 (refine wpOrd_q (v := ?_) (by rfl) (fun W hW => ?_) ?_; rotate_left; (focus ((obtain ⟨s1, s2, s3⟩ := hW); go_simp; try with_reducible rfl)); try simp only [Act.put, List.setIfInBounds_toArray, List.set_cons_zero, List.set_cons_succ])
        have hb9 : Below wr.heap.size wr (wr.drew.alloc (.cells #[.int .u8 ((b.getD j 0).toNat : Int)] 5)) := (Below.refl _ _).drew.alloc (Nat.le_refl _) _
        refine wpOrd_x (by rfl) (fun K hK => ?_)
        go_simp
        refine hK _ _ _ (fun _ h => h) ⟨(hb9.cell (p := ⟨p, 0, none⟩) pl).trans p0, (hb9.cell (p := ⟨g, i * 7 + 4, none⟩) gl).trans c4, (hb9.cell (p := ⟨bb, oo + j, none⟩) hbw).trans cb⟩ ?_
        clear hK K
        try simp only [Act.put, List.setIfInBounds_toArray, List.set_cons_zero, List.set_cons_succ]
        have ra : Rd (wr.drew.alloc (.cells #[.int .u8 ((b.getD j 0).toNat : Int)] 5)) (wr.heap.size + 1) 1 (some ⟨wr.heap.size, 0, none⟩) 1 (bvs [b.getD j 0]) := Rd.lit (w := wr.drew) rfl rfl rfl rfl
        have a9 := a8.below hb9
        have ow : (wr.drew.alloc (.cells #[.int .u8 ((b.getD j 0).toNat : Int)] 5)).ownsRow 0 5 1 (.slice A' (l0.length + j) c') (l0.length + j) (bvs (l0 ++ b.take j)) := by rw [← HLJ.out]; exact a9.own
        refine wpOrd_x (by rfl) (fun K hK => ?_)
        refine wp_append_rd _ (.tmp 55) (.tmp 60) 23 (by rfl) 0 5 u0 (.int .u8 0) 1 1 Try.underlying23 hu0 u1 u2 u3 rfl (by decide) (.slice A' (l0.length + j) c') (l0.length + j) (bvs (l0 ++ b.take j)) (by rfl) ow _ (some ⟨wr.heap.size, 0, none⟩) 1 1 (bvs [b.getD j 0]) (by rfl) ra (bvs_one _) (by simp only [maxLen]; omega) (by omega) (Nat.zero_le _) ?_
        intro v' w5 ho5 hg5 _ hat5
        rw [← bvs_append] at ho5
        obtain ⟨A5, c5, rfl, hnc5, hcm5, hA5⟩ := own_form ho5
        have hown9 : (Value.slice A' (l0.length + j) c').ownBlock = (⟨k0, A', l0 ++ b.take j, c', r, s⟩ : RE).v.ownBlock := by rw [← HLJ.out]
        rw [hown9] at hg5 hat5
        have k5 : ∀ x, x < wr.heap.size → (⟨k0, A', l0 ++ b.take j, c', r, s⟩ : RE).v.ownBlock ≠ some x → ∀ o, w5.cell? ⟨x, o, none⟩ = wr.cell? ⟨x, o, none⟩ := fun x hx hne o => (World.cell?_of_block (a := ⟨x, o, none⟩) (hg5.block x (Nat.lt_of_lt_of_le hx hb9.size) fun e2 => hne e2.symm)).trans (hb9.cell (p := ⟨x, o, none⟩) hx)
        refine hK _ _ _ (fun _ h => h) ⟨(k5 p pl a8.np 0).trans p0, (k5 g gl a8.sep.1 _).trans c4, (k5 bb hbw (a8.nb hbb hB2 HO.out) _).trans cb⟩ ?_
        clear hK K
        try simp only [Act.put, List.setIfInBounds_toArray, List.set_cons_zero, List.set_cons_succ]
        iterate 2 (refine wpOrd_q (v := ?_) (by rfl) (fun W hW => ?_) ?_; rotate_left; (focus (go_simp; try with_reducible rfl)); try simp only [Act.put, List.setIfInBounds_toArray, List.set_cons_zero, List.set_cons_succ])
        have a10 := a9.put (A' := A5) (n' := l0.length + j + 1) (c' := c5) (l' := l0 ++ b.take j ++ [b.getD j 0]) hg5 ho5 (by simp; have := HBL.out; omega) (by
          rcases hat5 with e2 | e2
          · exact .inl e2
          · exact .inr fun x hx => by rw [e2] at hx; cases hx; exact Nat.le_refl _)
        have gl5 : g < w5.heap.size := Nat.lt_of_lt_of_le a9.gl hg5.size
        have gf5 : w5.frozen? ⟨g, i * 7 + 4, none⟩ = false := (World.frozen?_of_block (a := ⟨g, i * 7 + 4, none⟩) (hg5.block g a9.gl fun e2 => a9.sep.1 e2.symm)).trans (a9.frozen _)
        have gc5 := (k5 g gl a8.sep.1 (i * 7 + 4)).trans c4
        refine wpOrd_b (by rfl) (fun K hK => ?_)
        go_simp
        refine hK (fun _ => True) _ _ trivial ?_
        clear hK K
        try simp only [Act.put, List.setIfInBounds_toArray, List.set_cons_zero, List.set_cons_succ]
        refine wpOrd_nil ?_
        have htk : b.take (j + 1) = b.take j ++ [b.getD j 0] := by rw [List.take_add_one, List.getD_eq_getElem?_getD, List.getElem?_eq_getElem (by have := HBL.out; omega)]; rfl
        have HT := hide htk
        clear htk
        clear k5 p0 c4 gl pl cb hb9 a9 ra ow hg5 ho5 hat5 hown9
        refine at_world (fun W => At7 w W p g n c i es (⟨k0, A0, l0, c0, r, s⟩ : RE) (⟨k0, A5, l0 ++ b.take j ++ [b.getD j 0], c5, r, s⟩ : RE)) a10 (fun w6 a11 => ?_)
        clear a10 gl5 gf5 gc5 a8
        have hjw : IntKind.i64.wrap ((j : Int) + 1) = j + 1 := IntWalk.i64_in _ (by omega)
        go_wp2
        go_roundg (n2 - (j + 1))
        case measure => omega
        case rel => exact ⟨j + 1, by omega, by omega, rfl, by go_num, A5, c5, by rw [HT.out, ← List.append_assoc]; exact a11⟩
      · have hfz : ¬ ((l0.length : Int) + j) < 256 := by omega
        have a12 := a8
        by_cases hj0 : j = 0
        · have tj : ((j : Int) == 0) = true := by simp; omega
          have tn : decide ((0 : Int) < n2) = true := by simp; omega
          have HJ2 := hide (show j = 0 ∧ 0 < n2 by omega)
          have HJ := hide (show j = min n2 (256 - l0.length) by omega)
          clear a8 hj0
          go_wp2
          go_returns
          obtain ⟨F7, h7, hW7⟩ := H.out.of_at7 a12 (by rw [HLJ.out]; show l0.length + j ≤ 256; omega)
          unfold WPost
          rw [← HJ.out]
          exact ⟨by rw [if_pos HJ2.out, HJ2.out.1]; rfl, F7, _, _, h7, hW7⟩
        · have tj : ((j : Int) == 0) = false := by simp; omega
          have HJ2 := hide (show ¬ (j = 0 ∧ 0 < n2) by omega)
          have HJ := hide (show j = min n2 (256 - l0.length) by omega)
          clear a8 hj0
          go_wp2
          go_returns
          obtain ⟨F7, h7, hW7⟩ := H.out.of_at7 a12 (by rw [HLJ.out]; show l0.length + j ≤ 256; omega)
          unfold WPost
          rw [← HJ.out]
          exact ⟨by rw [if_neg HJ2.out]; rfl, F7, _, _, h7, hW7⟩
    · have hjz : ¬ (j : Int) < n2 := by omega
      have a12 := a8
      by_cases hj0 : j = 0
      · have tj : ((j : Int) == 0) = true := by simp; omega
        have tn : decide ((0 : Int) < n2) = false := by simp; omega
        have tn2 : ¬ 0 < n2 := by omega
        have HJ2 := hide (show ¬ (j = 0 ∧ 0 < n2) by omega)
        have HJ := hide (show j = min n2 (256 - l0.length) by omega)
        clear a8 hj0
        go_wp2
        go_returns
        obtain ⟨F7, h7, hW7⟩ := H.out.of_at7 a12 (by rw [HLJ.out]; show l0.length + j ≤ 256; omega)
        unfold WPost
        rw [← HJ.out]
        exact ⟨by rw [if_neg HJ2.out]; rfl, F7, _, _, h7, hW7⟩
      · have tj : ((j : Int) == 0) = false := by simp; omega
        have HJ2 := hide (show ¬ (j = 0 ∧ 0 < n2) by omega)
        have HJ := hide (show j = min n2 (256 - l0.length) by omega)
        clear a8 hj0
        go_wp2
        go_returns
        obtain ⟨F7, h7, hW7⟩ := H.out.of_at7 a12 (by rw [HLJ.out]; show l0.length + j ≤ 256; omega)
        unfold WPost
        rw [← HJ.out]
        exact ⟨by rw [if_neg HJ2.out]; rfl, F7, _, _, h7, hW7⟩

set_option maxRecDepth 100000 in
set_option maxHeartbeats 4000000 in
theorem rblind_none (h : RefIn w p F es nx A n c) (hn : n ≤ 60000) (A2 : Option Addr) (n2 c2 : Nat) (hpos : pos es (nm, lb, nu, ge) = none) :
    Calls Try.prog 27 #[.pointer (some ⟨p, 0, none⟩), .bool nm, .agg #[.int .u8 (lb.toNat : Int), .int .u16 (nu.toNat : Int), .int .u16 (ge.toNat : Int)], .slice A2 n2 c2] w fun ex w' =>
      ex = .returned (.tuple #[]) ∧ Below w.heap.size w w' := by
  go_enter Try.func27, Try.ntmps27
  go_wp2_with fail
  have hb1 : Below w.heap.size w (w.alloc (.cells #[.int .u8 (lb.toNat : Int), .int .u16 (nu.toNat : Int), .int .u16 (ge.toNat : Int)] 39)) := (Below.refl _ _).alloc (Nat.le_refl _) _
  have kB1 := Blk.new w 39 #[.int .u8 (lb.toNat : Int), .int .u16 (nu.toNat : Int), .int .u16 (ge.toNat : Int)]
  have h1 := h.below hb1
  refine (ref_find p nm lb nu ge _ n c es _ (h1.blk.cell 0) (h1.lt p h1.fp) (Rd.of_own h1.row) hn).mono ?_
  rw [show posI es (nm, lb, nu, ge) = (-1) from by unfold posI; rw [hpos]]
  rintro ex w2 ⟨rfl, hb2⟩
  have hb := hb1.trans (hb2.mono hb1.size)
  have kB := kB1.below hb2 kB1.lt
  clear h1 kB1 hb1 hb2
  clear h hpos kB
  go_wp2
  go_returns
  exact ⟨rfl, hb⟩

set_option maxRecDepth 100000 in
set_option maxHeartbeats 4000000 in
theorem rblind_nobody (A2 : Option Addr) (n2 c2 : Nat) (h : RefIn w p F es nx A n c) (hn : n ≤ 60000) {i : Nat} {k0 : PKey} {A0 : Option Addr} {l0 : List UInt8} {c0 s : Nat} (hpos : pos es (nm, lb, nu, ge) = some i) (he : es[i]? = some (⟨k0, A0, l0, c0, 0, s⟩ : RE)) (hs : s < 60000) (hl : l0.length ≤ 256) :
    Calls Try.prog 27 #[.pointer (some ⟨p, 0, none⟩), .bool nm, .agg #[.int .u8 (lb.toNat : Int), .int .u16 (nu.toNat : Int), .int .u16 (ge.toNat : Int)], .slice A2 n2 c2] w fun ex w' =>
      ex = .returned (.tuple #[]) ∧ Below w.heap.size w w' := by
  go_enter Try.func27, Try.ntmps27
  go_wp2_with fail
  have hb1 : Below w.heap.size w (w.alloc (.cells #[.int .u8 (lb.toNat : Int), .int .u16 (nu.toNat : Int), .int .u16 (ge.toNat : Int)] 39)) := (Below.refl _ _).alloc (Nat.le_refl _) _
  have kB1 := Blk.new w 39 #[.int .u8 (lb.toNat : Int), .int .u16 (nu.toNat : Int), .int .u16 (ge.toNat : Int)]
  have h1 := h.below hb1
  refine (ref_find p nm lb nu ge _ n c es _ (h1.blk.cell 0) (h1.lt p h1.fp) (Rd.of_own h1.row) hn).mono ?_
  rw [show posI es (nm, lb, nu, ge) = (i : Int) from by unfold posI; rw [hpos]]
  rintro ex w2 ⟨rfl, hb2⟩
  have hb := hb1.trans (hb2.mono hb1.size)
  have kB := kB1.below hb2 kB1.lt
  clear h1 kB1 hb1 hb2
  obtain ⟨g, rfl, a0⟩ := h.at7 he
  have a7 := a0.below hb
  have H := hide h
  have HB := hide hb
  clear a0 kB he h hb hpos
  have p0 := a7.hd
  have c5 := a7.cell 5 (v := .int .i64 ((⟨k0, A0, l0, c0, 0, s⟩ : RE).r : Int)) rfl
  have c6 := a7.cell 6 (v := .int .i64 ((⟨k0, A0, l0, c0, 0, s⟩ : RE).s : Int)) rfl
  have c4 := a7.cell 4 (v := .slice (⟨k0, A0, l0, c0, 0, s⟩ : RE).A (⟨k0, A0, l0, c0, 0, s⟩ : RE).l.length (⟨k0, A0, l0, c0, 0, s⟩ : RE).c) rfl
  have f4 := a7.frozen (i * 7 + 4)
  have f5 := a7.frozen (i * 7 + 5)
  have f6 := a7.frozen (i * 7 + 6)
  have gl := a7.gl
  have pl := a7.pl
  have hiz : (i : Int) < n := by have := a7.hi; omega
  have t1 : decide ((0 : Int) ≤ i) = true := by simp
  go_wp2
  go_returns
  exact ⟨rfl, HB.out⟩

set_option maxRecDepth 100000 in
set_option maxHeartbeats 4000000 in
theorem rblind_long (A2 : Option Addr) (n2 c2 : Nat) (h : RefIn w p F es nx A n c) (hn : n ≤ 60000) {i : Nat} {k0 : PKey} {A0 : Option Addr} {l0 : List UInt8} {c0 r s : Nat} (hpos : pos es (nm, lb, nu, ge) = some i) (he : es[i]? = some (⟨k0, A0, l0, c0, r, s⟩ : RE)) (hr : r < 60000) (hs : s < 60000) (hl : l0.length ≤ 256) (hr0 : 0 < r) (hn2 : n2 ≤ 60000) (hlong : 256 < l0.length + n2) :
    Calls Try.prog 27 #[.pointer (some ⟨p, 0, none⟩), .bool nm, .agg #[.int .u8 (lb.toNat : Int), .int .u16 (nu.toNat : Int), .int .u16 (ge.toNat : Int)], .slice A2 n2 c2] w fun ex w' =>
      ex = .returned (.tuple #[]) ∧ Below w.heap.size w w' := by
  go_enter Try.func27, Try.ntmps27
  go_wp2_with fail
  have hb1 : Below w.heap.size w (w.alloc (.cells #[.int .u8 (lb.toNat : Int), .int .u16 (nu.toNat : Int), .int .u16 (ge.toNat : Int)] 39)) := (Below.refl _ _).alloc (Nat.le_refl _) _
  have kB1 := Blk.new w 39 #[.int .u8 (lb.toNat : Int), .int .u16 (nu.toNat : Int), .int .u16 (ge.toNat : Int)]
  have h1 := h.below hb1
  refine (ref_find p nm lb nu ge _ n c es _ (h1.blk.cell 0) (h1.lt p h1.fp) (Rd.of_own h1.row) hn).mono ?_
  rw [show posI es (nm, lb, nu, ge) = (i : Int) from by unfold posI; rw [hpos]]
  rintro ex w2 ⟨rfl, hb2⟩
  have hb := hb1.trans (hb2.mono hb1.size)
  have kB := kB1.below hb2 kB1.lt
  clear h1 kB1 hb1 hb2
  obtain ⟨g, rfl, a0⟩ := h.at7 he
  have a7 := a0.below hb
  have H := hide h
  have HB := hide hb
  clear a0 kB he h hb hpos
  have p0 := a7.hd
  have c5 := a7.cell 5 (v := .int .i64 ((⟨k0, A0, l0, c0, r, s⟩ : RE).r : Int)) rfl
  have c6 := a7.cell 6 (v := .int .i64 ((⟨k0, A0, l0, c0, r, s⟩ : RE).s : Int)) rfl
  have c4 := a7.cell 4 (v := .slice (⟨k0, A0, l0, c0, r, s⟩ : RE).A (⟨k0, A0, l0, c0, r, s⟩ : RE).l.length (⟨k0, A0, l0, c0, r, s⟩ : RE).c) rfl
  have f4 := a7.frozen (i * 7 + 4)
  have f5 := a7.frozen (i * 7 + 5)
  have f6 := a7.frozen (i * 7 + 6)
  have gl := a7.gl
  have pl := a7.pl
  have hiz : (i : Int) < n := by have := a7.hi; omega
  have t1 : decide ((0 : Int) ≤ i) = true := by simp
  have t2 : decide ((0 : Int) < r) = true := by simp; omega
  have wr : IntKind.i64.wrap ((l0.length : Int) + n2) = l0.length + n2 := IntWalk.i64_in _ (by omega)
  have t3 : decide ((l0.length : Int) + n2 ≤ 256) = false := by simp; omega
  have t4 : ¬ (l0.length : Int) + n2 ≤ 256 := by omega
  go_wp2
  go_returns
  exact ⟨rfl, HB.out⟩

set_option maxRecDepth 100000 in
set_option maxHeartbeats 4000000 in
theorem rblind_ok (h : RefIn w p F es nx A n c) (hn : n ≤ 60000) (A2 : Option Addr) (n2 c2 : Nat) (b : List UInt8) (B2 : Nat) (hr2 : Rd w B2 1 A2 n2 (bvs b)) (hB2 : B2 ≤ w.heap.size) (hF2 : ∀ x, F x → B2 ≤ x) (hn2 : n2 ≤ 60000) {i : Nat} {k0 : PKey} {A0 : Option Addr} {l0 : List UInt8} {c0 r s : Nat} (hpos : pos es (nm, lb, nu, ge) = some i) (he : es[i]? = some (⟨k0, A0, l0, c0, r, s⟩ : RE)) (hr : r < 60000) (hs : s < 60000) (hl : l0.length ≤ 256) (hr0 : 0 < r) (hfit : l0.length + n2 ≤ 256) :
    Calls Try.prog 27 #[.pointer (some ⟨p, 0, none⟩), .bool nm, .agg #[.int .u8 (lb.toNat : Int), .int .u16 (nu.toNat : Int), .int .u16 (ge.toNat : Int)], .slice A2 n2 c2] w fun ex w' =>
      ex = .returned (.tuple #[]) ∧ ∃ F' A' c', RefIn w' p F' (es.set i ⟨k0, A', l0 ++ b, c', r, s⟩) nx A n c ∧ Went w w' F F' := by
  go_enter Try.func27, Try.ntmps27
  obtain ⟨u0, hu0, u1, u2, u3⟩ := info_parts info_u8
  go_wp2_with fail
  have hb1 : Below w.heap.size w (w.alloc (.cells #[.int .u8 (lb.toNat : Int), .int .u16 (nu.toNat : Int), .int .u16 (ge.toNat : Int)] 39)) := (Below.refl _ _).alloc (Nat.le_refl _) _
  have kB1 := Blk.new w 39 #[.int .u8 (lb.toNat : Int), .int .u16 (nu.toNat : Int), .int .u16 (ge.toNat : Int)]
  have h1 := h.below hb1
  refine (ref_find p nm lb nu ge _ n c es _ (h1.blk.cell 0) (h1.lt p h1.fp) (Rd.of_own h1.row) hn).mono ?_
  rw [show posI es (nm, lb, nu, ge) = (i : Int) from by unfold posI; rw [hpos]]
  rintro ex w2 ⟨rfl, hb2⟩
  have hb := hb1.trans (hb2.mono hb1.size)
  have kB := kB1.below hb2 kB1.lt
  clear h1 kB1 hb1 hb2
  have hbl : b.length = n2 := by have := hr2.len; rw [bvs_length] at this; omega
  obtain ⟨g, rfl, a0⟩ := h.at7 he
  have a7 := a0.below hb
  have br := a7.arg hr2 hB2 (hF2 g (h.fr g rfl)) (fun x hx => hF2 x (h.bytes_far (List.mem_of_getElem? he) hx).2.2.1)
  have H := hide h
  have HR := hide br
  have HBL := hide hbl
  clear a0 kB he h hb hpos hr2 hbl hF2 br
  have p0 := a7.hd
  have c5 := a7.cell 5 (v := .int .i64 ((⟨k0, A0, l0, c0, r, s⟩ : RE).r : Int)) rfl
  have c6 := a7.cell 6 (v := .int .i64 ((⟨k0, A0, l0, c0, r, s⟩ : RE).s : Int)) rfl
  have c4 := a7.cell 4 (v := .slice (⟨k0, A0, l0, c0, r, s⟩ : RE).A (⟨k0, A0, l0, c0, r, s⟩ : RE).l.length (⟨k0, A0, l0, c0, r, s⟩ : RE).c) rfl
  have f4 := a7.frozen (i * 7 + 4)
  have f5 := a7.frozen (i * 7 + 5)
  have f6 := a7.frozen (i * 7 + 6)
  have gl := a7.gl
  have pl := a7.pl
  have hiz : (i : Int) < n := by have := a7.hi; omega
  have t1 : decide ((0 : Int) ≤ i) = true := by simp
  have t2 : decide ((0 : Int) < r) = true := by simp; omega
  have wr : IntKind.i64.wrap ((l0.length : Int) + n2) = l0.length + n2 := IntWalk.i64_in _ (by omega)
  have t3 : decide ((l0.length : Int) + n2 ≤ 256) = true := by simp; omega
  have t4 : (l0.length : Int) + n2 ≤ 256 := by omega
  go_wp2_with fail
  clear t1 t2 t3 t4 wr
  refine wp_region_text [0, 0, 0, 0, 0, 0, 0, 0, 0, 0, 0, 0, 0, 0, 1, 0, 0, 2] (fun W => W.cell? ⟨p, 0, none⟩ = some (.slice (some ⟨g, 0, none⟩) n c) ∧ W.cell? ⟨g, i * 7 + 4, none⟩ = some (.slice A0 l0.length c0)) (by kernel_rfl) (by kernel_rfl) ⟨p0, c4⟩ ?_
  iterate 14 (refine wpOrd_q (v := ?_) (by rfl) (fun W hW => ?_) ?_; rotate_left; (focus ((obtain ⟨s1, s2⟩ := hW); go_simp; try with_reducible rfl)); try simp only [Act.put, List.setIfInBounds_toArray, List.set_cons_zero, List.set_cons_succ])
  refine wpOrd_x (by rfl) (fun K hK => ?_)
  have a9 := a7.drew
  refine wp_append_rd _ (.tmp 53) (.tmp 54) 23 (by rfl) 0 5 u0 (.int .u8 0) 1 1 Try.underlying23 hu0 u1 u2 u3 rfl (by decide) (.slice A0 l0.length c0) l0.length (bvs l0) (by rfl) a9.own _ A2 n2 c2 (bvs b) (by rfl) HR.out.drew (bvs_one _) (by simp only [maxLen]; omega) (by omega) (Nat.zero_le _) ?_
  intro v' w5 ho5 hg5 _ hat5
  rw [← bvs_append] at ho5
  obtain ⟨A5, c5, rfl, hnc5, hcm5, hA5⟩ := own_form ho5
  have k5 : ∀ x, x < w2.heap.size → (⟨k0, A0, l0, c0, r, s⟩ : RE).v.ownBlock ≠ some x → ∀ o, w5.cell? ⟨x, o, none⟩ = w2.cell? ⟨x, o, none⟩ := fun x hx hne o => World.cell?_of_block (a := ⟨x, o, none⟩) (hg5.block x hx fun e2 => hne e2.symm)
  refine hK _ _ _ (fun _ h => h) ⟨(k5 p pl a7.np 0).trans p0, (k5 g gl a7.sep.1 _).trans c4⟩ ?_
  clear hK K
  try simp only [Act.put, List.setIfInBounds_toArray, List.set_cons_zero, List.set_cons_succ]
  iterate 2 (refine wpOrd_q (v := ?_) (by rfl) (fun W hW => ?_) ?_; rotate_left; (focus (go_simp; try with_reducible rfl)); try simp only [Act.put, List.setIfInBounds_toArray, List.set_cons_zero, List.set_cons_succ])
  have a10 := a9.put (A' := A5) (n' := l0.length + n2) (c' := c5) (l' := l0 ++ b) hg5 ho5 (by simp; have := HBL.out; omega) (by
    rcases hat5 with e2 | e2
    · exact .inl e2
    · exact .inr fun x hx => by rw [e2] at hx; cases hx; exact Nat.le_refl _)
  have gl5 : g < w5.heap.size := Nat.lt_of_lt_of_le a9.gl hg5.size
  have gf5 : w5.frozen? ⟨g, i * 7 + 4, none⟩ = false := (World.frozen?_of_block (a := ⟨g, i * 7 + 4, none⟩) (hg5.block g a9.gl fun e2 => a9.sep.1 e2.symm)).trans (a9.frozen _)
  have gc5 := (k5 g gl a7.sep.1 (i * 7 + 4)).trans c4
  refine wpOrd_b (by rfl) (fun K hK => ?_)
  go_simp
  refine hK (fun _ => True) _ _ trivial ?_
  clear hK K
  try simp only [Act.put, List.setIfInBounds_toArray, List.set_cons_zero, List.set_cons_succ]
  refine wpOrd_nil ?_
  refine at_world (fun W => At7 w W p g n c i es (⟨k0, A0, l0, c0, r, s⟩ : RE) (⟨k0, A5, l0 ++ b, c5, r, s⟩ : RE)) a10 (fun w6 a11 => ?_)
  go_wp2
  go_returns
  obtain ⟨F7, h7, hW7⟩ := H.out.of_at7 a11 (by have := HBL.out; simp; omega)
  exact ⟨rfl, F7, ⟨_, _, h7⟩, hW7⟩

set_option maxRecDepth 100000 in
set_option maxHeartbeats 4000000 in
theorem rread_range (h : RefIn w p F es nx A n c) (hn : n ≤ 60000) {i : Nat} {k0 : PKey} {A0 : Option Addr} {l0 : List UInt8} {c0 r s : Nat} (hpos : pos es (nm, lb, nu, ge) = some i) (he : es[i]? = some (⟨k0, A0, l0, c0, r, s⟩ : RE)) (hr : r < 60000) (hs : s < 60000) (hl : l0.length ≤ 256) (m : Int) (hm : m < 0) :
    Calls Try.prog 28 #[.pointer (some ⟨p, 0, none⟩), .bool nm, .agg #[.int .u8 (lb.toNat : Int), .int .u16 (nu.toNat : Int), .int .u16 (ge.toNat : Int)], .int .i64 m] w fun ex w' =>
      ex = .returned (.tuple #[.slice none 0 0, .int .i64 27]) ∧ Below w.heap.size w w' := by
  go_enter Try.func28, Try.ntmps28
  go_wp2_with fail
  have hb1 : Below w.heap.size w (w.alloc (.cells #[.int .u8 (lb.toNat : Int), .int .u16 (nu.toNat : Int), .int .u16 (ge.toNat : Int)] 39)) := (Below.refl _ _).alloc (Nat.le_refl _) _
  have kB1 := Blk.new w 39 #[.int .u8 (lb.toNat : Int), .int .u16 (nu.toNat : Int), .int .u16 (ge.toNat : Int)]
  have h1 := h.below hb1
  refine (ref_find p nm lb nu ge _ n c es _ (h1.blk.cell 0) (h1.lt p h1.fp) (Rd.of_own h1.row) hn).mono ?_
  rw [show posI es (nm, lb, nu, ge) = (i : Int) from by unfold posI; rw [hpos]]
  rintro ex w2 ⟨rfl, hb2⟩
  have hb := hb1.trans (hb2.mono hb1.size)
  have kB := kB1.below hb2 kB1.lt
  clear h1 kB1 hb1 hb2
  clear h hpos kB he
  go_wp2
  go_returns
  exact ⟨rfl, hb⟩

set_option maxRecDepth 100000 in
set_option maxHeartbeats 4000000 in
theorem rread_wait (h : RefIn w p F es nx A n c) (hn : n ≤ 60000) {i : Nat} {k0 : PKey} {A0 : Option Addr} {c0 r s : Nat} (hpos : pos es (nm, lb, nu, ge) = some i) (he : es[i]? = some (⟨k0, A0, [], c0, r, s⟩ : RE)) (hr : r < 60000) (hs : s < 60000) (hs0 : 0 < s) (m : Int) (hm : 0 < m) :
    Calls Try.prog 28 #[.pointer (some ⟨p, 0, none⟩), .bool nm, .agg #[.int .u8 (lb.toNat : Int), .int .u16 (nu.toNat : Int), .int .u16 (ge.toNat : Int)], .int .i64 m] w fun ex w' =>
      ex = .returned (.tuple #[.slice none 0 0, .int .i64 33]) ∧ Below w.heap.size w w' := by
  go_enter Try.func28, Try.ntmps28
  go_wp2_with fail
  have hb1 : Below w.heap.size w (w.alloc (.cells #[.int .u8 (lb.toNat : Int), .int .u16 (nu.toNat : Int), .int .u16 (ge.toNat : Int)] 39)) := (Below.refl _ _).alloc (Nat.le_refl _) _
  have kB1 := Blk.new w 39 #[.int .u8 (lb.toNat : Int), .int .u16 (nu.toNat : Int), .int .u16 (ge.toNat : Int)]
  have h1 := h.below hb1
  refine (ref_find p nm lb nu ge _ n c es _ (h1.blk.cell 0) (h1.lt p h1.fp) (Rd.of_own h1.row) hn).mono ?_
  rw [show posI es (nm, lb, nu, ge) = (i : Int) from by unfold posI; rw [hpos]]
  rintro ex w2 ⟨rfl, hb2⟩
  have hb := hb1.trans (hb2.mono hb1.size)
  have kB := kB1.below hb2 kB1.lt
  clear h1 kB1 hb1 hb2
  obtain ⟨g, rfl, a0⟩ := h.at7 he
  have a7 := a0.below hb
  have H := hide h
  have HB := hide hb
  clear a0 kB he h hb hpos
  have p0 := a7.hd
  have c5 := a7.cell 5 (v := .int .i64 ((⟨k0, A0, [], c0, r, s⟩ : RE).r : Int)) rfl
  have c6 := a7.cell 6 (v := .int .i64 ((⟨k0, A0, [], c0, r, s⟩ : RE).s : Int)) rfl
  have c4 := a7.cell 4 (v := .slice (⟨k0, A0, [], c0, r, s⟩ : RE).A (⟨k0, A0, [], c0, r, s⟩ : RE).l.length (⟨k0, A0, [], c0, r, s⟩ : RE).c) rfl
  have f4 := a7.frozen (i * 7 + 4)
  have f5 := a7.frozen (i * 7 + 5)
  have f6 := a7.frozen (i * 7 + 6)
  have gl := a7.gl
  have pl := a7.pl
  have hiz : (i : Int) < n := by have := a7.hi; omega
  have t1 : decide (m < 0) = false := by simp; omega
  have t2 : decide (0 < m) = true := by simp; omega
  have t3 : decide ((0 : Int) < s) = true := by simp; omega
  go_wp2
  go_returns
  exact ⟨rfl, HB.out⟩

set_option maxRecDepth 100000 in
set_option maxHeartbeats 4000000 in
theorem rleave_none (rd wr : Bool) (h : RefIn w p F es nx A n c) (hn : n ≤ 60000) (hpos : pos es (nm, lb, nu, ge) = none) :
    Calls Try.prog 25 #[.pointer (some ⟨p, 0, none⟩), .bool nm, .agg #[.int .u8 (lb.toNat : Int), .int .u16 (nu.toNat : Int), .int .u16 (ge.toNat : Int)], .bool rd, .bool wr] w fun ex w' =>
      ex = .returned (.tuple #[]) ∧ Below w.heap.size w w' := by
  go_enter Try.func25, Try.ntmps25
  go_wp2_with fail
  have hb1 : Below w.heap.size w (w.alloc (.cells #[.int .u8 (lb.toNat : Int), .int .u16 (nu.toNat : Int), .int .u16 (ge.toNat : Int)] 39)) := (Below.refl _ _).alloc (Nat.le_refl _) _
  have kB1 := Blk.new w 39 #[.int .u8 (lb.toNat : Int), .int .u16 (nu.toNat : Int), .int .u16 (ge.toNat : Int)]
  have h1 := h.below hb1
  refine (ref_find p nm lb nu ge _ n c es _ (h1.blk.cell 0) (h1.lt p h1.fp) (Rd.of_own h1.row) hn).mono ?_
  rw [show posI es (nm, lb, nu, ge) = (-1) from by unfold posI; rw [hpos]]
  rintro ex w2 ⟨rfl, hb2⟩
  have hb := hb1.trans (hb2.mono hb1.size)
  have kB := kB1.below hb2 kB1.lt
  clear h1 kB1 hb1 hb2
  clear h hpos kB
  go_wp2
  go_returns
  exact ⟨rfl, hb⟩

set_option maxRecDepth 100000 in
set_option maxHeartbeats 4000000 in
theorem rjoin_no  :
    Calls Try.prog 29 #[.pointer (some ⟨p, 0, none⟩), .bool nm, .agg #[.int .u8 (lb.toNat : Int), .int .u16 (nu.toNat : Int), .int .u16 (ge.toNat : Int)], .bool false, .bool false] w fun ex w' =>
      ex = .returned (.tuple #[]) ∧ Below w.heap.size w w' := by
  go_enter Try.func29, Try.ntmps29
  go_wp2
  go_returns
  exact ⟨rfl, by go_grown⟩

section
variable {p : Nat} {A : Option Addr} {n c : Nat} {es : List RE} {nx : List UInt16} {F : Nat → Prop} {w : World}
theorem find_plain (h : RefIn w p F es nx A n c) (hn : n ≤ 60000) (lb : UInt8) (z : UInt16) (f : Bool) (hf : (mget (toL es) (false, lb, z, 0)).isSome = f) :
    Calls Try.prog 30 #[.pointer (some ⟨p, 0, none⟩), .bool false, .agg #[.int .u8 (lb.toNat : Int), .int .u16 (z.toNat : Int), .int .u16 0]] w fun e w' =>
      (∃ v : Int, e = .returned (.int .i64 v) ∧ decide (0 ≤ v) = f) ∧ Below w.heap.size w w' := by
  refine (ref_find p false lb z 0 A n c es w (h.blk.cell 0) (h.lt p h.fp) (Rd.of_own h.row) hn).mono ?_
  rintro e w' ⟨rfl, hb⟩
  refine ⟨⟨_, rfl, ?_⟩, hb⟩
  subst hf
  unfold posI
  rw [mget_toL]
  cases hp : pos es (false, lb, z, 0) with
  | none => rfl
  | some i =>
    obtain ⟨e, he, _⟩ := pos_some hp
    simp [he]
theorem RefIn.next (h : RefIn w p F es nx A n c) {w' : World} (nx' : List UInt16) (hB : Blk w' p 62 (rcells (.slice A n c) nx')) (hT : Tch w.heap.size (· = p) w w') : RefIn w' p F es nx' A n c := by
  have hk : ∀ b, F b → b ≠ p → w'.heap[b]? = w.heap[b]? := fun b hf hne => hT.block b (h.lt b hf) hne
  refine ⟨hB, own_keep h.row fun g hg => hk g (h.fr g hg) fun e => blk_not_own h.blk h.row (by decide) (e ▸ hg), h.fp, h.fr, fun b hb => Nat.lt_of_lt_of_le (h.lt b hb) hT.size, fun e he => ?_, h.apart⟩
  obtain ⟨h1, h2, h3⟩ := h.own e he
  exact ⟨own_keep h1 fun g hg => hk g (h2 g hg) (h.bytes_far he hg).1, h2, h3⟩
set_option maxRecDepth 100000 in
set_option maxHeartbeats 400000 in
theorem rplain (h : RefIn w p F es nx A n c) (hn : n ≤ 60000) (lb : UInt8) (hl : lb.toNat < 64) (x : UInt16) (hnx : nx[lb.toNat]? = some x) (i : Nat) (y : UInt16) (hT : Tk (fun z => (mget (toL es) (false, lb, z, 0)).isSome) i x y) :
    Calls Try.prog 24 #[.pointer (some ⟨p, 0, none⟩), .int .i64 (lb.toNat : Int)] w fun e w' =>
      e = .returned (.int .u16 (y.toNat : Int)) ∧ RefIn w' p F es (nx.set lb.toNat (y + 1)) A n c ∧ Went w w' F F := by
  have hp := h.blk.lt
  have hl0 : (lb.toNat : Int) < 64 := by omega
  have pc : w.cell? ⟨p, 1 + lb.toNat, none⟩ = some (.int .u16 (x.toNat : Int)) := by
    rw [h.blk.cell]
    simp [rcells, Nat.add_comm 1, hnx]
  have HA := show Aside _ from hT
  have H := hide h
  clear hT hnx h
  go_enter Try.func24, Try.ntmps24
  go_wp2
  have pc0 := hide pc
  clear pc
  go_loopg [5] i (fun g x5 wr => ∃ z : UInt16, x5 = .int .u16 (z.toNat : Int) ∧ Aside (Tk (fun z => (mget (toL es) (false, lb, z, 0)).isSome) g z y ∧ Below w.heap.size w wr))
  case atStart => exact ⟨x, rfl, HA, Below.refl _ _⟩
  case round =>
    obtain ⟨z, rfl, hz⟩ := hrel
    obtain ⟨hz, hbr⟩ := hz
    clear HA
    go_wp2_with fail
    cases gk with
    | zero =>
      obtain ⟨hf, rfl⟩ := hz
      refine (find_plain (H.out.below hbr) hn lb z false hf).mono ?_
      rintro e w2 ⟨⟨v, rfl, hv⟩, hb2⟩
      have hb := hbr.trans (hb2.mono hbr.size)
      have pB := H.out.blk.below hb hp
      have pl := pB.lt
      have pf := pB.frozen (1 + lb.toNat)
      have pcl : ∃ u, w2.cell? ⟨p, 1 + lb.toNat, none⟩ = some u := ⟨_, (hb.cell (p := ⟨p, 1 + lb.toNat, none⟩) hp).trans pc0.out⟩
      obtain ⟨u, pcl⟩ := pcl
      have u1 := u16_add z
      clear hf
      go_wp2
      go_returns
      rw [u16_mod]
      refine ⟨rfl, (H.out.below hb).next _ ?_ (Tch.setCell fun _ => rfl), (Tch.of_below hb).trans (Tch.setCell fun _ => H.out.fp), fun b hb => .inl hb⟩
      rw [rcells_set]
      exact pB.set_ _ _
    | succ g =>
      obtain ⟨hf, hz'⟩ := hz
      refine (find_plain (H.out.below hbr) hn lb z true hf).mono ?_
      rintro e w2 ⟨⟨v, rfl, hv⟩, hb2⟩
      have hb := hbr.trans (hb2.mono hbr.size)
      have u1 := u16_add z
      have HZ := show Aside _ from hz'
      have HB := hide hb
      clear hf hz' hb2 hbr hb
      go_wp2
      go_roundg g
      case measure => omega
      case rel => exact ⟨z + 1, rfl, HZ, HB.out⟩
end

/-- what Read leaves -/
def RPost (p i n c : Nat) (k0 : PKey) (l0 : List UInt8) (m : Int) (r s : Nat) (es : List RE) (nx : List UInt16) (A : Option Addr) (F : Nat → Prop) (w : World) (ex : Ending) (w' : World) : Prop :=
  ∃ Ao no co, ex = .returned (.tuple #[.slice Ao no co, .int .i64 0]) ∧ Rd w' w'.heap.size 1 Ao no (bvs (l0.take m.toNat)) ∧ ∃ F' A' c', RefIn w' p F' (es.set i ⟨k0, A', l0.drop m.toNat, c', r, s⟩) nx A n c ∧ Went w w' F F'
set_option maxRecDepth 100000 in
set_option maxHeartbeats 4000000 in
theorem rread_ok (h : RefIn w p F es nx A n c) (hn : n ≤ 60000) {i : Nat} {k0 : PKey} {A0 : Option Addr} {l0 : List UInt8} {c0 r s : Nat} (hpos : pos es (nm, lb, nu, ge) = some i) (he : es[i]? = some (⟨k0, A0, l0, c0, r, s⟩ : RE)) (hr : r < 60000) (hs : s < 60000) (hl : l0.length ≤ 256) (m : Int) (hm : 0 ≤ m) (hcs : m ≤ 0 ∨ l0 ≠ [] ∨ s = 0) :
    Calls Try.prog 28 #[.pointer (some ⟨p, 0, none⟩), .bool nm, .agg #[.int .u8 (lb.toNat : Int), .int .u16 (nu.toNat : Int), .int .u16 (ge.toNat : Int)], .int .i64 m] w fun ex w' =>
      RPost p i n c k0 l0 m r s es nx A F w ex w' := by
  go_enter Try.func28, Try.ntmps28
  obtain ⟨u0, hu0, u1, u2, u3⟩ := info_parts info_u8
  go_wp2_with fail
  have hb1 : Below w.heap.size w (w.alloc (.cells #[.int .u8 (lb.toNat : Int), .int .u16 (nu.toNat : Int), .int .u16 (ge.toNat : Int)] 39)) := (Below.refl _ _).alloc (Nat.le_refl _) _
  have kB1 := Blk.new w 39 #[.int .u8 (lb.toNat : Int), .int .u16 (nu.toNat : Int), .int .u16 (ge.toNat : Int)]
  have h1 := h.below hb1
  refine (ref_find p nm lb nu ge _ n c es _ (h1.blk.cell 0) (h1.lt p h1.fp) (Rd.of_own h1.row) hn).mono ?_
  rw [show posI es (nm, lb, nu, ge) = (i : Int) from by unfold posI; rw [hpos]]
  rintro ex w2 ⟨rfl, hb2⟩
  have hb := hb1.trans (hb2.mono hb1.size)
  have kB := kB1.below hb2 kB1.lt
  clear h1 kB1 hb1 hb2
  obtain ⟨g, rfl, a0⟩ := h.at7 he
  have a7 := a0.below hb
  have H := hide h
  have HC := hide hcs
  have hm1 : decide (m < 0) = false := by simp; omega
  clear a0 kB he h hb hpos hcs
  have p0 := a7.hd
  have c5 := a7.cell 5 (v := .int .i64 ((⟨k0, A0, l0, c0, r, s⟩ : RE).r : Int)) rfl
  have c6 := a7.cell 6 (v := .int .i64 ((⟨k0, A0, l0, c0, r, s⟩ : RE).s : Int)) rfl
  have c4 := a7.cell 4 (v := .slice (⟨k0, A0, l0, c0, r, s⟩ : RE).A (⟨k0, A0, l0, c0, r, s⟩ : RE).l.length (⟨k0, A0, l0, c0, r, s⟩ : RE).c) rfl
  have f4 := a7.frozen (i * 7 + 4)
  have f5 := a7.frozen (i * 7 + 5)
  have f6 := a7.frozen (i * 7 + 6)
  have gl := a7.gl
  have pl := a7.pl
  have hiz : (i : Int) < n := by have := a7.hi; omega
  have tests : Hid ((decide (0 < m) = false) ∨ (decide (0 < m) = true ∧ ((l0.length : Int) == 0) = false) ∨ (decide (0 < m) = true ∧ ((l0.length : Int) == 0) = true ∧ decide ((0 : Int) < s) = false ∧ ¬ 0 < s)) := by
    by_cases h1 : 0 < m
    · by_cases h2 : l0 = []
      · have h3 : s = 0 := by
          rcases HC.out with h | h | h
          · omega
          · exact absurd h2 h
          · exact h
        exact .inr (.inr ⟨decide_eq_true h1, by rw [h2]; rfl, by rw [h3]; rfl, by omega⟩)
      · refine .inr (.inl ⟨decide_eq_true h1, ?_⟩)
        have := List.length_pos_iff.2 h2
        simp; omega
    · exact .inl (decide_eq_false h1)
  rcases tests.out with t1 | ⟨t1, t2⟩ | ⟨t1, t2, t3, t4⟩
  all_goals
    go_wp2_with fail
    clear p0 c4 c5 c6 f4 f5 f6 gl pl hiz t1
    clear tests
    go_loopg [11] l0.length (fun gh x11 wr => ∃ (lo li : List UInt8) (Ao : Option Addr) (co : Nat), gh = li.length ∧ x11 = .slice Ao lo.length co ∧ Aside (l0 = lo ++ li ∧ (lo.length : Int) ≤ m ∧ ∃ A' c', At7 w wr p g n c i es (⟨k0, A0, l0, c0, r, s⟩ : RE) (⟨k0, A', li, c', r, s⟩ : RE) ∧ wr.ownsRow w.heap.size 5 1 (.slice Ao lo.length co) lo.length (bvs lo) ∧ ∀ x, (Value.slice Ao lo.length co).ownBlock = some x → (⟨k0, A', li, c', r, s⟩ : RE).v.ownBlock ≠ some x))
    case atStart => exact ⟨[], l0, none, 0, rfl, rfl, rfl, by simpa using hm, A0, c0, a7, World.ownsRow_nil _ _ _ _, fun x hx => by cases hx⟩
    case round =>
      obtain ⟨lo, li, Ao, co, hgh, rfl, hA⟩ := hrel
      obtain ⟨hll, hlm, A', c', a8, oo8, sp8⟩ := hA
      clear a7
      have HL := hide hll
      clear hll
      have p0 := a8.hd
      have c4 := a8.cell 4 (v := .slice A' li.length c') rfl
      have gl := a8.gl
      have pl := a8.pl
      have hiz : (i : Int) < n := by have := a8.hi; omega
      by_cases hjm : (lo.length : Int) < m
      · have hjm2 : decide ((lo.length : Int) < m) = true := decide_eq_true hjm
        rcases li with _ | ⟨x, li⟩
        · have a12 := a8
          have HO := hide oo8
          clear a8 sp8 oo8
          go_wp2
          go_returns
          have hj : lo.length ≤ m.toNat := by omega
          obtain ⟨F7, h7, hW7⟩ := H.out.of_at7 a12 (by have := congrArg List.length HL.out; simp at this; show ([] : List UInt8).length ≤ 256; simp)
          unfold RPost
          have e1 : l0.take m.toNat = lo := by rw [HL.out]; rw [List.append_nil]; exact List.take_of_length_le hj
          have e2 : l0.drop m.toNat = [] := by rw [HL.out]; rw [List.append_nil]; exact List.drop_eq_nil_of_le hj
          rw [e1, e2]
          exact ⟨_, _, _, rfl, Rd.of_own HO.out, F7, _, _, h7, hW7⟩
        · have hjx : decide ((0 : Int) < (li.length : Int) + 1) = true := decide_eq_true (by omega)
          have hmm : lo.length < 60000 := by have := congrArg List.length HL.out; simp at this; omega
          obtain ⟨bb, ob, rfl, hbw, hcb⟩ := (Rd.of_own a8.own).byte (i := 0) (by simp)
          have cb := hcb 0 (by simp)
          simp only [List.getD_cons_zero, Nat.add_zero] at cb
          clear hcb
          go_upto_region 10 with (fail)
          have hb9 : Below wr.heap.size wr (wr.alloc (.cells #[.int .u8 (x.toNat : Int)] 5)) := (Below.refl _ _).alloc (Nat.le_refl _) _
          have ra : Rd (wr.alloc (.cells #[.int .u8 (x.toNat : Int)] 5)) (wr.heap.size + 1) 1 (some ⟨wr.heap.size, 0, none⟩) 1 (bvs [x]) := Rd.lit (w := wr) rfl rfl rfl rfl
          have oo9 := own_below oo8 hb9
          have a9 := a8.below hb9
          go_wp2_with (refine wpList_append_rd _ rfl (.tmp 61) (.tmp 72) 23 (by rfl) w.heap.size 5 u0 (.int .u8 0) 1 1 Try.underlying23 hu0 u1 u2 u3 rfl (by decide) (.slice Ao lo.length co) lo.length (bvs lo) (by rfl) oo9 _ (some ⟨wr.heap.size, 0, none⟩) 1 1 (bvs [x]) (by rfl) ra (bvs_one _) (by simp only [maxLen]; omega) (by omega) (Nat.le_trans a8.size hb9.size) ?_; intro v' w5 ho5 hg5 _ hat5)
          rw [← bvs_append] at ho5
          obtain ⟨A5, c5, rfl, hnc5, hcm5, hA5⟩ := own_form ho5
          have a10 := a9.aside hg5 (fun y hy => ⟨(oo9.lt y hy).1, sp8 y hy⟩)
          have sp10 : ∀ y, (Value.slice A5 (lo.length + 1) c5).ownBlock = some y → (⟨k0, some ⟨bb, ob, none⟩, x :: li, c', r, s⟩ : RE).v.ownBlock ≠ some y := by
            intro y hy h2
            rcases hat5 with e | e
            · exact sp8 y (e ▸ hy) h2
            · rw [e] at hy
              cases hy
              exact absurd (a9.own.lt _ h2).2 (Nat.lt_irrefl _)
          clear a8 a9 oo8 oo9 sp8 hb9 ra hg5 hat5 p0 c4 gl pl cb hbw
          have p0 := a10.hd
          have c4 := a10.cell 4 (v := .slice (some ⟨bb, ob, none⟩) (li.length + 1) c') rfl
          have gl := a10.gl
          have pl := a10.pl
          have gf := a10.frozen (i * 7 + 4)
          have hcc : li.length + 1 ≤ c' := by
            obtain ⟨_, _, hv, h1, _⟩ := own_form a10.own
            cases hv; exact h1
          have r2 := (Rd.of_own a10.own).cut (k := 1) (cap := c') (by simp) hcc
          rw [bvs_drop] at r2
          simp only [Nat.one_mul, List.drop_succ_cons, List.drop_zero, List.length_cons, Nat.add_sub_cancel] at r2
          obtain ⟨A2, hA2⟩ : ∃ A2, (if c' = 1 then (some ⟨bb, ob, none⟩ : Option Addr) else some ⟨bb, ob + 1, none⟩) = A2 := ⟨_, rfl⟩
          have hA3 : (if c' = 1 then (some ⟨bb, ob, none⟩ : Option Addr) else (some (⟨bb, ob, none⟩ : Addr)).map (·.add 1)) = A2 := by rw [← hA2]; simp [Addr.add]
          rw [hA3] at r2
          have hcz : (1 : Int) ≤ (li.length : Int) + 1 := by omega
          clear hA3
          refine wp_region_ord [0, 1, 2, 3, 4, 6, 7, 8, 9, 10, 11, 12, 13, 14, 5, 15, 16, 17, 18] [0, 0, 0, 0, 0, 0, 0, 0, 0, 0, 0, 0, 0, 0, 1, 1, 0, 0, 2] (Below w5.heap.size w5) (by kernel_rfl) (by kernel_rfl) (Below.refl _ _).drew ?_
          iterate 14 (refine wpOrd_q (v := ?_) (by rfl) (fun W hW => ?_) ?_; rotate_left; (focus ((obtain ⟨hWc, hWf⟩ := bcell hW); go_simp; try with_reducible rfl)); try simp only [Act.put, List.setIfInBounds_toArray, List.set_cons_zero, List.set_cons_succ])
          clear p0 c4 hA2 hcz
          refine wpOrd_x (by rfl) (fun K hK => ?_)
          go_simp
          refine hK _ _ _ (fun _ h => h) ((Below.refl _ _).drew.alloc (Nat.le_refl _) _) ?_
          clear hK K
          try simp only [Act.put, List.setIfInBounds_toArray, List.set_cons_zero, List.set_cons_succ]
          have oa := own_lit (w := w5.drew) (base := w5.heap.size) (e := 5) (size := 1) (n := 0) (cs := #[]) rfl rfl (Nat.le_refl _) (by simp [maxLen]) rfl
          have hb3 : Below w5.heap.size w5 (w5.drew.alloc (.cells #[] 5)) := (Below.refl _ _).drew.alloc (Nat.le_refl _) _
          refine wpOrd_x (by rfl) (fun K hK => ?_)
          refine wp_append_rd _ (.tmp 79) (.tmp 88) 23 (by rfl) w5.heap.size 5 u0 (.int .u8 0) 1 1 Try.underlying23 hu0 u1 u2 u3 rfl (by decide) (.slice (some ⟨w5.heap.size, 0, none⟩) 0 0) 0 [] (by rfl) oa _ A2 li.length (c' - 1) (bvs li) (by rfl) (r2.below hb3) (bvs_one _) (by simp only [maxLen]; have := congrArg List.length HL.out; simp at this; omega) (by have := congrArg List.length HL.out; simp at this; omega) hb3.size ?_
          intro v' w6 ho6 hg6 _ hat6
          rw [List.nil_append, Nat.zero_add] at ho6
          obtain ⟨A6, c6, rfl, hnc6, hcm6, hA6⟩ := own_form ho6
          have hb6 : Below w5.heap.size w5 w6 := hb3.trans ((Tch.grown (S := fun _ => False) hg6 hb3.size fun k hk hlt => by cases hk; exact absurd hlt (Nat.lt_irrefl _)).below fun _ _ h => h)
          refine hK _ _ _ (fun _ h => h) hb6 ?_
          clear hK K oa hg6 hat6 hb3 r2
          try simp only [Act.put, List.setIfInBounds_toArray, List.set_cons_zero, List.set_cons_succ]
          iterate 2 (refine wpOrd_q (v := ?_) (by rfl) (fun W hW => ?_) ?_; rotate_left; (focus (go_simp; try with_reducible rfl)); try simp only [Act.put, List.setIfInBounds_toArray, List.set_cons_zero, List.set_cons_succ])
          have a11 := a10.below hb6
          have gl6 := a11.gl
          have gc6 := a11.cell 4 (v := .slice (some ⟨bb, ob, none⟩) (li.length + 1) c') rfl
          have gf6 := a11.frozen (i * 7 + 4)
          refine wpOrd_b (by rfl) (fun K hK => ?_)
          go_simp
          refine hK (fun _ => True) _ _ trivial ?_
          clear hK K
          try simp only [Act.put, List.setIfInBounds_toArray, List.set_cons_zero, List.set_cons_succ]
          refine wpOrd_nil ?_
          have a12 := a10.put (A' := A6) (n' := li.length) (c' := c6) (l' := li) ⟨hb6.os, hb6.tape, hb6.output, hb6.size, fun k hk _ => hb6.block k hk⟩ (own_mono ho6 (Nat.zero_le _)) rfl (.inr fun x hx => (ho6.lt x hx).1)
          have oo12 : (w6.setCell ⟨g, i * 7 + 4, none⟩ (.slice A6 li.length c6)).ownsRow w.heap.size 5 1 (.slice A5 (lo.length + 1) c5) (lo.length + 1) (bvs (lo ++ [x])) :=
            ownsRow_setCell_other (own_below ho5 hb6) (fun e => by have := (ho5.lt g e).1; have := a10.lt.1; omega) _
          have sp12 : ∀ y, (Value.slice A5 (lo.length + 1) c5).ownBlock = some y → (⟨k0, A6, li, c6, r, s⟩ : RE).v.ownBlock ≠ some y := fun y hy h2 => by
            have h3 := (ho5.lt y hy).2
            have h4 := (ho6.lt y h2).1
            omega
          clear gl6 gc6 gf6 a11 hb6 ho6 ho5 sp10 a10 gf gl pl
          have HR := hide (show l0 = (lo ++ [x]) ++ li by rw [HL.out]; simp)
          go_wp2
          go_roundg li.length
          case measure => simp at hgh; omega
          case rel => exact ⟨lo ++ [x], li, A5, c5, rfl, by simp, HR.out, by simp; omega, A6, c6, a12, by simpa using oo12, by simpa using sp12⟩
      · have a12 := a8
        have HO := hide oo8
        have hjm2 : decide ((lo.length : Int) < m) = false := decide_eq_false hjm
        clear a8 sp8 oo8
        go_wp2
        go_returns
        have hj : m.toNat = lo.length := by omega
        obtain ⟨F7, h7, hW7⟩ := H.out.of_at7 a12 (by have := congrArg List.length HL.out; simp at this; show li.length ≤ 256; omega)
        unfold RPost
        have e1 : l0.take m.toNat = lo := by rw [HL.out]; rw [hj]; simp
        have e2 : l0.drop m.toNat = li := by rw [HL.out]; rw [hj]; simp
        rw [e1, e2]
        exact ⟨_, _, _, rfl, Rd.of_own HO.out, F7, _, _, h7, hW7⟩

set_option maxRecDepth 100000 in
set_option maxHeartbeats 4000000 in
theorem rread_none (h : RefIn w p F es nx A n c) (hn : n ≤ 60000) (m : Int) (hpos : pos es (nm, lb, nu, ge) = none) :
    Calls Try.prog 28 #[.pointer (some ⟨p, 0, none⟩), .bool nm, .agg #[.int .u8 (lb.toNat : Int), .int .u16 (nu.toNat : Int), .int .u16 (ge.toNat : Int)], .int .i64 m] w fun ex w' =>
      ex = .returned (.tuple #[.slice none 0 0, .int .i64 3]) ∧ Below w.heap.size w w' := by
  go_enter Try.func28, Try.ntmps28
  go_wp2_with fail
  have hb1 : Below w.heap.size w (w.alloc (.cells #[.int .u8 (lb.toNat : Int), .int .u16 (nu.toNat : Int), .int .u16 (ge.toNat : Int)] 39)) := (Below.refl _ _).alloc (Nat.le_refl _) _
  have kB1 := Blk.new w 39 #[.int .u8 (lb.toNat : Int), .int .u16 (nu.toNat : Int), .int .u16 (ge.toNat : Int)]
  have h1 := h.below hb1
  refine (ref_find p nm lb nu ge _ n c es _ (h1.blk.cell 0) (h1.lt p h1.fp) (Rd.of_own h1.row) hn).mono ?_
  rw [show posI es (nm, lb, nu, ge) = (-1) from by unfold posI; rw [hpos]]
  rintro ex w2 ⟨rfl, hb2⟩
  have hb := hb1.trans (hb2.mono hb1.size)
  have kB := kB1.below hb2 kB1.lt
  clear h1 kB1 hb1 hb2
  clear h hpos kB
  go_wp2
  go_returns
  exact ⟨rfl, hb⟩
end
end Go.Proofs.Ytkjgieehiimiiaa

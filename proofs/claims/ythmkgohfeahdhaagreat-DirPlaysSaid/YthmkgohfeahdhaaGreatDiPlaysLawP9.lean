/- The document's groups: what they take; bytes written, cut: walked. The document's groups: made, written into, cut: walked. The document's groups: another one that is the same: walked. The fixed facts of layer 7's laws: walked. A fresh disk of a configuration: walked. The fixed facts of layer 8's laws, their bytes: walked. A group's records: one more, all of them, one of them: walked. A group's records: all of them, one of them: walked. What comes in, opened: bytes, numbers. No program in sight. Labels and marks that came in, opened. No program in sight. A directory's acts that came in, opened. Paths, the plain layer: what a text is as a part and as a path. No program in sight. A directory's names: walked (as for the paths). -/
import Derived.Test.YthmkgohfeahdhaaGreatDiPlaysLawP8
import Derived.ProofKit
import Derived.OpenShut
import Derived.Lib.SmallJoins
import Derived.Deep.Slices
import Derived.Deep.Fields
import Derived.Deep.Strs
import Derived.Lib.SplitLaws
import Derived.Lib.IndexBytes
import Derived.Deep.RegionHeld3
import Derived.Deep.RegionLaw
import Derived.Deep.QuietTactic
import Derived.BigQuiet
import Derived.Handy
import Derived.Deep.LoopGhost
import Derived.Deep.Cut
import Derived.Deep.CutRange
namespace Go.Proofs.YthmkgohfeahdhaaGreat
open Go.RowKit
set_option linter.unusedSimpArgs false
set_option linter.unusedVariables false

theorem list_seg_take {α : Type} (A vs : List α) (o m : Nat) (h : o + vs.length ≤ m) (hA : m ≤ A.length) : (A.take o ++ vs ++ A.drop (o + vs.length)).take m = (A.take m).take o ++ vs ++ (A.take m).drop (o + vs.length) := by
  apply List.ext_getElem?
  intro j
  have e1 : (A.take o).length = o := by rw [List.length_take]; omega
  have e2 : ((A.take m).take o).length = o := by rw [List.length_take, List.length_take]; omega
  rw [List.getElem?_take]
  rw [List.append_assoc, List.append_assoc]
  by_cases hj : j < m
  · rw [if_pos hj]
    by_cases h1 : j < o
    · rw [List.getElem?_append_left (by omega), List.getElem?_append_left (by omega), List.getElem?_take, List.getElem?_take, List.getElem?_take, if_pos h1, if_pos h1, if_pos hj]
    · rw [List.getElem?_append_right (l₁ := A.take o) (by omega), List.getElem?_append_right (l₁ := (A.take m).take o) (by omega), e1, e2]
      by_cases h2 : j - o < vs.length
      · rw [List.getElem?_append_left h2, List.getElem?_append_left h2]
      · rw [List.getElem?_append_right (by omega), List.getElem?_append_right (by omega), List.getElem?_drop, List.getElem?_drop, List.getElem?_take, if_pos (by omega)]
  · rw [if_neg hj, List.getElem?_eq_none]
    simp only [List.length_append, List.length_take, List.length_drop]
    omega
/-- cells written in an own row -/
theorem own_cells {w : World} {B g n c sz o : Nat} {e : TypeId} {xs vs : List Value} (h : w.ownsRow B e sz (.slice (some ⟨g, 0, none⟩) n c) n xs) (ho : o + vs.length ≤ n * sz) :
    (w.setCells g o vs).ownsRow B e sz (.slice (some ⟨g, 0, none⟩) n c) n (xs.take o ++ vs ++ xs.drop (o + vs.length)) := by
  obtain ⟨hl, h | ⟨g', cap, cur, hv, hg, hh, hn, hcm, hsz, ht⟩⟩ := h
  · cases h.1
  · simp only [Value.slice.injEq, Option.some.injEq, Addr.mk.injEq] at hv
    obtain ⟨⟨rfl, _⟩, _, rfl⟩ := hv
    have hnc : n * sz ≤ c * sz := Nat.mul_le_mul_right _ hn
    have hB : Blk w g e cur := hh
    have h2 := hB.setCells o vs (by omega)
    refine ⟨by simp only [List.length_append, List.length_take, List.length_drop]; omega, .inr ⟨g, c, _, rfl, hg, h2, hn, hcm, ?_, ?_⟩⟩
    · simp only [List.size_toArray, List.length_append, List.length_take, List.length_drop, Array.length_toList]
      omega
    · rw [← ht]
      exact list_seg_take cur.toList vs o (n * sz) ho (by rw [Array.length_toList]; omega)
theorem own_cell1 {w : World} {B g n c sz o : Nat} {e : TypeId} {xs : List Value} {u : Value} (h : w.ownsRow B e sz (.slice (some ⟨g, 0, none⟩) n c) n xs) (ho : o < n * sz) :
    (w.setCell ⟨g, o, none⟩ u).ownsRow B e sz (.slice (some ⟨g, 0, none⟩) n c) n (xs.set o u) := by
  have := own_cells (o := o) (vs := [u]) h (by simp only [List.length_cons, List.length_nil]; omega)
  have e1 : xs.take o ++ [u] ++ xs.drop (o + [u].length) = xs.set o u := by
    rw [List.set_eq_take_append_cons_drop, if_pos (by rw [h.1]; exact ho)]
    simp
  rw [e1] at this
  exact this
theorem flat5_seg {L : List RNd} {k : Nat} (n' : RNd) (hk : k < L.length) : (flat5 L).take (k * 5) ++ n'.cells ++ (flat5 L).drop (k * 5 + n'.cells.length) = flat5 (L.set k n') := by
  induction L generalizing k with
  | nil => simp at hk
  | cons a r ih =>
    have ha : a.cells.length = 5 := rfl
    have hn : n'.cells.length = 5 := rfl
    cases k with
    | zero =>
      unfold flat5
      rw [Nat.zero_mul, List.take_zero, List.nil_append, Nat.zero_add, hn, List.set_cons_zero, List.flatMap_cons, List.flatMap_cons, List.drop_append, ← ha, List.drop_length, Nat.sub_self, List.drop_zero, List.nil_append]
    | succ k =>
      have := ih (k := k) (by simpa using hk)
      unfold flat5 at this ⊢
      rw [List.set_cons_succ, List.flatMap_cons, List.flatMap_cons, ← this, List.take_append, List.drop_append, List.take_of_length_le (by rw [ha]; omega), List.drop_of_length_le (by rw [ha]; omega), List.nil_append]
      rw [show (k + 1) * 5 - a.cells.length = k * 5 from by rw [ha]; omega, show (k + 1) * 5 + n'.cells.length - a.cells.length = k * 5 + n'.cells.length from by rw [ha]; omega]
      simp only [List.append_assoc]
section
variable {w w' : World} {mb nb cN tn tc blocks : Nat} {L : List RNd} {T : Option Addr}
theorem Row5.set1 (h : Row5 w nb L cN) {k j : Nat} {n n' : RNd} {u : Value} (hk : L[k]? = some n) (hj : j < 5) (hu : n.cells.set j u = n'.cells) (hn : n'.At w) : Row5 (w.setCell ⟨nb, k * 5 + j, none⟩ u) nb (L.set k n') cN := by
  have hkl : k < L.length := (List.getElem?_eq_some_iff.1 hk).1
  obtain ⟨cur, hB, _⟩ := h.blk
  have ht : Tch w.heap.size (· = nb) w (w.setCell ⟨nb, k * 5 + j, none⟩ u) := Tch.setCell fun _ => rfl
  have hx : ∀ m : RNd, m.At w → m.At (w.setCell ⟨nb, k * 5 + j, none⟩ u) := fun m hm => hm.tch ht (fun g cur' hB' e => by subst e; exact hB.ne hB' (by decide) rfl) (fun g cur' hB' e => by subst e; exact hB.ne hB' (by decide) rfl)
  refine ⟨?_, fun m hm => ?_⟩
  · have := own_cell1 (u := u) (o := k * 5 + j) h.row (by omega)
    rw [flat5_set hk hj hu] at this
    rw [List.length_set]
    exact this
  · rcases List.mem_or_eq_of_mem_set hm with hm | rfl
    · exact hx m (h.all m hm)
    · exact hx _ hn
theorem Row5.setN (h : Row5 w nb L cN) {k : Nat} {n' : RNd} (hk : k < L.length) (hn : n'.At w) : Row5 (w.setCells nb (k * 5) n'.cells) nb (L.set k n') cN := by
  obtain ⟨cur, hB, _⟩ := h.blk
  have ht : Tch w.heap.size (· = nb) w (w.setCells nb (k * 5) n'.cells) := Tch.setCells (S := (· = nb)) (fun _ => rfl) _ _ _
  have hx : ∀ m : RNd, m.At w → m.At (w.setCells nb (k * 5) n'.cells) := fun m hm => hm.tch ht (fun g cur' hB' e => by subst e; exact hB.ne hB' (by decide) rfl) (fun g cur' hB' e => by subst e; exact hB.ne hB' (by decide) rfl)
  refine ⟨?_, fun m hm => ?_⟩
  · have := own_cells (vs := n'.cells) (o := k * 5) h.row (by have : n'.cells.length = 5 := rfl; omega)
    rw [flat5_seg n' hk] at this
    rw [List.length_set]
    exact this
  · rcases List.mem_or_eq_of_mem_set hm with hm | rfl
    · exact hx m (h.all m hm)
    · exact hx _ hn
theorem Row5.there (h : Row5 w nb L cN) {k : Nat} (hk : k < L.length) : w.there nb (k * 5) 5 := by
  obtain ⟨cur, hB, hc⟩ := h.blk
  refine hB.there ?_
  have h1 := flat5_get (List.getElem?_eq_getElem hk) (show 4 < 5 by omega)
  have h2 := hc _ _ h1
  have := (Array.getElem?_eq_some_iff.1 h2).1
  omega
end
theorem size_rnode (n : RNd) : (Tryz.prog.info? 62).map (·.size) = some n.cells.toArray.size := by
  have : (Tryz.prog.info? 62).map (·.size) = some 5 := by kernel_rfl
  rw [this]; rfl
theorem rnode_one (n : RNd) : n.cells.toArray.all (·.oneCell') = true := by simp [RNd.cells, Value.oneCell']
theorem zero_rnode (w : World) : (zeroValue 62).run Tryz.prog w = .ok (.agg RNd.zero.cells.toArray) w := by kernel_rfl
set_option maxRecDepth 100000 in
theorem rsize_ok (w : World) (n : RNd) (h1 : n.l.length ≤ 100000) (h2 : n.ps.length ≤ 6000) :
    Calls Tryz.prog 154 #[.agg n.cells.toArray] w fun e w' => e = .returned (.int .i64 (n.size : Int)) ∧ Below w.heap.size w w' := by
  obtain ⟨sz, hsz⟩ : ∃ sz, n.size = sz := ⟨_, rfl⟩
  rw [hsz]
  obtain ⟨cs, hcs⟩ : ∃ cs, n.cells.toArray = cs := ⟨_, rfl⟩
  have k0 : cs[0]? = some (.int .u8 (n.kind.toNat : Int)) := by rw [← hcs]; rfl
  have k3 : cs[3]? = some (.slice n.A n.l.length n.c) := by rw [← hcs]; rfl
  have k4 : cs[4]? = some (.slice n.P n.ps.length n.pc) := by rw [← hcs]; rfl
  have hss : (Tryz.prog.info? 62).map (·.size) = some cs.size := by rw [← hcs]; exact size_rnode n
  rw [hcs]
  unfold RNd.size at hsz
  generalize n.l.length = ll at *
  generalize n.ps.length = pl at *
  have hk : (n.kind = 2) ↔ (n.kind.toNat : Int) = 2 := by
    constructor
    · intro h; rw [h]; rfl
    · intro h; exact UInt8.toNat_inj.1 (by have : (2 : UInt8).toNat = 2 := rfl; omega)
  generalize n.kind.toNat = kk at *
  have HS := hide hss
  go_enter Tryz.func154, Tryz.ntmps154
  go_upto_region 1 with (fail)
  refine at_world (fun W => ∃ p, p = w.heap.size ∧ Below w.heap.size w W ∧ Blk W p 62 cs) ⟨_, rfl, (Below.refl _ _).alloc (Nat.le_refl _) _, Blk.new _ _ _⟩ (fun w1 hw1 => ?_)
  obtain ⟨p, hp, hb1, hP⟩ := hw1
  rw [← hp]
  have HB := hide hb1
  have y0 := (hP.cell 0).trans k0
  have y3 := (hP.cell 3).trans k3
  have y4 := (hP.cell 4).trans k4
  have yl := hP.lt
  clear hp hb1 hP k0 k3 k4 hss hcs
  by_cases h : n.kind = 2
  · rw [if_pos h] at hsz
    have t1 : ((kk : Int) == 2) = true := by rw [beq_iff_eq]; exact hk.1 h
    have e1 : IntKind.i64.wrap (16 * (pl : Int)) = (sz : Int) := by rw [IntWalk.i64_in _ (by omega)]; omega
    clear h hk hsz
    go_wp2
    go_returns
    exact ⟨rfl, HB.out⟩
  · rw [if_neg h] at hsz
    have t1 : ((kk : Int) == 2) = false := by rw [beq_eq_false_iff_ne]; exact fun e => h (hk.2 e)
    subst hsz
    clear h hk
    go_wp2
    go_returns
    exact ⟨rfl, HB.out⟩
/-- bounds that a group keeps -/
def Small (L : List RNd) : Prop := L.length ≤ 200 ∧ ∀ n ∈ L, n.l.length ≤ 60000 ∧ n.ps.length ≤ 3000
theorem usedTo_le {tn : Nat} {L : List RNd} (h : Small L) (ht : tn ≤ 6000) : ∀ k, usedTo tn L k ≤ 2000 * k
  | 0 => by simp [usedTo]
  | k + 1 => by
    have ih := usedTo_le h ht k
    rw [usedTo]
    split
    · omega
    · split
      · omega
      · rename_i n hn
        obtain ⟨h1, h2⟩ := h.2 n (List.mem_of_getElem? hn)
        have : useN tn k n ≤ 1100 := by
          unfold useN
          split
          · omega
          · have h3 : (if k = 2 then 8 * tn else n.size) ≤ 60000 := by
              split
              · omega
              · unfold RNd.size; split <;> omega
            generalize (if k = 2 then 8 * tn else n.size) = x at h3
            unfold need2 nkeys blks
            split <;> split <;> omega
        omega
theorem nodesTo_le (L : List RNd) : ∀ k, nodesTo L k ≤ k
  | 0 => Nat.le_refl _
  | k + 1 => by
    have := nodesTo_le L k
    rw [nodesTo]
    split
    · omega
    · split
      · omega
      · split <;> omega
set_option maxRecDepth 100000 in
set_option maxHeartbeats 2000000 in
/-- how much a group takes -/
theorem rused_ok {nb cN tn tc : Nat} {L : List RNd} {T : Option Addr} (w : World) (b : Int) (hR : Row5 w nb L cN) (hS : Small L) (ht : tn ≤ 6000) (hL : 1 ≤ L.length) :
    Calls Tryz.prog 105 #[.agg #[.slice (some ⟨nb, 0, none⟩) L.length cN, .slice T tn tc, .int .i64 b]] w fun e w' => e = .returned (.tuple #[.int .i64 (usedTo tn L L.length : Int), .int .i64 (nodesTo L L.length : Int)]) ∧ Below w.heap.size w w' := by
  obtain ⟨N, hN⟩ : ∃ N, L.length = N := ⟨_, rfl⟩
  have HR := hide hR
  have HS := hide hS
  have HN := hide hN
  have HT := hide ht
  have hN200 : N ≤ 200 := by have := hS.1; omega
  rw [hN] at hL ⊢
  clear hR hS hN ht
  go_enter Tryz.func105, Tryz.ntmps105
  go_upto_region 3 with (fail)
  refine at_world (fun W => ∃ p, p = w.heap.size ∧ Below w.heap.size w W ∧ Blk W p 47 #[.slice (some ⟨nb, 0, none⟩) N cN, .slice T tn tc, .int .i64 b]) ⟨_, rfl, (Below.refl _ _).alloc (Nat.le_refl _) _, Blk.new _ _ _⟩ (fun w1 hw1 => ?_)
  obtain ⟨p, hp, hb1, hP⟩ := hw1
  rw [← hp]
  have HB1 := hide hb1
  have HP1 := hide hP
  have HPW := hide (show w.heap.size ≤ p from Nat.le_of_eq hp.symm)
  clear hp hb1 hP
  go_loopg [4, 5, 6] (N - 1) (fun gh x4 x5 x6 wr => ∃ k : Nat, 1 ≤ k ∧ k ≤ N ∧ gh = N - k ∧ x6 = .int .i64 (k : Int) ∧ x4 = .int .i64 (usedTo tn L k : Int) ∧ x5 = .int .i64 (nodesTo L k : Int) ∧ Hid (Blk wr p 47 #[.slice (some ⟨nb, 0, none⟩) N cN, .slice T tn tc, .int .i64 b]) ∧ Hid (Below w.heap.size w wr))
  case atStart => exact ⟨1, Nat.le_refl _, hL, rfl, rfl, rfl, rfl, HP1, HB1⟩
  case round =>
    obtain ⟨k, hk1, hk, hgh, rfl, rfl, rfl, HP, HB⟩ := hrel
    have HGH := hide hgh
    clear hgh
    have c0 := HP.out.cell 0
    have c1 := HP.out.cell 1
    have pl := HP.out.lt
    rcases Nat.lt_or_ge k N with hlt | hge
    · have t1 : decide ((k : Int) < (N : Int)) = true := by simp; omega
      have t1' : (k : Int) < (N : Int) := by omega
      obtain ⟨n, hn⟩ : ∃ n, L[k]? = some n := ⟨_, List.getElem?_eq_getElem (by rw [HN.out]; exact hlt)⟩
      have hRr := HR.out.below HB.out
      have hn5 := usedTo_next (tn := tn) hk1 hn
      have hn6 := nodesTo_next hk1 hn
      obtain ⟨hs1, hs2⟩ := HS.out.2 n (List.mem_of_getElem? hn)
      have hu := usedTo_le HS.out (tn := tn) (by have := HT.out; omega) k
      have hu2 := nodesTo_le L k
      have hrg := hRr.range hn
      obtain ⟨U, hU⟩ : ∃ U, usedTo tn L k = U := ⟨_, rfl⟩
      obtain ⟨M, hM⟩ : ∃ M, nodesTo L k = M := ⟨_, rfl⟩
      rw [hU] at hn5 hu ⊢
      rw [hM] at hn6 hu2 ⊢
      have HRG := hide hrg
      have HNX := hide (And.intro hn5 hn6)
      have HSS := hide (And.intro hs1 hs2)
      have HUU := hide (And.intro hu hu2)
      have nbl := hRr.lt
      clear hRr hn5 hn6 hs1 hs2 hu hu2 hrg hU hM hn
      go_upto_region 6 with (first | ((with_reducible refine at_load 62 (.tmp 21) ?_); refine wpList_load_mid rfl 62 (.tmp 21) rfl nb (k * 5) (by rfl) n.cells _ HRG.out Tryz.underlying62 rfl (size_rnode n) ?_) | ((with_reducible refine at_alloc 62 ?_); refine wpList_alloc_as rfl 62 rfl _ (zero_rnode _) ?_) | ((with_reducible refine at_store 62 (.tmp 7) (.tmp 22) ?_); refine wpList_store_blk rfl 62 (.tmp 7) (.tmp 22) rfl wr.heap.size _ _ _ (by rfl) (by rfl) (Blk.new _ _ _) (size_rnode n) rfl (rnode_one n) (fun _ => ?_)) | fail)
      refine at_world (fun W => ∃ q, q = wr.heap.size ∧ Below wr.heap.size wr W ∧ Blk W q 62 n.cells.toArray) ⟨_, rfl, below_setRow ((Below.refl _ _).alloc (Nat.le_refl _) _) (Nat.le_refl _) _, (Blk.new _ _ _).setRow_same _⟩ (fun w2 hw2 => ?_)
      obtain ⟨q, hq, hb2, hQ2⟩ := hw2
      rw [← hq]
      have HP2 := hide (HP.out.below hb2 HP.out.lt)
      have HB2 := hide (HB.out.trans (hb2.mono HB.out.size))
      have HQ2 := hide hQ2
      have q0 := hQ2.cell 0
      have ql := hQ2.lt
      have c0 := HP2.out.cell 0
      have c1 := HP2.out.cell 1
      have pl := HP2.out.lt
      rw [show n.cells.toArray[0]? = some (.int .u8 (n.kind.toNat : Int)) from rfl] at q0
      have hk0 : (n.kind = 0) ↔ (n.kind.toNat : Int) = 0 := by
        constructor
        · intro h; rw [h]; rfl
        · intro h; exact UInt8.toNat_inj.1 (by have : (0 : UInt8).toNat = 0 := rfl; omega)
      have e1 : IntKind.i64.wrap ((k : Int) + 1) = (k : Int) + 1 := IntWalk.i64_in _ (by omega)
      clear hq hb2 hQ2 HP HB nbl
      by_cases hk : n.kind = 0
      · have t2 : ((n.kind.toNat : Int) == 0) = true := by rw [beq_iff_eq]; exact hk0.1 hk
        have hnx := HNX.out
        unfold useN at hnx
        rw [if_pos hk, if_pos hk] at hnx
        have HNX2 := hide hnx
        clear hnx hk hk0 HNX hlt
        go_wp2
        go_roundg (N - (k + 1))
        case rel => exact ⟨k + 1, by omega, by omega, rfl, by first | rfl | go_num, by rw [HNX2.out.1]; rfl, by rw [HNX2.out.2]; rfl, HP2, HB2⟩
        case measure => have := HGH.out; omega
      · have t2 : ((n.kind.toNat : Int) == 0) = false := by rw [beq_eq_false_iff_ne]; exact fun e => hk (hk0.2 e)
        have hnx := HNX.out
        unfold useN at hnx
        rw [if_neg hk, if_neg hk] at hnx
        have HNX2 := hide hnx
        have e2 : IntKind.i64.wrap ((M : Int) + 1) = (M : Int) + 1 := IntWalk.i64_in _ (by have := HUU.out; omega)
        clear hnx hk hk0 HNX
        go_wp2_with (first | ((with_reducible refine at_load 62 (.tmp 7) ?_); refine wpList_load_blk rfl 62 (.tmp 7) rfl q _ _ _ (by rfl) HQ2.out Tryz.underlying62 rfl (size_rnode n) ?_) | fail)
        refine (rsize_ok w2 n (by have := HSS.out; omega) (by have := HSS.out; omega)).mono ?_
        rintro e w3 ⟨rfl, hb3⟩
        have HP3 := hide (HP2.out.below hb3 HP2.out.lt)
        have HB3 := hide (HB2.out.trans (hb3.mono HB2.out.size))
        have c0 := HP3.out.cell 0
        have c1 := HP3.out.cell 1
        have pl := HP3.out.lt
        clear hb3 q0 ql HP2 HB2 HQ2
        obtain ⟨x, hx⟩ : ∃ x, (if k = 2 then 8 * tn else n.size) = x := ⟨_, rfl⟩
        rw [hx] at HNX2
        have hx6 : x ≤ 60000 := by
          rw [← hx]
          have := HT.out
          have := HSS.out
          split
          · omega
          · unfold RNd.size; split <;> omega
        have hsp := rspread_ok w3 (n := x) (by omega)
        have hn2 : blks x + (nkeys (blks x) - blks x) = need2 x := by unfold need2; have : blks x ≤ nkeys (blks x) := by unfold nkeys; omega
                                                                      omega
        have hbx : blks x ≤ 1000 := by unfold blks; omega
        have hnx2 : need2 x ≤ 1100 := by unfold need2 nkeys; split <;> split <;> omega
        have HSP := hide hsp
        have HN2 := hide (And.intro hn2 (And.intro hbx hnx2))
        by_cases h2 : k = 2
        · have t3 : ((k : Int) == 2) = true := by simp [h2]
          rw [if_pos h2] at hx
          have e3 : IntKind.i64.wrap (8 * (tn : Int)) = (x : Int) := by rw [IntWalk.i64_in _ (by omega)]; omega
          clear hx hx6 hsp hn2 hbx hnx2 h2 hlt
          go_wp2_with fail
          refine HSP.out.mono ?_
          rintro e w_ ⟨rfl, hw_⟩
          subst hw_
          obtain ⟨hn2, hbx, hnx2⟩ := HN2.out
          have e4 : IntKind.i64.wrap ((U : Int) + (blks x : Int)) = (U : Int) + (blks x : Int) := IntWalk.i64_in _ (by have := HUU.out; omega)
          have e5 : IntKind.i64.wrap ((U : Int) + (blks x : Int) + ((nkeys (blks x) - blks x : Nat) : Int)) = (U : Int) + (need2 x : Int) := by rw [IntWalk.i64_in _ (by have := HUU.out; omega)]; omega
          clear hn2 hbx hnx2
          generalize blks x = bx at *
          go_wp2
          go_roundg (N - (k + 1))
          case rel => exact ⟨k + 1, by omega, by omega, rfl, by first | rfl | go_num, by rw [HNX2.out.1]; rfl, by rw [HNX2.out.2]; rfl, HP3, HB3⟩
          case measure => have := HGH.out; omega
        · have t3 : ((k : Int) == 2) = false := by rw [beq_eq_false_iff_ne]; omega
          rw [if_neg h2] at hx
          clear hx6 hsp hn2 hbx hnx2 h2 hlt
          subst hx
          go_wp2_with fail
          refine HSP.out.mono ?_
          rintro e w_ ⟨rfl, hw_⟩
          subst hw_
          obtain ⟨hn2, hbx, hnx2⟩ := HN2.out
          generalize n.size = x at *
          have e4 : IntKind.i64.wrap ((U : Int) + (blks x : Int)) = (U : Int) + (blks x : Int) := IntWalk.i64_in _ (by have := HUU.out; omega)
          have e5 : IntKind.i64.wrap ((U : Int) + (blks x : Int) + ((nkeys (blks x) - blks x : Nat) : Int)) = (U : Int) + (need2 x : Int) := by rw [IntWalk.i64_in _ (by have := HUU.out; omega)]; omega
          clear hn2 hbx hnx2
          generalize blks x = bx at *
          go_wp2
          go_roundg (N - (k + 1))
          case rel => exact ⟨k + 1, by omega, by omega, rfl, by first | rfl | go_num, by rw [HNX2.out.1]; rfl, by rw [HNX2.out.2]; rfl, HP3, HB3⟩
          case measure => have := HGH.out; omega
    · have hkn : k = N := by omega
      subst hkn
      have t1 : decide ((k : Int) < (k : Int)) = false := by simp
      clear hge hk hL
      go_wp2
      go_returns
      exact ⟨rfl, HB.out⟩
end Go.Proofs.YthmkgohfeahdhaaGreat
namespace Go.Proofs.YthmkgohfeahdhaaGreat
open Go.RowKit
set_option linter.unusedSimpArgs false
set_option linter.unusedVariables false

set_option maxRecDepth 100000 in
/-- has a group more than it may have? -/
theorem rfull_ok {nb cN tn tc blocks : Nat} {L : List RNd} {T : Option Addr} (w : World) (hR : Row5 w nb L cN) (hS : Small L) (ht : tn ≤ 6000) (hL : 1 ≤ L.length) :
    Calls Tryz.prog 82 #[.agg #[.slice (some ⟨nb, 0, none⟩) L.length cN, .slice T tn tc, .int .i64 (blocks : Int)]] w fun e w' => e = .returned (.bool (decide (blocks < usedTo tn L L.length))) ∧ Below w.heap.size w w' := by
  have hu := fun W (hW : Row5 W nb L cN) => rused_ok (T := T) (tc := tc) W (blocks : Int) hW hS ht hL
  generalize L.length = N at *
  generalize usedTo tn L N = U at *
  generalize nodesTo L N = M at *
  have HU := hide hu
  have HR := hide hR
  clear hu hS hR
  go_enter Tryz.func82, Tryz.ntmps82
  go_upto_region 1 with (fail)
  refine at_world (fun W => ∃ p, p = w.heap.size ∧ Below w.heap.size w W ∧ Blk W p 47 #[.slice (some ⟨nb, 0, none⟩) N cN, .slice T tn tc, .int .i64 (blocks : Int)]) ⟨_, rfl, (Below.refl _ _).alloc (Nat.le_refl _) _, Blk.new _ _ _⟩ (fun w1 hw1 => ?_)
  obtain ⟨p, hp, hb1, hP⟩ := hw1
  rw [← hp]
  have HB1 := hide hb1
  have HP1 := hide hP
  have HR1 := hide (HR.out.below hb1)
  have hsz : (Tryz.prog.info? 47).map (·.size) = some (#[Value.slice (some ⟨nb, 0, none⟩) N cN, .slice T tn tc, .int .i64 (blocks : Int)] : Array Value).size := by kernel_rfl
  have HSZ := hide hsz
  clear hp hb1 hP HR hsz
  go_wp2_with (first | ((with_reducible refine at_load 47 (.tmp 1) ?_); refine wpList_load_blk rfl 47 (.tmp 1) rfl p _ _ _ (by rfl) HP1.out Tryz.underlying47 rfl HSZ.out ?_) | fail)
  refine (HU.out w1 HR1.out).mono ?_
  rintro e w2 ⟨rfl, hb2⟩
  have hP2 := HP1.out.below hb2 HP1.out.lt
  have c2 := hP2.cell 2
  have pl := hP2.lt
  have HF := hide (HB1.out.trans (hb2.mono HB1.out.size))
  clear hb2 hP2
  go_wp2
  go_returns
  exact ⟨by first | rfl | (congr 2; simp), HF.out⟩
/-- a group's own node -/
def RNd.own (k : UInt8) : RNd := ⟨k, 1, 1, none, [], 0, none, [], 0⟩
theorem build_rown (w : World) (k : UInt8) : (Instr.build 62 #[(0, .int .u8 (k.toNat : Int)), (1, .int .i64 1), (2, .int .u16 1)]).run Tryz.prog w = .ok (.agg (RNd.own k).cells.toArray) w := by kernel_rfl
def rnewL (nodes : Nat) : List RNd := (((List.replicate (nodes + 1) RNd.zero).set 1 (RNd.own 2)).set 2 (RNd.own 1)).set 3 (RNd.own 1)
theorem rnewL_length (nodes : Nat) : (rnewL nodes).length = nodes + 1 := by simp [rnewL]
theorem info_rnode : ∃ i, Tryz.prog.info? 62 = some i ∧ i.zero = some (.agg RNd.zero.cells.toArray) ∧ i.size = 5 ∧ i.bytes = 72 := by
  have h : (Tryz.prog.info? 62).map (fun i => (i.zero, i.size, i.bytes)) = some (some (.agg RNd.zero.cells.toArray), 5, 72) := by kernel_rfl
  cases hi : Tryz.prog.info? 62 with
  | none => rw [hi] at h; cases h
  | some i =>
    rw [hi] at h
    simp only [Option.map_some, Option.some.injEq, Prod.mk.injEq] at h
    exact ⟨i, rfl, h.1, h.2.1, h.2.2⟩
theorem flat5_rep (n : Nat) : (madeCells (Value.agg RNd.zero.cells.toArray).cells (n * 5)).toList = flat5 (List.replicate n RNd.zero) := by
  apply List.ext_getElem?
  intro j
  by_cases hj : j < n * 5
  · have h1 : (flat5 (List.replicate n RNd.zero))[j]? = RNd.zero.cells[j % 5]? := by
      have := flat5_get (L := List.replicate n RNd.zero) (k := j / 5) (j := j % 5) (n := RNd.zero) (by rw [List.getElem?_replicate, if_pos (by omega)]) (by omega)
      rw [show j / 5 * 5 + j % 5 = j from by omega] at this
      exact this
    rw [h1]
    have h5 : j % 5 = 0 ∨ j % 5 = 1 ∨ j % 5 = 2 ∨ j % 5 = 3 ∨ j % 5 = 4 := by omega
    rcases h5 with h | h | h | h | h <;> simp [madeCells, Value.cells, hj, h, RNd.cells, RNd.zero]
  · rw [List.getElem?_eq_none (by simp [madeCells]; omega), List.getElem?_eq_none (by rw [flat5_length, List.length_replicate]; omega)]
theorem zero_group (w : World) : (zeroValue 47).run Tryz.prog w = .ok (.agg #[.slice none 0 0, .slice none 0 0, .int .i64 0]) w := by kernel_rfl
theorem size_rgroup (a b c : Value) : (Tryz.prog.info? 47).map (·.size) = some (#[a, b, c] : Array Value).size := by
  have : (Tryz.prog.info? 47).map (·.size) = some 3 := by kernel_rfl
  rw [this]; rfl
theorem rown_at (w : World) (k : UInt8) : (RNd.own k).At w := ⟨World.ownsRow_nil _ _ _ _, World.ownsRow_nil _ _ _ _⟩
set_option maxRecDepth 100000 in
set_option maxHeartbeats 1000000 in
/-- a group with its own nodes -/
theorem rnew_ok (w : World) {nodes : Nat} (b : Int) (h3 : 3 ≤ nodes) (h200 : nodes ≤ 128) :
    Calls Tryz.prog 19 #[.int .i64 b, .int .i64 (nodes : Int)] w fun e w' => ∃ nb, e = .returned (.agg #[.slice (some ⟨nb, 0, none⟩) (nodes + 1) (nodes + 1), .slice none 0 0, .int .i64 b]) ∧ Row5 w' nb (rnewL nodes) (nodes + 1) ∧ w.heap.size ≤ nb ∧ Below w.heap.size w w' := by
  obtain ⟨i0, hi0, i1, i2, i3⟩ := info_rnode
  have HI := hide (And.intro hi0 (And.intro i1 (And.intro i2 i3)))
  have e1 : IntKind.i64.wrap ((nodes : Int) + 1) = ((nodes + 1 : Nat) : Int) := by rw [IntWalk.i64_in _ (by omega)]; omega
  have HN := hide (And.intro h3 h200)
  obtain ⟨N, hN⟩ : ∃ N, nodes + 1 = N := ⟨_, rfl⟩
  rw [hN] at e1
  have HNN := hide hN
  clear hi0 i1 i2 i3
  rw [hN]
  clear hN h3 h200
  go_enter Tryz.func19, Tryz.ntmps19
  go_upto_region 1 with (first | ((with_reducible refine at_alloc 47 ?_); refine wpList_alloc_as rfl 47 rfl _ (zero_group _) ?_) | fail)
  refine at_world (fun W => ∃ rb, rb = w.heap.size ∧ Below w.heap.size w W ∧ Blk W rb 47 #[.slice none 0 0, .slice none 0 0, .int .i64 0]) ⟨_, rfl, (Below.refl _ _).alloc (Nat.le_refl _) _, Blk.new _ _ _⟩ (fun w1 hw1 => ?_)
  obtain ⟨rb, hrb, hb1, hR1⟩ := hw1
  rw [← hrb]
  have HB1 := hide hb1
  have HR1 := hide hR1
  have HRB := hide (show w.heap.size ≤ rb from Nat.le_of_eq hrb.symm)
  clear hrb hb1 hR1
  go_upto_region 2 with (first | (refine wpList_make_full w1 rfl (.tmp 7) (.tmp 7) 44 rfl w1.heap.size 62 i0 (.agg RNd.zero.cells.toArray) 5 Tryz.underlying44 HI.out.1 HI.out.2.1 HI.out.2.2.1 .i64 .i64 N N N (by rfl) (by rfl) rfl rfl (by rw [HI.out.2.2.2]; have := HN.out; have := HNN.out; omega) (by have := HN.out; have := HNN.out; unfold maxLen; omega) (Nat.le_refl _) (fun w2 ho hg => ?_)) | fail)
  have hb2 : Below w1.heap.size w1 w2 := grown_none hg
  rw [flat5_rep] at ho
  have hR2 : Row5 w2 w1.heap.size (List.replicate N RNd.zero) N := ⟨by rw [List.length_replicate]; exact own_mono ho (Nat.zero_le _), fun n hn => by rw [(List.mem_replicate.1 hn).2]; exact RNd.At.zero _⟩
  refine at_world (fun W => ∃ nb gb, nb = w1.heap.size ∧ gb = w2.heap.size ∧ w1.heap.size ≤ gb ∧ Below w1.heap.size w1 W ∧ Row5 W nb (List.replicate N RNd.zero) N ∧ Blk W gb 47 #[.slice (some ⟨w1.heap.size, 0, none⟩) N N, .slice none 0 0, .int .i64 b]) ⟨_, _, rfl, rfl, hb2.size, hb2.alloc hb2.size _, hR2.below ((Below.refl _ _).alloc (Nat.le_refl _) _), Blk.new _ _ _⟩ (fun w3 hw3 => ?_)
  obtain ⟨nb, gb, hnb, hgb, hgb1, hb3, hR3, hG3⟩ := hw3
  rw [← hgb]
  rw [← hnb] at hG3 ⊢
  have HB3 := hide (HB1.out.trans (hb3.mono HB1.out.size))
  have HR3 := hide hR3
  have HG3 := hide hG3
  have HNB := hide (show w.heap.size ≤ nb from by have := HB1.out.size; omega)
  have HRB3 := hide (HR1.out.below hb3 HR1.out.lt)
  have hGN := hG3.ne (HR3.out.blk.choose_spec.1) (by decide)
  have hRN := HRB3.out.ne (HR3.out.blk.choose_spec.1) (by decide)
  have HNE := hide (And.intro hGN (And.intro hRN (show rb ≠ gb from by have := HR1.out.lt; omega)))
  clear ho hg hb2 hR2 hnb hgb hgb1 hb3 hR3 hG3 HB1 HR1 hGN hRN
  have hN3 : 4 ≤ N := by have := HN.out; have := HNN.out; omega
  have bo2 := fun W => build_rown W 2
  have bo1 := fun W => build_rown W 1
  have z1 : (1 : Int) < (N : Int) := by omega
  have z2 : (2 : Int) < (N : Int) := by omega
  have z3 : (3 : Int) < (N : Int) := by omega
  have c0 := HG3.out.cell 0
  have gl := HG3.out.lt
  go_upto_region 3 with (first | ((with_reducible refine at_build 62 #[(0, .const (.int .u8 2)), (1, .const (.int .i64 1)), (2, .const (.int .u16 1))] ?_); refine wpList_run rfl _ (exec_build 62 #[(0, .const (.int .u8 2)), (1, .const (.int .i64 1)), (2, .const (.int .u16 1))] rfl #[(0, .int .u8 2), (1, .int .i64 1), (2, .int .u16 1)] (by simp only [List.map_toArray, List.map_cons, List.map_nil]; rfl) _ (bo2 _)) ?_) | ((with_reducible refine at_store 62 (.tmp 14) (.tmp 13) ?_); refine wpList_store_mid rfl 62 (.tmp 14) (.tmp 13) rfl nb 5 (RNd.own 2).cells.toArray (by rfl) (by rfl) (HR3.out.there (k := 1) (by simp only [List.length_set, List.length_replicate]; omega)) (size_rnode _) (rnode_one _) ?_) | fail)
  refine at_world (fun W => Below w.heap.size w W ∧ Row5 W nb ((List.replicate N RNd.zero).set 1 (RNd.own 2)) N ∧ Blk W gb 47 #[.slice (some ⟨nb, 0, none⟩) N N, .slice none 0 0, .int .i64 b] ∧ Blk W rb 47 #[.slice none 0 0, .slice none 0 0, .int .i64 0])
    ⟨HB3.out.trans ((((Tch.setCells (S := fun k => w.heap.size ≤ k) (B := w3.heap.size) (fun _ => HNB.out) _ _ _).mono HB3.out.size (S' := fun _ => False) (fun k hk h => by omega))).below fun _ _ h => h), HR3.out.setN (k := 1) (by simp only [List.length_set, List.length_replicate]; omega) (rown_at _ _), HG3.out.tch (Tch.setCells (S := (· = nb)) (fun _ => rfl) _ _ _) HG3.out.lt HNE.out.1, HRB3.out.tch (Tch.setCells (S := (· = nb)) (fun _ => rfl) _ _ _) HRB3.out.lt HNE.out.2.1⟩ (fun w4 hw => ?_)
  obtain ⟨k1, k2, k3, k4⟩ := hw
  have HB4 := hide k1
  have HR4 := hide k2
  have HG4 := hide k3
  have HRB4 := hide k4
  clear k1 k2 k3 k4 c0 gl HB3 HR3 HG3 HRB3
  have c0 := HG4.out.cell 0
  have gl := HG4.out.lt
  go_upto_region 4 with (first | ((with_reducible refine at_build 62 #[(0, .const (.int .u8 1)), (1, .const (.int .i64 1)), (2, .const (.int .u16 1))] ?_); refine wpList_run rfl _ (exec_build 62 #[(0, .const (.int .u8 1)), (1, .const (.int .i64 1)), (2, .const (.int .u16 1))] rfl #[(0, .int .u8 1), (1, .int .i64 1), (2, .int .u16 1)] (by simp only [List.map_toArray, List.map_cons, List.map_nil]; rfl) _ (bo1 _)) ?_) | ((with_reducible refine at_store 62 (.tmp 18) (.tmp 17) ?_); refine wpList_store_mid rfl 62 (.tmp 18) (.tmp 17) rfl nb 10 (RNd.own 1).cells.toArray (by rfl) (by rfl) (HR4.out.there (k := 2) (by simp only [List.length_set, List.length_replicate]; omega)) (size_rnode _) (rnode_one _) ?_) | fail)
  refine at_world (fun W => Below w.heap.size w W ∧ Row5 W nb (((List.replicate N RNd.zero).set 1 (RNd.own 2)).set 2 (RNd.own 1)) N ∧ Blk W gb 47 #[.slice (some ⟨nb, 0, none⟩) N N, .slice none 0 0, .int .i64 b] ∧ Blk W rb 47 #[.slice none 0 0, .slice none 0 0, .int .i64 0])
    ⟨HB4.out.trans ((((Tch.setCells (S := fun k => w.heap.size ≤ k) (B := w4.heap.size) (fun _ => HNB.out) _ _ _).mono HB4.out.size (S' := fun _ => False) (fun k hk h => by omega))).below fun _ _ h => h), HR4.out.setN (k := 2) (by simp only [List.length_set, List.length_replicate]; omega) (rown_at _ _), HG4.out.tch (Tch.setCells (S := (· = nb)) (fun _ => rfl) _ _ _) HG4.out.lt HNE.out.1, HRB4.out.tch (Tch.setCells (S := (· = nb)) (fun _ => rfl) _ _ _) HRB4.out.lt HNE.out.2.1⟩ (fun w5 hw => ?_)
  obtain ⟨k1, k2, k3, k4⟩ := hw
  have HB5 := hide k1
  have HR5 := hide k2
  have HG5 := hide k3
  have HRB5 := hide k4
  clear k1 k2 k3 k4 c0 gl HB4 HR4 HG4 HRB4
  have c0 := HG5.out.cell 0
  have gl := HG5.out.lt
  go_upto_region 5 with (first | ((with_reducible refine at_build 62 #[(0, .const (.int .u8 1)), (1, .const (.int .i64 1)), (2, .const (.int .u16 1))] ?_); refine wpList_run rfl _ (exec_build 62 #[(0, .const (.int .u8 1)), (1, .const (.int .i64 1)), (2, .const (.int .u16 1))] rfl #[(0, .int .u8 1), (1, .int .i64 1), (2, .int .u16 1)] (by simp only [List.map_toArray, List.map_cons, List.map_nil]; rfl) _ (bo1 _)) ?_) | ((with_reducible refine at_store 62 (.tmp 22) (.tmp 21) ?_); refine wpList_store_mid rfl 62 (.tmp 22) (.tmp 21) rfl nb 15 (RNd.own 1).cells.toArray (by rfl) (by rfl) (HR5.out.there (k := 3) (by simp only [List.length_set, List.length_replicate]; omega)) (size_rnode _) (rnode_one _) ?_) | fail)
  refine at_world (fun W => Below w.heap.size w W ∧ Row5 W nb ((((List.replicate N RNd.zero).set 1 (RNd.own 2)).set 2 (RNd.own 1)).set 3 (RNd.own 1)) N ∧ Blk W gb 47 #[.slice (some ⟨nb, 0, none⟩) N N, .slice none 0 0, .int .i64 b] ∧ Blk W rb 47 #[.slice none 0 0, .slice none 0 0, .int .i64 0])
    ⟨HB5.out.trans ((((Tch.setCells (S := fun k => w.heap.size ≤ k) (B := w5.heap.size) (fun _ => HNB.out) _ _ _).mono HB5.out.size (S' := fun _ => False) (fun k hk h => by omega))).below fun _ _ h => h), HR5.out.setN (k := 3) (by simp only [List.length_set, List.length_replicate]; omega) (rown_at _ _), HG5.out.tch (Tch.setCells (S := (· = nb)) (fun _ => rfl) _ _ _) HG5.out.lt HNE.out.1, HRB5.out.tch (Tch.setCells (S := (· = nb)) (fun _ => rfl) _ _ _) HRB5.out.lt HNE.out.2.1⟩ (fun w6 hw => ?_)
  obtain ⟨k1, k2, k3, k4⟩ := hw
  have HB6 := hide k1
  have HR6 := hide k2
  have HG6 := hide k3
  have HRB6 := hide k4
  clear k1 k2 k3 k4 c0 gl HB5 HR5 HG5 HRB5
  have hL : (((List.replicate N RNd.zero).set 1 (RNd.own 2)).set 2 (RNd.own 1)).set 3 (RNd.own 1) = rnewL nodes := by rw [← HNN.out]; rfl
  rw [hL] at HR6
  have hszg := size_rgroup (.slice (some ⟨nb, 0, none⟩) N N) (.slice none 0 0) (.int .i64 b)
  clear hL bo1 bo2
  go_wp2_with (first | ((with_reducible refine at_load 47 (.tmp 5) ?_); refine wpList_load_blk rfl 47 (.tmp 5) rfl gb _ _ _ (by rfl) HG6.out Tryz.underlying47 rfl hszg ?_) | ((with_reducible refine at_store 47 (.tmp 4) (.tmp 23) ?_); refine wpList_store_blk rfl 47 (.tmp 4) (.tmp 23) rfl rb _ _ _ (by rfl) (by rfl) HRB6.out hszg rfl (by simp [Value.oneCell']) (fun hB7 => ?_)) | ((with_reducible refine at_end ?_); refine bodyPost_ret (v := .agg #[.slice (some ⟨nb, 0, none⟩) N N, .slice none 0 0, .int .i64 b]) (results_run1 rfl (ResV.row rfl hB7 Tryz.underlying47 rfl hszg)) rfl ⟨nb, rfl, ?_, HNB.out, below_setRow HB6.out HRB.out _⟩) | fail)
  exact HR6.out.tch (Tch.setRow (S := (· = rb)) (fun _ => rfl)) (fun g cur hB e => by subst e; exact HRB6.out.ne hB (by decide) rfl) (fun g cur hB e => by subst e; exact HRB6.out.ne hB (by decide) rfl) (fun g cur hB e => by subst e; exact HRB6.out.ne hB (by decide) rfl)
/-- a node with other bytes -/
def RNd.with (n : RNd) (A : Option Addr) (l : List UInt8) (c : Nat) : RNd := { n with A := A, l := l, c := c }
section
variable {w w' : World} {mb nb cN tn tc blocks : Nat} {L : List RNd} {T : Option Addr}
end
end Go.Proofs.YthmkgohfeahdhaaGreat
namespace Go.Proofs.YthmkgohfeahdhaaGreat
open Go.RowKit
set_option linter.unusedSimpArgs false
set_option linter.unusedVariables false

/-- a node as it is meant, wherever it lies -/
structure RC where
  kind : UInt8
  links : Nat
  gen : UInt16
  l : List UInt8
  ps : List EntV
def RNd.core (n : RNd) : RC := ⟨n.kind, n.links, n.gen, n.l, n.ps⟩
theorem info_rrec : ∃ i, Tryz.prog.info? 344 = some i ∧ i.zero = some (.agg #[.int .u8 0, .int .u16 0, .int .u16 0, .int .i64 0]) ∧ i.size = 4 ∧ i.bytes = 16 := by
  have h : (Tryz.prog.info? 344).map (fun i => (i.zero, i.size, i.bytes)) = some (some (.agg #[.int .u8 0, .int .u16 0, .int .u16 0, .int .i64 0]), 4, 16) := by kernel_rfl
  cases hi : Tryz.prog.info? 344 with
  | none => rw [hi] at h; cases h
  | some i =>
    rw [hi] at h
    simp only [Option.map_some, Option.some.injEq, Prod.mk.injEq] at h
    exact ⟨i, rfl, h.1, h.2.1, h.2.2⟩
theorem info_entry : ∃ i, Tryz.prog.info? 125 = some i ∧ i.zero = some (.agg #[.string ByteArray.empty, .int .u16 0]) ∧ i.size = 2 ∧ i.bytes = 24 := by
  have h : (Tryz.prog.info? 125).map (fun i => (i.zero, i.size, i.bytes)) = some (some (.agg #[.string ByteArray.empty, .int .u16 0]), 2, 24) := by kernel_rfl
  cases hi : Tryz.prog.info? 125 with
  | none => rw [hi] at h; cases h
  | some i =>
    rw [hi] at h
    simp only [Option.map_some, Option.some.injEq, Prod.mk.injEq] at h
    exact ⟨i, rfl, h.1, h.2.1, h.2.2⟩
theorem build_rgroup2 (w : World) (A : Option Addr) (n c : Nat) (b : Int) : (Instr.build 47 #[(1, .slice A n c), (2, .int .i64 b)]).run Tryz.prog w = .ok (.agg #[.slice none 0 0, .slice A n c, .int .i64 b]) w := by kernel_rfl
/-- the block of a node's places -/
def RNd.pb (n : RNd) : Option Nat := (Value.slice n.P n.ps.length n.pc).ownBlock
/-- all places lie from a block on; no two nodes' places lie in the same block -/
def PHigh (B : Nat) (L : List RNd) : Prop := ∀ m ∈ L, ∀ g, m.pb = some g → B ≤ g
def Sep (L : List RNd) : Prop := ∀ (i j : Nat) (a b : RNd), L[i]? = some a → L[j]? = some b → i ≠ j → ∀ g, a.pb = some g → b.pb ≠ some g
theorem sep_snoc {L : List RNd} {x : RNd} (h : Sep L) (hx : ∀ m ∈ L, ∀ g, m.pb = some g → x.pb ≠ some g) : Sep (L ++ [x]) := fun i j a b hi hj hij g ha hb => by
  have key : ∀ (i : Nat) (a : RNd), (L ++ [x])[i]? = some a → (i = L.length ∧ a = x) ∨ L[i]? = some a := fun i a hi => by
    by_cases h : i < L.length
    · rw [List.getElem?_append_left h] at hi; exact .inr hi
    · have hlt := (List.getElem?_eq_some_iff.1 hi).1
      rw [List.length_append, List.length_singleton] at hlt
      have hil : i = L.length := by omega
      subst hil
      simp at hi
      exact .inl ⟨rfl, hi.symm⟩
  rcases key i a hi with ⟨h1, rfl⟩ | h1
  · rcases key j b hj with ⟨h2, rfl⟩ | h2
    · omega
    · exact hx b (List.mem_of_getElem? h2) g hb ha
  · rcases key j b hj with ⟨h2, rfl⟩ | h2
    · exact hx a (List.mem_of_getElem? h1) g ha hb
    · exact h i j a b h1 h2 hij g ha hb
/-- a node with other places -/
def RNd.withP (n : RNd) (P : Option Addr) (ps : List EntV) (pc : Nat) : RNd := { n with P := P, ps := ps, pc := pc }
theorem flat2_one (l : List EntV) : ∀ u ∈ flat2 l, u.oneCell' = true := by
  intro u hu
  simp only [flat2, List.mem_flatMap] at hu
  obtain ⟨e, _, hu⟩ := hu
  simp only [EntV.cells, List.mem_cons, List.not_mem_nil, or_false] at hu
  rcases hu with rfl | rfl <;> rfl
set_option maxRecDepth 100000 in
set_option maxHeartbeats 4000000 in
theorem rcopy_ok (w : World) {nb cN tc : Nat} {L : List RNd} {T : Option Addr} (b : Int) (hR : Row5 w nb L cN) (hS : Small L) (hL : 1 ≤ L.length) :
    Calls Tryz.prog 22 #[.agg #[.slice (some ⟨nb, 0, none⟩) L.length cN, .slice T 0 tc, .int .i64 b]] w fun e w' => ∃ nb' cN' T' tc' L', e = .returned (.agg #[.slice (some ⟨nb', 0, none⟩) L.length cN', .slice T' 0 tc', .int .i64 b]) ∧ L'.map RNd.core = L.map RNd.core ∧ Row5 w' nb' L' cN' ∧ w.heap.size ≤ nb' ∧ PHigh w.heap.size L' ∧ Sep L' ∧ Below w.heap.size w w' := by
  obtain ⟨r0, hr0, r1, r2, r3⟩ := info_rrec
  have HRI := hide (And.intro hr0 (And.intro r1 (And.intro r2 r3)))
  obtain ⟨N, hN⟩ : ∃ N, L.length = N := ⟨_, rfl⟩
  have HR := hide hR
  have HS := hide hS
  have HN := hide hN
  have hN200 : N ≤ 200 := by have := hS.1; omega
  rw [hN] at hL ⊢
  clear hR hS hN hr0 r1 r2 r3
  go_enter Tryz.func22, Tryz.ntmps22
  go_upto_region 1 with (first | ((with_reducible refine at_alloc 47 ?_); refine wpList_alloc_as rfl 47 rfl _ (zero_group _) ?_) | fail)
  refine at_world (fun W => ∃ p rb, p = w.heap.size ∧ w.heap.size ≤ rb ∧ rb = w.heap.size + 1 ∧ Below w.heap.size w W ∧ Blk W p 47 #[.slice (some ⟨nb, 0, none⟩) N cN, .slice T 0 tc, .int .i64 b] ∧ Blk W rb 47 #[.slice none 0 0, .slice none 0 0, .int .i64 0]) ⟨_, _, rfl, by omega, rfl, ((Below.refl _ _).alloc (Nat.le_refl _) _).alloc (by simp) _, (Blk.new _ _ _).alloc _, by have := Blk.new (w.alloc (.cells #[.slice (some ⟨nb, 0, none⟩) N cN, .slice T 0 tc, .int .i64 b] 47)) 47 #[.slice none 0 0, .slice none 0 0, .int .i64 0]; rwa [World.size_alloc] at this⟩ (fun w1 hw1 => ?_)
  obtain ⟨p, rb, hp, hrw, hrb, hb1, hP, hRB⟩ := hw1
  simp only [World.size_alloc, Act.put, List.setIfInBounds_toArray, List.set_cons_zero, List.set_cons_succ]
  rw [← hrb, ← hp]
  have HB1 := hide hb1
  have HP1 := hide hP
  have HRB1 := hide hRB
  have HPW := hide (show w.heap.size ≤ p ∧ w.heap.size ≤ rb ∧ p ≠ rb from by omega)
  have HPL := hide (show p < w1.heap.size from hP.lt)
  clear hp hrw hrb hb1 hP hRB
  go_upto_region 1 with (fail)
  go_cut [3] from 6 to 12 (fun x3 wx => ∃ ob AT cT, x3 = .pointer (some ⟨ob, 0, none⟩) ∧ Hid (Below w1.heap.size w1 wx) ∧ Hid (Blk wx ob 47 #[.slice none 0 0, .slice AT (0 + 0) cT, .int .i64 b]) ∧ Hid (Blk wx p 47 #[.slice (some ⟨nb, 0, none⟩) N cN, .slice T 0 tc, .int .i64 b]) ∧ Hid (w1.heap.size ≤ ob))
  case first =>
    refine wp_region_tree (.q 1 (.q 2 (.q 4 (.q 5 (.br 0 (.br 3 (.q 6 (.x 7 (.x 8 .nil))) 7 (.x 3 (.q 6 (.x 8 .nil)))) 7 (.x 0 (.x 3 (.q 6 (.x 8 .nil))))))))) (fun W => Blk W p 47 #[.slice (some ⟨nb, 0, none⟩) N cN, .slice T 0 tc, .int .i64 b]) (by kernel_rfl) (by kernel_rfl) HP1.out.drew ?_
    iterate 4 (refine wpT_q (v := ?_) (by simp only [List.getElem?_toArray, List.getElem?_cons_succ, List.getElem?_cons_zero]; try rfl) (by rfl) (fun W hW => ?_) ?_; rotate_left; (focus ((have z1 := hW.cell 1; have z2 := hW.cell 2; have zl := hW.lt; go_simp); try with_reducible rfl)); try simp only [Act.put, List.setIfInBounds_toArray, List.set_cons_zero, List.set_cons_succ])
    refine at_world (fun W => Below w1.heap.size w1 W) (Below.refl _ _).drew (fun w1d hbx => ?_)
    have HBw1d := hide hbx
    have HPw1d := hide (HP1.out.below hbx HP1.out.lt)
    clear hbx
    refine wpT_br ?_ ?_
    · refine wpT_x (by simp only [List.getElem?_toArray, List.getElem?_cons_succ, List.getElem?_cons_zero]; try rfl) (by rfl) (fun K hK => ?_)
      go_simp
      refine hK (fun W => Blk W p 47 #[.slice (some ⟨nb, 0, none⟩) N cN, .slice T 0 tc, .int .i64 b]) _ _ (fun _ h => h) (HPw1d.out.alloc _) ?_
      clear hK K
      try simp only [Act.put, List.setIfInBounds_toArray, List.set_cons_zero, List.set_cons_succ]
      refine at_world (fun W => ∃ tb, tb = w1d.heap.size ∧ Below w1d.heap.size w1d W ∧ W.ownsRow w1.heap.size 344 4 (.slice (some ⟨tb, 0, none⟩) 0 0) 0 []) ⟨_, rfl, (Below.refl _ _).alloc (Nat.le_refl _) _, own_lit rfl rfl HBw1d.out.size (by simp [maxLen]) rfl⟩ (fun a1 h9 => ?_)
      obtain ⟨tb, htb, hbx, ho9⟩ := h9
      rw [← htb]
      have HBa1 := hide (HBw1d.out.trans (hbx.mono HBw1d.out.size))
      have HPa1 := hide (HPw1d.out.below hbx HPw1d.out.lt)
      have HOa1 := hide ho9
      clear hbx ho9 htb
      refine wpT_br ?_ ?_
      · refine wpT_x (by simp only [List.getElem?_toArray, List.getElem?_cons_succ, List.getElem?_cons_zero]; try rfl) (by rfl) (fun K hK => ?_)
        refine wp_append_rd a1 (.tmp 6) (.tmp 8) 45 (by rfl) w1.heap.size 344 r0 (.agg #[.int .u8 0, .int .u16 0, .int .u16 0, .int .i64 0]) 4 16 Tryz.underlying45 HRI.out.1 HRI.out.2.1 HRI.out.2.2.1 HRI.out.2.2.2 rfl (by decide) (.slice (some ⟨tb, 0, none⟩) 0 0) 0 [] (by first | rfl | simp [Act.eval]) HOa1.out 0 T 0 tc [] (by first | rfl | simp [Act.eval]) (Rd.nil _ _ _ _) (by simp) (by simp [maxLen]) (by omega) HBa1.out.size ?_
        intro v9 a2 hown hg9 _ hat
        obtain ⟨AT, cT, rfl, _, _, _⟩ := own_form hown
        have hb9 : Below w1.heap.size a1 a2 := ⟨hg9.os, hg9.tape, hg9.output, hg9.size, fun k hk => hg9.block k (by have := HBa1.out.size; omega) (fun e => by have := (own_block_ge HOa1.out e.symm).1; omega)⟩
        have hp9 : Blk a2 p 47 #[.slice (some ⟨nb, 0, none⟩) N cN, .slice T 0 tc, .int .i64 b] := HPa1.out.grown hg9 (fun e => row_not_blk HOa1.out HPa1.out (by decide) e.symm)
        refine hK (fun W => Blk W p 47 #[.slice (some ⟨nb, 0, none⟩) N cN, .slice T 0 tc, .int .i64 b]) _ _ (fun _ h => h) hp9 ?_
        clear hK K
        try simp only [Act.put, List.setIfInBounds_toArray, List.set_cons_zero, List.set_cons_succ]
        have HBa2 := hide (HBa1.out.trans hb9)
        have HPa2 := hide hp9
        have HOa2 := hide hown
        clear hown hg9 hat hb9 hp9
        refine wpT_q (v := .agg #[.slice none 0 0, .slice AT (0 + 0) cT, .int .i64 b]) (by simp only [List.getElem?_toArray, List.getElem?_cons_succ, List.getElem?_cons_zero]; try rfl) (by rfl) (fun W hW => exec_build 47 #[(1, .tmp 9), (2, .tmp 11)] rfl #[(1, .slice AT (0 + 0) cT), (2, .int .i64 b)] (by simp only [List.map_toArray, List.map_cons, List.map_nil]; rfl) _ (build_rgroup2 _ _ _ _ _)) ?_
        try simp only [Act.put, List.setIfInBounds_toArray, List.set_cons_zero, List.set_cons_succ]
        refine wpT_x (by simp only [List.getElem?_toArray, List.getElem?_cons_succ, List.getElem?_cons_zero]; try rfl) (by rfl) (fun K hK => ?_)
        go_simp
        refine hK (fun W => Blk W p 47 #[.slice (some ⟨nb, 0, none⟩) N cN, .slice T 0 tc, .int .i64 b]) _ _ (fun _ h => h) (HPa2.out.alloc _) ?_
        clear hK K
        try simp only [Act.put, List.setIfInBounds_toArray, List.set_cons_zero, List.set_cons_succ]
        refine at_world (fun W => ∃ ob, ob = a2.heap.size ∧ Below a2.heap.size a2 W ∧ Blk W ob 47 #[.slice none 0 0, .slice none 0 0, .int .i64 0]) ⟨_, rfl, (Below.refl _ _).alloc (Nat.le_refl _) _, Blk.new _ _ _⟩ (fun a3 h9 => ?_)
        obtain ⟨ob, hob, hbx, hl9⟩ := h9
        rw [← hob]
        have HBa3 := hide (HBa2.out.trans (hbx.mono HBa2.out.size))
        have HPa3 := hide (HPa2.out.below hbx HPa2.out.lt)
        have HOa3 := hide (own_below HOa2.out hbx)
        have HQa3 := hide hl9
        have HOW := hide (show w1.heap.size ≤ ob from by have := HBa2.out.size; omega)
        have HNE := hide (show p ≠ ob from by have := HPa2.out.lt; omega)
        clear hbx hl9 hob
        refine wpT_x (by simp only [List.getElem?_toArray, List.getElem?_cons_succ, List.getElem?_cons_zero]; try rfl) (by rfl) (fun K hK => ?_)
        refine wp_store_blk 47 (.tmp 3) (.tmp 12) rfl ob _ _ #[.slice none 0 0, .slice AT (0 + 0) cT, .int .i64 b] (by rfl) (by first | rfl | simp [Act.eval]) HQa3.out (size_rgroup _ _ _) rfl (by simp [Value.oneCell']) (fun hB9 => ?_)
        have hp9 : Blk (a3.setRow ob #[.slice none 0 0, .slice AT (0 + 0) cT, .int .i64 b]) p 47 #[.slice (some ⟨nb, 0, none⟩) N cN, .slice T 0 tc, .int .i64 b] := HPa3.out.setRow_far (by exact HNE.out) _
        refine hK (fun W => Blk W p 47 #[.slice (some ⟨nb, 0, none⟩) N cN, .slice T 0 tc, .int .i64 b]) _ _ (fun _ h => h) hp9 ?_
        have HFB := hide (below_setRow HBa3.out HOW.out #[.slice none 0 0, .slice AT (0 + 0) cT, .int .i64 b])
        have HFQ := hide hB9
        have HFP := hide hp9
        clear hK K hB9 hp9
        try simp only [Act.put, List.setIfInBounds_toArray, List.set_cons_zero, List.set_cons_succ]
        refine wpT_nil ?_
        go_wp2
        go_meet
        case rel => exact ⟨ob, AT, cT, rfl, HFB, HFQ, HFP, HOW⟩
      · refine wpT_x (by simp only [List.getElem?_toArray, List.getElem?_cons_succ, List.getElem?_cons_zero]; try rfl) (by rfl) (fun K hK => ?_)
        go_simp
        refine hK (fun W => Blk W p 47 #[.slice (some ⟨nb, 0, none⟩) N cN, .slice T 0 tc, .int .i64 b]) _ _ (fun _ h => h) (HPa1.out.alloc _) ?_
        clear hK K
        try simp only [Act.put, List.setIfInBounds_toArray, List.set_cons_zero, List.set_cons_succ]
        refine at_world (fun W => ∃ ob, ob = a1.heap.size ∧ Below a1.heap.size a1 W ∧ Blk W ob 47 #[.slice none 0 0, .slice none 0 0, .int .i64 0]) ⟨_, rfl, (Below.refl _ _).alloc (Nat.le_refl _) _, Blk.new _ _ _⟩ (fun b2 h9 => ?_)
        obtain ⟨ob, hob, hbx, hl9⟩ := h9
        rw [← hob]
        have HBb2 := hide (HBa1.out.trans (hbx.mono HBa1.out.size))
        have HPb2 := hide (HPa1.out.below hbx HPa1.out.lt)
        have HOb2 := hide (own_below HOa1.out hbx)
        have HQb2 := hide hl9
        have HOW := hide (show w1.heap.size ≤ ob from by have := HBa1.out.size; omega)
        have HNE := hide (show p ≠ ob from by have := HPa1.out.lt; omega)
        clear hbx hl9 hob
        refine wpT_x (by simp only [List.getElem?_toArray, List.getElem?_cons_succ, List.getElem?_cons_zero]; try rfl) (by rfl) (fun K hK => ?_)
        refine wp_append_rd b2 (.tmp 6) (.tmp 8) 45 (by rfl) w1.heap.size 344 r0 (.agg #[.int .u8 0, .int .u16 0, .int .u16 0, .int .i64 0]) 4 16 Tryz.underlying45 HRI.out.1 HRI.out.2.1 HRI.out.2.2.1 HRI.out.2.2.2 rfl (by decide) (.slice (some ⟨tb, 0, none⟩) 0 0) 0 [] (by first | rfl | simp [Act.eval]) HOb2.out 0 T 0 tc [] (by first | rfl | simp [Act.eval]) (Rd.nil _ _ _ _) (by simp) (by simp [maxLen]) (by omega) HBb2.out.size ?_
        intro v9 b3 hown hg9 _ hat
        obtain ⟨AT, cT, rfl, _, _, _⟩ := own_form hown
        have hb9 : Below w1.heap.size b2 b3 := ⟨hg9.os, hg9.tape, hg9.output, hg9.size, fun k hk => hg9.block k (by have := HBb2.out.size; omega) (fun e => by have := (own_block_ge HOb2.out e.symm).1; omega)⟩
        have hp9 : Blk b3 p 47 #[.slice (some ⟨nb, 0, none⟩) N cN, .slice T 0 tc, .int .i64 b] := HPb2.out.grown hg9 (fun e => row_not_blk HOb2.out HPb2.out (by decide) e.symm)
        refine hK (fun W => Blk W p 47 #[.slice (some ⟨nb, 0, none⟩) N cN, .slice T 0 tc, .int .i64 b]) _ _ (fun _ h => h) hp9 ?_
        clear hK K
        try simp only [Act.put, List.setIfInBounds_toArray, List.set_cons_zero, List.set_cons_succ]
        have HBb3 := hide (HBb2.out.trans hb9)
        have HPb3 := hide hp9
        have HQb3 := hide (HQb2.out.grown hg9 (fun e => row_not_blk HOb2.out HQb2.out (by decide) e.symm))
        have HOb3 := hide hown
        clear hown hg9 hat hb9 hp9
        refine wpT_q (v := .agg #[.slice none 0 0, .slice AT (0 + 0) cT, .int .i64 b]) (by simp only [List.getElem?_toArray, List.getElem?_cons_succ, List.getElem?_cons_zero]; try rfl) (by rfl) (fun W hW => exec_build 47 #[(1, .tmp 9), (2, .tmp 11)] rfl #[(1, .slice AT (0 + 0) cT), (2, .int .i64 b)] (by simp only [List.map_toArray, List.map_cons, List.map_nil]; rfl) _ (build_rgroup2 _ _ _ _ _)) ?_
        try simp only [Act.put, List.setIfInBounds_toArray, List.set_cons_zero, List.set_cons_succ]
        refine wpT_x (by simp only [List.getElem?_toArray, List.getElem?_cons_succ, List.getElem?_cons_zero]; try rfl) (by rfl) (fun K hK => ?_)
        refine wp_store_blk 47 (.tmp 3) (.tmp 12) rfl ob _ _ #[.slice none 0 0, .slice AT (0 + 0) cT, .int .i64 b] (by rfl) (by first | rfl | simp [Act.eval]) HQb3.out (size_rgroup _ _ _) rfl (by simp [Value.oneCell']) (fun hB9 => ?_)
        have hp9 : Blk (b3.setRow ob #[.slice none 0 0, .slice AT (0 + 0) cT, .int .i64 b]) p 47 #[.slice (some ⟨nb, 0, none⟩) N cN, .slice T 0 tc, .int .i64 b] := HPb3.out.setRow_far (by exact HNE.out) _
        refine hK (fun W => Blk W p 47 #[.slice (some ⟨nb, 0, none⟩) N cN, .slice T 0 tc, .int .i64 b]) _ _ (fun _ h => h) hp9 ?_
        have HFB := hide (below_setRow HBb3.out HOW.out #[.slice none 0 0, .slice AT (0 + 0) cT, .int .i64 b])
        have HFQ := hide hB9
        have HFP := hide hp9
        clear hK K hB9 hp9
        try simp only [Act.put, List.setIfInBounds_toArray, List.set_cons_zero, List.set_cons_succ]
        refine wpT_nil ?_
        go_wp2
        go_meet
        case rel => exact ⟨ob, AT, cT, rfl, HFB, HFQ, HFP, HOW⟩
    · refine wpT_x (by simp only [List.getElem?_toArray, List.getElem?_cons_succ, List.getElem?_cons_zero]; try rfl) (by rfl) (fun K hK => ?_)
      go_simp
      refine hK (fun W => Blk W p 47 #[.slice (some ⟨nb, 0, none⟩) N cN, .slice T 0 tc, .int .i64 b]) _ _ (fun _ h => h) (HPw1d.out.alloc _) ?_
      clear hK K
      try simp only [Act.put, List.setIfInBounds_toArray, List.set_cons_zero, List.set_cons_succ]
      refine at_world (fun W => ∃ ob, ob = w1d.heap.size ∧ Below w1d.heap.size w1d W ∧ Blk W ob 47 #[.slice none 0 0, .slice none 0 0, .int .i64 0]) ⟨_, rfl, (Below.refl _ _).alloc (Nat.le_refl _) _, Blk.new _ _ _⟩ (fun c1 h9 => ?_)
      obtain ⟨ob, hob, hbx, hl9⟩ := h9
      rw [← hob]
      have HBc1 := hide (HBw1d.out.trans (hbx.mono HBw1d.out.size))
      have HPc1 := hide (HPw1d.out.below hbx HPw1d.out.lt)
      have HQc1 := hide hl9
      have HOW := hide (show w1.heap.size ≤ ob from by have := HBw1d.out.size; omega)
      have HNE := hide (show p ≠ ob from by have := HPw1d.out.lt; omega)
      clear hbx hl9 hob
      refine wpT_x (by simp only [List.getElem?_toArray, List.getElem?_cons_succ, List.getElem?_cons_zero]; try rfl) (by rfl) (fun K hK => ?_)
      go_simp
      refine hK (fun W => Blk W p 47 #[.slice (some ⟨nb, 0, none⟩) N cN, .slice T 0 tc, .int .i64 b]) _ _ (fun _ h => h) (HPc1.out.alloc _) ?_
      clear hK K
      try simp only [Act.put, List.setIfInBounds_toArray, List.set_cons_zero, List.set_cons_succ]
      refine at_world (fun W => ∃ tb, tb = c1.heap.size ∧ Below c1.heap.size c1 W ∧ W.ownsRow w1.heap.size 344 4 (.slice (some ⟨tb, 0, none⟩) 0 0) 0 []) ⟨_, rfl, (Below.refl _ _).alloc (Nat.le_refl _) _, own_lit rfl rfl HBc1.out.size (by simp [maxLen]) rfl⟩ (fun c2 h9 => ?_)
      obtain ⟨tb, htb, hbx, ho9⟩ := h9
      rw [← htb]
      have HBc2 := hide (HBc1.out.trans (hbx.mono HBc1.out.size))
      have HPc2 := hide (HPc1.out.below hbx HPc1.out.lt)
      have HQc2 := hide (HQc1.out.below hbx HQc1.out.lt)
      have HOc2 := hide ho9
      clear hbx ho9 htb
      refine wpT_x (by simp only [List.getElem?_toArray, List.getElem?_cons_succ, List.getElem?_cons_zero]; try rfl) (by rfl) (fun K hK => ?_)
      refine wp_append_rd c2 (.tmp 6) (.tmp 8) 45 (by rfl) w1.heap.size 344 r0 (.agg #[.int .u8 0, .int .u16 0, .int .u16 0, .int .i64 0]) 4 16 Tryz.underlying45 HRI.out.1 HRI.out.2.1 HRI.out.2.2.1 HRI.out.2.2.2 rfl (by decide) (.slice (some ⟨tb, 0, none⟩) 0 0) 0 [] (by first | rfl | simp [Act.eval]) HOc2.out 0 T 0 tc [] (by first | rfl | simp [Act.eval]) (Rd.nil _ _ _ _) (by simp) (by simp [maxLen]) (by omega) HBc2.out.size ?_
      intro v9 c3 hown hg9 _ hat
      obtain ⟨AT, cT, rfl, _, _, _⟩ := own_form hown
      have hb9 : Below w1.heap.size c2 c3 := ⟨hg9.os, hg9.tape, hg9.output, hg9.size, fun k hk => hg9.block k (by have := HBc2.out.size; omega) (fun e => by have := (own_block_ge HOc2.out e.symm).1; omega)⟩
      have hp9 : Blk c3 p 47 #[.slice (some ⟨nb, 0, none⟩) N cN, .slice T 0 tc, .int .i64 b] := HPc2.out.grown hg9 (fun e => row_not_blk HOc2.out HPc2.out (by decide) e.symm)
      refine hK (fun W => Blk W p 47 #[.slice (some ⟨nb, 0, none⟩) N cN, .slice T 0 tc, .int .i64 b]) _ _ (fun _ h => h) hp9 ?_
      clear hK K
      try simp only [Act.put, List.setIfInBounds_toArray, List.set_cons_zero, List.set_cons_succ]
      have HBc3 := hide (HBc2.out.trans hb9)
      have HPc3 := hide hp9
      have HQc3 := hide (HQc2.out.grown hg9 (fun e => row_not_blk HOc2.out HQc2.out (by decide) e.symm))
      have HOc3 := hide hown
      clear hown hg9 hat hb9 hp9
      refine wpT_q (v := .agg #[.slice none 0 0, .slice AT (0 + 0) cT, .int .i64 b]) (by simp only [List.getElem?_toArray, List.getElem?_cons_succ, List.getElem?_cons_zero]; try rfl) (by rfl) (fun W hW => exec_build 47 #[(1, .tmp 9), (2, .tmp 11)] rfl #[(1, .slice AT (0 + 0) cT), (2, .int .i64 b)] (by simp only [List.map_toArray, List.map_cons, List.map_nil]; rfl) _ (build_rgroup2 _ _ _ _ _)) ?_
      try simp only [Act.put, List.setIfInBounds_toArray, List.set_cons_zero, List.set_cons_succ]
      refine wpT_x (by simp only [List.getElem?_toArray, List.getElem?_cons_succ, List.getElem?_cons_zero]; try rfl) (by rfl) (fun K hK => ?_)
      refine wp_store_blk 47 (.tmp 3) (.tmp 12) rfl ob _ _ #[.slice none 0 0, .slice AT (0 + 0) cT, .int .i64 b] (by rfl) (by first | rfl | simp [Act.eval]) HQc3.out (size_rgroup _ _ _) rfl (by simp [Value.oneCell']) (fun hB9 => ?_)
      have hp9 : Blk (c3.setRow ob #[.slice none 0 0, .slice AT (0 + 0) cT, .int .i64 b]) p 47 #[.slice (some ⟨nb, 0, none⟩) N cN, .slice T 0 tc, .int .i64 b] := HPc3.out.setRow_far (by exact HNE.out) _
      refine hK (fun W => Blk W p 47 #[.slice (some ⟨nb, 0, none⟩) N cN, .slice T 0 tc, .int .i64 b]) _ _ (fun _ h => h) hp9 ?_
      have HFB := hide (below_setRow HBc3.out HOW.out #[.slice none 0 0, .slice AT (0 + 0) cT, .int .i64 b])
      have HFQ := hide hB9
      have HFP := hide hp9
      clear hK K hB9 hp9
      try simp only [Act.put, List.setIfInBounds_toArray, List.set_cons_zero, List.set_cons_succ]
      refine wpT_nil ?_
      go_wp2
      go_meet
      case rel => exact ⟨ob, AT, cT, rfl, HFB, HFQ, HFP, HOW⟩
  case rest =>
    obtain ⟨ob, AT, cT, rfl, HB, HQ, HP, HOW⟩ := hcut
    have HNE := hide (show p ≠ ob ∧ rb ≠ ob from by have := HOW.out; have := HPL.out; have := HRB1.out.lt; omega)
    have HRBx := hide (HRB1.out.below HB.out HRB1.out.lt)
    have HBx := hide (HB1.out.trans (HB.out.mono HB1.out.size))
    have HOWx := hide (Nat.le_trans HB1.out.size HOW.out)
    clear HB1 HP1 HRI r0 HB HOW
    go_wp2_with fail
    go_loopg [4] N (fun gh x4 wr => ∃ (k : Nat) (A5 : Option Addr) (c5 : Nat) (L' : List RNd), k ≤ N ∧ gh = N - k ∧ x4 = .int .i64 (k : Int) ∧ Hid (Below w.heap.size w wr) ∧ Hid (Blk wr p 47 #[.slice (some ⟨nb, 0, none⟩) N cN, .slice T 0 tc, .int .i64 b]) ∧ Hid (Blk wr ob 47 #[.slice A5 k c5, .slice AT (0 + 0) cT, .int .i64 b]) ∧
        Hid (wr.ownsRow w.heap.size 62 5 (.slice A5 k c5) k (flat5 L')) ∧ Hid (L'.length = k ∧ L'.map RNd.core = (L.take k).map RNd.core ∧ (∀ n ∈ L', n.At wr) ∧ PHigh w.heap.size L' ∧ Sep L') ∧ Hid (Blk wr rb 47 #[.slice none 0 0, .slice none 0 0, .int .i64 0]))
    case atStart => exact ⟨0, none, 0, [], Nat.zero_le _, rfl, rfl, HBx, HP, HQ, hide (World.ownsRow_nil _ _ _ _), hide ⟨rfl, rfl, (fun n hn => absurd hn (by simp)), (fun m hm => absurd hm (by simp)), fun i j a b h => absurd h (by simp)⟩, HRBx⟩
    case round =>
      clear HBx HP HQ
      obtain ⟨k, A5, c5, L', hk, hgh, rfl, HB, HP, HQ, HO, HL, HRB⟩ := hrel
      have HGH := hide hgh
      clear hgh
      have c0 := HP.out.cell 0
      have pl := HP.out.lt
      rcases Nat.lt_or_ge k N with hlt | hge
      · have t1 : decide ((k : Int) < (N : Int)) = true := by simp; omega
        have t1' : (k : Int) < (N : Int) := by omega
        obtain ⟨n, hn⟩ : ∃ n, L[k]? = some n := ⟨_, List.getElem?_eq_getElem (by rw [HN.out]; exact hlt)⟩
        have hRr := HR.out.below HB.out
        have hrg := hRr.range hn
        have hat := hRr.all n (List.mem_of_getElem? hn)
        have hsm := HS.out.2 n (List.mem_of_getElem? hn)
        have HRG := hide hrg
        have HAT := hide hat
        have HSM := hide hsm
        have HNK := hide hn
        have nbl := hRr.lt
        clear hRr hrg hat hsm hn
        go_upto_region 6 with (first | ((with_reducible refine at_load 62 (.tmp 23) ?_); refine wpList_load_mid rfl 62 (.tmp 23) rfl nb (k * 5) (by rfl) n.cells _ HRG.out Tryz.underlying62 rfl (size_rnode n) ?_) | ((with_reducible refine at_alloc 62 ?_); refine wpList_alloc_as rfl 62 rfl _ (zero_rnode _) ?_) | ((with_reducible refine at_store 62 (.tmp 5) (.tmp 24) ?_); refine wpList_store_blk rfl 62 (.tmp 5) (.tmp 24) rfl wr.heap.size _ _ _ (by rfl) (by rfl) (Blk.new _ _ _) (size_rnode n) rfl (rnode_one n) (fun _ => ?_)) | fail)
        refine at_world (fun W => ∃ q, q = wr.heap.size ∧ Below wr.heap.size wr W ∧ Blk W q 62 n.cells.toArray) ⟨_, rfl, below_setRow ((Below.refl _ _).alloc (Nat.le_refl _) _) (Nat.le_refl _) _, (Blk.new _ _ _).setRow_same _⟩ (fun w2 hw2 => ?_)
        obtain ⟨q, hq, hb2, hQ2⟩ := hw2
        rw [← hq]
        have HB2 := hide (HB.out.trans (hb2.mono HB.out.size))
        have HP2 := hide (HP.out.below hb2 HP.out.lt)
        have HQ2 := hide (HQ.out.below hb2 HQ.out.lt)
        have HRB2 := hide (HRB.out.below hb2 HRB.out.lt)
        have HO2 := hide (own_below HO.out hb2)
        have HN2 := hide hQ2
        have HAL := hide (show ∀ m ∈ L', m.At w2 from fun m hm => ⟨own_below (HL.out.2.2.1 m hm).b hb2, own_below (HL.out.2.2.1 m hm).p hb2⟩)
        have HA2 := hide (show n.At w2 from ⟨own_below HAT.out.b hb2, own_below HAT.out.p hb2⟩)
        have HQW := hide (show w.heap.size ≤ q ∧ p ≠ q ∧ ob ≠ q ∧ rb ≠ q from ⟨by have := HB.out.size; omega, by have := HP.out.lt; omega, by have := HQ.out.lt; omega, by have := HRB.out.lt; omega⟩)
        have HGQ := hide (show ∀ g, (Value.slice A5 k c5).ownBlock = some g → g ≠ q from fun g hg => by have := (own_block_ge HO.out hg).2; omega)
        obtain ⟨i0, hi0, i1, i2, i3⟩ := info_byte
        have HI := hide (And.intro hi0 (And.intro i1 (And.intro i2 i3)))
        have q3 := hQ2.cell 3
        have ql := hQ2.lt
        rw [show n.cells.toArray[3]? = some (.slice n.A n.l.length n.c) from rfl] at q3
        have hrd : Rd w2 w2.heap.size 1 n.A n.l.length (bvs n.l) := Rd.of_own HA2.out.b
        have hl6 : n.l.length ≤ 60000 := HSM.out.1
        obtain ⟨nl, hnl⟩ : ∃ nl, n.l.length = nl := ⟨_, rfl⟩
        rw [hnl] at hrd q3 hl6
        have HRD := hide hrd
        have HNL := hide hnl
        have HLZ := hide hl6
        clear hq hb2 hQ2 HB HP HQ HRB HO HAT HRG hi0 i1 i2 i3 nbl c0 pl hrd hnl hl6
        go_upto_region 7 with (first | (at_builtin; refine wpList_append_rd _ rfl (.tmp 25) (.tmp 27) 24 rfl w2.heap.size 5 i0 (.int .u8 0) 1 1 Tryz.underlying24 HI.out.1 HI.out.2.1 HI.out.2.2.1 HI.out.2.2.2 rfl (by decide) (.slice (some ⟨w2.heap.size, 0, none⟩) 0 0) 0 _ rfl (own_lit rfl (by simp) (by simp) (by simp [maxLen]) rfl) w2.heap.size n.A nl n.c (bvs n.l) rfl (HRD.out.alloc (by simp) _) (bvs_one _) (by have := HLZ.out; simp only [maxLen]; omega) (by have := HLZ.out; omega) (by simp) ?_; intro v5 w5 hown5 hg5 hnil5 hat5; obtain ⟨A6, c6, rfl, hnc5, _, _⟩ := own_form hown5; have hb5 : Below w2.heap.size w2 w5 := (((Below.refl _ _).alloc (Nat.le_refl _) _).grown hg5 (by simp) (by simp [Value.ownBlock])); rw [Nat.zero_add, List.nil_append] at hown5; have f3 := (hb5.frozen (p := ⟨q, 3, none⟩) ql).trans (HN2.out.frozen 3); have cc3 := (hb5.cell (p := ⟨q, 3, none⟩) ql).trans q3; have m6 := Nat.lt_of_lt_of_le ql hb5.size; clear hg5 hnil5 hat5) | fail)
        have hN6 := (HN2.out.below hb5 HN2.out.lt).set_ 3 (.slice A6 nl c6)
        have hcs6 : n.cells.toArray.setIfInBounds 3 (.slice A6 nl c6) = (n.with A6 n.l c6).cells.toArray := by
          have h1 : (n.with A6 n.l c6).cells = [.int .u8 (n.kind.toNat : Int), .int .i64 (n.links : Int), .int .u16 (n.gen.toNat : Int), .slice A6 n.l.length c6, .slice n.P n.ps.length n.pc] := rfl
          rw [h1, HNL.out]; rfl
        rw [hcs6] at hN6
        have htq : Tch w2.heap.size (· = q) w2 (w5.setCell ⟨q, 3, none⟩ (.slice A6 nl c6)) := (Tch.of_below hb5).trans (Tch.setCell fun _ => rfl)
        have hb6 : Below w.heap.size w (w5.setCell ⟨q, 3, none⟩ (.slice A6 nl c6)) := (HB2.out.trans (hb5.mono HB2.out.size)).setCell HQW.out.1 _
        have hav : ∀ (t : TypeId) g cur, t ≠ 62 → Blk w2 g t cur → ¬ g = q := fun t g cur ht hB e => by subst e; exact hB.ne HN2.out ht rfl
        have hat6 : ∀ m : RNd, m.At w2 → m.At (w5.setCell ⟨q, 3, none⟩ (.slice A6 nl c6)) := fun m hm => hm.tch htq (fun g cur hB => hav _ g cur (by decide) hB) (fun g cur hB => hav _ g cur (by decide) hB)
        have hown6 : (w5.setCell ⟨q, 3, none⟩ (.slice A6 nl c6)).ownsRow 0 5 1 (.slice A6 nl c6) nl (bvs n.l) := by
          have h1 := own_mono hown5 (Nat.zero_le w2.heap.size)
          refine own_from h1 (Tch.setCell (S := (· = q)) (B := w5.heap.size) fun _ => rfl) (fun g cur hB e => ?_)
          subst e
          exact hB.ne (HN2.out.below hb5 HN2.out.lt) (by decide) rfl
        have hor6 : (w5.setCell ⟨q, 3, none⟩ (.slice A6 nl c6)).ownsRow w.heap.size 62 5 (.slice A5 k c5) k (flat5 L') := own_keep HO2.out fun g hg => by
          have h1 := (own_block_ge HO2.out hg).2
          have h2 : g ≠ q := HGQ.out g hg
          exact htq.block g h1 h2
        refine at_world (fun W => Below w.heap.size w W ∧ Blk W p 47 #[.slice (some ⟨nb, 0, none⟩) N cN, .slice T 0 tc, .int .i64 b] ∧ Blk W ob 47 #[.slice A5 k c5, .slice AT (0 + 0) cT, .int .i64 b] ∧ Blk W rb 47 #[.slice none 0 0, .slice none 0 0, .int .i64 0] ∧
            W.ownsRow w.heap.size 62 5 (.slice A5 k c5) k (flat5 L') ∧ Blk W q 62 (n.with A6 n.l c6).cells.toArray ∧ (∀ m ∈ L', m.At W) ∧ (n.with A6 n.l c6).At W)
          ⟨hb6, HP2.out.tch htq HP2.out.lt HQW.out.2.1, HQ2.out.tch htq HQ2.out.lt HQW.out.2.2.1, HRB2.out.tch htq HRB2.out.lt HQW.out.2.2.2, hor6, hN6, fun m hm => hat6 m (HAL.out m hm), ⟨by
            show (w5.setCell ⟨q, 3, none⟩ (.slice A6 nl c6)).ownsRow 0 5 1 (.slice A6 n.l.length c6) n.l.length (bvs n.l)
            rw [HNL.out]; exact hown6, (hat6 n HA2.out).p⟩⟩ (fun w3 hw3 => ?_)
        obtain ⟨k1, k2, k3, k4, k5, k6, k7, k8⟩ := hw3
        have HB3 := hide k1
        have HP3 := hide k2
        have HQ3 := hide k3
        have HRB3 := hide k4
        have HO3 := hide k5
        have HN3 := hide k6
        have HAL3 := hide k7
        have HA3 := hide k8
        clear k1 k2 k3 k4 k5 k6 k7 k8 hb6 htq hav hat6 hown6 hor6 hN6 hcs6 cc3 f3 m6 hb5 hown5 q3 ql HB2 HP2 HQ2 HRB2 HO2 HN2 HAL HA2 HRD HI i0
        obtain ⟨n6, hn6⟩ : ∃ n6, n.with A6 n.l c6 = n6 := ⟨_, rfl⟩
        have h6ps : n6.ps = n.ps := by rw [← hn6]; rfl
        rw [hn6] at HN3 HA3
        obtain ⟨e0, he0, ee1, ee2, ee3⟩ := info_entry
        have HE := hide (And.intro he0 (And.intro ee1 (And.intro ee2 ee3)))
        have q3 := HN3.out.cell 4
        have ql := HN3.out.lt
        rw [show n6.cells.toArray[4]? = some (.slice n6.P n6.ps.length n6.pc) from rfl] at q3
        have hrd : Rd w3 w3.heap.size 2 n6.P n6.ps.length (flat2 n6.ps) := Rd.of_own HA3.out.p
        have hl6 : n6.ps.length ≤ 3000 := by rw [h6ps]; exact HSM.out.2
        obtain ⟨pl, hpl⟩ : ∃ pl, n6.ps.length = pl := ⟨_, rfl⟩
        rw [hpl] at hrd q3 hl6
        have HRD := hide hrd
        have HPLn := hide hpl
        have HLZ2 := hide hl6
        have HN6 := hide hn6
        clear he0 ee1 ee2 ee3 hrd hpl hl6 h6ps hn6
        go_upto_region 8 with (first | (at_builtin; refine wpList_append_rd _ rfl (.tmp 30) (.tmp 32) 60 rfl w3.heap.size 125 e0 (.agg #[.string ByteArray.empty, .int .u16 0]) 2 24 Tryz.underlying60 HE.out.1 HE.out.2.1 HE.out.2.2.1 HE.out.2.2.2 rfl (by decide) (.slice (some ⟨w3.heap.size, 0, none⟩) 0 0) 0 _ rfl (own_lit rfl (by simp) (by simp) (by simp [maxLen]) rfl) w3.heap.size n6.P pl n6.pc (flat2 n6.ps) rfl (HRD.out.alloc (by simp) _) (flat2_one _) (by have := HLZ2.out; simp only [maxLen]; omega) (by have := HLZ2.out; omega) (by simp) ?_; intro v5 w5 hown5 hg5 hnil5 hat5; obtain ⟨A7, c7, rfl, hnc5, _, _⟩ := own_form hown5; have hb5 : Below w3.heap.size w3 w5 := (((Below.refl _ _).alloc (Nat.le_refl _) _).grown hg5 (by simp) (by simp [Value.ownBlock])); rw [Nat.zero_add, List.nil_append] at hown5; have f3 := (hb5.frozen (p := ⟨q, 4, none⟩) ql).trans (HN3.out.frozen 4); have cc3 := (hb5.cell (p := ⟨q, 4, none⟩) ql).trans q3; have m6 := Nat.lt_of_lt_of_le ql hb5.size; clear hg5 hnil5 hat5) | fail)
        have hN7 := (HN3.out.below hb5 HN3.out.lt).set_ 4 (.slice A7 pl c7)
        have hcs7 : n6.cells.toArray.setIfInBounds 4 (.slice A7 pl c7) = (n6.withP A7 n6.ps c7).cells.toArray := by
          have h1 : (n6.withP A7 n6.ps c7).cells = [.int .u8 (n6.kind.toNat : Int), .int .i64 (n6.links : Int), .int .u16 (n6.gen.toNat : Int), .slice n6.A n6.l.length n6.c, .slice A7 n6.ps.length c7] := rfl
          rw [h1, HPLn.out]; rfl
        rw [hcs7] at hN7
        have htq : Tch w3.heap.size (· = q) w3 (w5.setCell ⟨q, 4, none⟩ (.slice A7 pl c7)) := (Tch.of_below hb5).trans (Tch.setCell fun _ => rfl)
        have hb6 : Below w.heap.size w (w5.setCell ⟨q, 4, none⟩ (.slice A7 pl c7)) := (HB3.out.trans (hb5.mono HB3.out.size)).setCell HQW.out.1 _
        have hav : ∀ (t : TypeId) g cur, t ≠ 62 → Blk w3 g t cur → ¬ g = q := fun t g cur ht hB e => by subst e; exact hB.ne HN3.out ht rfl
        have hat6 : ∀ m : RNd, m.At w3 → m.At (w5.setCell ⟨q, 4, none⟩ (.slice A7 pl c7)) := fun m hm => hm.tch htq (fun g cur hB => hav _ g cur (by decide) hB) (fun g cur hB => hav _ g cur (by decide) hB)
        have hown6 : (w5.setCell ⟨q, 4, none⟩ (.slice A7 pl c7)).ownsRow 0 125 2 (.slice A7 pl c7) pl (flat2 n6.ps) := by
          have h1 := own_mono hown5 (Nat.zero_le w3.heap.size)
          refine own_from h1 (Tch.setCell (S := (· = q)) (B := w5.heap.size) fun _ => rfl) (fun g cur hB e => ?_)
          subst e
          exact hB.ne (HN3.out.below hb5 HN3.out.lt) (by decide) rfl
        have hor6 : (w5.setCell ⟨q, 4, none⟩ (.slice A7 pl c7)).ownsRow w.heap.size 62 5 (.slice A5 k c5) k (flat5 L') := own_keep HO3.out fun g hg => by
          have h1 := (own_block_ge HO3.out hg).2
          have h2 : g ≠ q := HGQ.out g hg
          exact htq.block g h1 h2
        have hpb : (n6.withP A7 n6.ps c7).pb = (Value.slice A7 pl c7).ownBlock := by
          show (Value.slice A7 n6.ps.length c7).ownBlock = _
          rw [HPLn.out]
        have HSEP := hide (show PHigh w.heap.size (L' ++ [n6.withP A7 n6.ps c7]) ∧ Sep (L' ++ [n6.withP A7 n6.ps c7]) from ⟨fun m hm g hg => by
          rcases List.mem_append.1 hm with hm | hm
          · exact HL.out.2.2.2.1 m hm g hg
          · rw [List.mem_singleton.1 hm, hpb] at hg
            have h1 := (own_block_ge hown5 hg).1
            have h2 := HB3.out.size
            omega, sep_snoc HL.out.2.2.2.2 fun m hm g hg hx => by
            rw [hpb] at hx
            have h1 := (own_block_ge hown5 hx).1
            have h2 := (own_block_ge (HAL3.out m hm).p hg).2
            omega⟩)
        clear hpb
        refine at_world (fun W => Below w.heap.size w W ∧ Blk W p 47 #[.slice (some ⟨nb, 0, none⟩) N cN, .slice T 0 tc, .int .i64 b] ∧ Blk W ob 47 #[.slice A5 k c5, .slice AT (0 + 0) cT, .int .i64 b] ∧ Blk W rb 47 #[.slice none 0 0, .slice none 0 0, .int .i64 0] ∧
            W.ownsRow w.heap.size 62 5 (.slice A5 k c5) k (flat5 L') ∧ Blk W q 62 (n6.withP A7 n6.ps c7).cells.toArray ∧ (∀ m ∈ L', m.At W) ∧ (n6.withP A7 n6.ps c7).At W)
          ⟨hb6, HP3.out.tch htq HP3.out.lt HQW.out.2.1, HQ3.out.tch htq HQ3.out.lt HQW.out.2.2.1, HRB3.out.tch htq HRB3.out.lt HQW.out.2.2.2, hor6, hN7, fun m hm => hat6 m (HAL3.out m hm), ⟨(hat6 n6 HA3.out).b, by
            show (w5.setCell ⟨q, 4, none⟩ (.slice A7 pl c7)).ownsRow 0 125 2 (.slice A7 n6.ps.length c7) n6.ps.length (flat2 n6.ps)
            rw [HPLn.out]; exact hown6⟩⟩ (fun w4 hw4 => ?_)
        obtain ⟨k1, k2, k3, k4, k5, k6, k7, k8⟩ := hw4
        have HB4 := hide k1
        have HP4 := hide k2
        have HQ4 := hide k3
        have HRB4 := hide k4
        have HO4 := hide k5
        have HN4 := hide k6
        have HAL4 := hide k7
        have HA4 := hide k8
        clear k1 k2 k3 k4 k5 k6 k7 k8 hb6 htq hav hat6 hown6 hor6 hN7 hcs7 cc3 f3 m6 hb5 hown5 q3 ql HB3 HP3 HQ3 HRB3 HO3 HN3 HAL3 HA3 HRD HE e0
        obtain ⟨n7, hn7⟩ : ∃ n7, n6.withP A7 n6.ps c7 = n7 := ⟨_, rfl⟩
        have hcore : n7.core = n.core := by rw [← hn7, ← HN6.out]; rfl
        rw [hn7] at HN4 HA4 HSEP
        have HCO := hide hcore
        obtain ⟨j0, hj0, j1, j2, j3⟩ := info_rnode
        have HJ := hide (And.intro hj0 (And.intro j1 (And.intro j2 j3)))
        have o0 := HQ4.out.cell 0
        have ol := HQ4.out.lt
        have e1 : IntKind.i64.wrap ((k : Int) + 1) = (k : Int) + 1 := IntWalk.i64_in _ (by omega)
        have hk6 : k ≤ 1000000 := by omega
        have hn4 : Blk w4 q 62 #[.int .u8 (n7.kind.toNat : Int), .int .i64 (n7.links : Int), .int .u16 (n7.gen.toNat : Int), .slice n7.A n7.l.length n7.c, .slice n7.P n7.ps.length n7.pc] := HN4.out
        have HN4' := hide hn4
        clear hn4
        have hone : ∀ u ∈ n7.cells, u.oneCell' = true := fun u hu => by
          have := rnode_one n7
          rw [Array.all_eq_true_iff_forall_mem] at this
          exact this u (by simpa using hu)
        have ofz := HQ4.out.frozen 0
        clear hcore hn7 hj0 j1 j2 j3
        go_upto_region 4 with (first | ((with_reducible refine at_load 62 (.tmp 5) ?_); refine wpList_load_blk rfl 62 (.tmp 5) rfl q _ _ _ (by rfl) HN4'.out Tryz.underlying62 rfl (size_rnode n7) ?_) | (at_builtin; refine wpList_append_one rfl (.tmp 36) (.tmp 38) 44 rfl w.heap.size 62 j0 (.agg RNd.zero.cells.toArray) 5 72 Tryz.underlying44 HJ.out.1 HJ.out.2.1 HJ.out.2.2.1 HJ.out.2.2.2 rfl (by decide) A5 c5 k (flat5 L') n7.cells w4 rfl HO4.out rfl rfl rfl hone hk6 (by decide) HB4.out.size ?_; intro A8 c8 w5 hown5 hg5 hb5 hat5; have hoc := hg5.cell o0 (fun e => row_not_blk HO4.out HQ4.out (by decide) e.symm); have hof := (World.frozen?_of_block (a := ⟨ob, 0, none⟩) (hg5.block ob ol (fun e => row_not_blk HO4.out HQ4.out (by decide) e.symm))).trans ofz; have hol := Nat.lt_of_lt_of_le ol hg5.size) | fail)
        have hbX := HB4.out.trans (hb5.mono (Nat.le_refl _))
        have hbF := hbX.setCell (p := ⟨ob, 0, none⟩) (by exact HOWx.out) (.slice A8 (k + 1) c8)
        have htb : Tch w4.heap.size (fun g => (Value.slice A5 k c5).ownBlock = some g ∨ g = ob) w4 (w5.setCell ⟨ob, 0, none⟩ (.slice A8 (k + 1) c8)) :=
          (Tch.grown hg5 (Nat.le_refl _) (fun g hg _ => .inl hg)).trans (Tch.setCell fun _ => .inr rfl)
        have hav : ∀ (t : TypeId) g cur, t ≠ 62 → t ≠ 47 → Blk w4 g t cur → ¬ ((Value.slice A5 k c5).ownBlock = some g ∨ g = ob) := fun t g cur h1 h2 hB h => by
          rcases h with h | rfl
          · exact row_not_blk HO4.out hB h1 h
          · exact hB.ne HQ4.out h2 rfl
        have hatm : ∀ m : RNd, m.At w4 → m.At (w5.setCell ⟨ob, 0, none⟩ (.slice A8 (k + 1) c8)) := fun m hm => hm.tch htb (fun g cur hB => hav _ g cur (by decide) (by decide) hB) (fun g cur hB => hav _ g cur (by decide) (by decide) hB)
        have hpq : ∀ x cs, x ≠ ob → Blk w4 x 47 cs → Blk (w5.setCell ⟨ob, 0, none⟩ (.slice A8 (k + 1) c8)) x 47 cs := fun x cs hx hB => hB.tch htb hB.lt (fun h => by
          rcases h with h | h
          · exact row_not_blk HO4.out hB (by decide) h
          · exact hx h)
        have hobn := (HQ4.out.grown hg5 (fun e => row_not_blk HO4.out HQ4.out (by decide) e.symm)).set_ 0 (.slice A8 (k + 1) c8)
        have hown8 : (w5.setCell ⟨ob, 0, none⟩ (.slice A8 (k + 1) c8)).ownsRow w.heap.size 62 5 (.slice A8 (k + 1) c8) (k + 1) (flat5 (L' ++ [n7])) := by
          have e5 : flat5 L' ++ n7.cells = flat5 (L' ++ [n7]) := by simp [flat5]
          rw [e5] at hown5
          refine own_keep hown5 fun g hg => Below.heap_setCell _ _ _ _ (fun e => ?_)
          have hob5 := HQ4.out.grown hg5 (fun e => row_not_blk HO4.out HQ4.out (by decide) e.symm)
          exact row_not_blk hown5 hob5 (by decide) (by rw [hg]; exact congrArg some e)
        obtain ⟨hl1, hl2, hl3, -⟩ := HL.out
        have HFIN : Hid ((L' ++ [n7]).length = k + 1 ∧ (L' ++ [n7]).map RNd.core = (L.take (k + 1)).map RNd.core) := hide ⟨by rw [List.length_append, hl1]; rfl, by
          rw [List.map_append, hl2, List.take_add_one, HNK.out, List.map_append]
          simp [HCO.out]⟩
        have HF1 := hide hbF
        have HF2 := hide (hpq p _ HNE.out.1 HP4.out)
        have HF3 : Hid (Blk (w5.setCell ⟨ob, 0, none⟩ (.slice A8 (k + 1) c8)) ob 47 #[.slice A8 (k + 1) c8, .slice AT (0 + 0) cT, .int .i64 b]) := hide hobn
        have HF4 := hide hown8
        have HF5 := hide (show ∀ m ∈ L' ++ [n7], m.At (w5.setCell ⟨ob, 0, none⟩ (.slice A8 (k + 1) c8)) from fun m hm => by
          rcases List.mem_append.1 hm with hm | hm
          · exact hatm m (HAL4.out m hm)
          · rw [List.mem_singleton.1 hm]; exact hatm n7 HA4.out)
        have HF6 := hide (hpq rb _ HNE.out.2 HRB4.out)
        clear hbX hbF htb hav hatm hpq hobn hown8 hl1 hl2 hl3 hoc hof hol o0 ol ofz hone hk6 hown5 hg5 hb5 hat5 HB4 HP4 HQ4 HRB4 HO4 HN4 HN4' HAL4 HA4 hlt HL
        go_wp2
        go_roundg (N - (k + 1))
        case rel => exact ⟨k + 1, A8, c8, L' ++ [n7], by omega, rfl, by first | rfl | go_num, HF1, HF2, HF3, HF4, hide ⟨HFIN.out.1, HFIN.out.2, HF5.out, HSEP.out⟩, HF6⟩
        case measure => have := HGH.out; omega
      · have hkn : k = N := by omega
        subst hkn
        have t1 : decide ((k : Int) < (k : Int)) = false := by simp
        obtain ⟨hl1, hl2, hl3, hl4, hl5⟩ := HL.out
        have hsz := size_rgroup (.slice A5 k c5) (.slice AT (0 + 0) cT) (.int .i64 b)
        have htk : L.take k = L := List.take_of_length_le (by rw [HN.out]; exact Nat.le_refl _)
        rw [htk] at hl2
        obtain ⟨g5, hA5, hg5⟩ : ∃ g, A5 = some ⟨g, 0, none⟩ ∧ w.heap.size ≤ g := by
          obtain ⟨A', c', he, _⟩ := own_form HO.out
          rcases HO.out.2 with ⟨h0, h1⟩ | ⟨g, cap, cur, hv, hg, _⟩
          · omega
          · simp only [Value.slice.injEq] at hv; exact ⟨g, hv.1, hg⟩
        subst hA5
        have hrow : Row5 wr g5 L' c5 := ⟨by rw [hl1]; exact own_mono HO.out (Nat.zero_le _), hl3⟩
        have HF := hide (And.intro hl2 (And.intro hrow (And.intro hg5 (And.intro hl4 hl5))))
        have HRBW := hide HPW.out.2.1
        clear hl1 hl2 hl3 hl4 hl5 htk hrow hg5 hge hk hL HL
        go_wp2_with (first | ((with_reducible refine at_load 47 (.tmp 3) ?_); refine wpList_load_blk rfl 47 (.tmp 3) rfl ob _ _ _ (by rfl) HQ.out Tryz.underlying47 rfl hsz ?_) | ((with_reducible refine at_store 47 (.tmp 2) (.tmp 41) ?_); refine wpList_store_blk rfl 47 (.tmp 2) (.tmp 41) rfl rb _ _ _ (by rfl) (by rfl) HRB.out hsz rfl (by simp [Value.oneCell']) (fun hB7 => ?_)) | ((with_reducible refine at_end ?_); refine bodyPost_ret (v := .agg #[.slice (some ⟨g5, 0, none⟩) k c5, .slice AT (0 + 0) cT, .int .i64 b]) (results_run1 rfl (ResV.row rfl hB7 Tryz.underlying47 rfl hsz)) rfl ⟨g5, c5, AT, cT, L', rfl, HF.out.1, ?_, HF.out.2.2.1, HF.out.2.2.2.1, HF.out.2.2.2.2, below_setRow HB.out HRBW.out _⟩) | fail)
        exact HF.out.2.1.tch (Tch.setRow (S := (· = rb)) (fun _ => rfl)) (fun g cur hB e => by subst e; exact HRB.out.ne hB (by decide) rfl) (fun g cur hB e => by subst e; exact HRB.out.ne hB (by decide) rfl) (fun g cur hB e => by subst e; exact HRB.out.ne hB (by decide) rfl)
end Go.Proofs.YthmkgohfeahdhaaGreat
namespace Go.Proofs.YthmkgohfeahdhaaGreat
open Go.RowKit
set_option linter.unusedSimpArgs false
set_option linter.unusedVariables false

/-- a configuration of small numbers: what the laws need of it -/
structure SzFacts (R : List RegV) (n : Nat) : Prop where
  tot : totalOf 32 R = (n : Int)
  ge : 32 ≤ n
  le : n ≤ 65536
  two : 2 ≤ R.length
  five : R.length ≤ 5
  geo : ∀ (k : Nat), k < R.length → ∃ (v : GeoV) (r : RegV), (geosOf 32 R)[k]? = some v ∧ R[k]? = some r ∧ (geoN v).Ok n ∧ (geoN v).val = .agg v.cells.toArray ∧ ((geoN v).blocks : Int) = r.blocks ∧ ((geoN v).nodes : Int) = r.nodes ∧ 4 ≤ (geoN v).blocks ∧ (geoN v).blocks ≤ 512 ∧ 4 ≤ (geoN v).nodes ∧ (geoN v).nodes ≤ 128

end Go.Proofs.YthmkgohfeahdhaaGreat
namespace Go.Proofs.YthmkgohfeahdhaaGreat
open Go.RowKit
set_option linter.unusedSimpArgs false
set_option linter.unusedVariables false

/-- a node that is there from the beginning -/
def freshN (k : UInt8) : NodeV := { NodeV.zero with kind := k, links := 1, gen := 1 }
def GS.freshTo : Nat → GS
  | 0 => GS.none
  | 1 => GS.none.set 1 (freshN 2)
  | 2 => (GS.none.set 1 (freshN 2)).set 2 (freshN 1)
  | _ => ((GS.none.set 1 (freshN 2)).set 2 (freshN 1)).set 3 (freshN 1)
/-- a group with its own nodes -/
def GS.fresh : GS := GS.freshTo 3
theorem GS.freshTo_ok : ∀ q, (GS.freshTo q).Ok
  | 0 => none_ok
  | 1 => none_ok.set 1 rfl rfl
  | 2 => (none_ok.set 1 rfl rfl).set 2 rfl rfl
  | _ + 3 => ((none_ok.set 1 rfl rfl).set 2 rfl rfl).set 3 rfl rfl
theorem GS.fresh_ok : GS.fresh.Ok := GS.freshTo_ok 3
theorem build_fresh (w : World) (k : UInt8) : (Instr.build 130 #[(0, .int .u8 (k.toNat : Int)), (1, .int .u8 1), (2, .int .u16 1)]).run Tryz.prog w = .ok (freshN k).val w := by kernel_rfl

/-- a configuration: what the laws need of it -/
structure CfFacts (R : List RegV) (n : Nat) : Prop where
  tot : totalOf 32 R = (n : Int)
  ge : 32 ≤ n
  le : n ≤ 65536
  geo : ∀ (k : Nat), k < R.length → ∃ (v : GeoV) (r : RegV), (geosOf 32 R)[k]? = some v ∧ R[k]? = some r ∧ (geoN v).Ok n ∧ (geoN v).val = .agg v.cells.toArray ∧ ((geoN v).blocks : Int) = r.blocks ∧ ((geoN v).nodes : Int) = r.nodes ∧ 4 ≤ (geoN v).blocks ∧ (geoN v).blocks ≤ 512 ∧ 4 ≤ (geoN v).nodes ∧ (geoN v).nodes ≤ 128
  apart : ∀ (j k : Nat) (v v' : GeoV), (geosOf 32 R)[j]? = some v → (geosOf 32 R)[k]? = some v' → j < k → (geoN v).data + (geoN v).blocks ≤ (geoN v').base
theorem geos_from {R : List RegV} (hok : ∀ r ∈ R, okReg r) : ∀ (a : Int) (k : Nat) (v : GeoV), (geosOf a R)[k]? = some v → a ≤ v.base := by
  induction R with
  | nil => intro a k v h; simp [geosOf] at h
  | cons r R ih =>
    intro a k v h
    cases k with
    | zero => simp only [geosOf, List.getElem?_cons_zero, Option.some.injEq] at h; subst h; exact Int.le_refl _
    | succ k =>
      simp only [geosOf, List.getElem?_cons_succ] at h
      have h1 := ih (fun x hx => hok x (by simp [hx])) _ k v h
      obtain ⟨_, k1, k2, k3, k4⟩ := hok r (by simp)
      have h2 : a ≤ (geoOf a r).end_ := by simp only [geoOf, GeoV.end_]; omega
      omega
theorem geos_apart {R : List RegV} (hok : ∀ r ∈ R, okReg r) : ∀ (a : Int) (j k : Nat) (v v' : GeoV), 0 ≤ a → (geosOf a R)[j]? = some v → (geosOf a R)[k]? = some v' → j < k → (geoN v).data + (geoN v).blocks ≤ (geoN v').base := by
  induction R with
  | nil => intro a j k v v' _ h; simp [geosOf] at h
  | cons r R ih =>
    intro a j k v v' ha h h' hjk
    obtain ⟨_, k1, k2, k3, k4⟩ := hok r (by simp)
    have h2 : a ≤ (geoOf a r).end_ := by simp only [geoOf, GeoV.end_]; omega
    obtain ⟨k, rfl⟩ : ∃ m, k = m + 1 := ⟨k - 1, by omega⟩
    simp only [geosOf, List.getElem?_cons_succ] at h'
    cases j with
    | zero =>
      simp only [geosOf, List.getElem?_cons_zero, Option.some.injEq] at h
      subst h
      have h3 := geos_from (fun x hx => hok x (by simp [hx])) _ k v' h'
      simp only [geoN, geoOf, GeoV.end_] at h3 ⊢
      omega
    | succ j =>
      simp only [geosOf, List.getElem?_cons_succ] at h
      exact ih (fun x hx => hok x (by simp [hx])) _ j k v v' (by omega) h h' (by omega)
theorem cf_facts {R : List RegV} (hok : ∀ r ∈ R, okReg r) (hl : R.length ≤ 5) : ∃ n, CfFacts R n := by
  have htb := total_bounds hok 32 (by omega)
  have hge := tot_ge hok 32
  refine ⟨(totalOf 32 R).toNat, by omega, by omega, by omega, fun k hk => ?_, fun j k v v' h h' hjk => geos_apart hok 32 j k v v' (by omega) h h' hjk⟩
  have hv : (geosOf 32 R)[k]? = some ((geosOf 32 R)[k]'(by rw [geosOf_length]; exact hk)) := List.getElem?_eq_getElem _
  obtain ⟨h1, h2, r, hr, h3, h4⟩ := geos_ok hok 32 k _ (by omega) (by omega) hv
  obtain ⟨_, b1, b2, b3, b4⟩ := hok r (List.mem_of_getElem? hr)
  exact ⟨_, r, hv, hr, h1, h2, h3, h4, by omega, by omega, by omega, by omega⟩
theorem SzFacts.cf {R : List RegV} {n : Nat} (h : SzFacts R n) (hok : ∀ r ∈ R, okReg r) : CfFacts R n :=
  ⟨h.tot, h.ge, h.le, h.geo, fun j k v v' h h' hjk => geos_apart hok 32 j k v v' (by omega) h h' hjk⟩
/-- the groups of a disk are what is said of each -/
def AllIs (R : List RegV) (D : List BlkV) (F : Nat → GS) : Prop := ∀ (k : Nat) (v : GeoV), (geosOf 32 R)[k]? = some v → Sto.Is ⟨D, [], 0⟩ (geoN v) (F k)
theorem CfFacts.sep {R : List RegV} {n : Nat} (h : CfFacts R n) {j k : Nat} {v v' : GeoV} (hv : (geosOf 32 R)[j]? = some v) (hv' : (geosOf 32 R)[k]? = some v') (hjk : j ≠ k) :
    (geoN v').data + (geoN v').blocks ≤ (geoN v).base ∨ (geoN v).data + (geoN v).blocks ≤ (geoN v').base := by
  rcases Nat.lt_or_gt_of_ne hjk with h1 | h1
  · exact .inr (h.apart j k v v' hv hv' h1)
  · exact .inl (h.apart k j v' v hv' hv h1)
theorem CfFacts.geo_ok {R : List RegV} {n : Nat} (h : CfFacts R n) {k : Nat} {v : GeoV} (hv : (geosOf 32 R)[k]? = some v) : (geoN v).Ok n := by
  have hk : k < R.length := by have := (List.getElem?_eq_some_iff.1 hv).1; rwa [geosOf_length] at this
  obtain ⟨v', r, hv', _, h1, _⟩ := h.geo k hk
  rw [hv] at hv'
  cases hv'
  exact h1
/-- a transaction in one group is written: the others are what they were -/
theorem AllIs.commit {R : List RegV} {n : Nat} {D : List BlkV} {F : Nat → GS} {s : Sto} {j : Nat} {v : GeoV} {G : GS} {L : List Nat} {l : List Nat} (h : AllIs R D F) (hc : CfFacts R n) (hs : s.Ok) (hv : (geosOf 32 R)[j]? = some v)
    (hst : Sto.Step ⟨D, [], 0⟩ s (geoN v) L) (hi : s.Is (geoN v) G) (hp : l.Perm (s.M.map (·.1))) : AllIs R (commitD s l) (upd F j G) := by
  intro k v' hv'
  have hu := hc.geo_ok hv'
  by_cases hjk : k = j
  · subst hjk
    rw [hv] at hv'
    cases hv'
    rw [upd_same]
    exact hi.commit hu hs hp
  · rw [upd_other _ _ hjk]
    exact ((h k v' hv').far hu hst (hc.sep hv hv' (fun e => hjk e.symm))).commit hu hs hp
theorem Tch.txn {B : Nat} {w0 w w' : World} {i : Ids} (h : Tch B (fun x => x = i.dd ∨ x = i.rr) w0 w) (ht : Tch w.heap.size i.own w w') (h1 : w.heap.size ≤ i.tt) (h2 : w.heap.size ≤ i.mm) (hB : B ≤ w.heap.size) : Tch B (fun x => x = i.dd ∨ x = i.rr) w0 w' :=
  h.trans (ht.mono hB fun k hk hs => by
    rcases hs with e | e | e | e
    · omega
    · omega
    · exact .inl e
    · exact .inr e)

theorem LogAt.ids {w : World} {mq : Nat} {i ii : Ids} {D : List BlkV} (hii : Ids.mk ii.tt mq i.ll i.dd i.rr = ii) (h : LogAt w ii.ll ii.dd ii.rr D) : LogAt w i.ll i.dd i.rr D := by
  rw [← congrArg Ids.ll hii, ← congrArg Ids.dd hii, ← congrArg Ids.rr hii] at h
  exact h
def GeoN.zero : GeoN := ⟨0, 0, 0, 0, 0, 0⟩
theorem zero_geo (w : World) : (zeroValue 169).run Tryz.prog w = .ok (.agg GeoN.zero.cells.toArray) w := by kernel_rfl
/-- the kinds of a group's own nodes -/
def freshK (q : Nat) : UInt8 := if q = 0 then 2 else 1
theorem freshTo_succ : ∀ q, q < 3 → GS.freshTo (q + 1) = (GS.freshTo q).set (q + 1) (freshN (freshK q)) ∧ checkN (freshN (freshK q)) = true
  | 0, _ => ⟨rfl, rfl⟩
  | 1, _ => ⟨rfl, rfl⟩
  | 2, _ => ⟨rfl, rfl⟩
section
variable {B : Nat} {w w' : World} {c : Nat} {R : List RegV} {K : List MarkV} {tb nb lb : Nat} {A1 A2 A3 : Option Addr} {c1 c2 c3 : Nat}
set_option maxRecDepth 100000 in
set_option maxHeartbeats 3200000 in
theorem fresh_all {n : Nat} (hin : ConfIn B w c R K tb nb lb A1 A2 A3 c1 c2 c3) (hF : CfFacts R n) (hR5 : R.length ≤ 5) :
    Calls Tryz.prog 16 #[.pointer (some ⟨c, 0, none⟩)] w fun e w' => ∃ (i : Ids) (D : List BlkV), e = .returned (.tuple #[.pointer (some ⟨i.dd, 0, none⟩), .pointer (some ⟨i.ll, 0, none⟩), .pointer (some ⟨i.tt, 0, none⟩)]) ∧ TxAt w' i ⟨D, [], 0⟩ ∧ D.length = n ∧ AllIs R D (fun _ => GS.fresh) ∧ (∀ k, i.own k → w.heap.size ≤ k) ∧ w.heap.size ≤ i.ll ∧ Below w.heap.size w w' := by
  have hbeg := begun_ok (w := w) hin hF.tot hF.ge hF.le
  have HIN := hide hin
  have HF := hide hF
  clear hin hF
  go_enter Tryz.func16, Tryz.ntmps16
  go_wp2_with fail
  refine hbeg.mono ?_
  rintro e w1 ⟨i, rfl, hx, hown, hll, hb1⟩
  have HIN1 := hide (HIN.out.below hb1)
  have HL1 := hide hx.log
  have HB1 := hide hb1
  have HOWN := hide (And.intro hown hll)
  clear hx hown hll hb1 hbeg
  go_wp2_with fail
  refine (len_ok HIN1.out).mono ?_
  rintro e w_ ⟨rfl, hw_⟩
  have hw_ := hw_.symm
  subst hw_
  go_wp2_with fail
  go_loopg [22] R.length (fun gh x22 wr => ∃ (j : Nat) (Dk : List BlkV), j ≤ R.length ∧ gh = R.length - j ∧ x22 = .int .i64 (j : Int) ∧ Hid (Tch w1.heap.size (fun x => x = i.dd ∨ x = i.rr) w1 wr) ∧ Hid (LogAt wr i.ll i.dd i.rr Dk) ∧ Hid (Dk.length = n ∧ AllIs R Dk (fun k => if k < j then GS.fresh else GS.none)))
  case atStart =>
    exact ⟨0, begD n, Nat.zero_le _, rfl, rfl, hide (Tch.refl _ _ _), HL1, hide ⟨begD_length _, fun k v hv => begun_is (HF.out.geo_ok hv)⟩⟩
  case round =>
    obtain ⟨j, Dk, hj, hgh, rfl, HT, HL, HI⟩ := hrel
    have HGH := hide hgh
    clear hgh
    have HD32 := hide (show 32 ≤ Dk.length from by rw [HI.out.1]; exact HF.out.ge)
    have HBr : Hid (Below w.heap.size w wr) := hide (HB1.out.trans ((HT.out.mono HB1.out.size (S' := fun _ => False) (fun k hk h => by
      rcases h with h | h
      · have := HOWN.out.1 k (.inr (.inr (.inl h))); omega
      · have := HOWN.out.1 k (.inr (.inr (.inr h))); omega)).below fun _ _ h => h))
    rcases Nat.lt_or_ge j R.length with hjl | hjl
    · have hjz : (j : Int) < (R.length : Int) := by omega
      obtain ⟨v, r, hv, hr, hgo, hval, -, -, g4, g512, n4, n128⟩ := HF.out.geo j hjl
      go_wp2_with fail
      refine (begin_ok HL.out HD32.out).mono ?_
      rintro e w7 ⟨tt, mm, rfl, htt, hmm, hx7, hb7⟩
      obtain ⟨ii, hii⟩ : ∃ ii : Ids, Ids.mk tt mm i.ll i.dd i.rr = ii := ⟨_, rfl⟩
      have htt' : tt = ii.tt := by rw [← hii]
      rw [hii] at hx7
      subst htt'
      have hgeo := geo_ok (HIN.out.below (HBr.out.trans (hb7.mono HBr.out.size))) hv
      obtain ⟨u, hu⟩ : ∃ u, geoN v = u := ⟨_, rfl⟩
      have hval2 : (Value.agg #[.int .i64 v.base, .int .i64 v.bitmap, .int .i64 v.table, .int .i64 v.data, .int .i64 v.blocks, .int .i64 v.nodes]) = .agg u.cells.toArray := by rw [← hu]; exact hval.symm
      rw [hval2] at hgeo
      rw [hu] at hgo n4
      have HX7 := hide hx7
      have HB7 := hide hb7
      have HII := hide (And.intro hii (And.intro htt hmm))
      have HGE := hide hgeo
      have HV := hide (And.intro hv hu)
      have HGO := hide (And.intro hgo n4)
      clear hii htt hmm hx7 hb7 hgeo hu hval2 hval hv hr hgo g4 g512 n4 n128
      go_wp2_with fail
      refine HGE.out.mono ?_
      rintro e w8 ⟨rfl, hb8⟩
      have HX8 := hide (HX7.out.below hb8)
      have HB8 := hide (HB7.out.trans (hb8.mono HB7.out.size))
      clear hb8 HX7 HB7 HGE
      go_upto_region 7 with (first | ((with_reducible refine at_alloc 169 ?_); refine wpList_alloc_as rfl 169 rfl _ (zero_geo _) ?_) | ((with_reducible refine at_store 169 (.tmp 10) (.tmp 31) ?_); refine wpList_store_blk rfl 169 (.tmp 10) (.tmp 31) rfl w8.heap.size _ _ _ (by rfl) (by rfl) (Blk.new _ _ _) (size_geo u) rfl (geo_one u) (fun _ => ?_)) | fail)
      refine at_world (fun W => ∃ p, p = w8.heap.size ∧ Below w8.heap.size w8 W ∧ Blk W p 169 u.cells.toArray) ⟨_, rfl, below_setRow ((Below.refl _ _).alloc (Nat.le_refl _) _) (Nat.le_refl _) _, (Blk.new _ _ _).setRow_same _⟩ (fun w9 h9 => ?_)
      obtain ⟨p, hp, hb9, hP⟩ := h9
      rw [← hp]
      have HX9 := hide (HX8.out.below hb9)
      have HB9 := hide (HB8.out.trans (hb9.mono HB8.out.size))
      have HP9 := hide hP
      clear hp hb9 hP HX8 HB8
      go_wp2_with fail
      refine at_world (fun W => ∃ kb, kb = w9.heap.size ∧ kb < W.heap.size ∧ Below w9.heap.size w9 W ∧ ∀ q, q < 3 → W.cell? ⟨kb, q, none⟩ = some (.int .u8 ((freshK q).toNat : Int))) ⟨_, rfl, by simp, (Below.refl _ _).alloc (Nat.le_refl _) _, fun q hq => by
        obtain rfl | rfl | rfl : q = 0 ∨ q = 1 ∨ q = 2 := by omega
        · exact (Blk.new w9 _ _).cell 0
        · exact (Blk.new w9 _ _).cell 1
        · exact (Blk.new w9 _ _).cell 2⟩ (fun w10 h10 => ?_)
      obtain ⟨kb, hkb, kbl, hb10, hK10⟩ := h10
      rw [← hkb]
      have HX10 := hide (HX9.out.below hb10)
      have HB10 := hide (HB9.out.trans (hb10.mono HB9.out.size))
      have HP10 := hide (HP9.out.below hb10 HP9.out.lt)
      have HK10 := hide hK10
      have HKO := hide (show ¬ ii.own kb from fun hk => HX9.out.other_new (Nat.le_of_eq hkb.symm) hk)
      have HPO := hide (show ¬ ii.own p from HX10.out.other HP10.out (by decide) (by decide) (by decide))
      clear hkb hb10 hK10 HX9 HB9 HP9
      go_loopg [35] 3 (fun gh x35 wq => ∃ (q : Nat) (s : Sto) (L : List Nat), q ≤ 3 ∧ gh = 3 - q ∧ x35 = .int .i64 (q : Int) ∧ Hid (TxAt wq ii s) ∧ Hid (Tch w10.heap.size ii.own w10 wq) ∧ Hid (Sto.Step ⟨Dk, [], 0⟩ s u L ∧ s.Is u (GS.freshTo q) ∧ s.M.length ≤ q))
      case atStart =>
        refine ⟨0, _, [], by omega, rfl, rfl, HX10, hide (Tch.refl _ _ _), hide ⟨Sto.Step.refl _ _ _, ?_, Nat.le_refl _⟩⟩
        have := HI.out.2 j v HV.out.1
        rw [HV.out.2] at this
        have e : (if j < j then GS.fresh else GS.none) = GS.freshTo 0 := if_neg (by omega)
        simp only [e] at this
        exact this
      case round =>
        obtain ⟨q, s, L, hq, hgq, rfl, HXq, HTq, HSq⟩ := hrel
        have HGQ := hide hgq
        clear hgq
        have kbl' : kb < _ := Nat.lt_of_lt_of_le kbl HTq.out.size
        rcases Nat.lt_or_ge q 3 with hq3 | hq3
        · have hqz : (q : Int) < 3 := by omega
          have y := (World.cell?_of_block (w := w10) (a := ⟨kb, q, none⟩) (HTq.out.block kb kbl HKO.out)).trans (HK10.out q hq3)
          have HPq := hide (HP10.out.tch HTq.out HP10.out.lt HPO.out)
          have hD : s.D.length = n := by rw [HSq.out.1.D]; exact HI.out.1
          have hug : u.Ok s.D.length := by rw [hD]; exact HGO.out.1
          have hn4 := HGO.out.2
          obtain ⟨hfs, hck⟩ := freshTo_succ q hq3
          have hwr := write_node (num := q + 1) (n := freshN (freshK q)) HXq.out hug (by omega) (by omega) rfl hck (node_can hug (by have := HSq.out.2.2; omega) (by omega) (by omega))
          have hst := is_set (v := freshN (freshK q)) HXq.out.ok hug (by omega) (by omega) rfl HSq.out.2.1 (num := q + 1)
          have hbf := fun W => build_fresh W (freshK q)
          rw [← hfs] at hst
          rw [show ((q + 1 : Nat) : Int) = (q : Int) + 1 from by omega] at hwr
          have hml : (s.setNode u (q + 1) (freshN (freshK q))).M.length ≤ q + 1 := by
            unfold Sto.setNode
            have := Sto.put_len s (u.base + u.bitmap + (q + 1 - 1) / 2) (wrB (s.at_ (u.base + u.bitmap + (q + 1 - 1) / 2)) ((q + 1 - 1) % 2 * 32) (encN (freshN (freshK q))))
            have := HSq.out.2.2
            omega
          have HST := hide (And.intro (HSq.out.1.trans hst.2) (And.intro hst.1 hml))
          have e1 : IntKind.i64.wrap ((q : Int) + 1) = (q : Int) + 1 := IntWalk.i64_in _ (by omega)
          generalize s.setNode u (q + 1) (freshN (freshK q)) = s2 at hwr HST
          generalize freshK q = kk at y hwr hbf
          have HWR := hide hwr
          have HBF := hide hbf
          clear hfs hck hwr hst hbf hml hD hug hn4 HSq
          go_wp2_with (first | ((with_reducible refine at_load 169 (.tmp 10) ?_); refine wpList_load_blk rfl 169 (.tmp 10) rfl p _ _ _ (by rfl) HPq.out Tryz.underlying169 rfl (size_geo u) ?_) | ((with_reducible refine at_build 130 #[(0, .tmp 44), (1, .const (.int .u8 1)), (2, .const (.int .u16 1))] ?_); refine wpList_run rfl _ (exec_build 130 #[(0, .tmp 44), (1, .const (.int .u8 1)), (2, .const (.int .u16 1))] rfl #[(0, .int .u8 (kk.toNat : Int)), (1, .int .u8 1), (2, .int .u16 1)] (by simp only [List.map_toArray, List.map_cons, List.map_nil]; rfl) _ (HBF.out _)) ?_) | fail)
          refine HWR.out.mono ?_
          rintro e w11 ⟨rfl, hx11, ht11⟩
          have HX11 := hide hx11
          have HT11 := hide (HTq.out.trans (ht11.mono HTq.out.size fun _ _ h => h))
          clear hx11 ht11 HWR y kbl' HPq
          go_wp2
          go_roundg (3 - (q + 1))
          case rel => exact ⟨q + 1, s2, _, by omega, rfl, by first | rfl | go_num, HX11, HT11, HST⟩
          case measure => have := HGQ.out; omega
        · have hqe : q = 3 := by omega
          subst hqe
          clear kbl'
          have hcom := commit_ok HXq.out HSq.out.1.bad
          have HCOM := hide hcom
          clear hcom
          go_wp2_with fail
          refine HCOM.out.mono ?_
          rintro e w12 ⟨l, rfl, hp, hx12, ht12⟩
          have hDl : (commitD s l).length = n := by rw [commit_len, HSq.out.1.D]; exact HI.out.1
          have hall := AllIs.commit HI.out.2 HF.out HXq.out.ok HV.out.1 (by rw [HV.out.2]; exact HSq.out.1) (by rw [HV.out.2]; exact HSq.out.2.1) hp
          have hall2 : AllIs R (commitD s l) (fun k => if k < j + 1 then GS.fresh else GS.none) := fun k v hv => by
            have := hall k v hv
            have e : upd (fun k => if k < j then GS.fresh else GS.none) j (GS.freshTo 3) k = if k < j + 1 then GS.fresh else GS.none := by
              unfold upd
              by_cases h1 : k = j
              · rw [if_pos h1, if_pos (by omega)]; rfl
              · rw [if_neg h1]
                by_cases h2 : k < j
                · simp only [if_pos h2, if_pos (show k < j + 1 by omega)]
                · simp only [if_neg h2, if_neg (show ¬ k < j + 1 by omega)]
            rwa [e] at this
          have e := HII.out.1
          have HL12 : Hid (LogAt w12 i.ll i.dd i.rr (commitD s l)) := hide (by
            have h := hx12.log
            rw [← congrArg Ids.ll e, ← congrArg Ids.dd e, ← congrArg Ids.rr e] at h
            exact h)
          have hT := (Tch.of_below (S := ii.own) HB10.out).trans ((HTq.out.trans (ht12.mono HTq.out.size fun _ _ h => h)).mono HB10.out.size fun _ _ h => h)
          have HT12 : Hid (Tch w1.heap.size (fun x => x = i.dd ∨ x = i.rr) w1 w12) := hide (HT.out.trans (hT.mono HT.out.size (fun k hk h => by
            have h1 := HII.out.2.1
            have h2 := HII.out.2.2
            have h3 := HT.out.size
            rcases h with h | h | h | h
            · omega
            · rw [← e] at h; simp only at h; omega
            · rw [← e] at h; exact .inl h
            · rw [← e] at h; exact .inr h)))
          have HI12 := hide (And.intro hDl hall2)
          clear hp hx12 ht12 hDl hall hall2 e hT HCOM HSq
          go_wp2
          go_roundg (R.length - (j + 1))
          case rel => exact ⟨j + 1, _, by omega, rfl, by first | rfl | go_num, HT12, HL12, HI12⟩
          case measure => have := HGH.out; omega
    · have hje : decide ((j : Int) < R.length) = false := by simp; omega
      have hjR : R.length = j := by omega
      go_wp2_with fail
      refine (begin_ok HL.out HD32.out).mono ?_
      rintro e w7 ⟨tt, mm, rfl, htt, hmm, hx7, hb7⟩
      have HF7 := hide (And.intro hx7 (And.intro (HBr.out.trans (hb7.mono HBr.out.size)) (show (∀ k, Ids.own ⟨tt, mm, i.ll, i.dd, i.rr⟩ k → w.heap.size ≤ k) from by
        have := HBr.out.size
        have h1 := HOWN.out.1 i.dd (.inr (.inr (.inl rfl)))
        have h2 := HOWN.out.1 i.rr (.inr (.inr (.inr rfl)))
        rintro k (e | e | e | e) <;> simp only at e <;> omega)))
      have HJ := hide hjR
      clear htt hmm hx7 hb7 hjR
      go_wp2
      go_returns
      refine ⟨⟨tt, mm, i.ll, i.dd, i.rr⟩, Dk, rfl, HF7.out.1, HI.out.1, fun k v hv => ?_, HF7.out.2.2, HOWN.out.2, HF7.out.2.1⟩
      have hk : k < R.length := by have := (List.getElem?_eq_some_iff.1 hv).1; rwa [geosOf_length] at this
      have := HI.out.2 k v hv
      have e : (if k < j then GS.fresh else GS.none) = GS.fresh := if_pos (by have := HJ.out; omega)
      simp only [e] at this
      exact this
end
end Go.Proofs.YthmkgohfeahdhaaGreat
namespace Go.Proofs.YthmkgohfeahdhaaGreat
open Go.RowKit
set_option linter.unusedSimpArgs false
set_option linter.unusedVariables false

theorem build_five (w : World) (a : Int) : (Instr.build 22 #[(0, .int .u8 a)]).run Tryz.prog w = .ok (.agg #[.int .u8 a, .int .u8 0, .int .u8 0, .int .u8 0, .int .u8 0]) w := by kernel_rfl
theorem build_fives (w : World) (a b : Int) : (Instr.build 23 #[(0, .agg #[.int .u8 a, .int .u8 0, .int .u8 0, .int .u8 0, .int .u8 0]), (1, .agg #[.int .u8 b, .int .u8 0, .int .u8 0, .int .u8 0, .int .u8 0])]).run Tryz.prog w = .ok (.agg #[.int .u8 a, .int .u8 0, .int .u8 0, .int .u8 0, .int .u8 0, .int .u8 b, .int .u8 0, .int .u8 0, .int .u8 0, .int .u8 0, .int .u8 0, .int .u8 0, .int .u8 0, .int .u8 0, .int .u8 0, .int .u8 0, .int .u8 0, .int .u8 0, .int .u8 0, .int .u8 0, .int .u8 0, .int .u8 0, .int .u8 0, .int .u8 0, .int .u8 0]) w := by kernel_rfl
/-- an empty file -/
theorem file_empty {G : GS} {m : Nat} {n : NodeV} (κ : Nat → Nat) (f : Nat → UInt8) (hd : n.dir.length = 6) (h0 : ∀ c, n.slot c = 0) : FileAt G m n 0 κ 0 f := by
  have hp : ∀ c, prOf 0 c = false := fun c => by unfold prOf; rw [decide_eq_false_iff_not]; omega
  refine ⟨⟨hd, fun c h => ?_, fun c p j h _ => ?_, fun c _ _ => ?_, fun c p j _ _ h => ?_, fun c h => ?_, fun c c' h _ _ => ?_⟩, by omega, by omega, fun j hj => by omega⟩
  · rw [hp] at h; cases h
  · rw [hp] at h; cases h
  · rw [hp, h0]; rfl
  · rw [hp] at h; cases h
  · rw [hp] at h; cases h
  · rw [hp] at h; cases h
theorem fresh_slot (k : UInt8) (c : Nat) : (freshN k).slot c = 0 := by
  unfold NodeV.slot freshN NodeV.zero
  split
  · rename_i h
    obtain rfl | rfl | rfl | rfl | rfl | rfl : c = 0 ∨ c = 1 ∨ c = 2 ∨ c = 3 ∨ c = 4 ∨ c = 5 := by omega
    all_goals rfl
  · split <;> rfl
theorem fresh_cnt (m : Nat) : GS.fresh.cnt m = 0 := by
  unfold GS.cnt
  have : (List.range m).filter GS.fresh.tk = [] := by
    rw [List.filter_eq_nil_iff]
    intro x _
    simp [GS.fresh, GS.freshTo, GS.set, GS.none]
  rw [this]
  rfl
theorem Rd.of_bytes {w : World} {p n : Nat} {t : TypeId} {l : List UInt8} (h : Blk w p t (bvs l).toArray) (hn : l.length = n) : Rd w w.heap.size 1 (some ⟨p, 0, none⟩) n (bvs l) :=
  ⟨by rw [bvs_length, hn, Nat.mul_one], fun _ => ⟨p, 0, rfl, h.lt, fun j u hu => by
    have := h.cell j
    rw [List.getElem?_toArray, hu] at this
    rw [Nat.zero_add]; exact this⟩⟩
/-- a transaction in one group is written -/
theorem is_commit {s : Sto} {u : GeoN} {n : Nat} {G : GS} {l : List Nat} (h : s.Is u G) (hu : u.Ok n) (hs : s.Ok) (hp : l.Perm (s.M.map (·.1))) : Sto.Is ⟨commitD s l, [], 0⟩ u G := h.commit hu hs hp
end Go.Proofs.YthmkgohfeahdhaaGreat
namespace Go.Proofs.YthmkgohfeahdhaaGreat
open Go.RowKit
set_option linter.unusedSimpArgs false
set_option linter.unusedVariables false

/-- a record, as it lies -/
structure RecV where
  s : Nat
  f : Nat
  t : Nat
  A : Option Addr
  l : List UInt8
  c : Nat
structure RecV.Ok (r : RecV) : Prop where
  s : r.s < 4294967296
  f : r.f < 256
  t : r.t < 256
def RecV.cells (r : RecV) : List Value := [.int .u32 (r.s : Int), .int .u8 (r.f : Int), .int .u8 (r.t : Int), .slice r.A r.l.length r.c]
def RecV.core (r : RecV) : Nat × Nat × Nat × List UInt8 := (r.s, r.f, r.t, r.l)
def RecV.enc (r : RecV) : List UInt8 := encB r.s r.f r.t r.l
theorem FileAt.congr {G : GS} {m c len : Nat} {n : NodeV} {κ : Nat → Nat} {f f' : Nat → UInt8} (h : FileAt G m n c κ len f) (hf : ∀ j, j < len → f j = f' j) : FileAt G m n c κ len f' :=
  ⟨h.tree, h.cle, h.fit, fun j hj => (h.byte j hj).trans (hf j hj)⟩
theorem over_end {l d : List UInt8} {j : Nat} (hj : j < l.length + d.length) : over (fun j => l.getD j 0) l.length d d.length j = (l ++ d).getD j 0 := by
  unfold over
  by_cases h : l.length ≤ j
  · rw [if_pos ⟨h, hj⟩, List.getD_eq_getElem?_getD, List.getD_eq_getElem?_getD, List.getElem?_append_right h]
  · rw [if_neg (by omega)]
    show l.getD j 0 = _
    rw [List.getD_eq_getElem?_getD, List.getD_eq_getElem?_getD, List.getElem?_append_left (by omega)]
section
variable {w w' : World} {i : Ids} {s : Sto} {gg : Nat} {g : GeoN} {lab : Int} {G : GS}
end
end Go.Proofs.YthmkgohfeahdhaaGreat
namespace Go.Proofs.YthmkgohfeahdhaaGreat
open Go.RowKit
set_option linter.unusedSimpArgs false
set_option linter.unusedVariables false

/-- an address lies in a row of bytes -/
def BT (w : World) (A : Option Addr) : Prop := ∀ b, A = some b → ∃ cur, Blk w b.block 5 cur
theorem BT.of_own {w : World} {B n c sz : Nat} {A : Option Addr} {xs : List Value} (h : w.ownsRow B 5 sz (.slice A n c) n xs) : BT w A := fun b hb => by
  subst hb
  rcases h.2 with ⟨h0, _⟩ | ⟨g, cap, cur, hv, _, hh, _⟩
  · cases h0
  · simp only [Value.slice.injEq, Option.some.injEq] at hv
    obtain ⟨rfl, _⟩ := hv
    exact ⟨cur, hh⟩
theorem BT.tch {w w' : World} {A : Option Addr} {S : Nat → Prop} (h : BT w A) (ht : Tch w.heap.size S w w') (hS : ∀ g cur, Blk w g 5 cur → ¬ S g) : BT w' A := fun b hb => by
  obtain ⟨cur, hB⟩ := h b hb
  exact ⟨cur, hB.tch ht hB.lt (hS _ _ hB)⟩
theorem BT.below {w w' : World} {A : Option Addr} (h : BT w A) (hb : Below w.heap.size w w') : BT w' A := h.tch (Tch.of_below (S := fun _ => False) hb) (fun _ _ _ h => h)
theorem BT.slA {w : World} {A : Option Addr} {c l : Nat} (h : BT w A) : BT w (slA A c l) := fun b hb => by
  unfold Go.Proofs.YthmkgohfeahdhaaGreat.slA at hb
  split at hb
  · exact h b hb
  · cases A with
    | none => cases hb
    | some a =>
      simp only [Option.map_some, Option.some.injEq] at hb
      obtain ⟨cur, hB⟩ := h a rfl
      have : b.block = a.block := by rw [← hb]; unfold Addr.add; split <;> rfl
      rw [this]
      exact ⟨cur, hB⟩
theorem Rd.keepT {w w' : World} {B n : Nat} {A : Option Addr} {xs : List Value} {S : Nat → Prop} (h : Rd w B 1 A n xs) (hA : BT w A) (ht : Tch w.heap.size S w w') (hS : ∀ g cur, Blk w g 5 cur → ¬ S g) : Rd w' w'.heap.size 1 A n xs :=
  ⟨h.1, fun hn => by
    obtain ⟨b, o, e, hb, hc⟩ := h.2 hn
    obtain ⟨cur, hB⟩ := hA _ e
    refine ⟨b, o, e, Nat.lt_of_lt_of_le hB.lt ht.size, fun j u hu => ?_⟩
    exact (World.cell?_of_block (w := w) (a := ⟨b, o + j, none⟩) (ht.block b hB.lt (hS _ _ hB))).trans (hc j u hu)⟩
section
variable {w w' : World} {i : Ids} {s : Sto} {gg : Nat} {g : GeoN} {lab : Int} {G : GS}
end
end Go.Proofs.YthmkgohfeahdhaaGreat
namespace Go.Proofs.YthmkgohfeahdhaaGreat
open Go.RowKit Go.ChangeShapes Go.WideShapes Go.ChangeAt Go.Joins Go.Deep
set_option linter.unusedSimpArgs false
set_option linter.unusedVariables false

section
variable {H : Type} {enc : TypeId × Value → H} {P : Program} {w : World} {base : Nat} {held : Bool} {fuel : Nat} {t e : TypeId} {v : Value} {y : DataW H × List MemPlace}

theorem awf_u8 {n : Int} (h : (Lit.int .u8 n).wf = true) : ∃ k : Nat, n = k ∧ k < 256 := by
  have h : IntKind.u8.min ≤ n ∧ n ≤ IntKind.u8.max := by simpa [Lit.wf] using h
  have h1 : IntKind.u8.min = 0 := by decide
  have h2 : IntKind.u8.max = 255 := by decide
  exact ⟨n.toNat, by omega, by omega⟩
theorem awf_u16 {n : Int} (h : (Lit.int .u16 n).wf = true) : ∃ k : Nat, n = k ∧ k < 65536 := by
  have h : IntKind.u16.min ≤ n ∧ n ≤ IntKind.u16.max := by simpa [Lit.wf] using h
  have h1 : IntKind.u16.min = 0 := by decide
  have h2 : IntKind.u16.max = 65535 := by decide
  exact ⟨n.toNat, by omega, by omega⟩

theorem open_u8_cell (ht : P.underlying t = some (.int .u8)) (h : DataW.trod enc P w base (fun _ => true) held fuel t [v] = some y) : ∃ k : Nat, v = .int .u8 k ∧ k < 256 := by
  obtain ⟨n, h1, _, hw⟩ := DataW.trod_int ht h
  obtain ⟨k, rfl, hk⟩ := awf_u8 hw
  exact ⟨k, by simpa using h1, hk⟩
theorem open_u16_cell (ht : P.underlying t = some (.int .u16)) (h : DataW.trod enc P w base (fun _ => true) held fuel t [v] = some y) : ∃ k : Nat, v = .int .u16 k ∧ k < 65536 := by
  obtain ⟨n, h1, _, hw⟩ := DataW.trod_int ht h
  obtain ⟨k, rfl, hk⟩ := awf_u16 hw
  exact ⟨k, by simpa using h1, hk⟩


variable {r : Reach} {b0 : Nat} {d : DataW H} {ps : List MemPlace}
end

end Go.Proofs.YthmkgohfeahdhaaGreat
namespace Go.Proofs.YthmkgohfeahdhaaGreat
open Go.RowKit Go.ChangeShapes Go.WideShapes Go.ChangeAt Go.Joins Go.Deep
set_option linter.unusedSimpArgs false
set_option linter.unusedVariables false

section
variable {H : Type} {enc : TypeId × Value → H} {P : Program} {w : World} {base : Nat} {held : Bool} {fuel : Nat} {t e eb : TypeId} {v : Value} {r : Reach} {b0 : Nat} {d : DataW H} {ps : List MemPlace}
theorem some_of_get {α : Type} {xs : List α} {n i : Nat} (h : xs.length = n) (hi : i < n) : ∃ y, xs[i]? = some y := ⟨xs[i]'(by omega), List.getElem?_eq_getElem _⟩
theorem flat_len {α : Type} (f : α → List Value) (sz : Nat) (hf : ∀ a, (f a).length = sz) : ∀ l : List α, (l.flatMap f).length = l.length * sz
  | [] => by simp
  | a :: r => by rw [List.flatMap_cons, List.length_append, hf, flat_len f sz hf r, List.length_cons, Nat.add_mul, Nat.one_mul, Nat.add_comm]
/-- a slice of structs of sz cells each -/
theorem open_rows {α : Type} [Inhabited α] (cells : α → List Value) (sz : Nat) (hlen : ∀ a, (cells a).length = sz) (h0 : 0 < sz) (ht : P.underlying t = some (.slice e)) (hC : P.cellsOf e = sz)
    (hel : ∀ (m : Nat) cs (x : DataW H × List MemPlace), cs.length = sz → DataW.trod enc P w base (fun _ => true) held m e cs = some x → ∃ a, cells a = cs)
    (hval : Value.okWide P w r b0 t v) (h : DataW.Trod enc P w base (fun _ => true) held t v d ps) : ∃ (A : Option Addr) (n c : Nat) (L : List α), v = .slice A n c ∧ L.length = n ∧ n ≤ c ∧ c ≤ maxLen ∧ Rd w w.heap.size sz A n (L.flatMap cells) := by
  obtain ⟨A, n, c, rfl⟩ := okWide_slice ht hval
  obtain ⟨fuel, hf⟩ := h
  rcases open_slice ht (by simpa [Value.cells] using hf) with ⟨hcs, _⟩ | ⟨a, len, cap, m, n', D, Pl, hcs, _, hl, hml, hm, _, hx⟩
  · obtain ⟨rfl, rfl, rfl⟩ : A = none ∧ n = 0 ∧ c = 0 := by simpa using hcs
    exact ⟨none, 0, 0, [], rfl, rfl, Nat.le_refl _, Nat.zero_le _, by simp, fun h => absurd h (Nat.lt_irrefl _)⟩
  · obtain ⟨rfl, rfl, rfl⟩ : A = some a ∧ n = len ∧ c = cap := by simpa using hcs
    simp only [if_true] at hm
    subst hm
    obtain ⟨f, hf⟩ := choose_lt (α := α) (n := n) (p := fun i x => ∀ j v, (cells x)[j]? = some v → w.cell? (a.add (i * sz + j)) = some v) (fun i hi => by
      obtain ⟨cs', h1, h2⟩ := hx i (by omega)
      rw [hC] at h1
      obtain ⟨_, hlen', hcell⟩ := World.cells?_some h1
      obtain ⟨x, hx⟩ := hel _ _ _ hlen' h2
      refine ⟨x, fun j v hv => ?_⟩
      have hj : j < sz := by
        rcases Nat.lt_or_ge j sz with h | h
        · exact h
        · rw [List.getElem?_eq_none (by rw [hlen]; exact h)] at hv; cases hv
      have h3 := hcell j hj
      rw [add_add] at h3
      rw [h3, ← hx]
      exact hv)
    have hlL : ((List.range n).map f).length = n := by simp
    refine ⟨some a, n, _, (List.range n).map f, rfl, hlL, hl, hml, ?_, fun hn => ?_⟩
    · rw [flat_len cells sz hlen, hlL]
    have hc0 := hf 0 hn 0 ((cells (f 0))[0]'(by rw [hlen]; exact h0)) (List.getElem?_eq_getElem _)
    have hspot : a.spot = none := by simpa [Addr.add] using World.cell?_spot hc0
    obtain ⟨b, o, spot⟩ := a
    simp only at hspot
    subst hspot
    have hb : b < w.heap.size := by
      have := World.block_lt_of_cell? w _ hc0
      simpa [Addr.add] using this
    refine ⟨b, o, rfl, hb, fun j u hu => ?_⟩
    have hadd : ∀ j, (⟨b, o, none⟩ : Addr).add j = ⟨b, o + j, none⟩ := by intro j; unfold Addr.add; split <;> simp_all
    have hjl : j < n * sz := by
      have := (List.getElem?_eq_some_iff.1 hu).1
      rw [flat_len cells sz hlen, hlL] at this
      exact this
    have hi : j / sz < n := Nat.div_lt_of_lt_mul (by rw [Nat.mul_comm]; exact hjl)
    have hg := flat_get cells sz hlen ((List.range n).map f) (j / sz) (f (j / sz)) (by rw [List.getElem?_map, List.getElem?_range hi]; rfl) (j % sz)
    have hjm : j % sz < (cells (f (j / sz))).length := by rw [hlen]; exact Nat.mod_lt _ h0
    have h4 := hg _ (List.getElem?_eq_getElem hjm)
    have ej : j / sz * sz + j % sz = j := by rw [Nat.mul_comm]; exact Nat.div_add_mod _ _
    rw [ej] at h4
    rw [h4] at hu
    injection hu with hu
    have h5 := hf (j / sz) hi (j % sz) _ (List.getElem?_eq_getElem hjm)
    rw [hadd, ej] at h5
    rw [h5, ← hu]
end
end Go.Proofs.YthmkgohfeahdhaaGreat
namespace Go.Proofs.YthmkgohfeahdhaaGreat
open Go.RowKit Go.ChangeShapes Go.WideShapes Go.ChangeAt Go.Joins Go.Deep
set_option linter.unusedSimpArgs false
set_option linter.unusedVariables false

/-- an act on a directory -/
structure DAct where
  kind : Nat
  name : Nat
  num : Nat
  text : ByteArray
  raw : Bool
structure DAct.Ok (a : DAct) : Prop where
  k : a.kind < 256
  n : a.name < 256
  m : a.num < 65536
def DAct.cells (a : DAct) : List Value := [.int .u8 (a.kind : Int), .int .u8 (a.name : Int), .int .u16 (a.num : Int), .string a.text, .bool a.raw]
section
variable {H : Type} {enc : TypeId × Value → H} {P : Program} {w : World} {base : Nat} {held : Bool} {fuel : Nat} {t e eb : TypeId} {v : Value} {r : Reach} {b0 : Nat} {d : DataW H} {ps : List MemPlace}
abbrev DActIn := {a : DAct // a.Ok}
instance : Inhabited DActIn := ⟨⟨⟨0, 0, 0, ⟨#[]⟩, false⟩, ⟨by decide, by decide, by decide⟩⟩⟩
theorem open_dact_cells {g0 g1 g2 g3 g4 : Field} (he : P.underlying e = some (.struct #[g0, g1, g2, g3, g4])) (hone : oneCellFields P #[g0, g1, g2, g3, g4] = true)
    (u0 : P.underlying g0.type = some (.int .u8)) (u1 : P.underlying g1.type = some (.int .u8)) (u2 : P.underlying g2.type = some (.int .u16)) (u3 : P.underlying g3.type = some .string) (u4 : P.underlying g4.type = some .bool)
    (m : Nat) (cs : List Value) (x : DataW H × List MemPlace) (hl : cs.length = 5) (h2 : DataW.trod enc P w base (fun _ => true) held m e cs = some x) : ∃ a : DActIn, a.1.cells = cs := by
  obtain ⟨xs', n', _, _, _, hxl', hfd'⟩ := DataW.trod_struct he h2
  match cs, hl with
  | [v0, v1, v2, v3, v4], _ =>
    obtain ⟨p0, w0⟩ := some_of_get (i := 0) hxl' (by simp)
    obtain ⟨p1, w1⟩ := some_of_get (i := 1) hxl' (by simp)
    obtain ⟨p2, w2⟩ := some_of_get (i := 2) hxl' (by simp)
    obtain ⟨p3, w3⟩ := some_of_get (i := 3) hxl' (by simp)
    obtain ⟨p4, w4⟩ := some_of_get (i := 4) hxl' (by simp)
    have r0 := (hfd' 0 g0 rfl).trans w0
    have r1 := (hfd' 1 g1 rfl).trans w1
    have r2 := (hfd' 2 g2 rfl).trans w2
    have r3 := (hfd' 3 g3 rfl).trans w3
    have r4 := (hfd' 4 g4 rfl).trans w4
    obtain ⟨a0, b0⟩ := hone_of hone 0 g0 rfl
    obtain ⟨a1, b1⟩ := hone_of hone 1 g1 rfl
    obtain ⟨a2, b2⟩ := hone_of hone 2 g2 rfl
    obtain ⟨a3, b3⟩ := hone_of hone 3 g3 rfl
    obtain ⟨a4, b4⟩ := hone_of hone 4 g4 rfl
    rw [a0, b0] at r0
    rw [a1, b1] at r1
    rw [a2, b2] at r2
    rw [a3, b3] at r3
    rw [a4, b4] at r4
    obtain ⟨k, rfl, hk⟩ := open_u8_cell (enc := enc) (held := held) u0 r0
    obtain ⟨n, rfl, hn⟩ := open_u8_cell (enc := enc) (held := held) u1 r1
    obtain ⟨mm, rfl, hm⟩ := open_u16_cell (enc := enc) (held := held) u2 r2
    obtain ⟨s, hs, _⟩ := DataW.trod_string u3 r3
    obtain rfl : v3 = .string s := by simpa using hs
    obtain ⟨B, hB, _⟩ := DataW.trod_bool u4 r4
    obtain rfl : v4 = .bool B := by simpa using hB
    exact ⟨⟨⟨k, n, mm, s, B⟩, ⟨hk, hn, hm⟩⟩, rfl⟩
theorem open_dacts {g0 g1 g2 g3 g4 : Field} (ht : P.underlying t = some (.slice e)) (hC : P.cellsOf e = 5) (he : P.underlying e = some (.struct #[g0, g1, g2, g3, g4])) (hone : oneCellFields P #[g0, g1, g2, g3, g4] = true)
    (u0 : P.underlying g0.type = some (.int .u8)) (u1 : P.underlying g1.type = some (.int .u8)) (u2 : P.underlying g2.type = some (.int .u16)) (u3 : P.underlying g3.type = some .string) (u4 : P.underlying g4.type = some .bool)
    (hval : Value.okWide P w r b0 t v) (h : DataW.Trod enc P w base (fun _ => true) held t v d ps) : ∃ (A : Option Addr) (n c : Nat) (L : List DAct), v = .slice A n c ∧ Rd w w.heap.size 5 A n (L.flatMap DAct.cells) ∧ L.length = n ∧ n ≤ maxLen ∧ ∀ a ∈ L, a.Ok := by
  obtain ⟨A, n, c, L, rfl, hl, hnc, hcm, hR⟩ := open_rows (α := DActIn) (fun a => a.1.cells) 5 (fun _ => rfl) (by decide) ht hC (fun m cs x hl h2 => open_dact_cells he hone u0 u1 u2 u3 u4 m cs x hl h2) hval h
  refine ⟨A, n, c, L.map (·.1), rfl, ?_, by rw [List.length_map, hl], by omega, fun r hr => ?_⟩
  · rw [List.flatMap_map]
    exact hR
  · obtain ⟨a, -, rfl⟩ := List.mem_map.1 hr
    exact a.2
end
end Go.Proofs.YthmkgohfeahdhaaGreat
namespace Go.Proofs.YthmkgohfeahdhaaGreat

abbrev BL := List UInt8

/-- a byte of a name -/
def nc (c : UInt8) : Bool := decide (33 ≤ c.toNat) && decide (c.toNat ≤ 126) && !(c.toNat == 47) && !(c.toNat == 64)
/-- a name's error -/
def nameErr (l : BL) : Int := if l = [] ∨ l = [46] ∨ l = [46, 46] then 7 else if 14 < l.length then 8 else if l.all nc then 0 else 7


/-- a text cut at each slash, behind what is read already -/
def pieces : BL → BL → List BL
  | acc, [] => [acc]
  | acc, c :: r => if c = 47 then acc :: pieces [] r else pieces (acc ++ [c]) r





end Go.Proofs.YthmkgohfeahdhaaGreat
namespace Go.Proofs.YthmkgohfeahdhaaGreat
open Go.RowKit

theorem dn_sz (s : ByteArray) : s.size = s.data.toList.length := by cases s; rfl
theorem dn_get_byte (s : ByteArray) (k : Nat) (h : k < s.size) : s.data.toList[k]? = some s[k] := Lib.data_getElem? s k h
theorem dn_all_upto {p : UInt8 → Bool} {l : BL} (h : ∀ k, k < l.length → ∀ c, l[k]? = some c → p c = true) : l.all p = true := by
  rw [List.all_eq_true]
  intro x hx
  obtain ⟨k, hk, rfl⟩ := List.mem_iff_getElem.1 hx
  exact h k hk _ (List.getElem?_eq_getElem hk)
theorem dn_not_all {p : UInt8 → Bool} {l : BL} {k : Nat} {c : UInt8} (h : l[k]? = some c) (hp : p c = false) : l.all p = false := by
  rw [List.all_eq_false]
  exact ⟨c, List.mem_of_getElem? h, by simp [hp]⟩

set_option maxRecDepth 100000 in
set_option maxHeartbeats 1000000 in
theorem dirname_ok (s : ByteArray) (w : World) :
    Calls Tryz.prog 120 #[.string s] w fun e w' => e = .returned (.int .i64 (nameErr s.data.toList)) ∧ w' = w := by
  go_enter Tryz.func120, Tryz.ntmps120
  by_cases e0 : s.data.toList = [] ∨ s.data.toList = [46] ∨ s.data.toList = [46, 46]
  · have hm := Lib.mk_data s
    rcases e0 with e0 | e0 | e0 <;> rw [e0] at hm <;> rw [← hm] <;> clear e0 hm <;> go_wp2 <;> go_returns <;> exact ⟨rfl, rfl⟩
  · have n1 : ¬ s.toList = [] := by rw [Lib.toList_data]; exact fun h => e0 (Or.inl h)
    have n2 : ¬ s.toList = [46] := by rw [Lib.toList_data]; exact fun h => e0 (Or.inr (Or.inl h))
    have n3 : ¬ s.toList = [46, 46] := by rw [Lib.toList_data]; exact fun h => e0 (Or.inr (Or.inr h))
    have b1 : s.toList.isEmpty = false := by simpa using n1
    have b2 : (s.toList == [46]) = false := by simpa using n2
    have b3 : (s.toList == [46, 46]) = false := by simpa using n3
    have e : nameErr s.data.toList = if 14 < s.size then 8 else if s.data.toList.all nc then 0 else 7 := by
      rw [dn_sz]; unfold nameErr; rw [if_neg e0]
    clear e0
    by_cases h14 : 14 < s.size
    · have t14 : decide ((14 : Int) < s.size) = true := by simp; omega
      rw [if_pos h14] at e
      go_wp2
      go_returns
      exact ⟨by rw [e]; rfl, rfl⟩
    have t14 : decide ((14 : Int) < s.size) = false := by simp; omega
    rw [if_neg h14] at e
    have E := hide e
    clear e
    go_wp2
    go_loopg [22] s.size (fun g i wr => ∃ k : Nat, k ≤ s.size ∧ g = s.size - k ∧ i = .int .i64 k ∧ wr = w ∧ ∀ j, j < k → ∀ c, s.data.toList[j]? = some c → nc c = true)
    case atStart => exact ⟨0, Nat.zero_le _, rfl, rfl, rfl, fun j hj => absurd hj (Nat.not_lt_zero _)⟩
    case round =>
      obtain ⟨k, hk, hg, rfl, rfl, hA⟩ := hrel
      by_cases hkm : k < s.size
      · have hkz : (k : Int) < s.size := by omega
        have hb := dn_get_byte s k hkm
        by_cases hp : nc s[k] = true
        · have hp' := hp
          simp only [nc, Bool.and_eq_true, decide_eq_true_eq, Bool.not_eq_true', beq_eq_false_iff_ne] at hp'
          have a1 : decide (((s[k].toNat : Nat) : Int) < 33) = false := by simp; omega
          have a2 : decide ((126 : Int) < ((s[k].toNat : Nat) : Int)) = false := by simp; omega
          have a3 : (((s[k].toNat : Nat) : Int) == 47) = false := by simp; omega
          have a4 : (((s[k].toNat : Nat) : Int) == 64) = false := by simp; omega
          have hA' : ∀ j, j < k + 1 → ∀ c, s.data.toList[j]? = some c → nc c = true := fun j hj c hc => by
            rcases Nat.lt_succ_iff_lt_or_eq.1 hj with h | rfl
            · exact hA j h c hc
            · obtain rfl : s[j] = c := by rw [hb] at hc; simpa using hc
              exact hp
          clear hA hp hp' hb
          go_wp2
          go_roundg (s.size - (k + 1))
          case measure => omega
          case rel => exact ⟨k + 1, by omega, rfl, by go_num, rfl, hA'⟩
        · have hp' : nc s[k] = false := by simpa using hp
          have e : nameErr s.data.toList = 7 := by rw [E.out, dn_not_all hb hp']; rfl
          have hq : ((s[k].toNat : Nat) : Int) < 33 ∨ (126 : Int) < ((s[k].toNat : Nat) : Int) ∨ ((s[k].toNat : Nat) : Int) = 47 ∨ ((s[k].toNat : Nat) : Int) = 64 := by
            by_cases q1 : s[k].toNat < 33
            · left; omega
            · by_cases q2 : 126 < s[k].toNat
              · right; left; omega
              · by_cases q3 : s[k].toNat = 47
                · right; right; left; omega
                · by_cases q4 : s[k].toNat = 64
                  · right; right; right; omega
                  · exact absurd (show nc s[k] = true by simp [nc, q3, q4]; omega) hp
          clear hA hp hp' hb
          go_wp2
          all_goals first
            | (go_returns; exact ⟨rfl, rfl⟩)
            | (go_returns; exact ⟨by rw [e]; rfl, rfl⟩)
            | (exfalso; simp_all; omega)
      · have hkz : decide ((k : Int) < s.size) = false := by simp; omega
        have e : nameErr s.data.toList = 0 := by
          have := dn_sz s
          rw [E.out, dn_all_upto (p := nc) (l := s.data.toList) (fun j hj c hc => hA j (by omega) c hc)]; rfl
        clear hA
        go_wp2
        go_returns
        exact ⟨by rw [e]; rfl, rfl⟩

set_option maxRecDepth 100000 in
set_option maxHeartbeats 1000000 in
theorem refname_ok (s : ByteArray) (w : World) :
    Calls Tryz.prog 124 #[.string s] w fun e w' => e = .returned (.int .i64 (nameErr s.data.toList)) ∧ w' = w := by
  go_enter Tryz.func124, Tryz.ntmps124
  by_cases e0 : s.data.toList = [] ∨ s.data.toList = [46] ∨ s.data.toList = [46, 46]
  · have hm := Lib.mk_data s
    rcases e0 with e0 | e0 | e0 <;> rw [e0] at hm <;> rw [← hm] <;> clear e0 hm <;> go_wp2 <;> go_returns <;> exact ⟨rfl, rfl⟩
  · have n1 : ¬ s.toList = [] := by rw [Lib.toList_data]; exact fun h => e0 (Or.inl h)
    have n2 : ¬ s.toList = [46] := by rw [Lib.toList_data]; exact fun h => e0 (Or.inr (Or.inl h))
    have n3 : ¬ s.toList = [46, 46] := by rw [Lib.toList_data]; exact fun h => e0 (Or.inr (Or.inr h))
    have b1 : s.toList.isEmpty = false := by simpa using n1
    have b2 : (s.toList == [46]) = false := by simpa using n2
    have b3 : (s.toList == [46, 46]) = false := by simpa using n3
    have e : nameErr s.data.toList = if 14 < s.size then 8 else if s.data.toList.all nc then 0 else 7 := by
      rw [dn_sz]; unfold nameErr; rw [if_neg e0]
    clear e0
    by_cases h14 : 14 < s.size
    · have t14 : decide ((14 : Int) < s.size) = true := by simp; omega
      rw [if_pos h14] at e
      go_wp2
      go_returns
      exact ⟨by rw [e]; rfl, rfl⟩
    have t14 : decide ((14 : Int) < s.size) = false := by simp; omega
    rw [if_neg h14] at e
    have E := hide e
    clear e
    go_wp2
    go_loopg [3] s.size (fun g i wr => ∃ k : Nat, k ≤ s.size ∧ g = s.size - k ∧ i = .int .i64 k ∧ wr = w ∧ ∀ j, j < k → ∀ c, s.data.toList[j]? = some c → nc c = true)
    case atStart => exact ⟨0, Nat.zero_le _, rfl, rfl, rfl, fun j hj => absurd hj (Nat.not_lt_zero _)⟩
    case round =>
      obtain ⟨k, hk, hg, rfl, rfl, hA⟩ := hrel
      by_cases hkm : k < s.size
      · have hkz : (k : Int) < s.size := by omega
        have hb := dn_get_byte s k hkm
        by_cases hp : nc s[k] = true
        · have hp' := hp
          simp only [nc, Bool.and_eq_true, decide_eq_true_eq, Bool.not_eq_true', beq_eq_false_iff_ne] at hp'
          have a1 : decide (((s[k].toNat : Nat) : Int) < 33) = false := by simp; omega
          have a2 : decide ((126 : Int) < ((s[k].toNat : Nat) : Int)) = false := by simp; omega
          have a3 : (((s[k].toNat : Nat) : Int) == 47) = false := by simp; omega
          have a4 : (((s[k].toNat : Nat) : Int) == 64) = false := by simp; omega
          have hA' : ∀ j, j < k + 1 → ∀ c, s.data.toList[j]? = some c → nc c = true := fun j hj c hc => by
            rcases Nat.lt_succ_iff_lt_or_eq.1 hj with h | rfl
            · exact hA j h c hc
            · obtain rfl : s[j] = c := by rw [hb] at hc; simpa using hc
              exact hp
          clear hA hp hp' hb
          go_wp2
          go_roundg (s.size - (k + 1))
          case measure => omega
          case rel => exact ⟨k + 1, by omega, rfl, by go_num, rfl, hA'⟩
        · have hp' : nc s[k] = false := by simpa using hp
          have e : nameErr s.data.toList = 7 := by rw [E.out, dn_not_all hb hp']; rfl
          have hq : ((s[k].toNat : Nat) : Int) < 33 ∨ (126 : Int) < ((s[k].toNat : Nat) : Int) ∨ ((s[k].toNat : Nat) : Int) = 47 ∨ ((s[k].toNat : Nat) : Int) = 64 := by
            by_cases q1 : s[k].toNat < 33
            · left; omega
            · by_cases q2 : 126 < s[k].toNat
              · right; left; omega
              · by_cases q3 : s[k].toNat = 47
                · right; right; left; omega
                · by_cases q4 : s[k].toNat = 64
                  · right; right; right; omega
                  · exact absurd (show nc s[k] = true by simp [nc, q3, q4]; omega) hp
          clear hA hp hp' hb
          go_wp2
          all_goals first
            | (go_returns; exact ⟨rfl, rfl⟩)
            | (go_returns; exact ⟨by rw [e]; rfl, rfl⟩)
            | (exfalso; simp_all; omega)
      · have hkz : decide ((k : Int) < s.size) = false := by simp; omega
        have e : nameErr s.data.toList = 0 := by
          have := dn_sz s
          rw [E.out, dn_all_upto (p := nc) (l := s.data.toList) (fun j hj c hc => hA j (by omega) c hc)]; rfl
        clear hA
        go_wp2
        go_returns
        exact ⟨by rw [e]; rfl, rfl⟩

end Go.Proofs.YthmkgohfeahdhaaGreat

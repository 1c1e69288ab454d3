/- Paths: joined, parted, compared: the walks. Printed by pathjoin.py. -/
import Derived.Test.YtkjgieehiimiiaaDoorPathParse
import Derived.Test.YtkjgieehiimiiaaDoorOrd
import Derived.Deep.DrawnRows
import Derived.Deep.DeepFit
namespace Go.Proofs.YtkjgieehiimiiaaDoor
open Go.RowKit

theorem flat_append (a b : List (BL × BL)) : flat (a ++ b) = flat a ++ flat b := by simp [flat]
theorem flat_one (ps : List (BL × BL)) : ∀ u ∈ flat ps, u.oneCell' = true := by
  intro u hu
  simp only [flat, List.mem_flatMap] at hu
  obtain ⟨q, _, hq⟩ := hu
  simp only [List.mem_cons, List.not_mem_nil, or_false] at hq
  rcases hq with rfl | rfl <;> rfl

section
variable (a b : Bool) (A B : Option Addr) (n c m d : Nat) (xs ys : List (BL × BL)) (w : World)

set_option maxRecDepth 100000 in
set_option maxHeartbeats 1000000 in
theorem join_abs (hB : Rd w w.heap.size 2 B m (flat ys)) (hm : m ≤ 100) :
    Calls Tryd.prog 13 #[.agg #[.bool a, .slice A n c], .agg #[.bool true, .slice B m d]] w fun e w' => ∃ R k e', e = .returned (.agg #[.bool true, .slice R k e']) ∧
      w'.ownsRow w.heap.size 34 2 (.slice R k e') k (flat ys) ∧ Below w.heap.size w w' := by
  obtain ⟨i0, hi0, hq0, hq1, hq2⟩ := info_parts info_part
  go_enter Tryd.func13, Tryd.ntmps13
  go_wp2_with (at_builtin; go_must (refine wpList_append_rd _ rfl (.tmp 7) (.tmp 9) 25 rfl (w.heap.size + 3) 34 i0 (.agg #[.string ByteArray.empty, .string ByteArray.empty]) 2 32 Tryd.underlying25 hi0 hq0 hq1 hq2 rfl (by decide) (.slice (some ⟨w.heap.size + 1 + 1 + 1, 0, none⟩) 0 0) 0 _ rfl (own_lit rfl (by simp) (by first | (simp; done) | (simp; omega)) (by simp [maxLen]) rfl) w.heap.size B m d (flat ys) rfl ((((hB.alloc (Nat.le_refl _) _).alloc (by simp) _).alloc (by first | (simp; done) | (simp; omega)) _).alloc (by first | (simp; done) | (simp; omega)) _) (flat_one _) (by simp only [maxLen]; omega) (by omega) (by simp) ?_; intro v' w2 hown hg2 hnil hat; obtain ⟨R, e', rfl, -⟩ := own_form hown; have rB2 : Blk w2 (w.heap.size + 1 + 1) 27 #[.bool false, .slice none 0 0] := (by simpa using ((Blk.new ((w.alloc (.cells #[.bool a, .slice A n c] 27)).alloc (.cells #[.bool true, .slice B m d] 27)) 27 #[.bool false, .slice none 0 0]).alloc (.cells #[] 34)).grown hg2 (by simp [Value.ownBlock])); have r0 := rB2.cell 0; have r1 := rB2.cell 1; have f0 := rB2.frozen 0; have f1 := rB2.frozen 1; have hrb := rB2.lt))
  have HB : Below w.heap.size w w2 := (((((Below.refl _ _).alloc (Nat.le_refl _) _).alloc (by simp) _).alloc (by first | (simp; done) | (simp; omega)) _).alloc (by first | (simp; done) | (simp; omega)) _).grown hg2 (by first | (simp; done) | (simp; omega)) (by simp [Value.ownBlock]; omega)
  rw [Nat.zero_add, List.nil_append] at hown
  have B2 : Blk _ (w.heap.size + 1 + 1) 27 #[.bool true, .slice R (0 + m) e'] := (rB2.set_ 0 (.bool true)).set_ 1 (.slice R (0 + m) e')
  rw [Nat.zero_add] at B2
  refine bodyPost_ret (results_run1 rfl (ResV.struct rfl B2 Tryd.underlying27 (by kernel_rfl))) rfl ?_
  exact ⟨R, m, e', rfl, own_low (ownsRow_setCell_below (ownsRow_setCell_below hown (by simp) _) (by simp) _) (by omega), (HB.setCell (by first | (simp; done) | (simp; omega)) _).setCell (by first | (simp; done) | (simp; omega)) _⟩

set_option maxRecDepth 100000 in
set_option maxHeartbeats 2000000 in
theorem join_rel (hA : Rd w w.heap.size 2 A n (flat xs)) (hB : Rd w w.heap.size 2 B m (flat ys)) (hn : n ≤ 100) (hm : m ≤ 100) :
    Calls Tryd.prog 13 #[.agg #[.bool a, .slice A n c], .agg #[.bool false, .slice B m d]] w fun e w' => ∃ R k e', e = .returned (.agg #[.bool a, .slice R k e']) ∧
      w'.ownsRow w.heap.size 34 2 (.slice R k e') k (flat (xs ++ ys)) ∧ Below w.heap.size w w' := by
  obtain ⟨i0, hi0, hq0, hq1, hq2⟩ := info_parts info_part
  go_enter Tryd.func13, Tryd.ntmps13
  go_upto_region 3 with (fail)
  go_wp2_with fail
  refine at_world (fun W => Below w.heap.size w W ∧ Blk W w.heap.size 27 #[.bool a, .slice A n c] ∧ Blk W (w.heap.size + 1) 27 #[.bool false, .slice B m d] ∧ Blk W (w.heap.size + 1 + 1) 27 #[.bool false, .slice none 0 0]) ⟨by go_grown, ((Blk.new w 27 #[.bool a, .slice A n c]).alloc _).alloc _, by simpa using (Blk.new (w.alloc (.cells #[.bool a, .slice A n c] 27)) 27 #[.bool false, .slice B m d]).alloc (.cells #[.bool false, .slice none 0 0] 27), by simpa using Blk.new ((w.alloc (.cells #[.bool a, .slice A n c] 27)).alloc (.cells #[.bool false, .slice B m d] 27)) 27 #[.bool false, .slice none 0 0]⟩ (fun w1 h1 => ?_)
  obtain ⟨hb1, aB, bB, rB⟩ := h1
  have hl := rB.lt
  have a0 := aB.cell 0
  have a1 := aB.cell 1
  have b1 := bB.cell 1
  have la := aB.lt
  have lb := bB.lt
  have hA1 := hA.below hb1
  have hB1 := hB.below hb1
  refine wp_region_ord [0, 1, 3, 4, 6, 7, 2, 5, 8, 9, 10] [0, 0, 0, 0, 0, 0, 1, 1, 1, 0, 2] (fun W => Blk W w.heap.size 27 #[.bool a, .slice A n c] ∧ Blk W (w.heap.size + 1) 27 #[.bool false, .slice B m d]) (by kernel_rfl) (by kernel_rfl) ⟨aB.drew, bB.drew⟩ ?_
  iterate 6 (refine wpOrd_q (v := ?_) (by rfl) (fun W hW => ?_) ?_; rotate_left; (focus ((obtain ⟨hW1, hW2⟩ := hW; have h0 := hW1.cell 0; have h1 := hW1.cell 1; have h2 := hW2.cell 1; have hl1 := hW1.lt; have hl2 := hW2.lt); go_simp; try with_reducible rfl)); try simp only [Act.put, List.setIfInBounds_toArray, List.set_cons_zero, List.set_cons_succ])
  refine wpOrd_x (by rfl) (fun K hK => ?_)
  go_simp
  refine hK (fun W => Blk W w.heap.size 27 #[.bool a, .slice A n c] ∧ Blk W (w.heap.size + 1) 27 #[.bool false, .slice B m d]) _ _ (fun _ h => h) ⟨(aB.alloc _).drew, (bB.alloc _).drew⟩ ?_
  clear hK K
  try simp only [Act.put, List.setIfInBounds_toArray, List.set_cons_zero, List.set_cons_succ]
  refine wpOrd_x (by rfl) (fun K hK => ?_)
  have hA1 := hA.below hb1
  refine wp_append_rd _ (.tmp 14) (.tmp 16) 25 (by rfl) (w.heap.size + 3) 34 i0 (.agg #[.string ByteArray.empty, .string ByteArray.empty]) 2 32 Tryd.underlying25 hi0 hq0 hq1 hq2 rfl (by decide) (.slice (some ⟨w1.heap.size, 0, none⟩) 0 0) 0 [] (by rfl) ((own_lit (w := w1) rfl rfl hl (by simp [maxLen]) rfl).drew) w.heap.size A n c (flat xs) (by rfl) ((hA1.alloc hb1.size _).drew) (flat_one _) (by simp only [maxLen]; omega) (by omega) (by first | (simp; done) | (simp; omega)) ?_
  intro v1 w2 hown1 hg1 hnil1 hat1
  have hb2 : Below w.heap.size w w2 := by refine Below.grown (w := _) ((hb1.alloc hb1.size _).drew) hg1 (by first | (simp; done) | (simp; omega)) (by simp [Value.ownBlock]; omega)
  have aB2 := (aB.alloc (.cells #[] 34)).drew.grown hg1 (by simp [Value.ownBlock]; omega)
  have bB2 := (bB.alloc (.cells #[] 34)).drew.grown hg1 (by simp [Value.ownBlock]; omega)
  have rB2 := (rB.alloc (.cells #[] 34)).drew.grown hg1 (by simp [Value.ownBlock]; omega)
  refine hK (fun W => Blk W w.heap.size 27 #[.bool a, .slice A n c] ∧ Blk W (w.heap.size + 1) 27 #[.bool false, .slice B m d]) _ _ (fun _ h => h) ⟨aB2, bB2⟩ ?_
  clear hK K
  try simp only [Act.put, List.setIfInBounds_toArray, List.set_cons_zero, List.set_cons_succ]
  refine wpOrd_x (by rfl) (fun K hK => ?_)
  refine wp_append_rd _ (.tmp 17) (.tmp 19) 25 (by rfl) (w.heap.size + 3) 34 i0 (.agg #[.string ByteArray.empty, .string ByteArray.empty]) 2 32 Tryd.underlying25 hi0 hq0 hq1 hq2 rfl (by decide) v1 (0 + n) _ (by rfl) hown1 w.heap.size B m d (flat ys) (by rfl) (hB.below hb2) (flat_one _) (by simp only [maxLen]; omega) (by omega) (by have := rB2.lt; omega) ?_
  intro v2 w3 hown2 hg2 hnil2 hat2
  have aB3 := aB2.grown hg2 (fun e => blk_not_own aB2 hown1 (by decide) e.symm)
  have bB3 := bB2.grown hg2 (fun e => blk_not_own bB2 hown1 (by decide) e.symm)
  have rB3 := rB2.grown hg2 (fun e => blk_not_own rB2 hown1 (by decide) e.symm)
  have hb3 := hb2.grown hg2 hb2.size (fun g hg => Nat.le_trans (by omega) (own_ge hown1 hg))
  obtain ⟨R, e', rfl, -⟩ := own_form hown2
  refine hK (fun W => Blk W w.heap.size 27 #[.bool a, .slice A n c] ∧ Blk W (w.heap.size + 1) 27 #[.bool false, .slice B m d]) _ _ (fun _ h => h) ⟨aB3, bB3⟩ ?_
  clear hK K
  try simp only [Act.put, List.setIfInBounds_toArray, List.set_cons_zero, List.set_cons_succ]
  iterate 1 (refine wpOrd_q (v := ?_) (by rfl) (fun W hW => ?_) ?_; rotate_left; (focus ((obtain ⟨hW1, hW2⟩ := hW; have h0 := hW1.cell 0; have h1 := hW1.cell 1; have h2 := hW2.cell 1; have hl1 := hW1.lt; have hl2 := hW2.lt); go_simp; try with_reducible rfl)); try simp only [Act.put, List.setIfInBounds_toArray, List.set_cons_zero, List.set_cons_succ])
  refine wpOrd_b (by rfl) (fun K hK => ?_)
  have r0 := rB3.cell 0
  have r1 := rB3.cell 1
  have f0 := rB3.frozen 0
  have f1 := rB3.frozen 1
  have hl3 := rB3.lt
  go_simp
  refine hK (fun _ => True) _ _ trivial ?_
  clear hK K
  try simp only [Act.put, List.setIfInBounds_toArray, List.set_cons_zero, List.set_cons_succ]
  refine wpOrd_nil ?_
  go_wp2
  rw [Nat.zero_add, List.nil_append, ← flat_append] at hown2
  have B2 : Blk _ (w.heap.size + 1 + 1) 27 #[.bool a, .slice R (0 + n + m) e'] := (rB3.set_ 0 (.bool a)).set_ 1 (.slice R (0 + n + m) e')
  rw [Nat.zero_add] at B2
  refine bodyPost_ret (results_run1 rfl (ResV.struct rfl B2 Tryd.underlying27 (by kernel_rfl))) rfl ?_
  exact ⟨R, n + m, e', rfl, own_low (ownsRow_setCell_below (ownsRow_setCell_below hown2 (by simp) _) (by simp) _) (by omega), (hb3.setCell (by first | (simp; done) | (simp; omega)) _).setCell (by first | (simp; done) | (simp; omega)) _⟩

theorem join_ok (hA : Rd w w.heap.size 2 A n (flat xs)) (hB : Rd w w.heap.size 2 B m (flat ys)) (hn : n ≤ 100) (hm : m ≤ 100) :
    Calls Tryd.prog 13 #[.agg #[.bool a, .slice A n c], .agg #[.bool b, .slice B m d]] w fun e w' => ∃ R k e', e = .returned (.agg #[.bool (if b then true else a), .slice R k e']) ∧
      w'.ownsRow w.heap.size 34 2 (.slice R k e') k (flat (if b then ys else xs ++ ys)) ∧ Below w.heap.size w w' := by
  cases b with
  | true => exact join_abs a A B n c m d ys w hB hm
  | false => exact join_rel a A B n c m d xs ys w hA hB hn hm

theorem flat_get : ∀ {xs : List (BL × BL)} {k : Nat} {q : BL × BL}, xs[k]? = some q → (flat xs)[k * 2]? = some (.string ⟨q.1.toArray⟩) ∧ (flat xs)[k * 2 + 1]? = some (.string ⟨q.2.toArray⟩)
  | [], k, q, h => by simp at h
  | p :: r, 0, q, h => by
    obtain rfl : p = q := by simpa using h
    exact ⟨rfl, rfl⟩
  | p :: r, k + 1, q, h => by
    have ih := flat_get (xs := r) (k := k) (q := q) (by simpa using h)
    rw [show (k + 1) * 2 = k * 2 + 1 + 1 by omega]
    exact ih
theorem Rd.part {w : World} {N n : Nat} {A : Option Addr} {xs : List (BL × BL)} (h : Rd w N 2 A n (flat xs)) (hn : 0 < n) :
    ∃ b o, A = some ⟨b, o, none⟩ ∧ b < N ∧ ∀ k q, xs[k]? = some q → w.cell? ⟨b, o + k * 2, none⟩ = some (.string ⟨q.1.toArray⟩) ∧ w.cell? ⟨b, o + k * 2 + 1, none⟩ = some (.string ⟨q.2.toArray⟩) := by
  obtain ⟨b, o, rfl, hb, hc⟩ := h.2 hn
  refine ⟨b, o, rfl, hb, fun k q hq => ?_⟩
  obtain ⟨h1, h2⟩ := flat_get hq
  exact ⟨hc _ _ h1, by rw [Nat.add_assoc]; exact hc _ _ h2⟩
theorem Rd.parts {w : World} {N n : Nat} {A : Option Addr} {xs : List (BL × BL)} (h : Rd w N 2 A n (flat xs)) : xs.length = n := by
  have := h.1; rw [flat_length] at this; omega

set_option maxRecDepth 100000 in
set_option maxHeartbeats 2000000 in
theorem sameparts_ok (hA : Rd w w.heap.size 2 A n (flat xs)) (hB : Rd w w.heap.size 2 B m (flat ys)) (hn : n ≤ 60000) (hnc : n ≤ c) (hmd : m ≤ d) :
    Calls Tryd.prog 12 #[.slice A n c, .slice B m d] w fun e w' => e = .returned (.bool (decide (xs = ys))) ∧ Below w.heap.size w w' := by
  have lx := hA.parts
  have ly := hB.parts
  go_enter Tryd.func12, Tryd.ntmps12
  by_cases hnm : n = m
  · subst hnm
    have t0 : ((n : Int) == n) = true := by simp
    have LX := hide lx
    have LY := hide ly
    clear lx ly
    go_wp2
    go_loopg [5] n (fun g i wr => ∃ k : Nat, k ≤ n ∧ g = n - k ∧ i = .int .i64 k ∧ Aside (Below w.heap.size w wr ∧ ∀ j, j < k → xs[j]? = ys[j]?))
    case atStart => exact ⟨0, Nat.zero_le _, rfl, rfl, Below.refl _ _, fun j hj => absurd hj (Nat.not_lt_zero _)⟩
    case round =>
      obtain ⟨k, hk, hg, rfl, hH⟩ := hrel
      by_cases hkn : k < n
      · have hkz : (k : Int) < n := by omega
        obtain ⟨b1, o1, rfl, hb1, hc1⟩ := hA.part (by omega)
        obtain ⟨b2, o2, rfl, hb2, hc2⟩ := hB.part (by omega)
        obtain ⟨hbl, hsame⟩ := hH.out
        obtain ⟨q1, hq1⟩ : ∃ q, xs[k]? = some q := ⟨_, List.getElem?_eq_getElem (by rw [LX.out]; exact hkn)⟩
        obtain ⟨q2, hq2⟩ : ∃ q, ys[k]? = some q := ⟨_, List.getElem?_eq_getElem (by rw [LY.out]; exact hkn)⟩
        obtain ⟨c1, c2⟩ := hc1 k q1 hq1
        obtain ⟨c3, c4⟩ := hc2 k q2 hq2
        rw [← hbl.cell (p := ⟨b1, o1 + k * 2, none⟩) hb1] at c1
        rw [← hbl.cell (p := ⟨b1, o1 + k * 2 + 1, none⟩) hb1] at c2
        rw [← hbl.cell (p := ⟨b2, o2 + k * 2, none⟩) hb2] at c3
        rw [← hbl.cell (p := ⟨b2, o2 + k * 2 + 1, none⟩) hb2] at c4
        have hl1 : b1 < wr.heap.size := Nat.lt_of_lt_of_le hb1 hbl.size
        have hl2 : b2 < wr.heap.size := Nat.lt_of_lt_of_le hb2 hbl.size
        have HS := hide hsame
        have HQ1 := hide hq1
        have HQ2 := hide hq2
        clear hc1 hc2 hq1 hq2 hsame hH hA hB
        by_cases hqq : q1 = q2
        · subst hqq
          go_upto_region 6 with (fail)
          go_region
          go_wp2
          go_roundg (n - (k + 1))
          case measure => omega
          case rel =>
            refine ⟨k + 1, by omega, rfl, by go_num, hbl.drew, fun j hj => ?_⟩
            rcases Nat.lt_succ_iff_lt_or_eq.1 hj with h | rfl
            · exact HS.out j h
            · rw [HQ1.out, HQ2.out]
        · have e : decide (xs = ys) = false := by
            have h1 := HQ1.out
            have h2 := HQ2.out
            refine decide_eq_false (fun h => hqq ?_)
            rw [h, h2] at h1
            exact (Option.some.inj h1).symm
          have HE := hide e
          have hd : ¬ (q1.1 = q2.1 ∧ q1.2 = q2.2) := fun h => hqq (Prod.ext h.1 h.2)
          by_cases h1 : q1.1 = q2.1
          · have h2 : ¬ q1.2 = q2.2 := fun h => hd ⟨h1, h⟩
            clear hqq hd e
            go_upto_region 6 with (fail)
            go_region
            go_wp2
            go_returns
            exact ⟨by rw [HE.out]; rfl, hbl.drew⟩
          · clear hqq hd e
            go_upto_region 6 with (fail)
            go_region
            go_wp2
            go_returns
            exact ⟨by rw [HE.out]; rfl, hbl.drew⟩
      · have hkz : decide ((k : Int) < n) = false := by simp; omega
        have e : decide (xs = ys) = true := by
          refine decide_eq_true (List.ext_getElem? fun j => ?_)
          by_cases hj : j < k
          · exact hH.out.2 j hj
          · rw [List.getElem?_eq_none (by rw [LX.out]; omega), List.getElem?_eq_none (by rw [LY.out]; omega)]
        have hbl := hH.out.1
        have HE := hide e
        clear hH e
        go_wp2
        go_returns
        exact ⟨by rw [HE.out]; rfl, hbl⟩
  · have t0 : ((n : Int) == m) = false := by simpa using fun h => hnm (by omega)
    have e : decide (xs = ys) = false := decide_eq_false (fun h => hnm (by rw [← lx, ← ly, h]))
    have HE := hide e
    clear lx ly e
    go_wp2
    go_returns
    exact ⟨by rw [HE.out]; rfl, Below.refl _ _⟩

set_option maxRecDepth 100000 in
set_option maxHeartbeats 2000000 in
theorem same_ok (hA : Rd w w.heap.size 2 A n (flat xs)) (hB : Rd w w.heap.size 2 B m (flat ys)) (hn : n ≤ 60000) (hnc : n ≤ c) (hmd : m ≤ d) :
    Calls Tryd.prog 15 #[.agg #[.bool a, .slice A n c], .agg #[.bool b, .slice B m d]] w fun e w' => e = .returned (.bool (decide (a = b ∧ xs = ys))) ∧ Below w.heap.size w w' := by
  have hb0 : ∀ o1 o2, Below w.heap.size w ((w.alloc o1).alloc o2) := fun o1 o2 => ((Below.refl _ _).alloc (Nat.le_refl _) _).alloc (by simp) _
  have hc := fun (o1 o2 : Obj) => sameparts_ok A B n c m d xs ys ((w.alloc o1).alloc o2) ((hA.below (hb0 o1 o2)).more (hb0 o1 o2).size) ((hB.below (hb0 o1 o2)).more (hb0 o1 o2).size) hn hnc hmd
  go_enter Tryd.func15, Tryd.ntmps15
  cases a <;> cases b
  · go_wp2_with (go_at_call 12; refine (hc _ _).mono ?_; rintro e w' ⟨rfl, hb⟩)
    go_returns
    exact ⟨by simp, (hb0 _ _).trans (hb.mono (hb0 _ _).size)⟩
  · go_wp2
    go_returns
    exact ⟨by simp, hb0 _ _⟩
  · go_wp2
    go_returns
    exact ⟨by simp, hb0 _ _⟩
  · go_wp2_with (go_at_call 12; refine (hc _ _).mono ?_; rintro e w' ⟨rfl, hb⟩)
    go_returns
    exact ⟨by simp, (hb0 _ _).trans (hb.mono (hb0 _ _).size)⟩

set_option maxRecDepth 100000 in
theorem base_none : Calls Tryd.prog 14 #[.agg #[.bool a, .slice A 0 c]] w fun e w' => e = .returned (.tuple #[.agg #[.bool a, .slice none 0 0], .agg #[.string ⟨#[]⟩, .string ⟨#[]⟩], .bool false]) ∧ Below w.heap.size w w' := by
  go_enter Tryd.func14, Tryd.ntmps14
  go_wp2
  have B2 : Blk (((w.alloc (.cells #[.bool a, .slice A 0 c] 27)).alloc (.cells #[.bool a, .slice none 0 0] 27)).alloc (.cells #[.string ⟨#[]⟩, .string ⟨#[]⟩] 34)) (w.heap.size + 1) 27 #[.bool a, .slice none 0 0] := by
    simpa using (Blk.new (w.alloc (.cells #[.bool a, .slice A 0 c] 27)) 27 #[.bool a, .slice none 0 0]).alloc (.cells #[.string ⟨#[]⟩, .string ⟨#[]⟩] 34)
  have B3 : Blk (((w.alloc (.cells #[.bool a, .slice A 0 c] 27)).alloc (.cells #[.bool a, .slice none 0 0] 27)).alloc (.cells #[.string ⟨#[]⟩, .string ⟨#[]⟩] 34)) (w.heap.size + 1 + 1) 34 #[.string ⟨#[]⟩, .string ⟨#[]⟩] := by
    simpa using Blk.new ((w.alloc (.cells #[.bool a, .slice A 0 c] 27)).alloc (.cells #[.bool a, .slice none 0 0] 27)) 34 #[.string ⟨#[]⟩, .string ⟨#[]⟩]
  refine bodyPost_ret (results_run3 rfl (ResV.struct rfl B2 Tryd.underlying27 (by kernel_rfl)) (ResV.struct rfl B3 Tryd.underlying34 (by kernel_rfl)) rfl) rfl ?_
  exact ⟨rfl, ((((Below.refl _ _).alloc (Nat.le_refl _) _).alloc (by first | (simp; done) | (simp; omega)) _).alloc (by first | (simp; done) | (simp; omega)) _)⟩

set_option maxRecDepth 100000 in
set_option maxHeartbeats 2000000 in
theorem base_some (q : BL × BL) (hA : Rd w w.heap.size 2 A (n + 1) (flat (xs ++ [q]))) (hnc : n + 1 ≤ c) (hn : n ≤ 100) :
    Calls Tryd.prog 14 #[.agg #[.bool a, .slice A (n + 1) c]] w fun e w' => ∃ R e', e = .returned (.tuple #[.agg #[.bool a, .slice R n e'], pv q, .bool true]) ∧
      w'.ownsRow w.heap.size 34 2 (.slice R n e') n (flat xs) ∧ Below w.heap.size w w' := by
  obtain ⟨i0, hi0, hq0, hq1, hq2⟩ := info_parts info_part
  have lx : xs.length = n := by have := hA.parts; simp at this; omega
  obtain ⟨bb, oo, rfl, hbb, hc⟩ := hA.part (by omega)
  obtain ⟨c0, c1⟩ := hc n q (by rw [List.getElem?_append_right (by omega), lx]; simp)
  have r1 : Rd w w.heap.size 2 (some ⟨bb, oo, none⟩) n (flat xs) := by
    have h1 := hA.take (m := n) (by omega)
    rw [flat_append, List.take_append_of_le_length (by rw [flat_length]; omega), List.take_of_length_le (by rw [flat_length]; omega)] at h1
    exact h1
  clear hc
  have e0 : (((n + 1 : Nat) : Int) == 0) = false := by simp; omega
  have e1 : ((n + 1 : Nat) : Int) - 1 = n := by omega
  have e2 : (0 : Int) ≤ n := by omega
  have e3 : (n : Int) ≤ c := by omega
  have e4 : (n : Int) < (n : Int) + 1 := by omega
  have e5 : IntKind.i64.wrap (n : Int) = n := IntWalk.i64_in _ (by omega)
  go_enter Tryd.func14, Tryd.ntmps14
  go_upto_region 4 with (fail)
  go_wp2_with fail
  refine at_world (fun W => Below w.heap.size w W ∧ Blk W w.heap.size 27 #[.bool a, .slice (some ⟨bb, oo, none⟩) (n + 1) c] ∧ Blk W (w.heap.size + 1) 27 #[.bool false, .slice none 0 0] ∧ Blk W (w.heap.size + 1 + 1) 34 #[.string ⟨#[]⟩, .string ⟨#[]⟩]) ⟨by go_grown, ((Blk.new w 27 #[.bool a, .slice (some ⟨bb, oo, none⟩) (n + 1) c]).alloc _).alloc _, by simpa using (Blk.new (w.alloc (.cells #[.bool a, .slice (some ⟨bb, oo, none⟩) (n + 1) c] 27)) 27 #[.bool false, .slice none 0 0]).alloc (.cells #[.string ⟨#[]⟩, .string ⟨#[]⟩] 34), by simpa using Blk.new ((w.alloc (.cells #[.bool a, .slice (some ⟨bb, oo, none⟩) (n + 1) c] 27)).alloc (.cells #[.bool false, .slice none 0 0] 27)) 34 #[.string ⟨#[]⟩, .string ⟨#[]⟩]⟩ (fun w1 h1 => ?_)
  obtain ⟨hb1, aB, bB, rB⟩ := h1
  have hl := rB.lt
  have k0 := (hb1.cell (p := ⟨bb, oo + n * 2, none⟩) hbb).trans c0
  have k1 := (hb1.cell (p := ⟨bb, oo + n * 2 + 1, none⟩) hbb).trans c1
  refine wp_region_ord [0, 1, 3, 4, 5, 6, 7, 10, 11, 12, 13, 14, 15, 2, 8, 9, 16, 17, 18] [0, 0, 0, 0, 0, 0, 0, 0, 0, 0, 0, 0, 0, 1, 1, 0, 1, 1, 0] (fun W => Blk W w.heap.size 27 #[.bool a, .slice (some ⟨bb, oo, none⟩) (n + 1) c] ∧ W.cell? ⟨bb, oo + n * 2, none⟩ = some (.string ⟨q.1.toArray⟩) ∧ W.cell? ⟨bb, oo + n * 2 + 1, none⟩ = some (.string ⟨q.2.toArray⟩)) (by kernel_rfl) (by kernel_rfl) ⟨aB.drew, k0, k1⟩ ?_
  iterate 13 (refine wpOrd_q (v := ?_) (by rfl) (fun W hW => ?_) ?_; rotate_left; (focus ((obtain ⟨hW1, hW2, hW3⟩ := hW; have h0 := hW1.cell 0; have h1 := hW1.cell 1; have hl1 := hW1.lt); go_simp; try with_reducible rfl)); try simp only [Act.put, List.setIfInBounds_toArray, List.set_cons_zero, List.set_cons_succ])
  refine wpOrd_x (by rfl) (fun K hK => ?_)
  go_simp
  have hb1' : Below w.heap.size w ((w1.alloc (.cells #[] 34)).drew) := (hb1.alloc hb1.size _).drew
  refine hK (fun W => Blk W w.heap.size 27 #[.bool a, .slice (some ⟨bb, oo, none⟩) (n + 1) c] ∧ W.cell? ⟨bb, oo + n * 2, none⟩ = some (.string ⟨q.1.toArray⟩) ∧ W.cell? ⟨bb, oo + n * 2 + 1, none⟩ = some (.string ⟨q.2.toArray⟩)) _ _ (fun _ h => h) ⟨(aB.alloc _).drew, (hb1'.cell (p := ⟨bb, oo + n * 2, none⟩) hbb).trans c0, (hb1'.cell (p := ⟨bb, oo + n * 2 + 1, none⟩) hbb).trans c1⟩ ?_
  clear hK K
  try simp only [Act.put, List.setIfInBounds_toArray, List.set_cons_zero, List.set_cons_succ]
  refine wpOrd_x (by rfl) (fun K hK => ?_)
  refine wp_append_rd _ (.tmp 17) (.tmp 22) 25 (by rfl) (w.heap.size + 3) 34 i0 (.agg #[.string ByteArray.empty, .string ByteArray.empty]) 2 32 Tryd.underlying25 hi0 hq0 hq1 hq2 rfl (by decide) (.slice (some ⟨w1.heap.size, 0, none⟩) 0 0) 0 [] (by rfl) ((own_lit (w := w1) rfl rfl hl (by simp [maxLen]) rfl).drew) w.heap.size (some ⟨bb, oo, none⟩) n c (flat xs) (by rfl) (((r1.below hb1).alloc hb1.size _).drew) (flat_one _) (by simp only [maxLen]; omega) (by omega) (by first | (simp; done) | (simp; omega)) ?_
  intro v1 w2 hown1 hg1 hnil1 hat1
  have hb2 : Below w.heap.size w w2 := by refine Below.grown (w := _) ((hb1.alloc hb1.size _).drew) hg1 (by first | (simp; done) | (simp; omega)) (by simp [Value.ownBlock]; omega)
  have aB2 := (aB.alloc (.cells #[] 34)).drew.grown hg1 (by simp [Value.ownBlock]; omega)
  have bB2 := (bB.alloc (.cells #[] 34)).drew.grown hg1 (by simp [Value.ownBlock]; omega)
  have rB2 := (rB.alloc (.cells #[] 34)).drew.grown hg1 (by simp [Value.ownBlock]; omega)
  have k02 := (hb2.cell (p := ⟨bb, oo + n * 2, none⟩) hbb).trans c0
  have k12 := (hb2.cell (p := ⟨bb, oo + n * 2 + 1, none⟩) hbb).trans c1
  rw [Nat.zero_add, List.nil_append] at hown1
  obtain ⟨R, e', rfl, -⟩ := own_form hown1
  refine hK (fun W => Blk W w.heap.size 27 #[.bool a, .slice (some ⟨bb, oo, none⟩) (n + 1) c] ∧ W.cell? ⟨bb, oo + n * 2, none⟩ = some (.string ⟨q.1.toArray⟩) ∧ W.cell? ⟨bb, oo + n * 2 + 1, none⟩ = some (.string ⟨q.2.toArray⟩)) _ _ (fun _ h => h) ⟨aB2, k02, k12⟩ ?_
  clear hK K
  try simp only [Act.put, List.setIfInBounds_toArray, List.set_cons_zero, List.set_cons_succ]
  iterate 1 (refine wpOrd_q (v := ?_) (by rfl) (fun W hW => ?_) ?_; rotate_left; (focus ((obtain ⟨hW1, hW2, hW3⟩ := hW; have h0 := hW1.cell 0; have h1 := hW1.cell 1; have hl1 := hW1.lt); go_simp; try with_reducible rfl)); try simp only [Act.put, List.setIfInBounds_toArray, List.set_cons_zero, List.set_cons_succ])
  refine wpOrd_x (by rfl) (fun K hK => ?_)
  have s0 := bB2.cell 0
  have s1 := bB2.cell 1
  have f0 := bB2.frozen 0
  have f1 := bB2.frozen 1
  have u0 := rB2.cell 0
  have u1 := rB2.cell 1
  have g0 := rB2.frozen 0
  have g1 := rB2.frozen 1
  have hl2 := bB2.lt
  have hl3 := rB2.lt
  go_simp
  have hb3 : Below w.heap.size w ((w2.setCell ⟨w.heap.size + 1, 0, none⟩ (.bool a)).setCell ⟨w.heap.size + 1, 1, none⟩ (.slice R n e')) := (hb2.setCell (by first | (simp; done) | (simp; omega)) _).setCell (by first | (simp; done) | (simp; omega)) _
  have aB3 := (aB2.far (p := ⟨w.heap.size + 1, 0, none⟩) (by first | (simp; done) | (simp; omega)) (.bool a)).far (p := ⟨w.heap.size + 1, 1, none⟩) (by first | (simp; done) | (simp; omega)) (.slice R n e')
  have bB3 := (bB2.set_ 0 (.bool a)).set_ 1 (.slice R n e')
  have rB3 := (rB2.far (p := ⟨w.heap.size + 1, 0, none⟩) (by first | (simp; done) | (simp; omega)) (.bool a)).far (p := ⟨w.heap.size + 1, 1, none⟩) (by first | (simp; done) | (simp; omega)) (.slice R n e')
  refine hK (fun W => Blk W w.heap.size 27 #[.bool a, .slice (some ⟨bb, oo, none⟩) (n + 1) c] ∧ W.cell? ⟨bb, oo + n * 2, none⟩ = some (.string ⟨q.1.toArray⟩) ∧ W.cell? ⟨bb, oo + n * 2 + 1, none⟩ = some (.string ⟨q.2.toArray⟩)) _ _ (fun _ h => h) ⟨aB3, (hb3.cell (p := ⟨bb, oo + n * 2, none⟩) hbb).trans c0, (hb3.cell (p := ⟨bb, oo + n * 2 + 1, none⟩) hbb).trans c1⟩ ?_
  clear hK K s0 s1 f0 f1 u0 u1 g0 g1 hl2 hl3
  try simp only [Act.put, List.setIfInBounds_toArray, List.set_cons_zero, List.set_cons_succ]
  refine wpOrd_x (by rfl) (fun K hK => ?_)
  have hown3 := ownsRow_setCell_below (ownsRow_setCell_below hown1 (a := ⟨w.heap.size + 1, 0, none⟩) (by first | (simp; done) | (simp; omega)) (.bool a)) (a := ⟨w.heap.size + 1, 1, none⟩) (by first | (simp; done) | (simp; omega)) (.slice R n e')
  obtain ⟨w3, hw3⟩ : ∃ w3, (w2.setCell ⟨w.heap.size + 1, 0, none⟩ (.bool a)).setCell ⟨w.heap.size + 1, 1, none⟩ (.slice R n e') = w3 := ⟨_, rfl⟩
  rw [hw3] at hb3 aB3 bB3 rB3 hown3 ⊢
  clear hw3
  have u0 := rB3.cell 0
  have u1 := rB3.cell 1
  have g0 := rB3.frozen 0
  have g1 := rB3.frozen 1
  have hl3 := rB3.lt
  go_simp
  have hb4 : Below w.heap.size w ((w3.setCell ⟨w.heap.size + 1 + 1, 0, none⟩ (.string ⟨q.1.toArray⟩)).setCell ⟨w.heap.size + 1 + 1, 1, none⟩ (.string ⟨q.2.toArray⟩)) := (hb3.setCell (by first | (simp; done) | (simp; omega)) _).setCell (by first | (simp; done) | (simp; omega)) _
  have aB4 := (aB3.far (p := ⟨w.heap.size + 1 + 1, 0, none⟩) (by first | (simp; done) | (simp; omega)) (.string ⟨q.1.toArray⟩)).far (p := ⟨w.heap.size + 1 + 1, 1, none⟩) (by first | (simp; done) | (simp; omega)) (.string ⟨q.2.toArray⟩)
  have bB4 : Blk _ (w.heap.size + 1) 27 #[.bool a, .slice R n e'] := (bB3.far (p := ⟨w.heap.size + 1 + 1, 0, none⟩) (by first | (simp; done) | (simp; omega)) (.string ⟨q.1.toArray⟩)).far (p := ⟨w.heap.size + 1 + 1, 1, none⟩) (by first | (simp; done) | (simp; omega)) (.string ⟨q.2.toArray⟩)
  have rB4 : Blk _ (w.heap.size + 1 + 1) 34 #[.string ⟨q.1.toArray⟩, .string ⟨q.2.toArray⟩] := (rB3.set_ 0 (.string ⟨q.1.toArray⟩)).set_ 1 (.string ⟨q.2.toArray⟩)
  have hown4 := ownsRow_setCell_below (ownsRow_setCell_below hown3 (a := ⟨w.heap.size + 1 + 1, 0, none⟩) (by first | (simp; done) | (simp; omega)) (.string ⟨q.1.toArray⟩)) (a := ⟨w.heap.size + 1 + 1, 1, none⟩) (by first | (simp; done) | (simp; omega)) (.string ⟨q.2.toArray⟩)
  refine hK (fun W => Blk W w.heap.size 27 #[.bool a, .slice (some ⟨bb, oo, none⟩) (n + 1) c] ∧ W.cell? ⟨bb, oo + n * 2, none⟩ = some (.string ⟨q.1.toArray⟩) ∧ W.cell? ⟨bb, oo + n * 2 + 1, none⟩ = some (.string ⟨q.2.toArray⟩)) _ _ (fun _ h => h) ⟨aB4, (hb4.cell (p := ⟨bb, oo + n * 2, none⟩) hbb).trans c0, (hb4.cell (p := ⟨bb, oo + n * 2 + 1, none⟩) hbb).trans c1⟩ ?_
  clear hK K
  try simp only [Act.put, List.setIfInBounds_toArray, List.set_cons_zero, List.set_cons_succ]
  iterate 1 (refine wpOrd_q (v := ?_) (by rfl) (fun W hW => ?_) ?_; rotate_left; (focus ((obtain ⟨hW1, hW2, hW3⟩ := hW; have h0 := hW1.cell 0; have h1 := hW1.cell 1; have hl1 := hW1.lt); go_simp; try with_reducible rfl)); try simp only [Act.put, List.setIfInBounds_toArray, List.set_cons_zero, List.set_cons_succ])
  refine wpOrd_nil ?_
  go_wp2
  refine bodyPost_ret (results_run3 rfl (ResV.struct rfl bB4 Tryd.underlying27 (by kernel_rfl)) (ResV.struct rfl rB4 Tryd.underlying34 (by kernel_rfl)) rfl) rfl ?_
  exact ⟨R, e', rfl, own_low hown4 (by omega), hb4⟩

theorem awake_parse : parseL [47, 97, 64, 108, 111, 119, 47, 47, 98] = (true, [([97], [108, 111, 119]), ([98], [])], 0) := by rfl

set_option maxRecDepth 100000 in
set_option maxHeartbeats 2000000 in
theorem awake_ok (hm : Mx w) : Calls Tryd.prog 7 #[] w fun e w' => e = .returned (.bool true) ∧ Below w.heap.size w w' := by
  go_enter Tryd.func7, Tryd.ntmps7
  go_wp2_with fail
  refine (parse_ok _ _ hm).mono ?_
  rw [show (⟨#[47, 97, 64, 108, 111, 119, 47, 47, 98]⟩ : ByteArray).data.toList = [47, 97, 64, 108, 111, 119, 47, 47, 98] from rfl, awake_parse]
  rintro e w1 ⟨A1, n1, c1, rfl, hown, hb⟩
  have hr := Rd.of_own hown
  have hn : n1 = 2 := hr.parts.symm
  subst hn
  obtain ⟨b1, o1, rfl, hb1, hc1⟩ := hr.part (by decide)
  obtain ⟨k0, k1⟩ := hc1 0 _ rfl
  obtain ⟨k2, k3⟩ := hc1 1 _ rfl
  clear hown hc1 hr
  simp only [Nat.zero_mul, Nat.one_mul, Nat.add_zero, Nat.add_assoc] at k0 k1 k2 k3
  go_wp2
  go_returns
  exact ⟨rfl, hb.alloc hb.size _⟩
end
end Go.Proofs.YtkjgieehiimiiaaDoor

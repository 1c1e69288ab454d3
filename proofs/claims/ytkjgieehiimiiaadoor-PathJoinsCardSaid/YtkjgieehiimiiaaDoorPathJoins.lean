/- PathJoins: the walk. Printed by pathjoins.py. -/
import Derived.Test.YtkjgieehiimiiaaDoorPathJoin
import Derived.OneCell
namespace Go.Proofs.YtkjgieehiimiiaaDoor
open Go.RowKit

theorem own_cap {w : World} {base n c : Nat} {e : TypeId} {sz : Nat} {A : Option Addr} {xs : List Value} (h : w.ownsRow base e sz (.slice A n c) n xs) : n ≤ c := by
  obtain ⟨A', c', hv, h1, _⟩ := own_form h
  injection hv with _ _ h2
  omega

section
variable (a b : Bool) (A B : Option Addr) (n c m d : Nat) (xs ys : List (BL × BL)) (w : World)
set_option maxRecDepth 100000 in
set_option maxHeartbeats 20000000 in
theorem joins_ok (hm : Mx w) (hA : Rd w w.heap.size 2 A n (flat xs)) (hB : Rd w w.heap.size 2 B m (flat ys)) (hn : n ≤ 50) (hm50 : m ≤ 50) (hnc : n ≤ c) (hmd : m ≤ d) :
    Calls Tryd.prog 4 #[.agg #[.bool a, .slice A n c], .agg #[.bool b, .slice B m d]] w fun e w' => e = .returned (.bool true) ∧ Below w.heap.size w w' := by
  have l1 : decide ((50 : Int) < n) = false := by simp; omega
  have l2 : decide ((50 : Int) < m) = false := by simp; omega
  obtain ⟨i0, hi0, hq0, hq1, hq2⟩ := info_parts info_part
  go_enter Tryd.func4, Tryd.ntmps4
  go_wp2_with fail
  have hb0 : Below w.heap.size w ((w.alloc (.cells #[.bool a, .slice A n c] 27)).alloc (.cells #[.bool b, .slice B m d] 27)) := ((Below.refl _ _).alloc (Nat.le_refl _) _).alloc (by simp) _
  refine (awake_ok _ (hm.below' hb0)).mono ?_
  rintro e w1 ⟨rfl, hb⟩
  have hb1 := hb0.trans (hb.mono hb0.size)
  have aB1 : Blk w1 w.heap.size 27 #[.bool a, .slice A n c] := ((Blk.new w 27 #[.bool a, .slice A n c]).alloc _).below hb (by first | (simp; done) | (simp; omega))
  have bB1 : Blk w1 (w.heap.size + 1) 27 #[.bool b, .slice B m d] := by
    have h := Blk.new (w.alloc (.cells #[.bool a, .slice A n c] 27)) 27 #[.bool b, .slice B m d]
    simpa using h.below hb (by first | (simp; done) | (simp; omega))
  clear hb
  have a0 := aB1.cell 0
  have a1 := aB1.cell 1
  have b0 := bB1.cell 0
  have b1 := bB1.cell 1
  have la := aB1.lt
  have lb := bB1.lt
  go_wp2_with fail
  refine (join_ok a b A B n c m d xs ys w1 ((hA.below hb1).more hb1.size) ((hB.below hb1).more hb1.size) (by omega) (by omega)).mono ?_
  rintro e w2 ⟨R, k, e', rfl, hown, hb⟩
  have hb2 := hb1.trans (hb.mono hb1.size)
  have aB2 := aB1.below hb aB1.lt
  have bB2 := bB1.below hb bB1.lt
  have jown := own_low hown hb1.size
  have hk := (Rd.of_own hown).parts
  clear a0 a1 b0 b1 la lb hb aB1 bB1 hb1 hb0 hown
  have a0 := aB2.cell 0
  have a1 := aB2.cell 1
  have b0 := bB2.cell 0
  have b1 := bB2.cell 1
  have la := aB2.lt
  have lb := bB2.lt
  have la2 : w.heap.size + 1 < w2.heap.size := bB2.lt
  go_upto_region 6 with (fail)
  refine at_world (fun W => Below w.heap.size w W ∧ Blk W w.heap.size 27 #[.bool a, .slice A n c] ∧ Blk W (w.heap.size + 1) 27 #[.bool b, .slice B m d] ∧ Blk W w2.heap.size 27 #[.bool (b || a), .slice R k e'] ∧ W.ownsRow w.heap.size 34 2 (.slice R k e') k (flat (if b then ys else xs ++ ys)))
    ⟨hb2.alloc hb2.size _, aB2.alloc _, bB2.alloc _, Blk.new _ _ _, jown.alloc _⟩ (fun W0 hX => ?_)
  clear aB2 bB2 jown hb2 a0 a1 b0 b1 la lb
  obtain ⟨hbW, aB, bB, jB, jown⟩ := hX
  have hA0 := (hA.below hbW).more hbW.size
  have hB0 := (hB.below hbW).more hbW.size
  go_cut [6] from 25 to 34 (fun t6 wc => ∃ g R2 e2, t6 = .pointer (some ⟨g, 0, none⟩) ∧ (Below W0.heap.size W0 wc ∧ W0.heap.size ≤ g ∧ Blk wc g 27 #[.bool a, .slice R2 (n + m) e2] ∧ wc.ownsRow W0.heap.size 34 2 (.slice R2 (n + m) e2) (n + m) (flat (xs ++ ys))))
  case first =>
    refine wp_region_tree (.q 0 (.q 1 (.q 3 (.q 4 (.q 6 (.q 7 (.br 2 (.br 5 (.br 8 (.q 9 (.x 10 (.x 11 .nil))) 10 (.x 8 (.q 9 (.x 11 .nil)))) 10 (.x 5 (.x 8 (.q 9 (.x 11 .nil))))) 10 (.x 2 (.x 5 (.x 8 (.q 9 (.x 11 .nil)))))))))))) (fun W => Blk W w.heap.size 27 #[.bool a, .slice A n c] ∧ Blk W (w.heap.size + 1) 27 #[.bool b, .slice B m d]) (by kernel_rfl) (by kernel_rfl) ⟨aB.drew, bB.drew⟩ ?_
    iterate 6 (refine wpT_q (v := ?_) (by rfl) (by rfl) (fun W hW => ?_) ?_; rotate_left; (focus ((obtain ⟨hW1, hW2⟩ := hW; have h0 := hW1.cell 0; have h1 := hW1.cell 1; have h2 := hW2.cell 1; have hl1 := hW1.lt; have hl2 := hW2.lt); go_simp; try with_reducible rfl)); try simp only [Act.put, List.setIfInBounds_toArray, List.set_cons_zero, List.set_cons_succ])
    refine at_world (fun X => Below W0.heap.size W0 X ∧ Blk X w.heap.size 27 #[.bool a, .slice A n c] ∧ Blk X (w.heap.size + 1) 27 #[.bool b, .slice B m d]) ⟨(Below.refl _ _).drew, aB.drew, bB.drew⟩ (fun W1 hX => ?_)
    clear aB bB
    obtain ⟨hb, aB, bB⟩ := hX
    refine wpT_br ?_ ?_
    · refine wpT_x (by rfl) (by rfl) (fun K hK => ?_)
      go_simp
      refine hK (fun W => Blk W w.heap.size 27 #[.bool a, .slice A n c] ∧ Blk W (w.heap.size + 1) 27 #[.bool b, .slice B m d]) _ _ (fun _ h => h) ⟨aB.alloc _, bB.alloc _⟩ ?_
      clear hK K
      try simp only [Act.put, List.setIfInBounds_toArray, List.set_cons_zero, List.set_cons_succ]
      refine at_world (fun X => Below W0.heap.size W0 X ∧ Blk X w.heap.size 27 #[.bool a, .slice A n c] ∧ Blk X (w.heap.size + 1) 27 #[.bool b, .slice B m d] ∧ X.ownsRow W0.heap.size 34 2 (.slice (some ⟨W1.heap.size, 0, none⟩) 0 0) 0 []) ⟨hb.alloc hb.size _, aB.alloc _, bB.alloc _, own_lit (w := W1) rfl rfl hb.size (by simp [maxLen]) rfl⟩ (fun W2 hX => ?_)
      clear hb aB bB
      obtain ⟨hb, aB, bB, hown⟩ := hX
      refine wpT_br ?_ ?_
      · refine wpT_x (by rfl) (by rfl) (fun K hK => ?_)
        refine wp_append_rd _ (.tmp 27) (.tmp 29) 25 (by rfl) W0.heap.size 34 i0 (.agg #[.string ByteArray.empty, .string ByteArray.empty]) 2 32 Tryd.underlying25 hi0 hq0 hq1 hq2 rfl (by decide) _ 0 _ (by rfl) hown W0.heap.size A n c (flat xs) (by rfl) (hA0.below hb) (flat_one _) (by simp only [maxLen]; omega) (by omega) hb.size ?_
        intro v1 W3 hown' hg' _ _
        rw [Nat.zero_add, List.nil_append] at hown'
        have aB' := aB.grown hg' (fun e => blk_not_own aB hown (by decide) e.symm)
        have bB' := bB.grown hg' (fun e => blk_not_own bB hown (by decide) e.symm)
        have hb' := hb.grown hg' hb.size (fun g hg => own_ge hown hg)
        clear hown hb aB bB
        have hown := hown'
        have hb := hb'
        have aB := aB'
        have bB := bB'
        clear hown' hb' aB' bB' hg'
        obtain ⟨R1, e1, rfl, -⟩ := own_form hown
        refine hK (fun W => Blk W w.heap.size 27 #[.bool a, .slice A n c] ∧ Blk W (w.heap.size + 1) 27 #[.bool b, .slice B m d]) _ _ (fun _ h => h) ⟨aB, bB⟩ ?_
        clear hK K
        try simp only [Act.put, List.setIfInBounds_toArray, List.set_cons_zero, List.set_cons_succ]
        refine wpT_br ?_ ?_
        · refine wpT_x (by rfl) (by rfl) (fun K hK => ?_)
          refine wp_append_rd _ (.tmp 30) (.tmp 32) 25 (by rfl) W0.heap.size 34 i0 (.agg #[.string ByteArray.empty, .string ByteArray.empty]) 2 32 Tryd.underlying25 hi0 hq0 hq1 hq2 rfl (by decide) _ n _ (by rfl) hown W0.heap.size B m d (flat ys) (by rfl) (hB0.below hb) (flat_one _) (by simp only [maxLen]; omega) (by omega) hb.size ?_
          intro v2 W4 hown' hg' _ _
          have aB' := aB.grown hg' (fun e => blk_not_own aB hown (by decide) e.symm)
          have bB' := bB.grown hg' (fun e => blk_not_own bB hown (by decide) e.symm)
          have hb' := hb.grown hg' hb.size (fun g hg => own_ge hown hg)
          clear hown hb aB bB
          have hown := hown'
          have hb := hb'
          have aB := aB'
          have bB := bB'
          clear hown' hb' aB' bB' hg'
          obtain ⟨R2, e2, rfl, -⟩ := own_form hown
          refine hK (fun W => Blk W w.heap.size 27 #[.bool a, .slice A n c] ∧ Blk W (w.heap.size + 1) 27 #[.bool b, .slice B m d]) _ _ (fun _ h => h) ⟨aB, bB⟩ ?_
          clear hK K
          try simp only [Act.put, List.setIfInBounds_toArray, List.set_cons_zero, List.set_cons_succ]
          iterate 1 (refine wpT_q (v := ?_) (by rfl) (by rfl) (fun W hW => ?_) ?_; rotate_left; (focus ((obtain ⟨hW1, hW2⟩ := hW; have h0 := hW1.cell 0; have h1 := hW1.cell 1; have h2 := hW2.cell 1; have hl1 := hW1.lt; have hl2 := hW2.lt); go_simp; try with_reducible rfl)); try simp only [Act.put, List.setIfInBounds_toArray, List.set_cons_zero, List.set_cons_succ])
          refine wpT_x (by rfl) (by rfl) (fun K hK => ?_)
          go_simp
          refine hK (fun W => Blk W w.heap.size 27 #[.bool a, .slice A n c] ∧ Blk W (w.heap.size + 1) 27 #[.bool b, .slice B m d]) _ _ (fun _ h => h) ⟨aB.alloc _, bB.alloc _⟩ ?_
          clear hK K
          try simp only [Act.put, List.setIfInBounds_toArray, List.set_cons_zero, List.set_cons_succ]
          have hgs : w.heap.size + 1 < W4.heap.size := bB.lt
          have hgz : W0.heap.size ≤ W4.heap.size := hb.size
          refine at_world (fun X => Below W0.heap.size W0 X ∧ Blk X w.heap.size 27 #[.bool a, .slice A n c] ∧ Blk X (w.heap.size + 1) 27 #[.bool b, .slice B m d] ∧ Blk X W4.heap.size 27 #[.bool false, .slice none 0 0] ∧ X.ownsRow W0.heap.size 34 2 (.slice R2 (n + m) e2) (n + m) (flat xs ++ flat ys) ) ⟨hb.alloc hb.size _, aB.alloc _, bB.alloc _, Blk.new _ _ _, hown.alloc _⟩ (fun W5 hX => ?_)
          clear hb aB bB hown
          obtain ⟨hb, aB, bB, gB, hown⟩ := hX
          refine wpT_x (by rfl) (by rfl) (fun K hK => ?_)
          have r0 := gB.cell 0
          have r1 := gB.cell 1
          have f0 := gB.frozen 0
          have f1 := gB.frozen 1
          have hl := gB.lt
          go_simp
          refine hK (fun W => Blk W w.heap.size 27 #[.bool a, .slice A n c] ∧ Blk W (w.heap.size + 1) 27 #[.bool b, .slice B m d]) _ _ (fun _ h => h) ⟨(aB.far (by first | (simp; done) | (simp; omega)) _).far (by first | (simp; done) | (simp; omega)) _, (bB.far (by first | (simp; done) | (simp; omega)) _).far (by first | (simp; done) | (simp; omega)) _⟩ ?_
          clear hK K r0 r1 f0 f1 hl
          try simp only [Act.put, List.setIfInBounds_toArray, List.set_cons_zero, List.set_cons_succ]
          refine wpT_nil ?_
          go_wp2
          go_meet
          case rel =>
            rw [← flat_append] at hown
            have hng := blk_not_own gB hown (by decide)
            exact ⟨W4.heap.size, R2, e2, rfl, (hb.setCell (by first | (simp; done) | (simp; omega)) _).setCell (by first | (simp; done) | (simp; omega)) _, hgz, (gB.set_ 0 _).set_ 1 _, ownsRow_setCell_other (ownsRow_setCell_other hown hng _) hng _⟩
        · refine wpT_x (by rfl) (by rfl) (fun K hK => ?_)
          go_simp
          refine hK (fun W => Blk W w.heap.size 27 #[.bool a, .slice A n c] ∧ Blk W (w.heap.size + 1) 27 #[.bool b, .slice B m d]) _ _ (fun _ h => h) ⟨aB.alloc _, bB.alloc _⟩ ?_
          clear hK K
          try simp only [Act.put, List.setIfInBounds_toArray, List.set_cons_zero, List.set_cons_succ]
          have hgs : w.heap.size + 1 < W3.heap.size := bB.lt
          have hgz : W0.heap.size ≤ W3.heap.size := hb.size
          refine at_world (fun X => Below W0.heap.size W0 X ∧ Blk X w.heap.size 27 #[.bool a, .slice A n c] ∧ Blk X (w.heap.size + 1) 27 #[.bool b, .slice B m d] ∧ Blk X W3.heap.size 27 #[.bool false, .slice none 0 0] ∧ X.ownsRow W0.heap.size 34 2 (.slice R1 n e1) n (flat xs) ) ⟨hb.alloc hb.size _, aB.alloc _, bB.alloc _, Blk.new _ _ _, hown.alloc _⟩ (fun W4 hX => ?_)
          clear hb aB bB hown
          obtain ⟨hb, aB, bB, gB, hown⟩ := hX
          refine wpT_x (by rfl) (by rfl) (fun K hK => ?_)
          refine wp_append_rd _ (.tmp 30) (.tmp 32) 25 (by rfl) W0.heap.size 34 i0 (.agg #[.string ByteArray.empty, .string ByteArray.empty]) 2 32 Tryd.underlying25 hi0 hq0 hq1 hq2 rfl (by decide) _ n _ (by rfl) hown W0.heap.size B m d (flat ys) (by rfl) (hB0.below hb) (flat_one _) (by simp only [maxLen]; omega) (by omega) hb.size ?_
          intro v2 W5 hown' hg' _ _
          have aB' := aB.grown hg' (fun e => blk_not_own aB hown (by decide) e.symm)
          have bB' := bB.grown hg' (fun e => blk_not_own bB hown (by decide) e.symm)
          have gB' := gB.grown hg' (fun e => blk_not_own gB hown (by decide) e.symm)
          have hb' := hb.grown hg' hb.size (fun g hg => own_ge hown hg)
          clear hown hb aB bB gB
          have hown := hown'
          have hb := hb'
          have aB := aB'
          have bB := bB'
          have gB := gB'
          clear hown' hb' aB' bB' hg' gB'
          obtain ⟨R2, e2, rfl, -⟩ := own_form hown
          refine hK (fun W => Blk W w.heap.size 27 #[.bool a, .slice A n c] ∧ Blk W (w.heap.size + 1) 27 #[.bool b, .slice B m d]) _ _ (fun _ h => h) ⟨aB, bB⟩ ?_
          clear hK K
          try simp only [Act.put, List.setIfInBounds_toArray, List.set_cons_zero, List.set_cons_succ]
          iterate 1 (refine wpT_q (v := ?_) (by rfl) (by rfl) (fun W hW => ?_) ?_; rotate_left; (focus ((obtain ⟨hW1, hW2⟩ := hW; have h0 := hW1.cell 0; have h1 := hW1.cell 1; have h2 := hW2.cell 1; have hl1 := hW1.lt; have hl2 := hW2.lt); go_simp; try with_reducible rfl)); try simp only [Act.put, List.setIfInBounds_toArray, List.set_cons_zero, List.set_cons_succ])
          refine wpT_x (by rfl) (by rfl) (fun K hK => ?_)
          have r0 := gB.cell 0
          have r1 := gB.cell 1
          have f0 := gB.frozen 0
          have f1 := gB.frozen 1
          have hl := gB.lt
          go_simp
          refine hK (fun W => Blk W w.heap.size 27 #[.bool a, .slice A n c] ∧ Blk W (w.heap.size + 1) 27 #[.bool b, .slice B m d]) _ _ (fun _ h => h) ⟨(aB.far (by first | (simp; done) | (simp; omega)) _).far (by first | (simp; done) | (simp; omega)) _, (bB.far (by first | (simp; done) | (simp; omega)) _).far (by first | (simp; done) | (simp; omega)) _⟩ ?_
          clear hK K r0 r1 f0 f1 hl
          try simp only [Act.put, List.setIfInBounds_toArray, List.set_cons_zero, List.set_cons_succ]
          refine wpT_nil ?_
          go_wp2
          go_meet
          case rel =>
            rw [← flat_append] at hown
            have hng := blk_not_own gB hown (by decide)
            exact ⟨W3.heap.size, R2, e2, rfl, (hb.setCell (by first | (simp; done) | (simp; omega)) _).setCell (by first | (simp; done) | (simp; omega)) _, hgz, (gB.set_ 0 _).set_ 1 _, ownsRow_setCell_other (ownsRow_setCell_other hown hng _) hng _⟩
      · refine wpT_x (by rfl) (by rfl) (fun K hK => ?_)
        go_simp
        refine hK (fun W => Blk W w.heap.size 27 #[.bool a, .slice A n c] ∧ Blk W (w.heap.size + 1) 27 #[.bool b, .slice B m d]) _ _ (fun _ h => h) ⟨aB.alloc _, bB.alloc _⟩ ?_
        clear hK K
        try simp only [Act.put, List.setIfInBounds_toArray, List.set_cons_zero, List.set_cons_succ]
        have hgs : w.heap.size + 1 < W2.heap.size := bB.lt
        have hgz : W0.heap.size ≤ W2.heap.size := hb.size
        refine at_world (fun X => Below W0.heap.size W0 X ∧ Blk X w.heap.size 27 #[.bool a, .slice A n c] ∧ Blk X (w.heap.size + 1) 27 #[.bool b, .slice B m d] ∧ Blk X W2.heap.size 27 #[.bool false, .slice none 0 0] ∧ X.ownsRow W0.heap.size 34 2 (.slice (some ⟨W1.heap.size, 0, none⟩) 0 0) 0 [] ) ⟨hb.alloc hb.size _, aB.alloc _, bB.alloc _, Blk.new _ _ _, hown.alloc _⟩ (fun W3 hX => ?_)
        clear hb aB bB hown
        obtain ⟨hb, aB, bB, gB, hown⟩ := hX
        refine wpT_x (by rfl) (by rfl) (fun K hK => ?_)
        refine wp_append_rd _ (.tmp 27) (.tmp 29) 25 (by rfl) W0.heap.size 34 i0 (.agg #[.string ByteArray.empty, .string ByteArray.empty]) 2 32 Tryd.underlying25 hi0 hq0 hq1 hq2 rfl (by decide) _ 0 _ (by rfl) hown W0.heap.size A n c (flat xs) (by rfl) (hA0.below hb) (flat_one _) (by simp only [maxLen]; omega) (by omega) hb.size ?_
        intro v1 W4 hown' hg' _ _
        rw [Nat.zero_add, List.nil_append] at hown'
        have aB' := aB.grown hg' (fun e => blk_not_own aB hown (by decide) e.symm)
        have bB' := bB.grown hg' (fun e => blk_not_own bB hown (by decide) e.symm)
        have gB' := gB.grown hg' (fun e => blk_not_own gB hown (by decide) e.symm)
        have hb' := hb.grown hg' hb.size (fun g hg => own_ge hown hg)
        clear hown hb aB bB gB
        have hown := hown'
        have hb := hb'
        have aB := aB'
        have bB := bB'
        have gB := gB'
        clear hown' hb' aB' bB' hg' gB'
        obtain ⟨R1, e1, rfl, -⟩ := own_form hown
        refine hK (fun W => Blk W w.heap.size 27 #[.bool a, .slice A n c] ∧ Blk W (w.heap.size + 1) 27 #[.bool b, .slice B m d]) _ _ (fun _ h => h) ⟨aB, bB⟩ ?_
        clear hK K
        try simp only [Act.put, List.setIfInBounds_toArray, List.set_cons_zero, List.set_cons_succ]
        refine wpT_x (by rfl) (by rfl) (fun K hK => ?_)
        refine wp_append_rd _ (.tmp 30) (.tmp 32) 25 (by rfl) W0.heap.size 34 i0 (.agg #[.string ByteArray.empty, .string ByteArray.empty]) 2 32 Tryd.underlying25 hi0 hq0 hq1 hq2 rfl (by decide) _ n _ (by rfl) hown W0.heap.size B m d (flat ys) (by rfl) (hB0.below hb) (flat_one _) (by simp only [maxLen]; omega) (by omega) hb.size ?_
        intro v2 W5 hown' hg' _ _
        have aB' := aB.grown hg' (fun e => blk_not_own aB hown (by decide) e.symm)
        have bB' := bB.grown hg' (fun e => blk_not_own bB hown (by decide) e.symm)
        have gB' := gB.grown hg' (fun e => blk_not_own gB hown (by decide) e.symm)
        have hb' := hb.grown hg' hb.size (fun g hg => own_ge hown hg)
        clear hown hb aB bB gB
        have hown := hown'
        have hb := hb'
        have aB := aB'
        have bB := bB'
        have gB := gB'
        clear hown' hb' aB' bB' hg' gB'
        obtain ⟨R2, e2, rfl, -⟩ := own_form hown
        refine hK (fun W => Blk W w.heap.size 27 #[.bool a, .slice A n c] ∧ Blk W (w.heap.size + 1) 27 #[.bool b, .slice B m d]) _ _ (fun _ h => h) ⟨aB, bB⟩ ?_
        clear hK K
        try simp only [Act.put, List.setIfInBounds_toArray, List.set_cons_zero, List.set_cons_succ]
        iterate 1 (refine wpT_q (v := ?_) (by rfl) (by rfl) (fun W hW => ?_) ?_; rotate_left; (focus ((obtain ⟨hW1, hW2⟩ := hW; have h0 := hW1.cell 0; have h1 := hW1.cell 1; have h2 := hW2.cell 1; have hl1 := hW1.lt; have hl2 := hW2.lt); go_simp; try with_reducible rfl)); try simp only [Act.put, List.setIfInBounds_toArray, List.set_cons_zero, List.set_cons_succ])
        refine wpT_x (by rfl) (by rfl) (fun K hK => ?_)
        have r0 := gB.cell 0
        have r1 := gB.cell 1
        have f0 := gB.frozen 0
        have f1 := gB.frozen 1
        have hl := gB.lt
        go_simp
        refine hK (fun W => Blk W w.heap.size 27 #[.bool a, .slice A n c] ∧ Blk W (w.heap.size + 1) 27 #[.bool b, .slice B m d]) _ _ (fun _ h => h) ⟨(aB.far (by first | (simp; done) | (simp; omega)) _).far (by first | (simp; done) | (simp; omega)) _, (bB.far (by first | (simp; done) | (simp; omega)) _).far (by first | (simp; done) | (simp; omega)) _⟩ ?_
        clear hK K r0 r1 f0 f1 hl
        try simp only [Act.put, List.setIfInBounds_toArray, List.set_cons_zero, List.set_cons_succ]
        refine wpT_nil ?_
        go_wp2
        go_meet
        case rel =>
          rw [← flat_append] at hown
          have hng := blk_not_own gB hown (by decide)
          exact ⟨W2.heap.size, R2, e2, rfl, (hb.setCell (by first | (simp; done) | (simp; omega)) _).setCell (by first | (simp; done) | (simp; omega)) _, hgz, (gB.set_ 0 _).set_ 1 _, ownsRow_setCell_other (ownsRow_setCell_other hown hng _) hng _⟩
    · refine wpT_x (by rfl) (by rfl) (fun K hK => ?_)
      go_simp
      refine hK (fun W => Blk W w.heap.size 27 #[.bool a, .slice A n c] ∧ Blk W (w.heap.size + 1) 27 #[.bool b, .slice B m d]) _ _ (fun _ h => h) ⟨aB.alloc _, bB.alloc _⟩ ?_
      clear hK K
      try simp only [Act.put, List.setIfInBounds_toArray, List.set_cons_zero, List.set_cons_succ]
      have hgs : w.heap.size + 1 < W1.heap.size := bB.lt
      have hgz : W0.heap.size ≤ W1.heap.size := hb.size
      refine at_world (fun X => Below W0.heap.size W0 X ∧ Blk X w.heap.size 27 #[.bool a, .slice A n c] ∧ Blk X (w.heap.size + 1) 27 #[.bool b, .slice B m d] ∧ Blk X W1.heap.size 27 #[.bool false, .slice none 0 0] ) ⟨hb.alloc hb.size _, aB.alloc _, bB.alloc _, Blk.new _ _ _⟩ (fun W2 hX => ?_)
      clear hb aB bB
      obtain ⟨hb, aB, bB, gB⟩ := hX
      refine wpT_x (by rfl) (by rfl) (fun K hK => ?_)
      go_simp
      refine hK (fun W => Blk W w.heap.size 27 #[.bool a, .slice A n c] ∧ Blk W (w.heap.size + 1) 27 #[.bool b, .slice B m d]) _ _ (fun _ h => h) ⟨aB.alloc _, bB.alloc _⟩ ?_
      clear hK K
      try simp only [Act.put, List.setIfInBounds_toArray, List.set_cons_zero, List.set_cons_succ]
      refine at_world (fun X => Below W0.heap.size W0 X ∧ Blk X w.heap.size 27 #[.bool a, .slice A n c] ∧ Blk X (w.heap.size + 1) 27 #[.bool b, .slice B m d] ∧ Blk X W1.heap.size 27 #[.bool false, .slice none 0 0] ∧ X.ownsRow W0.heap.size 34 2 (.slice (some ⟨W2.heap.size, 0, none⟩) 0 0) 0 []) ⟨hb.alloc hb.size _, aB.alloc _, bB.alloc _, gB.alloc _, own_lit (w := W2) rfl rfl hb.size (by simp [maxLen]) rfl⟩ (fun W3 hX => ?_)
      clear hb aB bB gB
      obtain ⟨hb, aB, bB, gB, hown⟩ := hX
      refine wpT_x (by rfl) (by rfl) (fun K hK => ?_)
      refine wp_append_rd _ (.tmp 27) (.tmp 29) 25 (by rfl) W0.heap.size 34 i0 (.agg #[.string ByteArray.empty, .string ByteArray.empty]) 2 32 Tryd.underlying25 hi0 hq0 hq1 hq2 rfl (by decide) _ 0 _ (by rfl) hown W0.heap.size A n c (flat xs) (by rfl) (hA0.below hb) (flat_one _) (by simp only [maxLen]; omega) (by omega) hb.size ?_
      intro v1 W4 hown' hg' _ _
      rw [Nat.zero_add, List.nil_append] at hown'
      have aB' := aB.grown hg' (fun e => blk_not_own aB hown (by decide) e.symm)
      have bB' := bB.grown hg' (fun e => blk_not_own bB hown (by decide) e.symm)
      have gB' := gB.grown hg' (fun e => blk_not_own gB hown (by decide) e.symm)
      have hb' := hb.grown hg' hb.size (fun g hg => own_ge hown hg)
      clear hown hb aB bB gB
      have hown := hown'
      have hb := hb'
      have aB := aB'
      have bB := bB'
      have gB := gB'
      clear hown' hb' aB' bB' hg' gB'
      obtain ⟨R1, e1, rfl, -⟩ := own_form hown
      refine hK (fun W => Blk W w.heap.size 27 #[.bool a, .slice A n c] ∧ Blk W (w.heap.size + 1) 27 #[.bool b, .slice B m d]) _ _ (fun _ h => h) ⟨aB, bB⟩ ?_
      clear hK K
      try simp only [Act.put, List.setIfInBounds_toArray, List.set_cons_zero, List.set_cons_succ]
      refine wpT_x (by rfl) (by rfl) (fun K hK => ?_)
      refine wp_append_rd _ (.tmp 30) (.tmp 32) 25 (by rfl) W0.heap.size 34 i0 (.agg #[.string ByteArray.empty, .string ByteArray.empty]) 2 32 Tryd.underlying25 hi0 hq0 hq1 hq2 rfl (by decide) _ n _ (by rfl) hown W0.heap.size B m d (flat ys) (by rfl) (hB0.below hb) (flat_one _) (by simp only [maxLen]; omega) (by omega) hb.size ?_
      intro v2 W5 hown' hg' _ _
      have aB' := aB.grown hg' (fun e => blk_not_own aB hown (by decide) e.symm)
      have bB' := bB.grown hg' (fun e => blk_not_own bB hown (by decide) e.symm)
      have gB' := gB.grown hg' (fun e => blk_not_own gB hown (by decide) e.symm)
      have hb' := hb.grown hg' hb.size (fun g hg => own_ge hown hg)
      clear hown hb aB bB gB
      have hown := hown'
      have hb := hb'
      have aB := aB'
      have bB := bB'
      have gB := gB'
      clear hown' hb' aB' bB' hg' gB'
      obtain ⟨R2, e2, rfl, -⟩ := own_form hown
      refine hK (fun W => Blk W w.heap.size 27 #[.bool a, .slice A n c] ∧ Blk W (w.heap.size + 1) 27 #[.bool b, .slice B m d]) _ _ (fun _ h => h) ⟨aB, bB⟩ ?_
      clear hK K
      try simp only [Act.put, List.setIfInBounds_toArray, List.set_cons_zero, List.set_cons_succ]
      iterate 1 (refine wpT_q (v := ?_) (by rfl) (by rfl) (fun W hW => ?_) ?_; rotate_left; (focus ((obtain ⟨hW1, hW2⟩ := hW; have h0 := hW1.cell 0; have h1 := hW1.cell 1; have h2 := hW2.cell 1; have hl1 := hW1.lt; have hl2 := hW2.lt); go_simp; try with_reducible rfl)); try simp only [Act.put, List.setIfInBounds_toArray, List.set_cons_zero, List.set_cons_succ])
      refine wpT_x (by rfl) (by rfl) (fun K hK => ?_)
      have r0 := gB.cell 0
      have r1 := gB.cell 1
      have f0 := gB.frozen 0
      have f1 := gB.frozen 1
      have hl := gB.lt
      go_simp
      refine hK (fun W => Blk W w.heap.size 27 #[.bool a, .slice A n c] ∧ Blk W (w.heap.size + 1) 27 #[.bool b, .slice B m d]) _ _ (fun _ h => h) ⟨(aB.far (by first | (simp; done) | (simp; omega)) _).far (by first | (simp; done) | (simp; omega)) _, (bB.far (by first | (simp; done) | (simp; omega)) _).far (by first | (simp; done) | (simp; omega)) _⟩ ?_
      clear hK K r0 r1 f0 f1 hl
      try simp only [Act.put, List.setIfInBounds_toArray, List.set_cons_zero, List.set_cons_succ]
      refine wpT_nil ?_
      go_wp2
      go_meet
      case rel =>
        rw [← flat_append] at hown
        have hng := blk_not_own gB hown (by decide)
        exact ⟨W1.heap.size, R2, e2, rfl, (hb.setCell (by first | (simp; done) | (simp; omega)) _).setCell (by first | (simp; done) | (simp; omega)) _, hgz, (gB.set_ 0 _).set_ 1 _, ownsRow_setCell_other (ownsRow_setCell_other hown hng _) hng _⟩
  case rest =>
    obtain ⟨g, R2, e2, rfl, hbc, hgz, wB, wown⟩ := hcut
    have hbw := hbW.trans (hbc.mono hbW.size)
    have aC := aB.below hbc aB.lt
    have bC := bB.below hbc bB.lt
    have jC := jB.below hbc jB.lt
    have jo := own_below jown hbc
    have hga : w.heap.size + 1 < g := Nat.lt_of_lt_of_le bB.lt hgz
    have hgj : w2.heap.size < g := Nat.lt_of_lt_of_le jB.lt hgz
    have hwj : w.heap.size + 1 < w2.heap.size := la2
    clear hbc aB bB jB jown hA0 hB0 hbW hgz
    have b0 := bC.cell 0
    have b1 := bC.cell 1
    have lb := bC.lt
    have g0 := wB.cell 0
    have g1 := wB.cell 1
    have f0 := wB.frozen 0
    have f1 := wB.frozen 1
    have lg := wB.lt
    go_upto_if 36 with (fail)
    go_cut [] from 25 to 37 (fun wd => ∃ Wv wn wcap, Below w.heap.size w wd ∧ Blk wd w.heap.size 27 #[.bool a, .slice A n c] ∧ Blk wd w2.heap.size 27 #[.bool (b || a), .slice R k e'] ∧ wd.ownsRow w.heap.size 34 2 (.slice R k e') k (flat (if b then ys else xs ++ ys)) ∧
      Blk wd g 27 #[.bool (b || a), .slice Wv wn wcap] ∧ Rd wd wd.heap.size 2 Wv wn (flat (if b then ys else xs ++ ys)) ∧ wn ≤ wcap ∧ wn ≤ 100)
    case first =>
      cases b with
      | true =>
        go_wp2
        go_meet
        case rel =>
          have hbe := (hbw.setCell (p := ⟨g, 0, none⟩) (by first | (simp; done) | (simp; omega)) (.bool true)).setCell (p := ⟨g, 1, none⟩) (by first | (simp; done) | (simp; omega)) (.slice B m d)
          exact ⟨B, m, d, hbe, (aC.far (by first | (simp; done) | (simp; omega)) _).far (by first | (simp; done) | (simp; omega)) _, (jC.far (by first | (simp; done) | (simp; omega)) _).far (by first | (simp; done) | (simp; omega)) _, ownsRow_setCell_other (ownsRow_setCell_other jo (blk_not_own wB jo (by decide)) _) (blk_not_own wB jo (by decide)) _, (wB.set_ 0 _).set_ 1 _, (hB.below hbe).more hbe.size, hmd, by omega⟩
      | false =>
        go_wp2
        go_meet
        case rel =>
          have hnc2 := own_cap wown
          exact ⟨R2, n + m, e2, hbw, aC, jC, jo, wB, Rd.of_own wown, hnc2, by omega⟩
    case rest =>
      clear b0 b1 lb g0 g1 f0 f1 lg wB wown hbw aC bC jC jo
      obtain ⟨Wv, wn, wcap, hbw, aC, jC, jo, wB, wr, hwc, hwn⟩ := hcut
      generalize (if b then ys else xs ++ ys) = zs at jo wr hk
      generalize (b || a) = ja at jC wB
      have hkc := own_cap jo
      by_cases hn0 : n = 0
      · subst hn0
        have a0 := aC.cell 0
        have a1 := aC.cell 1
        have la := aC.lt
        go_wp2_with fail
        refine (base_none a A c wc).mono ?_
        rintro e w4 ⟨rfl, hb⟩
        have hbx := hbw.trans (hb.mono hbw.size)
        have aD := aC.below hb aC.lt
        have jD := jC.below hb jC.lt
        have wD := wB.below hb wB.lt
        have jo2 := own_below jo hb
        have wr2 := (wr.below hb).more hb.size
        clear a0 a1 la aC jC wB jo wr hbw hb
        have a0 := aD.cell 0
        have a1 := aD.cell 1
        have la := aD.lt
        have j0 := jD.cell 0
        have j1 := jD.cell 1
        have lj := jD.lt
        have g0 := wD.cell 0
        have g1 := wD.cell 1
        have lg := wD.lt
        go_wp2_with fail
        have hbz : ∀ o1 o2, Below w4.heap.size w4 ((w4.alloc o1).alloc o2) := fun o1 o2 => ((Below.refl _ _).alloc (Nat.le_refl _) _).alloc (by simp) _
        refine (same_ok ja ja R Wv k e' wn wcap zs zs _ ((Rd.of_own (own_below jo2 (hbz _ _)))) ((wr2.below (hbz _ _)).more (hbz _ _).size) (by have := (Rd.of_own jo2).parts; have := wr2.parts; omega) hkc hwc).mono ?_
        rintro e w5 ⟨rfl, hb⟩
        rw [show decide (ja = ja ∧ zs = zs) = true by simp]
        have hbx5 := hbx.trans (((hbz _ _).trans (hb.mono (hbz _ _).size)).mono hbx.size)
        have aE := ((aD.alloc _).alloc _).below hb (by have := aD.lt; simp; omega)
        have xB : Blk w5 w4.heap.size 27 #[.bool a, .slice none 0 0] := ((Blk.new w4 27 #[.bool a, .slice none 0 0]).alloc (.cells #[.string ⟨#[]⟩, .string ⟨#[]⟩] 34)).below hb (by first | (simp; done) | (simp; omega))
        have qB : Blk w5 (w4.heap.size + 1) 34 #[.string ⟨#[]⟩, .string ⟨#[]⟩] := by
          have h := Blk.new (w4.alloc (.cells #[.bool a, .slice none 0 0] 27)) 34 #[.string ⟨#[]⟩, .string ⟨#[]⟩]
          simpa using h.below hb (by first | (simp; done) | (simp; omega))
        clear a0 a1 la j0 j1 lj g0 g1 lg hb
        have a0 := aE.cell 0
        have a1 := aE.cell 1
        have la := aE.lt
        have x0 := xB.cell 0
        have x1 := xB.cell 1
        have lx := xB.lt
        have q0 := qB.cell 0
        have q1 := qB.cell 1
        have lq := qB.lt
        go_wp2
        go_returns
        exact ⟨rfl, hbx5⟩
      · obtain ⟨n, rfl⟩ : ∃ n', n = n' + 1 := ⟨n - 1, by omega⟩
        obtain ⟨xs, q, rfl⟩ : ∃ xs' q, xs = xs' ++ [q] := by
          rcases List.eq_nil_or_concat xs with h | ⟨l, x, h⟩
          · have := hA.parts; rw [h] at this; simp at this
          · exact ⟨l, x, by simpa using h⟩
        obtain ⟨bb, oo, rfl, hbb, hcq⟩ := hA.part (by omega)
        have lx : xs.length = n := by have := hA.parts; simp at this; omega
        obtain ⟨c0, c1⟩ := hcq n q (by rw [List.getElem?_append_right (by omega), lx]; simp)
        have e0 : decide ((0 : Int) < (n : Int) + 1) = true := (by first | (simp; done) | (simp; omega))
        have e4 : (n : Int) < (n : Int) + 1 := by omega
        have e5 : IntKind.i64.wrap (n : Int) = n := IntWalk.i64_in _ (by omega)
        have e6 : (0 : Int) ≤ n := by omega
        clear hcq
        have a0 := aC.cell 0
        have a1 := aC.cell 1
        have la := aC.lt
        go_wp2_with fail
        refine (base_some a (some ⟨bb, oo, none⟩) n c xs wc q ((hA.below hbw).more hbw.size) hnc (by omega)).mono ?_
        rintro e w4 ⟨R4, e4x, rfl, hown4, hb⟩
        have xo := hown4
        have hqe := own_cap hown4
        have hbx := hbw.trans (hb.mono hbw.size)
        have aD := aC.below hb aC.lt
        have jD := jC.below hb jC.lt
        have wD := wB.below hb wB.lt
        have jo2 := own_below jo hb
        have wr2 := (wr.below hb).more hb.size
        simp only [pv]
        clear a0 a1 la aC jC wB jo wr hbw hb
        have a0 := aD.cell 0
        have a1 := aD.cell 1
        have la := aD.lt
        have j0 := jD.cell 0
        have j1 := jD.cell 1
        have lj := jD.lt
        have g0 := wD.cell 0
        have g1 := wD.cell 1
        have lg := wD.lt
        go_wp2_with fail
        have hbz : ∀ o1 o2, Below w4.heap.size w4 ((w4.alloc o1).alloc o2) := fun o1 o2 => ((Below.refl _ _).alloc (Nat.le_refl _) _).alloc (by simp) _
        refine (same_ok ja ja R Wv k e' wn wcap zs zs _ ((Rd.of_own (own_below jo2 (hbz _ _)))) ((wr2.below (hbz _ _)).more (hbz _ _).size) (by have := (Rd.of_own jo2).parts; have := wr2.parts; omega) hkc hwc).mono ?_
        rintro e w5 ⟨rfl, hb⟩
        rw [show decide (ja = ja ∧ zs = zs) = true by simp]
        have hbx5 := hbx.trans (((hbz _ _).trans (hb.mono (hbz _ _).size)).mono hbx.size)
        have aE := ((aD.alloc _).alloc _).below hb (by have := aD.lt; simp; omega)
        have xB : Blk w5 w4.heap.size 27 #[.bool a, .slice R4 n e4x] := ((Blk.new w4 27 #[.bool a, .slice R4 n e4x]).alloc (.cells #[.string ⟨q.1.toArray⟩, .string ⟨q.2.toArray⟩] 34)).below hb (by first | (simp; done) | (simp; omega))
        have qB : Blk w5 (w4.heap.size + 1) 34 #[.string ⟨q.1.toArray⟩, .string ⟨q.2.toArray⟩] := by
          have h := Blk.new (w4.alloc (.cells #[.bool a, .slice R4 n e4x] 27)) 34 #[.string ⟨q.1.toArray⟩, .string ⟨q.2.toArray⟩]
          simpa using h.below hb (by first | (simp; done) | (simp; omega))
        have xo5 := own_below (own_below xo (hbz (.cells #[.bool a, .slice R4 n e4x] 27) (.cells #[.string ⟨q.1.toArray⟩, .string ⟨q.2.toArray⟩] 34))) hb
        have k0 := (hbx5.cell (p := ⟨bb, oo + n * 2, none⟩) hbb).trans c0
        have k1 := (hbx5.cell (p := ⟨bb, oo + n * 2 + 1, none⟩) hbb).trans c1
        clear a0 a1 la j0 j1 lj g0 g1 lg hb hown4 xo
        have a0 := aE.cell 0
        have a1 := aE.cell 1
        have la := aE.lt
        have x0 := xB.cell 0
        have x1 := xB.cell 1
        have lx1 := xB.lt
        have q0 := qB.cell 0
        have q1 := qB.cell 1
        have lq := qB.lt
        go_upto_region 14 with (fail)
        clear a0 a1 la x0 x1 lx1 q0 q1 lq
        refine wp_region_ord [0, 1, 2, 3, 4, 5, 6, 7, 8, 9, 10, 11, 12, 16, 13, 14, 15, 17, 18, 19] [0, 0, 0, 0, 0, 0, 0, 0, 0, 0, 0, 0, 0, 0, 1, 0, 1, 1, 0, 0] (fun W => Blk W w.heap.size 27 #[.bool a, .slice (some ⟨bb, oo, none⟩) (n + 1) c] ∧ Blk W w4.heap.size 27 #[.bool a, .slice R4 n e4x] ∧ Blk W (w4.heap.size + 1) 34 #[.string ⟨q.1.toArray⟩, .string ⟨q.2.toArray⟩] ∧ W.cell? ⟨bb, oo + n * 2, none⟩ = some (.string ⟨q.1.toArray⟩) ∧ W.cell? ⟨bb, oo + n * 2 + 1, none⟩ = some (.string ⟨q.2.toArray⟩)) (by kernel_rfl) (by kernel_rfl) ⟨aE.drew, xB.drew, qB.drew, k0, k1⟩ ?_
        iterate 14 (refine wpOrd_q (v := ?_) (by rfl) (fun W hW => ?_) ?_; rotate_left; (focus ((obtain ⟨hW1, hW2, hW3, hW4, hW5⟩ := hW; have h0 := hW1.cell 0; have h1 := hW1.cell 1; have hl1 := hW1.lt; have x0 := hW2.cell 0; have x1 := hW2.cell 1; have hl2 := hW2.lt; have q0 := hW3.cell 0; have q1 := hW3.cell 1; have hl3 := hW3.lt); go_simp; try with_reducible rfl)); try simp only [Act.put, List.setIfInBounds_toArray, List.set_cons_zero, List.set_cons_succ])
        refine wpOrd_x (by rfl) (fun K hK => ?_)
        go_simp
        have hb6 : Below w5.heap.size w5 ((w5.alloc (.cells #[.string ⟨q.1.toArray⟩, .string ⟨q.2.toArray⟩] 34)).drew) := ((Below.refl _ _).alloc (Nat.le_refl _) _).drew
        have hr6 : Rd ((w5.alloc (.cells #[.string ⟨q.1.toArray⟩, .string ⟨q.2.toArray⟩] 34)).drew) ((w5.alloc (.cells #[.string ⟨q.1.toArray⟩, .string ⟨q.2.toArray⟩] 34)).drew).heap.size 2 (some ⟨w5.heap.size, 0, none⟩) 1 (flat [q]) := (Rd.lit2 (Blk.new w5 34 #[.string ⟨q.1.toArray⟩, .string ⟨q.2.toArray⟩])).drew.more (by first | (simp; done) | (simp; omega))
        refine at_world (fun X => Below w5.heap.size w5 X ∧ Rd X X.heap.size 2 (some ⟨w5.heap.size, 0, none⟩) 1 (flat [q])) ⟨hb6, hr6⟩ (fun w6 hX => ?_)
        clear hb6 hr6
        obtain ⟨hb6, hr6⟩ := hX
        have hx6 := hbx5.trans (hb6.mono hbx5.size)
        have a6 := aE.below hb6 aE.lt
        have x6 := xB.below hb6 xB.lt
        have q6 := qB.below hb6 qB.lt
        have k06 := (hx6.cell (p := ⟨bb, oo + n * 2, none⟩) hbb).trans c0
        have k16 := (hx6.cell (p := ⟨bb, oo + n * 2 + 1, none⟩) hbb).trans c1
        refine hK (fun W => Blk W w.heap.size 27 #[.bool a, .slice (some ⟨bb, oo, none⟩) (n + 1) c] ∧ Blk W w4.heap.size 27 #[.bool a, .slice R4 n e4x] ∧ Blk W (w4.heap.size + 1) 34 #[.string ⟨q.1.toArray⟩, .string ⟨q.2.toArray⟩] ∧ W.cell? ⟨bb, oo + n * 2, none⟩ = some (.string ⟨q.1.toArray⟩) ∧ W.cell? ⟨bb, oo + n * 2 + 1, none⟩ = some (.string ⟨q.2.toArray⟩)) _ _ (fun _ h => h) ⟨a6, x6, q6, k06, k16⟩ ?_
        clear hK K
        try simp only [Act.put, List.setIfInBounds_toArray, List.set_cons_zero, List.set_cons_succ]
        iterate 1 (refine wpOrd_q (v := ?_) (by rfl) (fun W hW => ?_) ?_; rotate_left; (focus ((obtain ⟨hW1, hW2, hW3, hW4, hW5⟩ := hW; have h0 := hW1.cell 0; have h1 := hW1.cell 1; have hl1 := hW1.lt; have x0 := hW2.cell 0; have x1 := hW2.cell 1; have hl2 := hW2.lt; have q0 := hW3.cell 0; have q1 := hW3.cell 1; have hl3 := hW3.lt); go_simp; try with_reducible rfl)); try simp only [Act.put, List.setIfInBounds_toArray, List.set_cons_zero, List.set_cons_succ])
        refine wpOrd_x (by rfl) (fun K hK => ?_)
        go_simp
        refine (join_ok a false R4 (some ⟨w5.heap.size, 0, none⟩) n e4x 1 1 xs [q] w6 (Rd.of_own (own_below xo5 hb6)) hr6 (by omega) (by omega)).mono ?_
        rintro e w7 ⟨R5, k5, e5x, rfl, hown5, hb7⟩
        rw [if_neg (by decide)] at hown5 ⊢
        have hx7 := hx6.trans (hb7.mono hx6.size)
        have a7 := a6.below hb7 a6.lt
        have x7 := x6.below hb7 x6.lt
        have q7 := q6.below hb7 q6.lt
        have k07 := (hx7.cell (p := ⟨bb, oo + n * 2, none⟩) hbb).trans c0
        have k17 := (hx7.cell (p := ⟨bb, oo + n * 2 + 1, none⟩) hbb).trans c1
        refine hK (fun W => Blk W w.heap.size 27 #[.bool a, .slice (some ⟨bb, oo, none⟩) (n + 1) c] ∧ Blk W w4.heap.size 27 #[.bool a, .slice R4 n e4x] ∧ Blk W (w4.heap.size + 1) 34 #[.string ⟨q.1.toArray⟩, .string ⟨q.2.toArray⟩] ∧ W.cell? ⟨bb, oo + n * 2, none⟩ = some (.string ⟨q.1.toArray⟩) ∧ W.cell? ⟨bb, oo + n * 2 + 1, none⟩ = some (.string ⟨q.2.toArray⟩)) _ _ (fun _ h => h) ⟨a7, x7, q7, k07, k17⟩ ?_
        clear hK K
        try simp only [Act.put, List.setIfInBounds_toArray, List.set_cons_zero, List.set_cons_succ]
        refine wpOrd_x (by rfl) (fun K hK => ?_)
        go_simp
        refine (same_ok a a R5 (some ⟨bb, oo, none⟩) k5 e5x (n + 1) c (xs ++ [q]) (xs ++ [q]) w7 (Rd.of_own hown5) ((hA.below hx7).more hx7.size) (by have := (Rd.of_own hown5).parts; simp at this; omega) (own_cap hown5) hnc).mono ?_
        rintro e w8 ⟨rfl, hb8⟩
        rw [show decide (a = a ∧ xs ++ [q] = xs ++ [q]) = true by simp]
        have hx8 := hx7.trans (hb8.mono hx7.size)
        have a8 := a7.below hb8 a7.lt
        have x8 := x7.below hb8 x7.lt
        have q8 := q7.below hb8 q7.lt
        have k08 := (hx8.cell (p := ⟨bb, oo + n * 2, none⟩) hbb).trans c0
        have k18 := (hx8.cell (p := ⟨bb, oo + n * 2 + 1, none⟩) hbb).trans c1
        refine hK (fun W => Blk W w.heap.size 27 #[.bool a, .slice (some ⟨bb, oo, none⟩) (n + 1) c] ∧ Blk W w4.heap.size 27 #[.bool a, .slice R4 n e4x] ∧ Blk W (w4.heap.size + 1) 34 #[.string ⟨q.1.toArray⟩, .string ⟨q.2.toArray⟩] ∧ W.cell? ⟨bb, oo + n * 2, none⟩ = some (.string ⟨q.1.toArray⟩) ∧ W.cell? ⟨bb, oo + n * 2 + 1, none⟩ = some (.string ⟨q.2.toArray⟩)) _ _ (fun _ h => h) ⟨a8, x8, q8, k08, k18⟩ ?_
        clear hK K
        try simp only [Act.put, List.setIfInBounds_toArray, List.set_cons_zero, List.set_cons_succ]
        iterate 2 (refine wpOrd_q (v := ?_) (by rfl) (fun W hW => ?_) ?_; rotate_left; (focus ((obtain ⟨hW1, hW2, hW3, hW4, hW5⟩ := hW; have h0 := hW1.cell 0; have h1 := hW1.cell 1; have hl1 := hW1.lt; have x0 := hW2.cell 0; have x1 := hW2.cell 1; have hl2 := hW2.lt; have q0 := hW3.cell 0; have q1 := hW3.cell 1; have hl3 := hW3.lt); go_simp; try with_reducible rfl)); try simp only [Act.put, List.setIfInBounds_toArray, List.set_cons_zero, List.set_cons_succ])
        refine wpOrd_nil ?_
        go_wp2
        go_returns
        exact ⟨rfl, hx8⟩

set_option maxRecDepth 100000 in
theorem joins_long (hm : Mx w) (h : 50 < n ∨ 50 < m) :
    Calls Tryd.prog 4 #[.agg #[.bool a, .slice A n c], .agg #[.bool b, .slice B m d]] w fun e w' => e = .returned (.bool true) ∧ Below w.heap.size w w' := by
  go_enter Tryd.func4, Tryd.ntmps4
  go_wp2_with fail
  have hb0 : Below w.heap.size w ((w.alloc (.cells #[.bool a, .slice A n c] 27)).alloc (.cells #[.bool b, .slice B m d] 27)) := ((Below.refl _ _).alloc (Nat.le_refl _) _).alloc (by simp) _
  refine (awake_ok _ (hm.below' hb0)).mono ?_
  rintro e w1 ⟨rfl, hb⟩
  have hb1 := hb0.trans (hb.mono hb0.size)
  have aB1 : Blk w1 w.heap.size 27 #[.bool a, .slice A n c] := ((Blk.new w 27 #[.bool a, .slice A n c]).alloc _).below hb (by first | (simp; done) | (simp; omega))
  have bB1 : Blk w1 (w.heap.size + 1) 27 #[.bool b, .slice B m d] := by
    have h := Blk.new (w.alloc (.cells #[.bool a, .slice A n c] 27)) 27 #[.bool b, .slice B m d]
    simpa using h.below hb (by first | (simp; done) | (simp; omega))
  clear hb
  have a0 := aB1.cell 0
  have a1 := aB1.cell 1
  have b0 := bB1.cell 0
  have b1 := bB1.cell 1
  have la := aB1.lt
  have lb := bB1.lt
  by_cases h1 : 50 < n
  · have l1 : decide ((50 : Int) < n) = true := by simp; omega
    go_wp2
    go_returns
    exact ⟨rfl, hb1⟩
  · have l1 : decide ((50 : Int) < n) = false := by simp; omega
    have l2 : decide ((50 : Int) < m) = true := by simp; omega
    go_wp2
    go_returns
    exact ⟨rfl, hb1⟩

theorem joins_all (hm : Mx w) (hA : Rd w w.heap.size 2 A n (flat xs)) (hB : Rd w w.heap.size 2 B m (flat ys)) (hnc : n ≤ c) (hmd : m ≤ d) :
    Calls Tryd.prog 4 #[.agg #[.bool a, .slice A n c], .agg #[.bool b, .slice B m d]] w fun e w' => e = .returned (.bool true) ∧ Below w.heap.size w w' := by
  by_cases h : n ≤ 50 ∧ m ≤ 50
  · exact joins_ok a b A B n c m d xs ys w hm hA hB h.1 h.2 hnc hmd
  · exact joins_long a b A B n c m d w hm (by omega)
end
end Go.Proofs.YtkjgieehiimiiaaDoor

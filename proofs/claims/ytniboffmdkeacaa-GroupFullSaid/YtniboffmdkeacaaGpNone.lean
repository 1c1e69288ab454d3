/- GroupNone: the law, walked. -/
import Derived.Test.YtniboffmdkeacaaFsAwake
import Derived.Test.YtniboffmdkeacaaFsNone
import Derived.Test.YtniboffmdkeacaaSlim
namespace Go.Proofs.Ytniboffmdkeacaa
open Go.RowKit
set_option linter.unusedSimpArgs false
set_option linter.unusedVariables false

theorem wpList_take {P : Program} {ops : Array Oper} {Q : Exit → Act → World → Prop} {a : Act} {w : World} {rest : List Oper} {d : Option Tmp} {op : Op} {k : TypeId} {p : String} {f : Array Edge} {j : Nat} {b : Bool}
    (hw : yielded ops a.tmps j = some b) (h : wpList P ops Q (⟨d, op, k, p, f, none⟩ :: rest) a w) : wpList P ops Q (⟨d, op, k, p, f, some (j, b)⟩ :: rest) a w := by
  unfold wpList at h ⊢
  have h1 : Region.wanted ⟨d, op, k, p, f, some (j, b)⟩ (yielded ops a.tmps) = true := by simp [Region.wanted, hw]
  rw [if_pos h1]
  have h2 : Region.wanted ⟨d, op, k, p, f, none⟩ (yielded ops a.tmps) = true := rfl
  rw [if_pos h2] at h
  exact h

section
variable {m : UInt8} {H : List UInt8} {A : Option Addr} {n c : Nat} {T : List UInt8} {w : World}
set_option maxRecDepth 100000 in
set_option maxHeartbeats 4000000 in
theorem none_all (hH : H.length = 25) (hT : Rd w w.heap.size 1 A n (bvs T)) (hnm : n ≤ 9223372036854775807) (lab num nn : Int) :
    Calls Try.prog 3 #[.agg (szCells m H A n c), .int .i64 lab, .int .i64 num, .int .u16 nn] w fun e w' => e = .returned (.bool true) ∧ Below w.heap.size w w' := by
  have hsz : (szCells m H A n c).size = 27 := szCells_size hH
  go_enter Try.func3, Try.ntmps3
  go_upto_region 1 with (fail)
  refine at_world (fun W => ∃ bx, bx = w.heap.size ∧ Below w.heap.size w W ∧ Blk W bx 26 (szCells m H A n c)) ⟨_, rfl, (Below.refl _ _).alloc (Nat.le_refl _) _, Blk.new _ _ _⟩ (fun w1 h1 => ?_)
  obtain ⟨bx, hbx, hb1, hX1⟩ := h1
  rw [← hbx]
  have hS : ((Try.prog.info? 26).map (·.size)) = some (szCells m H A n c).size := by rw [hsz]; kernel_rfl
  have HS := hide hS
  have HB1 := hide hb1
  have HX1 := hide hX1
  clear hbx hX1 hS hsz hb1
  go_wp2_with fail
  refine (awake7_ok w1).mono ?_
  rintro e w2 ⟨rfl, hb2⟩
  have HX2 := hide (HX1.out.below hb2 HX1.out.lt)
  have HB2 := hide (HB1.out.trans (hb2.mono HB1.out.size))
  have HT2 := hide ((hT.below HB2.out).more HB2.out.size)
  have HH := hide (And.intro hH hnm)
  clear hb2 HX1 HB1 hT hH hnm
  go_wp2_with (first | (refine wpList_load_row rfl 26 (.tmp 4) (by rfl) bx (by rfl) 26 (szCells m H A n c) (0, 0) _ HX2.out Try.underlying26 rfl HS.out ?_) | fail)
  refine (size_conf (w := w2) HH.out.1 HT2.out HH.out.2).mono ?_
  rintro e w3 ⟨cc, K, tb, nb, lb, B1, B2, B3, d1, d2, d3, rfl, hb3, hin, hK⟩
  obtain ⟨n0, hF⟩ := sz_facts (m := m) (H := H) hin.ok
  have hbeg := begun_ok (w := w3) hin hF.tot hF.ge hF.le
  have HIN := hide hin
  have HF := hide hF
  have HB3 := hide (HB2.out.trans (hb3.mono HB2.out.size))
  generalize szRegs m H = R at *
  clear hin hK hF hb3 HX2 HB2 HT2 HS HH
  go_wp2_with fail
  refine hbeg.mono ?_
  rintro e w4 ⟨i, rfl, hx, hown, -, hb4⟩
  have hin4 := HIN.out.below hb4
  have HIN4 := hide hin4
  have HB4 := hide (HB3.out.trans (hb4.mono HB3.out.size))
  clear hx hown hb4 hin4 hbeg HIN HB3
  have hopen : ∃ (x : Int), x = (if hasB R lab then 0 else 27) ∧ Calls Try.prog 8 #[.pointer (some ⟨i.tt, 0, none⟩), .pointer (some ⟨cc, 0, none⟩), .int .i64 lab] w4 fun e w' => (∃ p : Option Addr, e = .returned (.tuple #[.pointer p, .int .i64 x])) ∧ Below w4.heap.size w4 w' := by
    cases hb : hasB R lab with
    | false =>
      refine ⟨27, by simp, (gopen_no HIN4.out hb).mono ?_⟩
      rintro e w' ⟨rfl, h⟩
      exact ⟨⟨none, rfl⟩, h⟩
    | true =>
      obtain ⟨k, r, rfl, hr, hk⟩ := hasB_nat hb
      obtain ⟨v, r', hv, _, hgo, hval, _⟩ := HF.out.geo k hk
      refine ⟨0, by simp, (gopen_yes HIN4.out hv hval).mono ?_⟩
      rintro e w' ⟨gg, rfl, _, _, h⟩
      exact ⟨⟨_, rfl⟩, h⟩
  obtain ⟨x, hx, hopen⟩ := hopen
  have HXE := hide hx
  clear hx
  go_wp2_with fail
  refine hopen.mono ?_
  rintro e w5 ⟨⟨p, rfl⟩, hb5⟩
  have hin5 := HIN4.out.below hb5
  have HIN5 := hide hin5
  have HB5 := hide (HB4.out.trans (hb5.mono HB4.out.size))
  clear hopen hb5 hin5 HIN4 HB4
  go_wp2_with fail
  refine (gopen_nil_txn HIN5.out).mono ?_
  rintro e w6 ⟨rfl, hb6⟩
  have HIN6 := hide (HIN5.out.below hb6)
  have HB6 := hide (HB5.out.trans (hb6.mono HB5.out.size))
  clear hb6 HIN5 HB5
  go_wp2_with fail
  refine (gopen_nil_conf w6).mono ?_
  rintro e w7 ⟨rfl, hb7⟩
  have HIN7 := hide (HIN6.out.below hb7)
  have HB7 := hide (HB6.out.trans (hb7.mono HB6.out.size))
  clear hb7 HIN6 HB6
  go_wp2_with fail
  refine (none_take w7).mono ?_
  rintro e w_ ⟨rfl, rfl⟩
  go_wp2_with fail
  refine (none_get w7 nn).mono ?_
  rintro e w8 ⟨rfl, hb8⟩
  have HIN8 := hide (HIN7.out.below hb8)
  have HB8 := hide (HB7.out.trans (hb8.mono HB7.out.size))
  clear hb8 HIN7 HB7
  go_upto_region 11 with (first | ((with_reducible refine at_alloc 43 ?_); refine wpList_alloc_as rfl 43 rfl _ (zero_block _) ?_) | ((with_reducible refine at_store 43 (.tmp 22) (.tmp 74) ?_); refine wpList_store_blk rfl 43 (.tmp 22) (.tmp 74) rfl w8.heap.size 43 _ _ (by rfl) (by rfl) (Blk.new _ _ _) (size_blockOf zeroB_length) ((bvs_size zeroB_length).trans (bvs_size zeroB_length).symm) (bvs_oneCell _) (fun _ => ?_)) | fail)
  refine at_world (fun W => ∃ g, g = w8.heap.size ∧ Below w.heap.size w W ∧ Blk W g 43 (bvs zeroB).toArray ∧ ConfIn w2.heap.size W cc R K tb nb lb B1 B2 B3 d1 d2 d3) ⟨_, rfl, below_setRow (HB8.out.alloc HB8.out.size _) HB8.out.size _, (Blk.new _ _ _).setRow_same _, HIN8.out.below (below_setRow ((Below.refl _ _).alloc (Nat.le_refl _) _) (Nat.le_refl _) _)⟩ (fun w9 h9 => ?_)
  obtain ⟨g, hg, hb9, hG9, hin9⟩ := h9
  rw [← hg]
  have HIN9 := hide hin9
  have HB9 := hide hb9
  have HG9 := hide hG9
  have HG := hide (show w.heap.size ≤ g from by rw [hg]; exact HB8.out.size)
  clear hg hb9 hG9 hin9 HIN8 HB8
  go_wp2_with fail
  refine (none_node w9 num).mono ?_
  rintro e w10 ⟨rfl, hb10⟩
  have HIN10 := hide (HIN9.out.below hb10)
  have HB10 := hide (HB9.out.trans (hb10.mono HB9.out.size))
  have HG10 := hide (HG9.out.below hb10 HG9.out.lt)
  clear hb10 HIN9 HB9 HG9
  go_upto_region 12 with (first | ((with_reducible refine at_alloc 50 ?_); refine wpList_alloc_as rfl 50 rfl _ (zero_node _) ?_) | ((with_reducible refine at_store 50 (.tmp 24) (.tmp 80) ?_); refine wpList_store_blk rfl 50 (.tmp 24) (.tmp 80) rfl w10.heap.size _ _ _ (by rfl) (by rfl) (Blk.new _ _ _) (size_nodeOf (n := NodeV.zero) rfl) rfl (NodeV.cells_one NodeV.zero) (fun _ => ?_)) | fail)
  refine at_world (fun W => ∃ q, q = w10.heap.size ∧ Below w.heap.size w W ∧ Blk W g 43 (bvs zeroB).toArray ∧ Blk W q 50 NodeV.zero.cells.toArray ∧ ConfIn w2.heap.size W cc R K tb nb lb B1 B2 B3 d1 d2 d3) ⟨_, rfl, below_setRow (HB10.out.alloc HB10.out.size _) HB10.out.size _, (HG10.out.alloc _).setRow_far (Nat.ne_of_lt HG10.out.lt) _, (Blk.new _ _ _).setRow_same _, HIN10.out.below (below_setRow ((Below.refl _ _).alloc (Nat.le_refl _) _) (Nat.le_refl _) _)⟩ (fun w11 h11 => ?_)
  obtain ⟨q, hq, hb11, hG11, hQ11, hin11⟩ := h11
  rw [← hq]
  have HIN11 := hide hin11
  have HB11 := hide hb11
  have HG11 := hide hG11
  have HQ11 := hide hQ11
  clear hq hb11 hG11 hQ11 hin11 HIN10 HB10 HG10
  go_wp2_with fail
  refine (none_make w11 1).mono ?_
  rintro e w_ ⟨rfl, rfl⟩
  go_wp2_with fail
  refine (none_link w11 1 1).mono ?_
  rintro e w_ ⟨rfl, rfl⟩
  go_wp2_with fail
  refine (none_usage w11).mono ?_
  rintro e w_ ⟨rfl, rfl⟩
  go_wp2_with fail
  refine (none_ino w11 num).mono ?_
  rintro e w12 ⟨rfl, hb12⟩
  have HIN12 := hide (HIN11.out.below hb12)
  have HB12 := hide (HB11.out.trans (hb12.mono HB11.out.size))
  have HG12 := hide (HG11.out.below hb12 HG11.out.lt)
  have HQ12 := hide (HQ11.out.below hb12 HQ11.out.lt)
  clear hb12 HIN11 HB11 HG11 HQ11
  go_upto_region 16 with fail
  refine at_world (fun W => ∃ r, r = w12.heap.size ∧ Below w.heap.size w W ∧ Blk W g 43 (bvs zeroB).toArray ∧ Blk W q 50 NodeV.zero.cells.toArray ∧ Blk W r 59 #[.int .u8 0, .int .u16 0, .int .u16 0] ∧ ConfIn w2.heap.size W cc R K tb nb lb B1 B2 B3 d1 d2 d3) ⟨_, rfl, HB12.out.alloc HB12.out.size _, HG12.out.alloc _, HQ12.out.alloc _, Blk.new _ _ _, HIN12.out.below ((Below.refl _ _).alloc (Nat.le_refl _) _)⟩ (fun w13 h13 => ?_)
  obtain ⟨r, hr, hb13, hG13, hQ13, hR13, hin13⟩ := h13
  rw [← hr]
  have HIN13 := hide hin13
  have HB13 := hide hb13
  have HG13 := hide hG13
  have HQ13 := hide hQ13
  have HR13 := hide hR13
  clear hr hb13 hG13 hQ13 hR13 hin13 HIN12 HB12 HG12 HQ12
  have hcase : (decide (0 ≤ lab) = true ∧ decide (lab < (R.length : Int)) = true ∧ x = 0) ∨ (decide (0 ≤ lab) = true ∧ decide (lab < (R.length : Int)) = false ∧ x = 27) ∨ (decide (0 ≤ lab) = false ∧ x = 27) := by
    rw [HXE.out]
    by_cases h0 : 0 ≤ lab
    · by_cases h1 : lab < (R.length : Int)
      · exact .inl ⟨by simpa using h0, by simpa using h1, by simp [hasB, h0, h1]⟩
      · exact .inr (.inl ⟨by simpa using h0, by simpa using h1, by simp [hasB, h1]⟩)
    · exact .inr (.inr ⟨by simpa using h0, by simp [hasB, h0]⟩)
  clear HXE
  rcases hcase with ⟨k0, k1, rfl⟩ | ⟨k0, k1, rfl⟩ | ⟨k0, rfl⟩
  rotate_left 2
  · go_upto_region 17 with (fail)
    refine wp_region_slim ?_
    simp only [List.cons_append, List.nil_append, List.append, List.map_cons, List.map_nil, tinyO, bareO]
    have HC3 := hide (HR13.out.cell 0)
    have c0 := HR13.out.cell 0
    have f0 := HR13.out.frozen 0
    have c1 := HR13.out.cell 1
    have f1 := HR13.out.frozen 1
    have c2 := HR13.out.cell 2
    have f2 := HR13.out.frozen 2
    have cl := HR13.out.lt
    go_wp2_with (first | (refine wpList_take (by kernel_rfl) ?_) | ((with_reducible refine at_load 43 (.tmp 22) ?_); refine wpList_load_blk rfl 43 (.tmp 22) rfl g 43 _ _ (by rfl) HG13.out Try.underlying43 rfl (size_blockOf zeroB_length) ?_) | ((with_reducible refine at_load 50 (.tmp 24) ?_); refine wpList_load_blk rfl 50 (.tmp 24) rfl q _ _ _ (by rfl) HQ13.out Try.underlying50 rfl (size_nodeOf (n := NodeV.zero) rfl) ?_) | ((with_reducible refine at_build 43 #[] ?_); refine wpList_zero_as rfl 43 rfl _ (build_block _) ?_) | ((with_reducible refine at_build 50 #[] ?_); refine wpList_zero_as rfl 50 rfl _ (build_node _) ?_) | ((with_reducible refine at_binop .eql 43 (.tmp 140) (.tmp 141) 43 ?_); refine wpList_run rfl _ (exec_eql_agg 43 (.tmp 140) (.tmp 141) 43 rfl _ _ rfl rfl (by kernel_rfl) _ (block_eq _ zeroB_length zeroB_length)) ?_) | ((with_reducible refine at_binop .eql 50 (.tmp 149) (.tmp 150) 50 ?_); refine wpList_run rfl _ (exec_eql_agg 50 (.tmp 149) (.tmp 150) 50 rfl _ _ rfl rfl (by kernel_rfl) _ (node_eq _ (a := NodeV.zero) (b := NodeV.zero) rfl rfl)) ?_) | fail)
    refine (none_give w13 nn).mono ?_
    rintro e w_ ⟨rfl, rfl⟩
    go_wp2_with (first | (refine wpList_take (by kernel_rfl) ?_) | ((with_reducible refine at_load 43 (.tmp 22) ?_); refine wpList_load_blk rfl 43 (.tmp 22) rfl g 43 _ _ (by rfl) HG13.out Try.underlying43 rfl (size_blockOf zeroB_length) ?_) | ((with_reducible refine at_load 50 (.tmp 24) ?_); refine wpList_load_blk rfl 50 (.tmp 24) rfl q _ _ _ (by rfl) HQ13.out Try.underlying50 rfl (size_nodeOf (n := NodeV.zero) rfl) ?_) | ((with_reducible refine at_build 43 #[] ?_); refine wpList_zero_as rfl 43 rfl _ (build_block _) ?_) | ((with_reducible refine at_build 50 #[] ?_); refine wpList_zero_as rfl 50 rfl _ (build_node _) ?_) | ((with_reducible refine at_binop .eql 43 (.tmp 140) (.tmp 141) 43 ?_); refine wpList_run rfl _ (exec_eql_agg 43 (.tmp 140) (.tmp 141) 43 rfl _ _ rfl rfl (by kernel_rfl) _ (block_eq _ zeroB_length zeroB_length)) ?_) | ((with_reducible refine at_binop .eql 50 (.tmp 149) (.tmp 150) 50 ?_); refine wpList_run rfl _ (exec_eql_agg 50 (.tmp 149) (.tmp 150) 50 rfl _ _ rfl rfl (by kernel_rfl) _ (node_eq _ (a := NodeV.zero) (b := NodeV.zero) rfl rfl)) ?_) | fail)
    refine (none_put w13 nn zeroB).mono ?_
    rintro e w14 ⟨rfl, hb14⟩
    have HQ14 := hide (HQ13.out.below hb14 HQ13.out.lt)
    have HB14 := hide (HB13.out.trans (hb14.mono HB13.out.size))
    clear hb14 c0 c1 c2 f0 f1 f2 cl HC3 HG13 HQ13 HR13 HB13 HIN13
    go_wp2_with (first | (refine wpList_take (by kernel_rfl) ?_) | ((with_reducible refine at_load 50 (.tmp 24) ?_); refine wpList_load_blk rfl 50 (.tmp 24) rfl q _ _ _ (by rfl) HQ14.out Try.underlying50 rfl (size_nodeOf (n := NodeV.zero) rfl) ?_) | fail)
    refine (none_set w14 num NodeV.zero).mono ?_
    rintro e w15 ⟨rfl, hb15⟩
    have HB15 := hide (HB14.out.trans (hb15.mono HB14.out.size))
    clear hb15 HB14 HQ14
    go_wp2_with fail
    refine (none_wipe w15 num).mono ?_
    rintro e w16 ⟨rfl, hb16⟩
    have HB16 := hide (HB15.out.trans (hb16.mono HB15.out.size))
    clear hb16 HB15
    go_wp2_with fail
    refine (none_lab w16).mono ?_
    rintro e w_ ⟨rfl, rfl⟩
    go_wp2
    go_returns
    exact ⟨rfl, HB16.out⟩
  all_goals
    go_wp2_with fail
    refine (len_ok HIN13.out).mono ?_
    rintro e w_ ⟨rfl, hw_⟩
    have hw_ := hw_.symm
    subst hw_
    go_upto_region 17 with (fail)
    refine wp_region_slim ?_
    simp only [List.cons_append, List.nil_append, List.append, List.map_cons, List.map_nil, tinyO, bareO]
    have HC3 := hide (HR13.out.cell 0)
    have c0 := HR13.out.cell 0
    have f0 := HR13.out.frozen 0
    have c1 := HR13.out.cell 1
    have f1 := HR13.out.frozen 1
    have c2 := HR13.out.cell 2
    have f2 := HR13.out.frozen 2
    have cl := HR13.out.lt
    go_wp2_with (first | (refine wpList_take (by kernel_rfl) ?_) | ((with_reducible refine at_load 43 (.tmp 22) ?_); refine wpList_load_blk rfl 43 (.tmp 22) rfl g 43 _ _ (by rfl) HG13.out Try.underlying43 rfl (size_blockOf zeroB_length) ?_) | ((with_reducible refine at_load 50 (.tmp 24) ?_); refine wpList_load_blk rfl 50 (.tmp 24) rfl q _ _ _ (by rfl) HQ13.out Try.underlying50 rfl (size_nodeOf (n := NodeV.zero) rfl) ?_) | ((with_reducible refine at_build 43 #[] ?_); refine wpList_zero_as rfl 43 rfl _ (build_block _) ?_) | ((with_reducible refine at_build 50 #[] ?_); refine wpList_zero_as rfl 50 rfl _ (build_node _) ?_) | ((with_reducible refine at_binop .eql 43 (.tmp 140) (.tmp 141) 43 ?_); refine wpList_run rfl _ (exec_eql_agg 43 (.tmp 140) (.tmp 141) 43 rfl _ _ rfl rfl (by kernel_rfl) _ (block_eq _ zeroB_length zeroB_length)) ?_) | ((with_reducible refine at_binop .eql 50 (.tmp 149) (.tmp 150) 50 ?_); refine wpList_run rfl _ (exec_eql_agg 50 (.tmp 149) (.tmp 150) 50 rfl _ _ rfl rfl (by kernel_rfl) _ (node_eq _ (a := NodeV.zero) (b := NodeV.zero) rfl rfl)) ?_) | fail)
    refine (none_give w13 nn).mono ?_
    rintro e w_ ⟨rfl, rfl⟩
    go_wp2_with (first | (refine wpList_take (by kernel_rfl) ?_) | ((with_reducible refine at_load 43 (.tmp 22) ?_); refine wpList_load_blk rfl 43 (.tmp 22) rfl g 43 _ _ (by rfl) HG13.out Try.underlying43 rfl (size_blockOf zeroB_length) ?_) | ((with_reducible refine at_load 50 (.tmp 24) ?_); refine wpList_load_blk rfl 50 (.tmp 24) rfl q _ _ _ (by rfl) HQ13.out Try.underlying50 rfl (size_nodeOf (n := NodeV.zero) rfl) ?_) | ((with_reducible refine at_build 43 #[] ?_); refine wpList_zero_as rfl 43 rfl _ (build_block _) ?_) | ((with_reducible refine at_build 50 #[] ?_); refine wpList_zero_as rfl 50 rfl _ (build_node _) ?_) | ((with_reducible refine at_binop .eql 43 (.tmp 140) (.tmp 141) 43 ?_); refine wpList_run rfl _ (exec_eql_agg 43 (.tmp 140) (.tmp 141) 43 rfl _ _ rfl rfl (by kernel_rfl) _ (block_eq _ zeroB_length zeroB_length)) ?_) | ((with_reducible refine at_binop .eql 50 (.tmp 149) (.tmp 150) 50 ?_); refine wpList_run rfl _ (exec_eql_agg 50 (.tmp 149) (.tmp 150) 50 rfl _ _ rfl rfl (by kernel_rfl) _ (node_eq _ (a := NodeV.zero) (b := NodeV.zero) rfl rfl)) ?_) | fail)
    refine (none_put w13 nn zeroB).mono ?_
    rintro e w14 ⟨rfl, hb14⟩
    have HQ14 := hide (HQ13.out.below hb14 HQ13.out.lt)
    have HB14 := hide (HB13.out.trans (hb14.mono HB13.out.size))
    clear hb14 c0 c1 c2 f0 f1 f2 cl HC3 HG13 HQ13 HR13 HB13 HIN13
    go_wp2_with (first | (refine wpList_take (by kernel_rfl) ?_) | ((with_reducible refine at_load 50 (.tmp 24) ?_); refine wpList_load_blk rfl 50 (.tmp 24) rfl q _ _ _ (by rfl) HQ14.out Try.underlying50 rfl (size_nodeOf (n := NodeV.zero) rfl) ?_) | fail)
    refine (none_set w14 num NodeV.zero).mono ?_
    rintro e w15 ⟨rfl, hb15⟩
    have HB15 := hide (HB14.out.trans (hb15.mono HB14.out.size))
    clear hb15 HB14 HQ14
    go_wp2_with fail
    refine (none_wipe w15 num).mono ?_
    rintro e w16 ⟨rfl, hb16⟩
    have HB16 := hide (HB15.out.trans (hb16.mono HB15.out.size))
    clear hb16 HB15
    go_wp2_with fail
    refine (none_lab w16).mono ?_
    rintro e w_ ⟨rfl, rfl⟩
    go_wp2
    go_returns
    exact ⟨rfl, HB16.out⟩
end
end Go.Proofs.Ytniboffmdkeacaa

/- Configurations: a label that is added. -/
import Derived.Test.YtoeejeieplhifaaConfAt
namespace Go.Proofs.Ytoeejeieplhifaa
open Go.RowKit Go.WideMaps
set_option linter.unusedSimpArgs false
set_option linter.unusedVariables false

theorem info_reg : (Try.prog.info? 43).map (fun i => (i.zero, i.size, i.bytes)) = some (some (.agg #[.string ByteArray.empty, .int .u8 0, .int .u16 0, .int .i64 0, .int .i64 0, .int .i64 0, .int .i64 0, .int .i64 0, .int .i64 0]), 9, 72) := by kernel_rfl
theorem info_geo : (Try.prog.info? 112).map (fun i => (i.zero, i.size, i.bytes)) = some (some (.agg #[.int .i64 0, .int .i64 0, .int .i64 0, .int .i64 0, .int .i64 0, .int .i64 0]), 6, 48) := by kernel_rfl
theorem okr_snoc {R : List RegV} {s : ByteArray} {lv : UInt8} {ct : UInt16} {b n f p q cl : Int} (h : ∀ r ∈ R, okReg r) (hn : nameB s.data.toList = true) (hs : soundC b n f p q = true) : ∀ r ∈ R ++ [(⟨s.data.toList, lv, ct, b, n, f, p, q, cl⟩ : RegV)], okReg r := by
  simp only [soundC, inB, Bool.and_eq_true, decide_eq_true_eq] at hs
  intro r hr
  rcases List.mem_append.1 hr with h' | h'
  · exact h r h'
  · simp only [List.mem_singleton] at h'
    subst h'
    exact ⟨hn, hs.1.1, hs.1.2, hs.2.1.1, hs.2.1.2⟩
theorem AddSt.done {B : Nat} {X W3 : World} {c rb gb : Nat} {cc rc gc : Array Value} {K : List MarkV} {R : List RegV} {r : RegV} {GV : GeoV} {tb nb lb : Nat} {A1 A2 A3 : Option Addr} {c1 c2 c3 : Nat} (st : AddSt B X c rb gb cc rc gc K (trustL K) (namesFrom 0 (R ++ [r])) (labelsFrom 0 (R ++ [r])) tb nb lb A2 c2)
    (o3 : X.ownsRow B 112 6 (.slice A3 ((geosOf 32 R).length + 1) c3) ((geosOf 32 R).length + 1) (gcellsOf (geosOf 32 R) ++ (geoOf (totalOf 32 R) r).cells))
    (o1 : X.ownsRow B 43 9 (.slice A1 (R.length + 1) c1) (R.length + 1) (rcellsOf R ++ r.cells))
    (hblk : Blk W3 c 125 #[.slice A1 (R.length + 1) c1, .map (some tb), .slice A2 K.length c2, .map (some nb), .map (some lb), .slice A3 ((geosOf 32 R).length + 1) c3, .int .i64 (geoOf (totalOf 32 R) r).end_])
    (far : ∀ g, g ≠ c → W3.heap[g]? = X.heap[g]?) (hN : B ≤ c ∧ B ≤ tb ∧ B ≤ nb ∧ B ≤ lb ∧ tb ≠ nb ∧ tb ≠ lb ∧ nb ≠ lb) (ok : ∀ x ∈ R ++ [r], okReg x) :
    ConfIn B W3 c (R ++ [r]) K tb nb lb A1 A2 A3 c1 c2 c3 := by
  refine ⟨⟨?_, ?_, ?_, ?_, ?_, ?_, ?_, hN.1, hN.2.1, hN.2.2.1, hN.2.2.2.1, hN.2.2.2.2.1, hN.2.2.2.2.2.1, hN.2.2.2.2.2.2⟩, ok⟩
  · rw [geosOf_snoc, totalOf_snoc, List.length_append, List.length_append]
    exact hblk
  · rw [rcellsOf_snoc, List.length_append]
    exact own_keep o1 fun g hg => far g fun e => blk_not_own st.cB o1 (by decide) (e ▸ hg)
  · exact own_keep st.marks fun g hg => far g fun e => blk_not_own st.cB st.marks (by decide) (e ▸ hg)
  · rw [geosOf_snoc, gcellsOf_snoc, List.length_append]
    exact own_keep o3 fun g hg => far g fun e => blk_not_own st.cB o3 (by decide) (e ▸ hg)
  · exact st.tr.keep (far tb fun e => blk_not_map st.cB st.tr.is e.symm)
  · exact st.nm.keep (far nb fun e => blk_not_map st.cB st.nm.is e.symm)
  · exact st.lm.keep (far lb fun e => blk_not_map st.cB st.lm.is e.symm)

section
variable {B : Nat} {w w' : World} {c : Nat} {R : List RegV} {K : List MarkV} {tb nb lb : Nat} {A1 A2 A3 : Option Addr} {c1 c2 c3 : Nat}

set_option maxRecDepth 100000 in
set_option maxHeartbeats 4000000 in
set_option pp.deepTerms true in
set_option pp.maxSteps 100000 in
theorem add_fine (hB : B ≤ w.heap.size) (h : ConfIn B w c R K tb nb lb A1 A2 A3 c1 c2 c3) (s : ByteArray) (lv : UInt8) (ct : UInt16) (b n f p q cl many : Int) (i : Nat) (hn : nameB s.data.toList = true) (h1 : -9000000000000000000 ≤ many) (h2 : many ≤ 9000000000000000000)
    (hr : (decide (lv ≤ 15) && (soundC b n f p q && inB cl 0 (many - 1))) = true) (ht : s.data.toList ∉ R.map (·.name)) (ht2 : (lv, ct) ∉ R.map (fun x => (x.lev, x.cats))) (hi : i = R.length) (h64 : i < 64) :
    Calls Try.prog 70 #[.pointer (some ⟨c, 0, none⟩), .int .i64 (i : Int), .agg #[.string s, .int .u8 (lv.toNat : Int), .int .u16 (ct.toNat : Int), .int .i64 b, .int .i64 n, .int .i64 f, .int .i64 p, .int .i64 q, .int .i64 cl], .int .i64 many] w fun e w' => e = .returned (.int .i64 0) ∧ Below B w w' ∧
      ∃ A1' A3' c1' c3', ConfIn B w' c (R ++ [⟨s.data.toList, lv, ct, b, n, f, p, q, cl⟩]) K tb nb lb A1' A2 A3' c1' c2 c3' := by
  have hcw : c < w.heap.size := h.blk.lt
  have HL1 := hide h.regs.lt
  have HL3 := hide h.geos.lt
  have hv2 := labels_none ht2
  have HLL : Hid (∀ (u : World), MapR dkv u lb (labelsFrom 0 R) → ∀ W, Below u.heap.size u W → (Instr.lookup 122 (.map (some lb)) (.agg #[.int .u8 (lv.toNat : Int), .int .u16 (ct.toNat : Int)]) true).run Try.prog W = .ok (.tuple #[.int .i64 0, .bool false]) W) := hide fun u hu W hW => look_labels hu lv ct (by rw [hv2]; rfl) (by rw [hv2]; rfl) W hW
  have HV2 := hide hv2
  have HI := hide hi
  clear hv2 ht2 hi
  have hsm : s.size ≤ maxLen := by have := name_short hn; have := sz s; simp only [maxLen]; omega
  have hl : decide (lv ≤ 15) = true := by simp only [Bool.and_eq_true] at hr; exact hr.1
  have hs : soundC b n f p q = true := by simp only [Bool.and_eq_true] at hr; exact hr.2.1
  have hcl : inB cl 0 (many - 1) = true := by simp only [Bool.and_eq_true] at hr; exact hr.2.2
  clear hr
  go_enter Try.func70, Try.ntmps70
  go_wp2_with fail
  refine (name_ok _ _).mono ?_
  rw [hn]
  rintro e w1 ⟨rfl, hb⟩
  refine at_world (fun W => Below w.heap.size w W ∧ Blk W w.heap.size 43 #[.string s, .int .u8 (lv.toNat : Int), .int .u16 (ct.toNat : Int), .int .i64 b, .int .i64 n, .int .i64 f, .int .i64 p, .int .i64 q, .int .i64 cl] ∧ ConfIn B W c R K tb nb lb A1 A2 A3 c1 c2 c3) ⟨((Below.refl w.heap.size w).alloc (Nat.le_refl _) _).trans (hb.mono (by simp)), (Blk.new w _ _).below hb (by simp), h.below (((Below.refl w.heap.size w).alloc (Nat.le_refl _) _).trans (hb.mono (by simp)))⟩ (fun W1 h9 => ?_)
  clear h
  obtain ⟨hb1, rB, h⟩ := h9
  have x0 := rB.cell 0
  have x1 := rB.cell 1
  have x2 := rB.cell 2
  have x3 := rB.cell 3
  have x4 := rB.cell 4
  have x5 := rB.cell 5
  have x6 := rB.cell 6
  have x7 := rB.cell 7
  have x8 := rB.cell 8
  have xl := rB.lt
  have HB := hide hb1
  have hbn := hb1.size
  clear hb hb1
  go_wp2_with fail
  refine (label_valid _ _ _).mono ?_
  rw [hl]
  rintro e w2 ⟨rfl, hb⟩
  have hb1 := HB.out.trans (hb.mono HB.out.size)
  have rB' := rB.below hb rB.lt
  have h' := h.below hb
  clear x0 x1 x2 x3 x4 x5 x6 x7 x8 xl
  clear HB rB hb h
  have rB := rB'
  have h := h'
  clear rB' h'
  have x0 := rB.cell 0
  have x1 := rB.cell 1
  have x2 := rB.cell 2
  have x3 := rB.cell 3
  have x4 := rB.cell 4
  have x5 := rB.cell 5
  have x6 := rB.cell 6
  have x7 := rB.cell 7
  have x8 := rB.cell 8
  have xl := rB.lt
  have HB := hide hb1
  clear hb1
  clear hl
  go_wp2_with fail
  refine (sound_ok _ _ _ _ _ _ _ _ _ _).mono ?_
  rw [hs]
  rintro e w3 ⟨rfl, hb⟩
  have hb1 := HB.out.trans (hb.mono HB.out.size)
  have rB' := rB.below hb rB.lt
  have h' := h.below hb
  clear x0 x1 x2 x3 x4 x5 x6 x7 x8 xl
  clear HB rB hb h
  have rB := rB'
  have h := h'
  clear rB' h'
  have x0 := rB.cell 0
  have x1 := rB.cell 1
  have x2 := rB.cell 2
  have x3 := rB.cell 3
  have x4 := rB.cell 4
  have x5 := rB.cell 5
  have x6 := rB.cell 6
  have x7 := rB.cell 7
  have x8 := rB.cell 8
  have xl := rB.lt
  have HB := hide hb1
  clear hb1
  have HS := hide hs
  clear hs
  have hw : wrap64 (many - 1) = many - 1 := IntWalk.wrap64_in _ (by omega)
  go_wp2_with fail
  refine (within_ok _ _ _ _).mono ?_
  rw [hcl]
  rintro e w4 ⟨rfl, rfl⟩
  clear hcl hw
  go_wp2_with fail
  have hv : mget (namesFrom 0 R) (sk s hsm) = none := names_none h.ok hsm ht
  have HLK : Hid (∀ (u : World), MapR skv u nb (namesFrom 0 R) → ∀ W, Below u.heap.size u W → (Instr.lookup 121 (.map (some nb)) (.string s) true).run Try.prog W = .ok (.tuple #[.int .i64 0, .bool false]) W) := hide fun u hu W hW => look_names hu s hsm (by rw [hv]; rfl) (by rw [hv]; rfl) W hW
  have HV := hide hv
  have HT := hide ht
  clear hv ht
  have c3 := h.blk.cell 3
  have cz := h.blk.lt
  have hlk : ∀ W, Below w4.heap.size w4 W → (Instr.lookup 121 (.map (some nb)) (.string s) true).run Try.prog W = .ok (.tuple #[.int .i64 0, .bool false]) W := HLK.out w4 h.nm
  have hnz := h.nm.lt
  refine wp_region_text [0, 0, 0, 0, 0, 0, 0, 0, 0, 0, 0, 0] (Below w4.heap.size w4) (by kernel_rfl) (by kernel_rfl) (Below.refl _ _).drew ?_
  iterate 12 (refine wpOrd_q (v := ?_) (by rfl) (fun W hW => ?_) ?_; rotate_left; (focus ((obtain ⟨hWc, hWf⟩ := bcell hW); have hq := hlk W hW; go_simp; try with_reducible rfl)); try simp only [Act.put, List.setIfInBounds_toArray, List.set_cons_zero, List.set_cons_succ])
  refine wpOrd_nil ?_
  clear c3 cz hlk hnz
  go_wp2_with fail
  refine at_world (fun W => Below w.heap.size w W ∧ Blk W w.heap.size 43 #[.string s, .int .u8 (lv.toNat : Int), .int .u16 (ct.toNat : Int), .int .i64 b, .int .i64 n, .int .i64 f, .int .i64 p, .int .i64 q, .int .i64 cl] ∧ ConfIn B W c R K tb nb lb A1 A2 A3 c1 c2 c3) ⟨HB.out.drew, rB.drew, h.drew⟩ (fun W5 h9 => ?_)
  clear h rB HB x0 x1 x2 x3 x4 x5 x6 x7 x8 xl HLK
  obtain ⟨hb1, rB, h⟩ := h9
  have x0 := rB.cell 0
  have x1 := rB.cell 1
  have x2 := rB.cell 2
  have x3 := rB.cell 3
  have x4 := rB.cell 4
  have x5 := rB.cell 5
  have x6 := rB.cell 6
  have x7 := rB.cell 7
  have x8 := rB.cell 8
  have xl := rB.lt
  have HB := hide hb1
  clear hb1
  have c4 := h.blk.cell 4
  have cz := h.blk.lt
  have hlk : ∀ W, Below W5.heap.size W5 W → (Instr.lookup 122 (.map (some lb)) (.agg #[.int .u8 (lv.toNat : Int), .int .u16 (ct.toNat : Int)]) true).run Try.prog W = .ok (.tuple #[.int .i64 0, .bool false]) W := HLL.out W5 h.lm
  have hlz := h.lm.lt
  refine wp_region_text [0, 0, 0, 0, 0, 0, 0, 0, 0, 0, 0, 0] (Below W5.heap.size W5) (by kernel_rfl) (by kernel_rfl) (Below.refl _ _).drew ?_
  iterate 12 (refine wpOrd_q (v := ?_) (by rfl) (fun W hW => ?_) ?_; rotate_left; (focus ((obtain ⟨hWc, hWf⟩ := bcell hW); have hq := hlk W hW; go_simp; try with_reducible rfl)); try simp only [Act.put, List.setIfInBounds_toArray, List.set_cons_zero, List.set_cons_succ])
  refine wpOrd_nil ?_
  clear c4 cz hlk hlz
  go_wp2_with fail
  refine at_world (fun W => Below B w W ∧ Blk W w.heap.size 43 #[.string s, .int .u8 (lv.toNat : Int), .int .u16 (ct.toNat : Int), .int .i64 b, .int .i64 n, .int .i64 f, .int .i64 p, .int .i64 q, .int .i64 cl] ∧ ConfIn B W c R K tb nb lb A1 A2 A3 c1 c2 c3) ⟨(HB.out.mono hB).drew, rB.drew, h.drew⟩ (fun W6 h9 => ?_)
  clear h rB HB x0 x1 x2 x3 x4 x5 x6 x7 x8 xl HLL
  obtain ⟨hb1, rB, h⟩ := h9
  have HB := hide hb1
  clear hb1
  obtain ⟨en, w6, run1, hE1, ho1⟩ := (h.drew.nm).entry strEnc Try.underlying121 (z := .int .i64 0) (fun _ => by kernel_rfl) (sk s hsm) HV.out
  rw [skv_sk] at run1
  refine wp_region_text [0, 0, 0, 0, 0, 0, 0, 0, 0, 0, 0, 0, 0, 0, 1, 0, 1, 1, 0, 1] (fun W => Blk W c 125 #[.slice A1 R.length c1, .map (some tb), .slice A2 K.length c2, .map (some nb), .map (some lb), .slice A3 (geosOf 32 R).length c3, .int .i64 (totalOf 32 R)] ∧ Blk W w.heap.size 43 #[.string s, .int .u8 (lv.toNat : Int), .int .u16 (ct.toNat : Int), .int .i64 b, .int .i64 n, .int .i64 f, .int .i64 p, .int .i64 q, .int .i64 cl]) (by kernel_rfl) (by kernel_rfl) ⟨h.blk.drew, rB.drew⟩ ?_
  iterate 14 (refine wpOrd_q (v := ?_) (by rfl) (fun W hW => ?_) ?_; rotate_left; (focus ((obtain ⟨hW1, hW2⟩ := hW; have c0' := hW1.cell 0; have c3' := hW1.cell 3; have c4' := hW1.cell 4; have c5' := hW1.cell 5; have c6' := hW1.cell 6; have cl' := hW1.lt; have x0 := hW2.cell 0; have x1 := hW2.cell 1; have x2 := hW2.cell 2; have x3 := hW2.cell 3; have x4 := hW2.cell 4; have x5 := hW2.cell 5; have x6 := hW2.cell 6; have x7 := hW2.cell 7; have x8 := hW2.cell 8; have xl := hW2.lt); go_simp; try with_reducible rfl)); try simp only [Act.put, List.setIfInBounds_toArray, List.set_cons_zero, List.set_cons_succ])
  have cB1 := (ho1.blk (fun e => blk_not_map h.blk h.nm.is e) h.blk.drew.lt).trans h.blk
  have rB1 := (ho1.blk (fun e => blk_not_map rB h.nm.is e) rB.drew.lt).trans rB
  refine wpOrd_x (by rfl) (fun K hK => ?_)
  go_simp
  refine hK _ _ _ (fun _ h => h) ⟨cB1, rB1⟩ ?_
  clear hK K run1
  try simp only [Act.put, List.setIfInBounds_toArray, List.set_cons_zero, List.set_cons_succ]
  iterate 1 (refine wpOrd_q (v := ?_) (by rfl) (fun W hW => ?_) ?_; rotate_left; (focus ((obtain ⟨hW1, hW2⟩ := hW; have c0' := hW1.cell 0; have c3' := hW1.cell 3; have c4' := hW1.cell 4; have c5' := hW1.cell 5; have c6' := hW1.cell 6; have cl' := hW1.lt; have x0 := hW2.cell 0; have x1 := hW2.cell 1; have x2 := hW2.cell 2; have x3 := hW2.cell 3; have x4 := hW2.cell 4; have x5 := hW2.cell 5; have x6 := hW2.cell 6; have x7 := hW2.cell 7; have x8 := hW2.cell 8; have xl := hW2.lt); go_simp; try with_reducible rfl)); try simp only [Act.put, List.setIfInBounds_toArray, List.set_cons_zero, List.set_cons_succ])
  obtain ⟨w7, run2, hM2, ho2⟩ := hE1.store (P := Try.prog) (T := 121) (.int .i64 (i : Int))
  have ho12 := ho1.trans ho2
  have h7 := h.drew.toConfG.names ho12 hM2
  have rB7 : Blk w7 w.heap.size 43 #[.string s, .int .u8 (lv.toNat : Int), .int .u16 (ct.toNat : Int), .int .i64 b, .int .i64 n, .int .i64 f, .int .i64 p, .int .i64 q, .int .i64 cl] := (ho12.blk (fun e => blk_not_map rB h.nm.is e) rB.drew.lt).trans rB
  have hb7 : Below B w w7 := by
    have := h.hnb
    exact HB.out.drew.grown ho12.1 (Nat.le_trans hB HB.out.drew.size) (fun k hk => by injection hk with hk; omega)
  have HV7 := hide hb7
  refine wpOrd_x (by rfl) (fun K hK => ?_)
  go_simp
  refine hK _ _ _ (fun _ h => h) ⟨h7.blk, rB7⟩ ?_
  clear hK K run2 hb7
  try simp only [Act.put, List.setIfInBounds_toArray, List.set_cons_zero, List.set_cons_succ]
  obtain ⟨en2, w8, run3, hE3, ho3⟩ := h7.lm.entry labEnc Try.underlying122 (z := .int .i64 0) (fun _ => by kernel_rfl) (lv, ct) HV2.out
  simp only [dkv] at run3
  have cB3 := (ho3.blk (fun e => blk_not_map h7.blk h7.lm.is e) h7.blk.lt).trans h7.blk
  have rB3 := (ho3.blk (fun e => blk_not_map rB7 h7.lm.is e) rB7.lt).trans rB7
  refine wpOrd_x (by rfl) (fun K hK => ?_)
  go_simp
  refine hK _ _ _ (fun _ h => h) ⟨cB3, rB3⟩ ?_
  clear hK K run3
  try simp only [Act.put, List.setIfInBounds_toArray, List.set_cons_zero, List.set_cons_succ]
  iterate 1 (refine wpOrd_q (v := ?_) (by rfl) (fun W hW => ?_) ?_; rotate_left; (focus ((obtain ⟨hW1, hW2⟩ := hW; have c0' := hW1.cell 0; have c3' := hW1.cell 3; have c4' := hW1.cell 4; have c5' := hW1.cell 5; have c6' := hW1.cell 6; have cl' := hW1.lt; have x0 := hW2.cell 0; have x1 := hW2.cell 1; have x2 := hW2.cell 2; have x3 := hW2.cell 3; have x4 := hW2.cell 4; have x5 := hW2.cell 5; have x6 := hW2.cell 6; have x7 := hW2.cell 7; have x8 := hW2.cell 8; have xl := hW2.lt); go_simp; try with_reducible rfl)); try simp only [Act.put, List.setIfInBounds_toArray, List.set_cons_zero, List.set_cons_succ])
  obtain ⟨w9, run4, hM4, ho4⟩ := hE3.store (P := Try.prog) (T := 122) (.int .i64 (i : Int))
  have ho34 := ho3.trans ho4
  have h9 := h7.labels ho34 hM4
  have rB9 : Blk w9 w.heap.size 43 #[.string s, .int .u8 (lv.toNat : Int), .int .u16 (ct.toNat : Int), .int .i64 b, .int .i64 n, .int .i64 f, .int .i64 p, .int .i64 q, .int .i64 cl] := (ho34.blk (fun e => blk_not_map rB7 h7.lm.is e) rB7.lt).trans rB7
  have hb9 : Below B w w9 := by
    have := h.hlb
    exact HV7.out.grown ho34.1 (Nat.le_trans hB HV7.out.size) (fun k hk => by injection hk with hk; omega)
  refine wpOrd_x (by rfl) (fun K hK => ?_)
  go_simp
  refine hK _ _ _ (fun _ h => h) ⟨h9.blk, rB9⟩ ?_
  clear hK K run4 HV7
  try simp only [Act.put, List.setIfInBounds_toArray, List.set_cons_zero, List.set_cons_succ]
  refine wpOrd_nil ?_
  have HB9 := hide hb9
  have HOK := hide h.ok
  clear h rB hb9 HB cB1 rB1 ho1 hE1 hM2 ho2 ho12 h7 rB7 cB3 rB3 ho3 hE3 hM4 ho4 ho34 hbn
  have hsb := HS.out
  simp only [soundC, inB, Bool.and_eq_true, decide_eq_true_eq, beq_iff_eq] at hsb
  obtain ⟨⟨sb1, sb2⟩, ⟨sn1, sn2⟩, sn3, _⟩ := hsb
  obtain ⟨tt1, tt2⟩ := total_bounds HOK.out 32 (by omega)
  have tt3 : totalOf 32 R ≤ 40000 := by have := HI.out; omega
  clear tt2 sn3
  go_wp2_with fail
  have e1 : IntKind.i64.wrap (b + 512) = b + 512 := IntWalk.i64_in _ (by omega)
  have e2 : IntKind.i64.wrap (b + 512 - 1) = b + 511 := by rw [IntWalk.i64_in _ (by omega)]; omega
  obtain ⟨bm, hbm⟩ : ∃ bm, bm = (b + 511) / 512 := ⟨_, rfl⟩
  obtain ⟨tm, htm⟩ : ∃ tm, tm = (n * 32 + 63) / 64 := ⟨_, rfl⟩
  have e3 : (b + 511).tdiv 512 = bm := by rw [hbm]; exact Int.tdiv_eq_ediv_of_nonneg (by omega)
  have e4 : IntKind.i64.wrap (n * 32) = n * 32 := IntWalk.i64_in _ (by omega)
  have e5 : IntKind.i64.wrap (n * 32 + 64) = n * 32 + 64 := IntWalk.i64_in _ (by omega)
  have e6 : IntKind.i64.wrap (n * 32 + 64 - 1) = n * 32 + 63 := by rw [IntWalk.i64_in _ (by omega)]; omega
  have e7 : (n * 32 + 63).tdiv 64 = tm := by rw [htm]; exact Int.tdiv_eq_ediv_of_nonneg (by omega)
  have bm1 : 0 ≤ bm := by omega
  have bm2 : bm ≤ 2 := by omega
  have tm1 : 0 ≤ tm := by omega
  have tm2 : tm ≤ 65 := by omega
  have e8 : IntKind.i64.wrap bm = bm := IntWalk.i64_in _ (by omega)
  have e9 : IntKind.i64.wrap tm = tm := IntWalk.i64_in _ (by omega)
  have HBM := hide hbm
  have HTM := hide htm
  clear hbm htm
  refine wp_region_text [0, 0, 0, 0, 0, 0, 0, 0, 0, 0, 0, 0, 0, 0, 0, 0, 0, 0, 0, 0, 1, 1] (fun W => Blk W c 125 #[.slice A1 R.length c1, .map (some tb), .slice A2 K.length c2, .map (some nb), .map (some lb), .slice A3 (geosOf 32 R).length c3, .int .i64 (totalOf 32 R)] ∧ Blk W w.heap.size 43 #[.string s, .int .u8 (lv.toNat : Int), .int .u16 (ct.toNat : Int), .int .i64 b, .int .i64 n, .int .i64 f, .int .i64 p, .int .i64 q, .int .i64 cl]) (by kernel_rfl) (by kernel_rfl) ⟨h9.blk.drew, rB9.drew⟩ ?_
  iterate 20 (refine wpOrd_q (v := ?_) (by rfl) (fun W hW => ?_) ?_; rotate_left; (focus ((obtain ⟨hW1, hW2⟩ := hW; have c0' := hW1.cell 0; have c3' := hW1.cell 3; have c4' := hW1.cell 4; have c5' := hW1.cell 5; have c6' := hW1.cell 6; have cl' := hW1.lt; have x0 := hW2.cell 0; have x1 := hW2.cell 1; have x2 := hW2.cell 2; have x3 := hW2.cell 3; have x4 := hW2.cell 4; have x5 := hW2.cell 5; have x6 := hW2.cell 6; have x7 := hW2.cell 7; have x8 := hW2.cell 8; have xl := hW2.lt); go_simp; try with_reducible rfl)); try simp only [Act.put, List.setIfInBounds_toArray, List.set_cons_zero, List.set_cons_succ])
  clear e1 e2 e3 e4 e5 e6 e7 e8 e9
  refine wpOrd_x (by rfl) (fun K hK => ?_)
  go_simp
  refine hK _ _ _ (fun _ h => h) ⟨h9.blk.drew.alloc _, rB9.drew.alloc _⟩ ?_
  clear hK K
  try simp only [Act.put, List.setIfInBounds_toArray, List.set_cons_zero, List.set_cons_succ]
  obtain ⟨W10, hW10⟩ : ∃ W10, W10 = (w9.alloc (.cells #[.int .i64 0, .int .i64 0, .int .i64 0, .int .i64 0, .int .i64 0, .int .i64 0] 112)).drew := ⟨_, rfl⟩
  have gB0 : Blk W10 w9.heap.size 112 #[.int .i64 0, .int .i64 0, .int .i64 0, .int .i64 0, .int .i64 0, .int .i64 0] := by rw [hW10]; exact (Blk.new w9 _ _).drew
  have hx10 : Below w9.heap.size w9 W10 := by rw [hW10]; exact ((Below.refl _ _).alloc (Nat.le_refl _) _).drew
  have cB10 := h9.blk.below hx10 h9.blk.lt
  have rB10 := rB9.below hx10 rB9.lt
  rw [← hW10]
  have hz10 : w9.heap.size < W10.heap.size := gB0.lt
  have hcz : c < w9.heap.size := h9.blk.lt
  have hrz : w.heap.size < w9.heap.size := rB9.lt
  clear hW10
  refine wpOrd_x (by rfl) (fun K hK => ?_)
  have g0 := gB0.cell 0
  have g1 := gB0.cell 1
  have g2 := gB0.cell 2
  have g3 := gB0.cell 3
  have g4 := gB0.cell 4
  have g5 := gB0.cell 5
  have f0 := gB0.frozen 0
  have f1 := gB0.frozen 1
  have f2 := gB0.frozen 2
  have f3 := gB0.frozen 3
  have f4 := gB0.frozen 4
  have f5 := gB0.frozen 5
  go_simp
  refine hK _ _ _ (fun _ h => h) ⟨((((((cB10.far (by show c ≠ w9.heap.size; omega) _).far (by show c ≠ w9.heap.size; omega) _).far (by show c ≠ w9.heap.size; omega) _).far (by show c ≠ w9.heap.size; omega) _).far (by show c ≠ w9.heap.size; omega) _).far (by show c ≠ w9.heap.size; omega) _), ((((((rB10.far (by show w.heap.size ≠ w9.heap.size; omega) _).far (by show w.heap.size ≠ w9.heap.size; omega) _).far (by show w.heap.size ≠ w9.heap.size; omega) _).far (by show w.heap.size ≠ w9.heap.size; omega) _).far (by show w.heap.size ≠ w9.heap.size; omega) _).far (by show w.heap.size ≠ w9.heap.size; omega) _)⟩ ?_
  clear hK K g0 g1 g2 g3 g4 g5 f0 f1 f2 f3 f4 f5
  try simp only [Act.put, List.setIfInBounds_toArray, List.set_cons_zero, List.set_cons_succ]
  refine wpOrd_nil ?_
  refine at_world (fun W => Below w9.heap.size w9 W ∧ Blk W w9.heap.size 112 #[.int .i64 (totalOf 32 R), .int .i64 bm, .int .i64 tm, .int .i64 0, .int .i64 b, .int .i64 n]) ⟨((((((hx10.setCell (Nat.le_refl _) _).setCell (Nat.le_refl _) _).setCell (Nat.le_refl _) _).setCell (Nat.le_refl _) _).setCell (Nat.le_refl _) _).setCell (Nat.le_refl _) _), by simpa using ((((((gB0.set_ 0 (.int .i64 (totalOf 32 R))).set_ 1 (.int .i64 bm)).set_ 2 (.int .i64 tm)).set_ 3 (.int .i64 0)).set_ 4 (.int .i64 b)).set_ 5 (.int .i64 n))⟩ (fun W11 h11 => ?_)
  obtain ⟨hx11, gB⟩ := h11
  have g0 := gB.cell 0
  have g1 := gB.cell 1
  have g2 := gB.cell 2
  have g3 := gB.cell 3
  have gf := gB.frozen 3
  have gz := gB.lt
  have e10 : wrap64 (totalOf 32 R + bm) = totalOf 32 R + bm := IntWalk.wrap64_in _ (by omega)
  have e11 : wrap64 (totalOf 32 R + bm + tm) = totalOf 32 R + bm + tm := IntWalk.wrap64_in _ (by omega)
  have HX := hide hx11
  clear hx10 hx11 gB0 cB10 rB10
  go_wp2_with fail
  refine at_world (fun W => Below w9.heap.size w9 W ∧ Blk W w9.heap.size 112 #[.int .i64 (totalOf 32 R), .int .i64 bm, .int .i64 tm, .int .i64 (totalOf 32 R + bm + tm), .int .i64 b, .int .i64 n]) ⟨HX.out.setCell (Nat.le_refl _) _, by simpa using gB.set_ 3 (.int .i64 (totalOf 32 R + bm + tm))⟩ (fun W12 h12 => ?_)
  clear g0 g1 g2 g3 gf gz gB e10 e11 HX
  obtain ⟨hx, gB⟩ := h12
  have st : AddSt B W12.drew c w.heap.size w9.heap.size #[.slice A1 R.length c1, .map (some tb), .slice A2 K.length c2, .map (some nb), .map (some lb), .slice A3 (geosOf 32 R).length c3, .int .i64 (totalOf 32 R)] #[.string s, .int .u8 (lv.toNat : Int), .int .u16 (ct.toNat : Int), .int .i64 b, .int .i64 n, .int .i64 f, .int .i64 p, .int .i64 q, .int .i64 cl] #[.int .i64 (totalOf 32 R), .int .i64 bm, .int .i64 tm, .int .i64 (totalOf 32 R + bm + tm), .int .i64 b, .int .i64 n] K (trustL K) (namesFrom 0 (R ++ [⟨s.data.toList, lv, ct, b, n, f, p, q, cl⟩])) (labelsFrom 0 (R ++ [⟨s.data.toList, lv, ct, b, n, f, p, q, cl⟩])) tb nb lb A2 c2 := by
    have h12 := h9.below hx.drew
    rw [names_put' (r := ⟨s.data.toList, lv, ct, b, n, f, p, q, cl⟩) HV.out rfl HI.out, labels_put' (r := ⟨s.data.toList, lv, ct, b, n, f, p, q, cl⟩) HV2.out HI.out] at h12
    exact ⟨h12.blk, rB9.below hx.drew rB9.lt, gB.drew, h12.marks, h12.tr, h12.nm, h12.lm⟩
  have hR0 : W12.drew.ownsRow B 43 9 (.slice A1 R.length c1) R.length (rcellsOf R) := own_below h9.regs hx.drew
  have hG0 : W12.drew.ownsRow B 112 6 (.slice A3 (geosOf 32 R).length c3) (geosOf 32 R).length (gcellsOf (geosOf 32 R)) := own_below h9.geos hx.drew
  have hb0 : Below B w W12.drew := (HB9.out.trans (hx.mono (Nat.le_trans hB HB9.out.size))).drew
  have hN := (⟨h9.hc, h9.htb, h9.hnb, h9.hlb, h9.n1, h9.n2, h9.n3⟩ : B ≤ c ∧ B ≤ tb ∧ B ≤ nb ∧ B ≤ lb ∧ tb ≠ nb ∧ tb ≠ lb ∧ nb ≠ lb)
  have HNN := hide hN
  clear hN h9 rB9 HB9 hx gB
  have e10 : IntKind.i64.wrap (totalOf 32 R + bm + tm + b) = totalOf 32 R + bm + tm + b := IntWalk.i64_in _ (by omega)
  refine at_act (fun a => a.tmps.size = 132 ∧ a.eval (.tmp 0) = .pointer (some ⟨c, 0, none⟩) ∧ a.eval (.tmp 6) = .pointer (some ⟨w.heap.size, 0, none⟩) ∧ a.eval (.tmp 13) = .pointer (some ⟨w9.heap.size, 0, none⟩)) (by exact ⟨rfl, rfl, rfl, rfl⟩) (fun a0 ha0 ha => ?_)
  obtain ⟨az, a0v, a6v, a13v⟩ := ha
  refine wp_region_C [0,0,0,0,0,0,1,0,9,9,0,0,0,1,0,9,9,0,0,0,0,0,2,2,9,2,2,9,2,2,9] (OC.qs [0,1,2,3,4,5,6,7,10,11,12,13,14,17,18,19,20,21] (.br 8 [] (.br 9 [] (.x 15 [] (.x 16 [] (.q 22 (.q 23 (.x 24 [1] (.q 25 (.q 26 (.x 27 [] (.q 28 (.q 29 (.x 30 [] .nil))))))))))) 15 [] (.x 9 [] (.x 16 [] (.q 22 (.q 23 (.x 24 [1] (.q 25 (.q 26 (.x 27 [] (.q 28 (.q 29 (.x 30 [] .nil)))))))))))) 15 [] (.x 8 [] (.x 9 [] (.x 16 [] (.q 22 (.q 23 (.x 24 [1] (.q 25 (.q 26 (.x 27 [] (.q 28 (.q 29 (.x 30 [] .nil)))))))))))) )) (S2 (fun W => Blk W c 125 #[.slice A1 R.length c1, .map (some tb), .slice A2 K.length c2, .map (some nb), .map (some lb), .slice A3 (geosOf 32 R).length c3, .int .i64 (totalOf 32 R)]) (fun W => Blk W w.heap.size 43 #[.string s, .int .u8 (lv.toNat : Int), .int .u16 (ct.toNat : Int), .int .i64 b, .int .i64 n, .int .i64 f, .int .i64 p, .int .i64 q, .int .i64 cl] ∧ Blk W w9.heap.size 112 #[.int .i64 (totalOf 32 R), .int .i64 bm, .int .i64 tm, .int .i64 (totalOf 32 R + bm + tm), .int .i64 b, .int .i64 n])) (by kernel_rfl) (by kernel_rfl) (S2.hold st.cB ⟨st.rB, st.gB⟩) ?_
  simp only [OC.qs, List.foldr]
  iterate 6 (refine wpC_q (v := ?_) (by simp only [List.getElem?_toArray, List.getElem?_cons_succ, List.getElem?_cons_zero]; try rfl) (by rfl) (fun W hW => ?_) ?_; rotate_left; (focus ((obtain ⟨hW1, hW2⟩ := S2.rest (by decide) hW; have x0 := hW1.cell 0; have x1 := hW1.cell 1; have x2 := hW1.cell 2; have x3 := hW1.cell 3; have x4 := hW1.cell 4; have x5 := hW1.cell 5; have x6 := hW1.cell 6; have x7 := hW1.cell 7; have x8 := hW1.cell 8; have xl := hW1.lt; have g0 := hW2.cell 0; have g1 := hW2.cell 1; have g2 := hW2.cell 2; have g3 := hW2.cell 3; have g4 := hW2.cell 4; have g5 := hW2.cell 5; have gl := hW2.lt); simp only [execOp, Act.eval_put_tmp, Act.eval_put_none, Act.size_put, Act.eval_const', Act.eval_func', az, a0v, a6v, a13v, Nat.reduceLT, Nat.reduceEqDiff, if_true, if_false, reduceCtorEq, ite_true, ite_false]; go_simp; try with_reducible rfl)))
  iterate 1 (refine wpC_q (v := ?_) (by simp only [List.getElem?_toArray, List.getElem?_cons_succ, List.getElem?_cons_zero]; try rfl) (by rfl) (fun W hW => ?_) ?_; rotate_left; (focus ((have hW3 := S2.one hW; have c0' := hW3.cell 0; have c5' := hW3.cell 5; have cl' := hW3.lt); simp only [execOp, Act.eval_put_tmp, Act.eval_put_none, Act.size_put, Act.eval_const', Act.eval_func', az, a0v, a6v, a13v, Nat.reduceLT, Nat.reduceEqDiff, if_true, if_false, reduceCtorEq, ite_true, ite_false]; go_simp; try with_reducible rfl)))
  iterate 4 (refine wpC_q (v := ?_) (by simp only [List.getElem?_toArray, List.getElem?_cons_succ, List.getElem?_cons_zero]; try rfl) (by rfl) (fun W hW => ?_) ?_; rotate_left; (focus ((obtain ⟨hW1, hW2⟩ := S2.rest (by decide) hW; have x0 := hW1.cell 0; have x1 := hW1.cell 1; have x2 := hW1.cell 2; have x3 := hW1.cell 3; have x4 := hW1.cell 4; have x5 := hW1.cell 5; have x6 := hW1.cell 6; have x7 := hW1.cell 7; have x8 := hW1.cell 8; have xl := hW1.lt; have g0 := hW2.cell 0; have g1 := hW2.cell 1; have g2 := hW2.cell 2; have g3 := hW2.cell 3; have g4 := hW2.cell 4; have g5 := hW2.cell 5; have gl := hW2.lt); simp only [execOp, Act.eval_put_tmp, Act.eval_put_none, Act.size_put, Act.eval_const', Act.eval_func', az, a0v, a6v, a13v, Nat.reduceLT, Nat.reduceEqDiff, if_true, if_false, reduceCtorEq, ite_true, ite_false]; go_simp; try with_reducible rfl)))
  iterate 1 (refine wpC_q (v := ?_) (by simp only [List.getElem?_toArray, List.getElem?_cons_succ, List.getElem?_cons_zero]; try rfl) (by rfl) (fun W hW => ?_) ?_; rotate_left; (focus ((have hW3 := S2.one hW; have c0' := hW3.cell 0; have c5' := hW3.cell 5; have cl' := hW3.lt); simp only [execOp, Act.eval_put_tmp, Act.eval_put_none, Act.size_put, Act.eval_const', Act.eval_func', az, a0v, a6v, a13v, Nat.reduceLT, Nat.reduceEqDiff, if_true, if_false, reduceCtorEq, ite_true, ite_false]; go_simp; try with_reducible rfl)))
  iterate 6 (refine wpC_q (v := ?_) (by simp only [List.getElem?_toArray, List.getElem?_cons_succ, List.getElem?_cons_zero]; try rfl) (by rfl) (fun W hW => ?_) ?_; rotate_left; (focus ((obtain ⟨hW1, hW2⟩ := S2.rest (by decide) hW; have x0 := hW1.cell 0; have x1 := hW1.cell 1; have x2 := hW1.cell 2; have x3 := hW1.cell 3; have x4 := hW1.cell 4; have x5 := hW1.cell 5; have x6 := hW1.cell 6; have x7 := hW1.cell 7; have x8 := hW1.cell 8; have xl := hW1.lt; have g0 := hW2.cell 0; have g1 := hW2.cell 1; have g2 := hW2.cell 2; have g3 := hW2.cell 3; have g4 := hW2.cell 4; have g5 := hW2.cell 5; have gl := hW2.lt); simp only [execOp, Act.eval_put_tmp, Act.eval_put_none, Act.size_put, Act.eval_const', Act.eval_func', az, a0v, a6v, a13v, Nat.reduceLT, Nat.reduceEqDiff, if_true, if_false, reduceCtorEq, ite_true, ite_false]; go_simp; try with_reducible rfl)))
  clear e10
  have OKN := hide (okr_snoc (lv := lv) (ct := ct) (cl := cl) HOK.out hn HS.out)
  have hRl := hide (by rw [← HI.out]; exact h64 : R.length < 64)
  have HRZ := hide hrz
  refine wpC_have (t := .q 22 (.q 23 (.x 24 [1] (.q 25 (.q 26 (.x 27 [] (.q 28 (.q 29 (.x 30 [] .nil))))))))) (fun a X => (a.tmps.size = 132 ∧ a.defers = [] ∧ a.eval (.tmp 104) = .pointer (some ⟨c, 0, none⟩) ∧ a.eval (.tmp 105) = .pointer (some ⟨c, 0, none⟩) ∧ a.eval (.tmp 106) = .pointer (some ⟨c, 0, none⟩) ∧ a.eval (.tmp 125) = .int .i64 (totalOf 32 R + bm + tm + b)) ∧ ∃ A1' c1' A3' c3', a.eval (.tmp 113) = .slice A1' (R.length + 1) c1' ∧ a.eval (.tmp 120) = .slice A3' ((geosOf 32 R).length + 1) c3' ∧ AddSt B X c w.heap.size w9.heap.size #[.slice A1 R.length c1, .map (some tb), .slice A2 K.length c2, .map (some nb), .map (some lb), .slice A3 (geosOf 32 R).length c3, .int .i64 (totalOf 32 R)] #[.string s, .int .u8 (lv.toNat : Int), .int .u16 (ct.toNat : Int), .int .i64 b, .int .i64 n, .int .i64 f, .int .i64 p, .int .i64 q, .int .i64 cl] #[.int .i64 (totalOf 32 R), .int .i64 bm, .int .i64 tm, .int .i64 (totalOf 32 R + bm + tm), .int .i64 b, .int .i64 n] K (trustL K) (namesFrom 0 (R ++ [⟨s.data.toList, lv, ct, b, n, f, p, q, cl⟩])) (labelsFrom 0 (R ++ [⟨s.data.toList, lv, ct, b, n, f, p, q, cl⟩])) tb nb lb A2 c2 ∧ X.ownsRow B 43 9 (.slice A1' (R.length + 1) c1') (R.length + 1) (rcellsOf R ++ [.string s, .int .u8 (lv.toNat : Int), .int .u16 (ct.toNat : Int), .int .i64 b, .int .i64 n, .int .i64 f, .int .i64 p, .int .i64 q, .int .i64 cl]) ∧ X.ownsRow B 112 6 (.slice A3' ((geosOf 32 R).length + 1) c3') ((geosOf 32 R).length + 1) (gcellsOf (geosOf 32 R) ++ [.int .i64 (totalOf 32 R), .int .i64 bm, .int .i64 tm, .int .i64 (totalOf 32 R + bm + tm), .int .i64 b, .int .i64 n]) ∧ Below B w X) (fun a X hF => ?_) (fun T22 => ?_)
  · obtain ⟨⟨z, d0, e4, e5, e6, e25⟩, A1', c1', A3', c3', e13, e20, st, o1, o3, hb⟩ := hF
    have k0 := st.cB.cell 0
    have kf0 := st.cB.frozen 0
    have kl := st.cB.lt
    iterate 2 (refine wpC_q (v := ?_) (by simp only [List.getElem?_toArray, List.getElem?_cons_succ, List.getElem?_cons_zero]; try rfl) (by rfl) (fun W hW => ?_) ?_; rotate_left; (focus (simp only [execOp, Act.defers_put, Act.eval_put_tmp, Act.eval_put_none, Act.size_put, Act.eval_const', Act.eval_func', Nat.reduceLT, Nat.reduceEqDiff, if_true, if_false, reduceCtorEq, ite_true, ite_false, z, e4]; go_simp; try with_reducible rfl)))
    refine wpC_act (fun a => a.tmps.size = 132 ∧ a.defers = [] ∧ a.eval (.tmp 127) = .pointer (some ⟨c, 0, none⟩) ∧ a.eval (.tmp 105) = .pointer (some ⟨c, 0, none⟩) ∧ a.eval (.tmp 106) = .pointer (some ⟨c, 0, none⟩) ∧ a.eval (.tmp 125) = .int .i64 (totalOf 32 R + bm + tm + b) ∧ a.eval (.tmp 113) = .slice A1' (R.length + 1) c1' ∧ a.eval (.tmp 120) = .slice A3' ((geosOf 32 R).length + 1) c3') (by refine ⟨?_, ?_, ?_, ?_, ?_, ?_, ?_, ?_⟩ <;> simp only [Act.defers_put, Act.eval_put_tmp, Act.eval_put_none, Act.size_put, Act.eval_const', Act.eval_func', Nat.reduceLT, Nat.reduceEqDiff, if_true, if_false, reduceCtorEq, ite_true, ite_false, z, d0, e4, e5, e6, e25, e13, e20]) (fun a2 hF2 => ?_)
    obtain ⟨z2, d2, m27, m5, m6, m25, m13, m20⟩ := hF2
    refine wpC_x (by simp only [List.getElem?_toArray, List.getElem?_cons_succ, List.getElem?_cons_zero]; try rfl) (by rfl) (fun KK hKK => ?_)
    unfold Oper.wp
    simp only [execOp, List.map_toArray, List.map_cons, List.map_nil, Act.defers_put, Act.eval_put_tmp, Act.eval_put_none, Act.size_put, Act.eval_const', Act.eval_func', Nat.reduceLT, Nat.reduceEqDiff, if_true, if_false, reduceCtorEq, ite_true, ite_false, z2, m27, m13]
    go_simp
    refine hKK (S2 (fun _ => True) _) a2 _ S2.drop (S2.hold trivial ⟨st.rB.far (by show w.heap.size ≠ c; omega) _, st.gB.far (by show w9.heap.size ≠ c; omega) _⟩) ?_
    clear hKK KK k0 kf0 kl
    have cB1 := st.cB.set_ 0 (.slice A1' (R.length + 1) c1')
    have kf5 := cB1.frozen 5
    have k5 := cB1.cell 5
    have kl := cB1.lt
    iterate 2 (refine wpC_q (v := ?_) (by simp only [List.getElem?_toArray, List.getElem?_cons_succ, List.getElem?_cons_zero]; try rfl) (by rfl) (fun W hW => ?_) ?_; rotate_left; (focus (simp only [execOp, Act.defers_put, Act.eval_put_tmp, Act.eval_put_none, Act.size_put, Act.eval_const', Act.eval_func', Nat.reduceLT, Nat.reduceEqDiff, if_true, if_false, reduceCtorEq, ite_true, ite_false, z2, m5]; go_simp; try with_reducible rfl)))
    refine wpC_act (fun a => a.tmps.size = 132 ∧ a.defers = [] ∧ a.eval (.tmp 129) = .pointer (some ⟨c, 5, none⟩) ∧ a.eval (.tmp 106) = .pointer (some ⟨c, 0, none⟩) ∧ a.eval (.tmp 125) = .int .i64 (totalOf 32 R + bm + tm + b) ∧ a.eval (.tmp 120) = .slice A3' ((geosOf 32 R).length + 1) c3') (by refine ⟨?_, ?_, ?_, ?_, ?_, ?_⟩ <;> simp only [Act.defers_put, Act.eval_put_tmp, Act.eval_put_none, Act.size_put, Act.eval_const', Act.eval_func', Nat.reduceLT, Nat.reduceEqDiff, if_true, if_false, reduceCtorEq, ite_true, ite_false, z2, d2, m5, m6, m25, m13, m20]) (fun a3 hF3 => ?_)
    obtain ⟨z3, d3, n29, n6, n25, n20⟩ := hF3
    refine wpC_xs (by simp only [List.getElem?_toArray, List.getElem?_cons_succ, List.getElem?_cons_zero]; try rfl) (by rfl) (fun KK hKK => ?_)
    unfold Oper.wp
    simp only [execOp, List.map_toArray, List.map_cons, List.map_nil, Act.defers_put, Act.eval_put_tmp, Act.eval_put_none, Act.size_put, Act.eval_const', Act.eval_func', Nat.reduceLT, Nat.reduceEqDiff, if_true, if_false, reduceCtorEq, ite_true, ite_false, z3, n29, n20]
    go_simp
    refine hKK a3 _ (S2.hold trivial ⟨(st.rB.far (by show w.heap.size ≠ c; omega) _).far (by show w.heap.size ≠ c; omega) _, (st.gB.far (by show w9.heap.size ≠ c; omega) _).far (by show w9.heap.size ≠ c; omega) _⟩) ?_
    clear hKK KK kf5 kl k5
    have cB2 := cB1.set_ 5 (.slice A3' ((geosOf 32 R).length + 1) c3')
    have kf6 := cB2.frozen 6
    have k6 := cB2.cell 6
    have kl := cB2.lt
    iterate 2 (refine wpC_q (v := ?_) (by simp only [List.getElem?_toArray, List.getElem?_cons_succ, List.getElem?_cons_zero]; try rfl) (by rfl) (fun W hW => ?_) ?_; rotate_left; (focus (simp only [execOp, Act.defers_put, Act.eval_put_tmp, Act.eval_put_none, Act.size_put, Act.eval_const', Act.eval_func', Nat.reduceLT, Nat.reduceEqDiff, if_true, if_false, reduceCtorEq, ite_true, ite_false, z3, n6]; go_simp; try with_reducible rfl)))
    refine wpC_act (fun a => a.tmps.size = 132 ∧ a.defers = [] ∧ a.eval (.tmp 131) = .pointer (some ⟨c, 6, none⟩) ∧ a.eval (.tmp 125) = .int .i64 (totalOf 32 R + bm + tm + b)) (by refine ⟨?_, ?_, ?_, ?_⟩ <;> simp only [Act.defers_put, Act.eval_put_tmp, Act.eval_put_none, Act.size_put, Act.eval_const', Act.eval_func', Nat.reduceLT, Nat.reduceEqDiff, if_true, if_false, reduceCtorEq, ite_true, ite_false, z3, d3, n6, n25]) (fun a4 hF4 => ?_)
    obtain ⟨z4, d4, q31, q25⟩ := hF4
    refine wpC_xs (by simp only [List.getElem?_toArray, List.getElem?_cons_succ, List.getElem?_cons_zero]; try rfl) (by rfl) (fun KK hKK => ?_)
    unfold Oper.wp
    simp only [execOp, List.map_toArray, List.map_cons, List.map_nil, Act.defers_put, Act.eval_put_tmp, Act.eval_put_none, Act.size_put, Act.eval_const', Act.eval_func', Nat.reduceLT, Nat.reduceEqDiff, if_true, if_false, reduceCtorEq, ite_true, ite_false, z4, q31, q25]
    go_simp
    refine hKK a4 _ (S2.hold trivial ⟨((st.rB.far (by show w.heap.size ≠ c; omega) _).far (by show w.heap.size ≠ c; omega) _).far (by show w.heap.size ≠ c; omega) _, ((st.gB.far (by show w9.heap.size ≠ c; omega) _).far (by show w9.heap.size ≠ c; omega) _).far (by show w9.heap.size ≠ c; omega) _⟩) ?_
    clear hKK KK kf6 kl k6
    have cB3 := cB2.set_ 6 (.int .i64 (totalOf 32 R + bm + tm + b))
    refine wpC_nil ?_
    refine at_world (fun W => Below B w W ∧ ConfIn B W c (R ++ [⟨s.data.toList, lv, ct, b, n, f, p, q, cl⟩]) K tb nb lb A1' A2 A3' c1' c2 c3') ⟨?_, ?_⟩ (fun W9 h9 => ?_)
    · exact (((hb.setCell HNN.out.1 _).setCell HNN.out.1 _).setCell HNN.out.1 _)
    · refine st.done (GV := geoOf (totalOf 32 R) ⟨s.data.toList, lv, ct, b, n, f, p, q, cl⟩) (by rw [HBM.out, HTM.out] at o3; exact o3) o1 (by rw [show (geoOf (totalOf 32 R) (⟨s.data.toList, lv, ct, b, n, f, p, q, cl⟩ : RegV)).end_ = totalOf 32 R + bm + tm + b from by rw [HBM.out, HTM.out]; rfl]; simpa using cB3) (fun g hg => ?_) HNN.out OKN.out
      rw [Below.heap_setCell _ _ _ _ hg, Below.heap_setCell _ _ _ _ hg, Below.heap_setCell _ _ _ _ hg]
    clear cB1 cB2 cB3 st o1 o3 hb
    obtain ⟨tps, dfs⟩ := a4
    simp only at d4
    subst d4
    go_wp2
    go_returns
    have z5 : tps.size = 132 := z4
    exact ⟨by simp [Array.getD_eq_getD_getElem?, z5], h9.1, _, _, _, _, h9.2⟩
  refine wpC_have (t := .x 16 [] (.q 22 (.q 23 (.x 24 [1] (.q 25 (.q 26 (.x 27 [] (.q 28 (.q 29 (.x 30 [] .nil)))))))))) (fun a X => (a.tmps.size = 132 ∧ a.defers = [] ∧ a.eval (.tmp 104) = .pointer (some ⟨c, 0, none⟩) ∧ a.eval (.tmp 105) = .pointer (some ⟨c, 0, none⟩) ∧ a.eval (.tmp 106) = .pointer (some ⟨c, 0, none⟩) ∧ a.eval (.tmp 125) = .int .i64 (totalOf 32 R + bm + tm + b)) ∧ a.eval (.tmp 117) = .slice A3 (geosOf 32 R).length c3 ∧ ∃ A1' c1' gg, a.eval (.tmp 113) = .slice A1' (R.length + 1) c1' ∧ a.eval (.tmp 119) = .slice (some ⟨gg, 0, none⟩) 1 1 ∧ AddSt B X c w.heap.size w9.heap.size #[.slice A1 R.length c1, .map (some tb), .slice A2 K.length c2, .map (some nb), .map (some lb), .slice A3 (geosOf 32 R).length c3, .int .i64 (totalOf 32 R)] #[.string s, .int .u8 (lv.toNat : Int), .int .u16 (ct.toNat : Int), .int .i64 b, .int .i64 n, .int .i64 f, .int .i64 p, .int .i64 q, .int .i64 cl] #[.int .i64 (totalOf 32 R), .int .i64 bm, .int .i64 tm, .int .i64 (totalOf 32 R + bm + tm), .int .i64 b, .int .i64 n] K (trustL K) (namesFrom 0 (R ++ [⟨s.data.toList, lv, ct, b, n, f, p, q, cl⟩])) (labelsFrom 0 (R ++ [⟨s.data.toList, lv, ct, b, n, f, p, q, cl⟩])) tb nb lb A2 c2 ∧ X.ownsRow B 43 9 (.slice A1' (R.length + 1) c1') (R.length + 1) (rcellsOf R ++ [.string s, .int .u8 (lv.toNat : Int), .int .u16 (ct.toNat : Int), .int .i64 b, .int .i64 n, .int .i64 f, .int .i64 p, .int .i64 q, .int .i64 cl]) ∧ X.ownsRow B 112 6 (.slice A3 (geosOf 32 R).length c3) (geosOf 32 R).length (gcellsOf (geosOf 32 R)) ∧ X.ownsRow B 112 6 (.slice (some ⟨gg, 0, none⟩) 1 1) 1 [.int .i64 (totalOf 32 R), .int .i64 bm, .int .i64 tm, .int .i64 (totalOf 32 R + bm + tm), .int .i64 b, .int .i64 n] ∧ Below B w X) (fun a X hF => ?_) (fun T16 => ?_)
  · obtain ⟨⟨z, d0, e4, e5, e6, e25⟩, e17, A1', c1', gg, e13, e19, st, o1, o3, og, hb⟩ := hF
    refine wpC_xs (by simp only [List.getElem?_toArray, List.getElem?_cons_succ, List.getElem?_cons_zero]; try rfl) (by rfl) (fun KK hKK => ?_)
    obtain ⟨i0, hi0, i1, i2, i3⟩ := info_parts info_geo
    refine wp_append_rd X (.tmp 117) (.tmp 119) 123 (by rfl) B 112 i0 (.agg #[.int .i64 0, .int .i64 0, .int .i64 0, .int .i64 0, .int .i64 0, .int .i64 0]) 6 48 (by kernel_rfl) hi0 i1 i2 i3 rfl (by decide) (.slice A3 (geosOf 32 R).length c3) (geosOf 32 R).length (gcellsOf (geosOf 32 R)) e17 o3 X.heap.size (some ⟨gg, 0, none⟩) 1 1 [.int .i64 (totalOf 32 R), .int .i64 bm, .int .i64 tm, .int .i64 (totalOf 32 R + bm + tm), .int .i64 b, .int .i64 n] e19 (Rd.of_own og) (by simp [Value.oneCell']) (by have := hRl.out; simp only [maxLen, geosOf_length]; omega) (by have := hRl.out; (try simp only [geosOf_length]); omega) (Nat.le_trans hB (Nat.le_trans (Nat.le_of_lt HRZ.out) (Nat.le_of_lt st.gB.lt |> Nat.le_trans (Nat.le_refl _)))) (fun v' X' ho hg hnil hat => ?_)
    clear i0 hi0 i1 i2 i3 hnil hat
    obtain ⟨A', c', rfl, _, _, _⟩ := own_form ho
    have st' := st.row o3 (by decide) (by decide) (fun e => by have := (HL3.out _ e).2; omega) (fun e => by have := (HL3.out _ e).2; have := HRZ.out; omega) hg
    exact hKK _ _ (S2.hold st'.cB ⟨st'.rB, st'.gB⟩) (T22 _ _ ⟨⟨by rw [Act.size_put]; exact z, by rw [Act.defers_put]; exact d0, by simp only [Act.defers_put, Act.eval_put_tmp, Act.eval_put_none, Act.size_put, Act.eval_const', Act.eval_func', Nat.reduceLT, Nat.reduceEqDiff, if_true, if_false, reduceCtorEq, ite_true, ite_false, z, e4], by simp only [Act.defers_put, Act.eval_put_tmp, Act.eval_put_none, Act.size_put, Act.eval_const', Act.eval_func', Nat.reduceLT, Nat.reduceEqDiff, if_true, if_false, reduceCtorEq, ite_true, ite_false, z, e5], by simp only [Act.defers_put, Act.eval_put_tmp, Act.eval_put_none, Act.size_put, Act.eval_const', Act.eval_func', Nat.reduceLT, Nat.reduceEqDiff, if_true, if_false, reduceCtorEq, ite_true, ite_false, z, e6], by simp only [Act.defers_put, Act.eval_put_tmp, Act.eval_put_none, Act.size_put, Act.eval_const', Act.eval_func', Nat.reduceLT, Nat.reduceEqDiff, if_true, if_false, reduceCtorEq, ite_true, ite_false, z, e25]⟩, A1', c1', A', c', by simp only [Act.defers_put, Act.eval_put_tmp, Act.eval_put_none, Act.size_put, Act.eval_const', Act.eval_func', Nat.reduceLT, Nat.reduceEqDiff, if_true, if_false, reduceCtorEq, ite_true, ite_false, z, e13], by simp only [Act.defers_put, Act.eval_put_tmp, Act.eval_put_none, Act.size_put, Act.eval_const', Act.eval_func', Nat.reduceLT, Nat.reduceEqDiff, if_true, if_false, reduceCtorEq, ite_true, ite_false, z], st', o1.kept hg (own_apart o1 o3 (by decide)), ho, hb.grown hg (Nat.le_trans hB hb.size) (fun k hk => (o3.lt k hk).1)⟩)
  refine wpC_have (t := .x 9 [] (.x 16 [] (.q 22 (.q 23 (.x 24 [1] (.q 25 (.q 26 (.x 27 [] (.q 28 (.q 29 (.x 30 [] .nil))))))))))) (fun a X => (a.tmps.size = 132 ∧ a.defers = [] ∧ a.eval (.tmp 104) = .pointer (some ⟨c, 0, none⟩) ∧ a.eval (.tmp 105) = .pointer (some ⟨c, 0, none⟩) ∧ a.eval (.tmp 106) = .pointer (some ⟨c, 0, none⟩) ∧ a.eval (.tmp 125) = .int .i64 (totalOf 32 R + bm + tm + b)) ∧ a.eval (.tmp 110) = .slice A1 R.length c1 ∧ a.eval (.tmp 117) = .slice A3 (geosOf 32 R).length c3 ∧ ∃ gr gg, a.eval (.tmp 112) = .slice (some ⟨gr, 0, none⟩) 1 1 ∧ a.eval (.tmp 119) = .slice (some ⟨gg, 0, none⟩) 1 1 ∧ AddSt B X c w.heap.size w9.heap.size #[.slice A1 R.length c1, .map (some tb), .slice A2 K.length c2, .map (some nb), .map (some lb), .slice A3 (geosOf 32 R).length c3, .int .i64 (totalOf 32 R)] #[.string s, .int .u8 (lv.toNat : Int), .int .u16 (ct.toNat : Int), .int .i64 b, .int .i64 n, .int .i64 f, .int .i64 p, .int .i64 q, .int .i64 cl] #[.int .i64 (totalOf 32 R), .int .i64 bm, .int .i64 tm, .int .i64 (totalOf 32 R + bm + tm), .int .i64 b, .int .i64 n] K (trustL K) (namesFrom 0 (R ++ [⟨s.data.toList, lv, ct, b, n, f, p, q, cl⟩])) (labelsFrom 0 (R ++ [⟨s.data.toList, lv, ct, b, n, f, p, q, cl⟩])) tb nb lb A2 c2 ∧ X.ownsRow B 43 9 (.slice A1 R.length c1) R.length (rcellsOf R) ∧ X.ownsRow B 112 6 (.slice A3 (geosOf 32 R).length c3) (geosOf 32 R).length (gcellsOf (geosOf 32 R)) ∧ X.ownsRow B 43 9 (.slice (some ⟨gr, 0, none⟩) 1 1) 1 [.string s, .int .u8 (lv.toNat : Int), .int .u16 (ct.toNat : Int), .int .i64 b, .int .i64 n, .int .i64 f, .int .i64 p, .int .i64 q, .int .i64 cl] ∧ X.ownsRow B 112 6 (.slice (some ⟨gg, 0, none⟩) 1 1) 1 [.int .i64 (totalOf 32 R), .int .i64 bm, .int .i64 tm, .int .i64 (totalOf 32 R + bm + tm), .int .i64 b, .int .i64 n] ∧ Below B w X) (fun a X hF => ?_) (fun T9 => ?_)
  · obtain ⟨⟨z, d0, e4, e5, e6, e25⟩, e10, e17, gr, gg, e12, e19, st, o1, o3, or, og, hb⟩ := hF
    refine wpC_xs (by simp only [List.getElem?_toArray, List.getElem?_cons_succ, List.getElem?_cons_zero]; try rfl) (by rfl) (fun KK hKK => ?_)
    obtain ⟨i0, hi0, i1, i2, i3⟩ := info_parts info_reg
    refine wp_append_rd X (.tmp 110) (.tmp 112) 94 (by rfl) B 43 i0 (.agg #[.string ByteArray.empty, .int .u8 0, .int .u16 0, .int .i64 0, .int .i64 0, .int .i64 0, .int .i64 0, .int .i64 0, .int .i64 0]) 9 72 (by kernel_rfl) hi0 i1 i2 i3 rfl (by decide) (.slice A1 R.length c1) R.length (rcellsOf R) e10 o1 X.heap.size (some ⟨gr, 0, none⟩) 1 1 [.string s, .int .u8 (lv.toNat : Int), .int .u16 (ct.toNat : Int), .int .i64 b, .int .i64 n, .int .i64 f, .int .i64 p, .int .i64 q, .int .i64 cl] e12 (Rd.of_own or) (by simp [Value.oneCell']) (by have := hRl.out; simp only [maxLen, geosOf_length]; omega) (by have := hRl.out; (try simp only [geosOf_length]); omega) (Nat.le_trans hB (Nat.le_trans (Nat.le_of_lt HRZ.out) (Nat.le_of_lt st.gB.lt |> Nat.le_trans (Nat.le_refl _)))) (fun v' X' ho hg hnil hat => ?_)
    clear i0 hi0 i1 i2 i3 hnil hat
    obtain ⟨A', c', rfl, _, _, _⟩ := own_form ho
    have st' := st.row o1 (by decide) (by decide) (fun e => by have := (HL1.out _ e).2; omega) (fun e => by have := (HL1.out _ e).2; have := HRZ.out; omega) hg
    exact hKK _ _ (S2.hold st'.cB ⟨st'.rB, st'.gB⟩) (T16 _ _ ⟨⟨by rw [Act.size_put]; exact z, by rw [Act.defers_put]; exact d0, by simp only [Act.defers_put, Act.eval_put_tmp, Act.eval_put_none, Act.size_put, Act.eval_const', Act.eval_func', Nat.reduceLT, Nat.reduceEqDiff, if_true, if_false, reduceCtorEq, ite_true, ite_false, z, e4], by simp only [Act.defers_put, Act.eval_put_tmp, Act.eval_put_none, Act.size_put, Act.eval_const', Act.eval_func', Nat.reduceLT, Nat.reduceEqDiff, if_true, if_false, reduceCtorEq, ite_true, ite_false, z, e5], by simp only [Act.defers_put, Act.eval_put_tmp, Act.eval_put_none, Act.size_put, Act.eval_const', Act.eval_func', Nat.reduceLT, Nat.reduceEqDiff, if_true, if_false, reduceCtorEq, ite_true, ite_false, z, e6], by simp only [Act.defers_put, Act.eval_put_tmp, Act.eval_put_none, Act.size_put, Act.eval_const', Act.eval_func', Nat.reduceLT, Nat.reduceEqDiff, if_true, if_false, reduceCtorEq, ite_true, ite_false, z, e25]⟩, by simp only [Act.defers_put, Act.eval_put_tmp, Act.eval_put_none, Act.size_put, Act.eval_const', Act.eval_func', Nat.reduceLT, Nat.reduceEqDiff, if_true, if_false, reduceCtorEq, ite_true, ite_false, z, e17], A', c', gg, by simp only [Act.defers_put, Act.eval_put_tmp, Act.eval_put_none, Act.size_put, Act.eval_const', Act.eval_func', Nat.reduceLT, Nat.reduceEqDiff, if_true, if_false, reduceCtorEq, ite_true, ite_false, z], by simp only [Act.defers_put, Act.eval_put_tmp, Act.eval_put_none, Act.size_put, Act.eval_const', Act.eval_func', Nat.reduceLT, Nat.reduceEqDiff, if_true, if_false, reduceCtorEq, ite_true, ite_false, z, e19], st', ho, o3.kept hg (own_apart o3 o1 (by decide)), og.kept hg (own_apart og o1 (by decide)), hb.grown hg (Nat.le_trans hB hb.size) (fun k hk => (o1.lt k hk).1)⟩)
  refine wpC_act (fun a => a.tmps.size = 132 ∧ a.defers = [] ∧ a.eval (.tmp 104) = .pointer (some ⟨c, 0, none⟩) ∧ a.eval (.tmp 105) = .pointer (some ⟨c, 0, none⟩) ∧ a.eval (.tmp 106) = .pointer (some ⟨c, 0, none⟩) ∧ a.eval (.tmp 125) = .int .i64 (totalOf 32 R + bm + tm + b) ∧ a.eval (.tmp 110) = .slice A1 R.length c1 ∧ a.eval (.tmp 117) = .slice A3 (geosOf 32 R).length c3 ∧ a.eval (.tmp 111) = .agg #[.string s, .int .u8 (lv.toNat : Int), .int .u16 (ct.toNat : Int), .int .i64 b, .int .i64 n, .int .i64 f, .int .i64 p, .int .i64 q, .int .i64 cl] ∧ a.eval (.tmp 118) = .agg #[.int .i64 (totalOf 32 R), .int .i64 bm, .int .i64 tm, .int .i64 (totalOf 32 R + bm + tm), .int .i64 b, .int .i64 n]) ⟨?_, ?_, ?_, ?_, ?_, ?_, ?_, ?_, ?_, ?_⟩ (fun a hF => ?_)
  · simp only [Act.size_put, az]
  · simp only [Act.defers_put, ha0]
  iterate 8 (focus (simp only [Act.defers_put, Act.eval_put_tmp, Act.eval_put_none, Act.size_put, Act.eval_const', Act.eval_func', Nat.reduceLT, Nat.reduceEqDiff, if_true, if_false, reduceCtorEq, ite_true, ite_false, az, a0v, a6v, a13v]))
  obtain ⟨z, d0, e4, e5, e6, e25, e10, e17, e11, e18⟩ := hF
  have o1 := hR0
  have o3 := hG0
  have hb := hb0
  clear az a0v a6v a13v ha0 hR0 hG0 hb0
  generalize W12.drew = X at st o1 o3 hb ⊢
  refine wpC_br ?_ ?_
  · have D0 := hide d0
    clear d0
    refine wpC_xs (by simp only [List.getElem?_toArray, List.getElem?_cons_succ, List.getElem?_cons_zero]; try rfl) (by rfl) (fun KK hKK => ?_)
    unfold Oper.wp
    simp only [execOp, List.map_toArray, List.map_cons, List.map_nil, Act.defers_put, Act.eval_put_tmp, Act.eval_put_none, Act.size_put, Act.eval_const', Act.eval_func', Nat.reduceLT, Nat.reduceEqDiff, if_true, if_false, reduceCtorEq, ite_true, ite_false, z, e11]
    go_simp
    have d0 := D0.out
    clear D0
    have hbx : Below X.heap.size X (X.alloc (.cells #[.string s, .int .u8 (lv.toNat : Int), .int .u16 (ct.toNat : Int), .int .i64 b, .int .i64 n, .int .i64 f, .int .i64 p, .int .i64 q, .int .i64 cl] 43)) := (Below.refl _ _).alloc (Nat.le_refl _) _
    have or := own_lit (w := X) (base := B) (e := 43) (size := 9) (n := 1) (cs := #[.string s, .int .u8 (lv.toNat : Int), .int .u16 (ct.toNat : Int), .int .i64 b, .int .i64 n, .int .i64 f, .int .i64 p, .int .i64 q, .int .i64 cl]) rfl rfl (Nat.le_trans hB hb.size) (by simp [maxLen]) rfl
    refine hKK (a.put (some 112) (.slice (some ⟨X.heap.size, 0, none⟩) 1 1)) _ (S2.hold (st.cB.alloc _) ⟨st.rB.alloc _, st.gB.alloc _⟩) ?_
    clear hKK KK
    have st := st.below hbx
    have o1 := own_below o1 hbx
    have o3 := own_below o3 hbx
    have hb := hb.trans (hbx.mono (Nat.le_trans hB hb.size))
    clear hbx
    generalize hg112 : X.heap.size = g112 at or ⊢
    generalize X.alloc (.cells #[.string s, .int .u8 (lv.toNat : Int), .int .u16 (ct.toNat : Int), .int .i64 b, .int .i64 n, .int .i64 f, .int .i64 p, .int .i64 q, .int .i64 cl] 43) = Y at *
    clear hg112
    refine wpC_act (fun a => a.tmps.size = 132 ∧ a.defers = [] ∧ a.eval (.tmp 104) = .pointer (some ⟨c, 0, none⟩) ∧ a.eval (.tmp 105) = .pointer (some ⟨c, 0, none⟩) ∧ a.eval (.tmp 106) = .pointer (some ⟨c, 0, none⟩) ∧ a.eval (.tmp 125) = .int .i64 (totalOf 32 R + bm + tm + b) ∧ a.eval (.tmp 110) = .slice A1 R.length c1 ∧ a.eval (.tmp 117) = .slice A3 (geosOf 32 R).length c3 ∧ a.eval (.tmp 118) = .agg #[.int .i64 (totalOf 32 R), .int .i64 bm, .int .i64 tm, .int .i64 (totalOf 32 R + bm + tm), .int .i64 b, .int .i64 n] ∧ a.eval (.tmp 112) = .slice (some ⟨g112, 0, none⟩) 1 1) (by refine ⟨?_, ?_, ?_, ?_, ?_, ?_, ?_, ?_, ?_, ?_⟩ <;> simp only [Act.defers_put, Act.eval_put_tmp, Act.eval_put_none, Act.size_put, Act.eval_const', Act.eval_func', Nat.reduceLT, Nat.reduceEqDiff, if_true, if_false, reduceCtorEq, ite_true, ite_false, z, d0, e4, e5, e6, e25, e10, e17, e18]) (fun a2 hF2 => ?_)
    obtain ⟨z2, d2, e4, e5, e6, e25, e10, e17, e18, e12⟩ := hF2
    refine wpC_br ?_ ?_
    · refine wpC_xs (by simp only [List.getElem?_toArray, List.getElem?_cons_succ, List.getElem?_cons_zero]; try rfl) (by rfl) (fun KK hKK => ?_)
      obtain ⟨i0, hi0, i1, i2, i3⟩ := info_parts info_reg
      refine wp_append_rd Y (.tmp 110) (.tmp 112) 94 (by rfl) B 43 i0 (.agg #[.string ByteArray.empty, .int .u8 0, .int .u16 0, .int .i64 0, .int .i64 0, .int .i64 0, .int .i64 0, .int .i64 0, .int .i64 0]) 9 72 (by kernel_rfl) hi0 i1 i2 i3 rfl (by decide) (.slice A1 R.length c1) R.length (rcellsOf R) e10 o1 Y.heap.size (some ⟨g112, 0, none⟩) 1 1 [.string s, .int .u8 (lv.toNat : Int), .int .u16 (ct.toNat : Int), .int .i64 b, .int .i64 n, .int .i64 f, .int .i64 p, .int .i64 q, .int .i64 cl] e12 (Rd.of_own or) (by simp [Value.oneCell']) (by have := hRl.out; simp only [maxLen, geosOf_length]; omega) (by have := hRl.out; (try simp only [geosOf_length]); omega) (Nat.le_trans hB (Nat.le_trans (Nat.le_of_lt HRZ.out) (Nat.le_of_lt st.gB.lt |> Nat.le_trans (Nat.le_refl _)))) (fun v' X' ho hg hnil hat => ?_)
      clear i0 hi0 i1 i2 i3 hnil hat
      obtain ⟨A', c', rfl, _, _, _⟩ := own_form ho
      have st' := st.row o1 (by decide) (by decide) (fun e => by have := (HL1.out _ e).2; omega) (fun e => by have := (HL1.out _ e).2; have := HRZ.out; omega) hg
      have o3' := o3.kept hg (own_apart o3 o1 (by decide))
      have hb' := hb.grown hg (Nat.le_trans hB hb.size) (fun k hk => (o1.lt k hk).1)
      refine hKK _ _ (S2.hold st'.cB ⟨st'.rB, st'.gB⟩) ?_
      clear st o1 o3 hb hg hKK KK or
      have st := st'
      have o1 := ho
      have o3 := o3'
      have hb := hb'
      clear st' ho o3' hb'
      refine wpC_act (fun a => a.tmps.size = 132 ∧ a.defers = [] ∧ a.eval (.tmp 104) = .pointer (some ⟨c, 0, none⟩) ∧ a.eval (.tmp 105) = .pointer (some ⟨c, 0, none⟩) ∧ a.eval (.tmp 106) = .pointer (some ⟨c, 0, none⟩) ∧ a.eval (.tmp 125) = .int .i64 (totalOf 32 R + bm + tm + b) ∧ a.eval (.tmp 113) = .slice A' (R.length + 1) c' ∧ a.eval (.tmp 117) = .slice A3 (geosOf 32 R).length c3 ∧ a.eval (.tmp 118) = .agg #[.int .i64 (totalOf 32 R), .int .i64 bm, .int .i64 tm, .int .i64 (totalOf 32 R + bm + tm), .int .i64 b, .int .i64 n]) (by refine ⟨?_, ?_, ?_, ?_, ?_, ?_, ?_, ?_, ?_⟩ <;> simp only [Act.defers_put, Act.eval_put_tmp, Act.eval_put_none, Act.size_put, Act.eval_const', Act.eval_func', Nat.reduceLT, Nat.reduceEqDiff, if_true, if_false, reduceCtorEq, ite_true, ite_false, z2, d2, e4, e5, e6, e25, e17, e18]) (fun a3 hF3 => ?_)
      obtain ⟨z3, d3, e4, e5, e6, e25, e13, e17, e18⟩ := hF3
      have D0 := hide d3
      clear d3
      refine wpC_xs (by simp only [List.getElem?_toArray, List.getElem?_cons_succ, List.getElem?_cons_zero]; try rfl) (by rfl) (fun KK hKK => ?_)
      unfold Oper.wp
      simp only [execOp, List.map_toArray, List.map_cons, List.map_nil, Act.defers_put, Act.eval_put_tmp, Act.eval_put_none, Act.size_put, Act.eval_const', Act.eval_func', Nat.reduceLT, Nat.reduceEqDiff, if_true, if_false, reduceCtorEq, ite_true, ite_false, z3, e18]
      go_simp
      have d3 := D0.out
      clear D0
      have hbx : Below X'.heap.size X' (X'.alloc (.cells #[.int .i64 (totalOf 32 R), .int .i64 bm, .int .i64 tm, .int .i64 (totalOf 32 R + bm + tm), .int .i64 b, .int .i64 n] 112)) := (Below.refl _ _).alloc (Nat.le_refl _) _
      have og := own_lit (w := X') (base := B) (e := 112) (size := 6) (n := 1) (cs := #[.int .i64 (totalOf 32 R), .int .i64 bm, .int .i64 tm, .int .i64 (totalOf 32 R + bm + tm), .int .i64 b, .int .i64 n]) rfl rfl (Nat.le_trans hB hb.size) (by simp [maxLen]) rfl
      refine hKK (a3.put (some 119) (.slice (some ⟨X'.heap.size, 0, none⟩) 1 1)) _ (S2.hold (st.cB.alloc _) ⟨st.rB.alloc _, st.gB.alloc _⟩) ?_
      clear hKK KK
      have st := st.below hbx
      have o1 := own_below o1 hbx
      have o3 := own_below o3 hbx
      have hb := hb.trans (hbx.mono (Nat.le_trans hB hb.size))
      clear hbx
      generalize hg119 : X'.heap.size = g119 at og ⊢
      generalize X'.alloc (.cells #[.int .i64 (totalOf 32 R), .int .i64 bm, .int .i64 tm, .int .i64 (totalOf 32 R + bm + tm), .int .i64 b, .int .i64 n] 112) = Z at *
      clear hg119
      exact T16 _ _ ⟨⟨by simp only [Act.defers_put, Act.eval_put_tmp, Act.eval_put_none, Act.size_put, Act.eval_const', Act.eval_func', Nat.reduceLT, Nat.reduceEqDiff, if_true, if_false, reduceCtorEq, ite_true, ite_false, z3], by simp only [Act.defers_put, Act.eval_put_tmp, Act.eval_put_none, Act.size_put, Act.eval_const', Act.eval_func', Nat.reduceLT, Nat.reduceEqDiff, if_true, if_false, reduceCtorEq, ite_true, ite_false, d3], by simp only [Act.defers_put, Act.eval_put_tmp, Act.eval_put_none, Act.size_put, Act.eval_const', Act.eval_func', Nat.reduceLT, Nat.reduceEqDiff, if_true, if_false, reduceCtorEq, ite_true, ite_false, z3, e4], by simp only [Act.defers_put, Act.eval_put_tmp, Act.eval_put_none, Act.size_put, Act.eval_const', Act.eval_func', Nat.reduceLT, Nat.reduceEqDiff, if_true, if_false, reduceCtorEq, ite_true, ite_false, z3, e5], by simp only [Act.defers_put, Act.eval_put_tmp, Act.eval_put_none, Act.size_put, Act.eval_const', Act.eval_func', Nat.reduceLT, Nat.reduceEqDiff, if_true, if_false, reduceCtorEq, ite_true, ite_false, z3, e6], by simp only [Act.defers_put, Act.eval_put_tmp, Act.eval_put_none, Act.size_put, Act.eval_const', Act.eval_func', Nat.reduceLT, Nat.reduceEqDiff, if_true, if_false, reduceCtorEq, ite_true, ite_false, z3, e25]⟩, by simp only [Act.defers_put, Act.eval_put_tmp, Act.eval_put_none, Act.size_put, Act.eval_const', Act.eval_func', Nat.reduceLT, Nat.reduceEqDiff, if_true, if_false, reduceCtorEq, ite_true, ite_false, z3, e17], A', c', g119, by simp only [Act.defers_put, Act.eval_put_tmp, Act.eval_put_none, Act.size_put, Act.eval_const', Act.eval_func', Nat.reduceLT, Nat.reduceEqDiff, if_true, if_false, reduceCtorEq, ite_true, ite_false, z3, e13], by simp only [Act.defers_put, Act.eval_put_tmp, Act.eval_put_none, Act.size_put, Act.eval_const', Act.eval_func', Nat.reduceLT, Nat.reduceEqDiff, if_true, if_false, reduceCtorEq, ite_true, ite_false, z3], st, o1, o3, og, hb⟩
    · have D0 := hide d2
      clear d2
      refine wpC_xs (by simp only [List.getElem?_toArray, List.getElem?_cons_succ, List.getElem?_cons_zero]; try rfl) (by rfl) (fun KK hKK => ?_)
      unfold Oper.wp
      simp only [execOp, List.map_toArray, List.map_cons, List.map_nil, Act.defers_put, Act.eval_put_tmp, Act.eval_put_none, Act.size_put, Act.eval_const', Act.eval_func', Nat.reduceLT, Nat.reduceEqDiff, if_true, if_false, reduceCtorEq, ite_true, ite_false, z2, e18]
      go_simp
      have d2 := D0.out
      clear D0
      have hbx : Below Y.heap.size Y (Y.alloc (.cells #[.int .i64 (totalOf 32 R), .int .i64 bm, .int .i64 tm, .int .i64 (totalOf 32 R + bm + tm), .int .i64 b, .int .i64 n] 112)) := (Below.refl _ _).alloc (Nat.le_refl _) _
      have og := own_lit (w := Y) (base := B) (e := 112) (size := 6) (n := 1) (cs := #[.int .i64 (totalOf 32 R), .int .i64 bm, .int .i64 tm, .int .i64 (totalOf 32 R + bm + tm), .int .i64 b, .int .i64 n]) rfl rfl (Nat.le_trans hB hb.size) (by simp [maxLen]) rfl
      refine hKK (a2.put (some 119) (.slice (some ⟨Y.heap.size, 0, none⟩) 1 1)) _ (S2.hold (st.cB.alloc _) ⟨st.rB.alloc _, st.gB.alloc _⟩) ?_
      clear hKK KK
      have st := st.below hbx
      have o1 := own_below o1 hbx
      have o3 := own_below o3 hbx
      have or := own_below or hbx
      have hb := hb.trans (hbx.mono (Nat.le_trans hB hb.size))
      clear hbx
      generalize hg119 : Y.heap.size = g119 at og ⊢
      generalize Y.alloc (.cells #[.int .i64 (totalOf 32 R), .int .i64 bm, .int .i64 tm, .int .i64 (totalOf 32 R + bm + tm), .int .i64 b, .int .i64 n] 112) = Z at *
      clear hg119
      exact T9 _ _ ⟨⟨by simp only [Act.defers_put, Act.eval_put_tmp, Act.eval_put_none, Act.size_put, Act.eval_const', Act.eval_func', Nat.reduceLT, Nat.reduceEqDiff, if_true, if_false, reduceCtorEq, ite_true, ite_false, z2], by simp only [Act.defers_put, Act.eval_put_tmp, Act.eval_put_none, Act.size_put, Act.eval_const', Act.eval_func', Nat.reduceLT, Nat.reduceEqDiff, if_true, if_false, reduceCtorEq, ite_true, ite_false, d2], by simp only [Act.defers_put, Act.eval_put_tmp, Act.eval_put_none, Act.size_put, Act.eval_const', Act.eval_func', Nat.reduceLT, Nat.reduceEqDiff, if_true, if_false, reduceCtorEq, ite_true, ite_false, z2, e4], by simp only [Act.defers_put, Act.eval_put_tmp, Act.eval_put_none, Act.size_put, Act.eval_const', Act.eval_func', Nat.reduceLT, Nat.reduceEqDiff, if_true, if_false, reduceCtorEq, ite_true, ite_false, z2, e5], by simp only [Act.defers_put, Act.eval_put_tmp, Act.eval_put_none, Act.size_put, Act.eval_const', Act.eval_func', Nat.reduceLT, Nat.reduceEqDiff, if_true, if_false, reduceCtorEq, ite_true, ite_false, z2, e6], by simp only [Act.defers_put, Act.eval_put_tmp, Act.eval_put_none, Act.size_put, Act.eval_const', Act.eval_func', Nat.reduceLT, Nat.reduceEqDiff, if_true, if_false, reduceCtorEq, ite_true, ite_false, z2, e25]⟩, by simp only [Act.defers_put, Act.eval_put_tmp, Act.eval_put_none, Act.size_put, Act.eval_const', Act.eval_func', Nat.reduceLT, Nat.reduceEqDiff, if_true, if_false, reduceCtorEq, ite_true, ite_false, z2, e10], by simp only [Act.defers_put, Act.eval_put_tmp, Act.eval_put_none, Act.size_put, Act.eval_const', Act.eval_func', Nat.reduceLT, Nat.reduceEqDiff, if_true, if_false, reduceCtorEq, ite_true, ite_false, z2, e17], g112, g119, by simp only [Act.defers_put, Act.eval_put_tmp, Act.eval_put_none, Act.size_put, Act.eval_const', Act.eval_func', Nat.reduceLT, Nat.reduceEqDiff, if_true, if_false, reduceCtorEq, ite_true, ite_false, z2, e12], by simp only [Act.defers_put, Act.eval_put_tmp, Act.eval_put_none, Act.size_put, Act.eval_const', Act.eval_func', Nat.reduceLT, Nat.reduceEqDiff, if_true, if_false, reduceCtorEq, ite_true, ite_false, z2], st, o1, o3, or, og, hb⟩
  · have D0 := hide d0
    clear d0
    refine wpC_xs (by simp only [List.getElem?_toArray, List.getElem?_cons_succ, List.getElem?_cons_zero]; try rfl) (by rfl) (fun KK hKK => ?_)
    unfold Oper.wp
    simp only [execOp, List.map_toArray, List.map_cons, List.map_nil, Act.defers_put, Act.eval_put_tmp, Act.eval_put_none, Act.size_put, Act.eval_const', Act.eval_func', Nat.reduceLT, Nat.reduceEqDiff, if_true, if_false, reduceCtorEq, ite_true, ite_false, z, e18]
    go_simp
    have d0 := D0.out
    clear D0
    have hbx : Below X.heap.size X (X.alloc (.cells #[.int .i64 (totalOf 32 R), .int .i64 bm, .int .i64 tm, .int .i64 (totalOf 32 R + bm + tm), .int .i64 b, .int .i64 n] 112)) := (Below.refl _ _).alloc (Nat.le_refl _) _
    have og := own_lit (w := X) (base := B) (e := 112) (size := 6) (n := 1) (cs := #[.int .i64 (totalOf 32 R), .int .i64 bm, .int .i64 tm, .int .i64 (totalOf 32 R + bm + tm), .int .i64 b, .int .i64 n]) rfl rfl (Nat.le_trans hB hb.size) (by simp [maxLen]) rfl
    refine hKK (a.put (some 119) (.slice (some ⟨X.heap.size, 0, none⟩) 1 1)) _ (S2.hold (st.cB.alloc _) ⟨st.rB.alloc _, st.gB.alloc _⟩) ?_
    clear hKK KK
    have st := st.below hbx
    have o1 := own_below o1 hbx
    have o3 := own_below o3 hbx
    have hb := hb.trans (hbx.mono (Nat.le_trans hB hb.size))
    clear hbx
    generalize hg119 : X.heap.size = g119 at og ⊢
    generalize X.alloc (.cells #[.int .i64 (totalOf 32 R), .int .i64 bm, .int .i64 tm, .int .i64 (totalOf 32 R + bm + tm), .int .i64 b, .int .i64 n] 112) = Y at *
    clear hg119
    refine wpC_act (fun a => a.tmps.size = 132 ∧ a.defers = [] ∧ a.eval (.tmp 104) = .pointer (some ⟨c, 0, none⟩) ∧ a.eval (.tmp 105) = .pointer (some ⟨c, 0, none⟩) ∧ a.eval (.tmp 106) = .pointer (some ⟨c, 0, none⟩) ∧ a.eval (.tmp 125) = .int .i64 (totalOf 32 R + bm + tm + b) ∧ a.eval (.tmp 110) = .slice A1 R.length c1 ∧ a.eval (.tmp 117) = .slice A3 (geosOf 32 R).length c3 ∧ a.eval (.tmp 111) = .agg #[.string s, .int .u8 (lv.toNat : Int), .int .u16 (ct.toNat : Int), .int .i64 b, .int .i64 n, .int .i64 f, .int .i64 p, .int .i64 q, .int .i64 cl] ∧ a.eval (.tmp 119) = .slice (some ⟨g119, 0, none⟩) 1 1) (by refine ⟨?_, ?_, ?_, ?_, ?_, ?_, ?_, ?_, ?_, ?_⟩ <;> simp only [Act.defers_put, Act.eval_put_tmp, Act.eval_put_none, Act.size_put, Act.eval_const', Act.eval_func', Nat.reduceLT, Nat.reduceEqDiff, if_true, if_false, reduceCtorEq, ite_true, ite_false, z, d0, e4, e5, e6, e25, e10, e17, e11]) (fun a2 hF2 => ?_)
    obtain ⟨z2, d2, e4, e5, e6, e25, e10, e17, e11, e19⟩ := hF2
    have D0 := hide d2
    clear d2
    refine wpC_xs (by simp only [List.getElem?_toArray, List.getElem?_cons_succ, List.getElem?_cons_zero]; try rfl) (by rfl) (fun KK hKK => ?_)
    unfold Oper.wp
    simp only [execOp, List.map_toArray, List.map_cons, List.map_nil, Act.defers_put, Act.eval_put_tmp, Act.eval_put_none, Act.size_put, Act.eval_const', Act.eval_func', Nat.reduceLT, Nat.reduceEqDiff, if_true, if_false, reduceCtorEq, ite_true, ite_false, z2, e11]
    go_simp
    have d2 := D0.out
    clear D0
    have hbx : Below Y.heap.size Y (Y.alloc (.cells #[.string s, .int .u8 (lv.toNat : Int), .int .u16 (ct.toNat : Int), .int .i64 b, .int .i64 n, .int .i64 f, .int .i64 p, .int .i64 q, .int .i64 cl] 43)) := (Below.refl _ _).alloc (Nat.le_refl _) _
    have or := own_lit (w := Y) (base := B) (e := 43) (size := 9) (n := 1) (cs := #[.string s, .int .u8 (lv.toNat : Int), .int .u16 (ct.toNat : Int), .int .i64 b, .int .i64 n, .int .i64 f, .int .i64 p, .int .i64 q, .int .i64 cl]) rfl rfl (Nat.le_trans hB hb.size) (by simp [maxLen]) rfl
    refine hKK (a2.put (some 112) (.slice (some ⟨Y.heap.size, 0, none⟩) 1 1)) _ (S2.hold (st.cB.alloc _) ⟨st.rB.alloc _, st.gB.alloc _⟩) ?_
    clear hKK KK
    have st := st.below hbx
    have o1 := own_below o1 hbx
    have o3 := own_below o3 hbx
    have og := own_below og hbx
    have hb := hb.trans (hbx.mono (Nat.le_trans hB hb.size))
    clear hbx
    generalize hg112 : Y.heap.size = g112 at or ⊢
    generalize Y.alloc (.cells #[.string s, .int .u8 (lv.toNat : Int), .int .u16 (ct.toNat : Int), .int .i64 b, .int .i64 n, .int .i64 f, .int .i64 p, .int .i64 q, .int .i64 cl] 43) = Z at *
    clear hg112
    exact T9 _ _ ⟨⟨by simp only [Act.defers_put, Act.eval_put_tmp, Act.eval_put_none, Act.size_put, Act.eval_const', Act.eval_func', Nat.reduceLT, Nat.reduceEqDiff, if_true, if_false, reduceCtorEq, ite_true, ite_false, z2], by simp only [Act.defers_put, Act.eval_put_tmp, Act.eval_put_none, Act.size_put, Act.eval_const', Act.eval_func', Nat.reduceLT, Nat.reduceEqDiff, if_true, if_false, reduceCtorEq, ite_true, ite_false, d2], by simp only [Act.defers_put, Act.eval_put_tmp, Act.eval_put_none, Act.size_put, Act.eval_const', Act.eval_func', Nat.reduceLT, Nat.reduceEqDiff, if_true, if_false, reduceCtorEq, ite_true, ite_false, z2, e4], by simp only [Act.defers_put, Act.eval_put_tmp, Act.eval_put_none, Act.size_put, Act.eval_const', Act.eval_func', Nat.reduceLT, Nat.reduceEqDiff, if_true, if_false, reduceCtorEq, ite_true, ite_false, z2, e5], by simp only [Act.defers_put, Act.eval_put_tmp, Act.eval_put_none, Act.size_put, Act.eval_const', Act.eval_func', Nat.reduceLT, Nat.reduceEqDiff, if_true, if_false, reduceCtorEq, ite_true, ite_false, z2, e6], by simp only [Act.defers_put, Act.eval_put_tmp, Act.eval_put_none, Act.size_put, Act.eval_const', Act.eval_func', Nat.reduceLT, Nat.reduceEqDiff, if_true, if_false, reduceCtorEq, ite_true, ite_false, z2, e25]⟩, by simp only [Act.defers_put, Act.eval_put_tmp, Act.eval_put_none, Act.size_put, Act.eval_const', Act.eval_func', Nat.reduceLT, Nat.reduceEqDiff, if_true, if_false, reduceCtorEq, ite_true, ite_false, z2, e10], by simp only [Act.defers_put, Act.eval_put_tmp, Act.eval_put_none, Act.size_put, Act.eval_const', Act.eval_func', Nat.reduceLT, Nat.reduceEqDiff, if_true, if_false, reduceCtorEq, ite_true, ite_false, z2, e17], g112, g119, by simp only [Act.defers_put, Act.eval_put_tmp, Act.eval_put_none, Act.size_put, Act.eval_const', Act.eval_func', Nat.reduceLT, Nat.reduceEqDiff, if_true, if_false, reduceCtorEq, ite_true, ite_false, z2], by simp only [Act.defers_put, Act.eval_put_tmp, Act.eval_put_none, Act.size_put, Act.eval_const', Act.eval_func', Nat.reduceLT, Nat.reduceEqDiff, if_true, if_false, reduceCtorEq, ite_true, ite_false, z2, e19], st, o1, o3, or, og, hb⟩
end

end Go.Proofs.Ytoeejeieplhifaa

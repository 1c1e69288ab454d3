/- Configurations: a label that is added. Configurations in small numbers: labels of a size are right. No program in sight. Configurations: what one that was made answers. Configurations: New. A row that grows by one, whose new element lies in a row made for it. Rows of one's own and what leaves them as they are. The disk, walked: what stands in it, read and written. The log and a transaction, walked. A transaction's calls, walked: Get, Put, fail, Drop. Bits in blocks, walked. The library's contracts at this dump, laid by the kit's tools lay-shelf and lay-plain; remarks struck. -/
import Derived.Test.YthmkgohfeahdhaaGreatCkSuperLawP1
import Derived.Laws.Tables
import Derived.Test.YthmkgohfeahdhaaGreatProg
import Derived.Deep.RegionHeld3
import Derived.Deep.RegionLaw
import Derived.Deep.QuietTactic
import Derived.BigQuiet
import Derived.Handy
import Derived.Deep.LoopGhost
import Derived.Deep.Cut
import Derived.Deep.CutRange
import Derived.Shelf.Small.Bits
import Derived.Shelf.Small.Wraps
import Derived.Shelf.Strconv.Itoa0
import Derived.Shelf.Sort.Plain
import Derived.Ground.Names2Prog
import Derived.Shelf.Slices.SearchI
import Derived.Shelf.Slices.In.SortNone
namespace Go.Proofs.YthmkgohfeahdhaaGreat
open Go.RowKit Go.WideMaps
set_option linter.unusedSimpArgs false
set_option linter.unusedVariables false

theorem info_reg : (Tryz.prog.info? 41).map (fun i => (i.zero, i.size, i.bytes)) = some (some (.agg #[.string ByteArray.empty, .int .u8 0, .int .u16 0, .int .i64 0, .int .i64 0, .int .i64 0, .int .i64 0, .int .i64 0, .int .i64 0]), 9, 72) := by kernel_rfl
theorem info_geo : (Tryz.prog.info? 169).map (fun i => (i.zero, i.size, i.bytes)) = some (some (.agg #[.int .i64 0, .int .i64 0, .int .i64 0, .int .i64 0, .int .i64 0, .int .i64 0]), 6, 48) := by kernel_rfl
theorem okr_snoc {R : List RegV} {s : ByteArray} {lv : UInt8} {ct : UInt16} {b n f p q cl : Int} (h : ∀ r ∈ R, okReg r) (hn : nameB s.data.toList = true) (hs : soundC b n f p q = true) : ∀ r ∈ R ++ [(⟨s.data.toList, lv, ct, b, n, f, p, q, cl⟩ : RegV)], okReg r := by
  simp only [soundC, inB, Bool.and_eq_true, decide_eq_true_eq] at hs
  intro r hr
  rcases List.mem_append.1 hr with h' | h'
  · exact h r h'
  · simp only [List.mem_singleton] at h'
    subst h'
    exact ⟨hn, hs.1.1, hs.1.2, hs.2.1.1, hs.2.1.2⟩
theorem AddSt.done {B : Nat} {X W3 : World} {c rb gb : Nat} {cc rc gc : Array Value} {K : List MarkV} {R : List RegV} {r : RegV} {GV : GeoV} {tb nb lb : Nat} {A1 A2 A3 : Option Addr} {c1 c2 c3 : Nat} (st : AddSt B X c rb gb cc rc gc K (trustL K) (namesFrom 0 (R ++ [r])) (labelsFrom 0 (R ++ [r])) tb nb lb A2 c2)
    (o3 : X.ownsRow B 169 6 (.slice A3 ((geosOf 32 R).length + 1) c3) ((geosOf 32 R).length + 1) (gcellsOf (geosOf 32 R) ++ (geoOf (totalOf 32 R) r).cells))
    (o1 : X.ownsRow B 41 9 (.slice A1 (R.length + 1) c1) (R.length + 1) (rcellsOf R ++ r.cells))
    (hblk : Blk W3 c 179 #[.slice A1 (R.length + 1) c1, .map (some tb), .slice A2 K.length c2, .map (some nb), .map (some lb), .slice A3 ((geosOf 32 R).length + 1) c3, .int .i64 (geoOf (totalOf 32 R) r).end_])
    (far : ∀ g, g ≠ c → W3.heap[g]? = X.heap[g]?) (hN : B ≤ c ∧ B ≤ tb ∧ B ≤ nb ∧ B ≤ lb ∧ tb ≠ nb ∧ tb ≠ lb ∧ nb ≠ lb) (ok : ∀ x ∈ R ++ [r], okReg x) :
    ConfIn B W3 c (R ++ [r]) K tb nb lb A1 A2 A3 c1 c2 c3 := by
  refine ⟨⟨?_, ?_, ?_, ?_, ?_, ?_, ?_, hN.1, hN.2.1, hN.2.2.1, hN.2.2.2.1, hN.2.2.2.2.1, hN.2.2.2.2.2.1, hN.2.2.2.2.2.2⟩, ok⟩
  · rw [geosOf_snoc, totalOf_snoc, List.length_append, List.length_append]
    exact hblk
  · rw [rcellsOf_snoc, List.length_append]
    exact own_keep o1 fun g hg => far g fun e => blk_not_own st.cB o1 (by decide) (e ▸ hg)
  · exact own_keep st.marks fun g hg => far g fun e => blk_not_own st.cB st.marks (by decide) (e ▸ hg)
  · rw [geosOf_snoc, gcellsOf_snoc, List.length_append]
    exact own_keep o3 fun g hg => far g fun e => blk_not_own st.cB o3 (by decide) (e ▸ hg)
  · exact st.tr.keep (far tb fun e => blk_not_map st.cB st.tr.is e.symm)
  · exact st.nm.keep (far nb fun e => blk_not_map st.cB st.nm.is e.symm)
  · exact st.lm.keep (far lb fun e => blk_not_map st.cB st.lm.is e.symm)

section
variable {B : Nat} {w w' : World} {c : Nat} {R : List RegV} {K : List MarkV} {tb nb lb : Nat} {A1 A2 A3 : Option Addr} {c1 c2 c3 : Nat}

set_option maxRecDepth 100000 in
set_option maxHeartbeats 4000000 in
set_option pp.deepTerms true in
set_option pp.maxSteps 100000 in
theorem add_fine (hB : B ≤ w.heap.size) (h : ConfIn B w c R K tb nb lb A1 A2 A3 c1 c2 c3) (s : ByteArray) (lv : UInt8) (ct : UInt16) (b n f p q cl many : Int) (i : Nat) (hn : nameB s.data.toList = true) (h1 : -9000000000000000000 ≤ many) (h2 : many ≤ 9000000000000000000)
    (hr : (decide (lv ≤ 15) && (soundC b n f p q && inB cl 0 (many - 1))) = true) (ht : s.data.toList ∉ R.map (·.name)) (ht2 : (lv, ct) ∉ R.map (fun x => (x.lev, x.cats))) (hi : i = R.length) (h64 : i < 64) :
    Calls Tryz.prog 90 #[.pointer (some ⟨c, 0, none⟩), .int .i64 (i : Int), .agg #[.string s, .int .u8 (lv.toNat : Int), .int .u16 (ct.toNat : Int), .int .i64 b, .int .i64 n, .int .i64 f, .int .i64 p, .int .i64 q, .int .i64 cl], .int .i64 many] w fun e w' => e = .returned (.int .i64 0) ∧ Below B w w' ∧
      ∃ A1' A3' c1' c3', ConfIn B w' c (R ++ [⟨s.data.toList, lv, ct, b, n, f, p, q, cl⟩]) K tb nb lb A1' A2 A3' c1' c2 c3' := by
  have hcw : c < w.heap.size := h.blk.lt
  have HL1 := hide h.regs.lt
  have HL3 := hide h.geos.lt
  have hv2 := labels_none ht2
  have HLL : Hid (∀ (u : World), MapR dkv u lb (labelsFrom 0 R) → ∀ W, Below u.heap.size u W → (Instr.lookup 176 (.map (some lb)) (.agg #[.int .u8 (lv.toNat : Int), .int .u16 (ct.toNat : Int)]) true).run Tryz.prog W = .ok (.tuple #[.int .i64 0, .bool false]) W) := hide fun u hu W hW => look_labels hu lv ct (by rw [hv2]; rfl) (by rw [hv2]; rfl) W hW
  have HV2 := hide hv2
  have HI := hide hi
  clear hv2 ht2 hi
  have hsm : s.size ≤ maxLen := by have := name_short hn; have := sz s; simp only [maxLen]; omega
  have hl : decide (lv ≤ 15) = true := by simp only [Bool.and_eq_true] at hr; exact hr.1
  have hs : soundC b n f p q = true := by simp only [Bool.and_eq_true] at hr; exact hr.2.1
  have hcl : inB cl 0 (many - 1) = true := by simp only [Bool.and_eq_true] at hr; exact hr.2.2
  clear hr
  go_enter Tryz.func90, Tryz.ntmps90
  go_wp2_with fail
  refine (name_ok _ _).mono ?_
  rw [hn]
  rintro e w1 ⟨rfl, hb⟩
  refine at_world (fun W => Below w.heap.size w W ∧ Blk W w.heap.size 41 #[.string s, .int .u8 (lv.toNat : Int), .int .u16 (ct.toNat : Int), .int .i64 b, .int .i64 n, .int .i64 f, .int .i64 p, .int .i64 q, .int .i64 cl] ∧ ConfIn B W c R K tb nb lb A1 A2 A3 c1 c2 c3) ⟨((Below.refl w.heap.size w).alloc (Nat.le_refl _) _).trans (hb.mono (by simp)), (Blk.new w _ _).below hb (by simp), h.below (((Below.refl w.heap.size w).alloc (Nat.le_refl _) _).trans (hb.mono (by simp)))⟩ (fun W1 h9 => ?_)
  clear h
  obtain ⟨hb1, rB, h⟩ := h9
  have x0 := rB.cell 0
  have x1 := rB.cell 1
  have x2 := rB.cell 2
  have x3 := rB.cell 3
  have x4 := rB.cell 4
  have x5 := rB.cell 5
  have x6 := rB.cell 6
  have x7 := rB.cell 7
  have x8 := rB.cell 8
  have xl := rB.lt
  have HB := hide hb1
  have hbn := hb1.size
  clear hb hb1
  go_wp2_with fail
  refine (label_valid _ _ _).mono ?_
  rw [hl]
  rintro e w2 ⟨rfl, hb⟩
  have hb1 := HB.out.trans (hb.mono HB.out.size)
  have rB' := rB.below hb rB.lt
  have h' := h.below hb
  clear x0 x1 x2 x3 x4 x5 x6 x7 x8 xl
  clear HB rB hb h
  have rB := rB'
  have h := h'
  clear rB' h'
  have x0 := rB.cell 0
  have x1 := rB.cell 1
  have x2 := rB.cell 2
  have x3 := rB.cell 3
  have x4 := rB.cell 4
  have x5 := rB.cell 5
  have x6 := rB.cell 6
  have x7 := rB.cell 7
  have x8 := rB.cell 8
  have xl := rB.lt
  have HB := hide hb1
  clear hb1
  clear hl
  go_wp2_with fail
  refine (sound_ok _ _ _ _ _ _ _ _ _ _).mono ?_
  rw [hs]
  rintro e w3 ⟨rfl, hb⟩
  have hb1 := HB.out.trans (hb.mono HB.out.size)
  have rB' := rB.below hb rB.lt
  have h' := h.below hb
  clear x0 x1 x2 x3 x4 x5 x6 x7 x8 xl
  clear HB rB hb h
  have rB := rB'
  have h := h'
  clear rB' h'
  have x0 := rB.cell 0
  have x1 := rB.cell 1
  have x2 := rB.cell 2
  have x3 := rB.cell 3
  have x4 := rB.cell 4
  have x5 := rB.cell 5
  have x6 := rB.cell 6
  have x7 := rB.cell 7
  have x8 := rB.cell 8
  have xl := rB.lt
  have HB := hide hb1
  clear hb1
  have HS := hide hs
  clear hs
  have hw : wrap64 (many - 1) = many - 1 := IntWalk.wrap64_in _ (by omega)
  go_wp2_with fail
  refine (within_ok _ _ _ _).mono ?_
  rw [hcl]
  rintro e w4 ⟨rfl, rfl⟩
  clear hcl hw
  go_wp2_with fail
  have hv : mget (namesFrom 0 R) (sk s hsm) = none := names_none h.ok hsm ht
  have HLK : Hid (∀ (u : World), MapR skv u nb (namesFrom 0 R) → ∀ W, Below u.heap.size u W → (Instr.lookup 175 (.map (some nb)) (.string s) true).run Tryz.prog W = .ok (.tuple #[.int .i64 0, .bool false]) W) := hide fun u hu W hW => look_names hu s hsm (by rw [hv]; rfl) (by rw [hv]; rfl) W hW
  have HV := hide hv
  have HT := hide ht
  clear hv ht
  have c3 := h.blk.cell 3
  have cz := h.blk.lt
  have hlk : ∀ W, Below w4.heap.size w4 W → (Instr.lookup 175 (.map (some nb)) (.string s) true).run Tryz.prog W = .ok (.tuple #[.int .i64 0, .bool false]) W := HLK.out w4 h.nm
  have hnz := h.nm.lt
  refine wp_region_text [0, 0, 0, 0, 0, 0, 0, 0, 0, 0, 0, 0] (Below w4.heap.size w4) (by kernel_rfl) (by kernel_rfl) (Below.refl _ _).drew ?_
  iterate 12 (refine wpOrd_q (v := ?_) (by rfl) (fun W hW => ?_) ?_; rotate_left; (focus ((obtain ⟨hWc, hWf⟩ := bcell hW); have hq := hlk W hW; go_simp; try with_reducible rfl)); try simp only [Act.put, List.setIfInBounds_toArray, List.set_cons_zero, List.set_cons_succ])
  refine wpOrd_nil ?_
  clear c3 cz hlk hnz
  go_wp2_with fail
  refine at_world (fun W => Below w.heap.size w W ∧ Blk W w.heap.size 41 #[.string s, .int .u8 (lv.toNat : Int), .int .u16 (ct.toNat : Int), .int .i64 b, .int .i64 n, .int .i64 f, .int .i64 p, .int .i64 q, .int .i64 cl] ∧ ConfIn B W c R K tb nb lb A1 A2 A3 c1 c2 c3) ⟨HB.out.drew, rB.drew, h.drew⟩ (fun W5 h9 => ?_)
  clear h rB HB x0 x1 x2 x3 x4 x5 x6 x7 x8 xl HLK
  obtain ⟨hb1, rB, h⟩ := h9
  have x0 := rB.cell 0
  have x1 := rB.cell 1
  have x2 := rB.cell 2
  have x3 := rB.cell 3
  have x4 := rB.cell 4
  have x5 := rB.cell 5
  have x6 := rB.cell 6
  have x7 := rB.cell 7
  have x8 := rB.cell 8
  have xl := rB.lt
  have HB := hide hb1
  clear hb1
  have c4 := h.blk.cell 4
  have cz := h.blk.lt
  have hlk : ∀ W, Below W5.heap.size W5 W → (Instr.lookup 176 (.map (some lb)) (.agg #[.int .u8 (lv.toNat : Int), .int .u16 (ct.toNat : Int)]) true).run Tryz.prog W = .ok (.tuple #[.int .i64 0, .bool false]) W := HLL.out W5 h.lm
  have hlz := h.lm.lt
  refine wp_region_text [0, 0, 0, 0, 0, 0, 0, 0, 0, 0, 0, 0] (Below W5.heap.size W5) (by kernel_rfl) (by kernel_rfl) (Below.refl _ _).drew ?_
  iterate 12 (refine wpOrd_q (v := ?_) (by rfl) (fun W hW => ?_) ?_; rotate_left; (focus ((obtain ⟨hWc, hWf⟩ := bcell hW); have hq := hlk W hW; go_simp; try with_reducible rfl)); try simp only [Act.put, List.setIfInBounds_toArray, List.set_cons_zero, List.set_cons_succ])
  refine wpOrd_nil ?_
  clear c4 cz hlk hlz
  go_wp2_with fail
  refine at_world (fun W => Below B w W ∧ Blk W w.heap.size 41 #[.string s, .int .u8 (lv.toNat : Int), .int .u16 (ct.toNat : Int), .int .i64 b, .int .i64 n, .int .i64 f, .int .i64 p, .int .i64 q, .int .i64 cl] ∧ ConfIn B W c R K tb nb lb A1 A2 A3 c1 c2 c3) ⟨(HB.out.mono hB).drew, rB.drew, h.drew⟩ (fun W6 h9 => ?_)
  clear h rB HB x0 x1 x2 x3 x4 x5 x6 x7 x8 xl HLL
  obtain ⟨hb1, rB, h⟩ := h9
  have HB := hide hb1
  clear hb1
  obtain ⟨en, w6, run1, hE1, ho1⟩ := (h.drew.nm).entry strEnc Tryz.underlying175 (z := .int .i64 0) (fun _ => by kernel_rfl) (sk s hsm) HV.out
  rw [skv_sk] at run1
  refine wp_region_text [0, 0, 0, 0, 0, 0, 0, 0, 0, 0, 0, 0, 0, 0, 1, 0, 1, 1, 0, 1] (fun W => Blk W c 179 #[.slice A1 R.length c1, .map (some tb), .slice A2 K.length c2, .map (some nb), .map (some lb), .slice A3 (geosOf 32 R).length c3, .int .i64 (totalOf 32 R)] ∧ Blk W w.heap.size 41 #[.string s, .int .u8 (lv.toNat : Int), .int .u16 (ct.toNat : Int), .int .i64 b, .int .i64 n, .int .i64 f, .int .i64 p, .int .i64 q, .int .i64 cl]) (by kernel_rfl) (by kernel_rfl) ⟨h.blk.drew, rB.drew⟩ ?_
  iterate 14 (refine wpOrd_q (v := ?_) (by rfl) (fun W hW => ?_) ?_; rotate_left; (focus ((obtain ⟨hW1, hW2⟩ := hW; have c0' := hW1.cell 0; have c3' := hW1.cell 3; have c4' := hW1.cell 4; have c5' := hW1.cell 5; have c6' := hW1.cell 6; have cl' := hW1.lt; have x0 := hW2.cell 0; have x1 := hW2.cell 1; have x2 := hW2.cell 2; have x3 := hW2.cell 3; have x4 := hW2.cell 4; have x5 := hW2.cell 5; have x6 := hW2.cell 6; have x7 := hW2.cell 7; have x8 := hW2.cell 8; have xl := hW2.lt); go_simp; try with_reducible rfl)); try simp only [Act.put, List.setIfInBounds_toArray, List.set_cons_zero, List.set_cons_succ])
  have cB1 := (ho1.blk (fun e => blk_not_map h.blk h.nm.is e) h.blk.drew.lt).trans h.blk
  have rB1 := (ho1.blk (fun e => blk_not_map rB h.nm.is e) rB.drew.lt).trans rB
  refine wpOrd_x (by rfl) (fun K hK => ?_)
  go_simp
  refine hK _ _ _ (fun _ h => h) ⟨cB1, rB1⟩ ?_
  clear hK K run1
  try simp only [Act.put, List.setIfInBounds_toArray, List.set_cons_zero, List.set_cons_succ]
  iterate 1 (refine wpOrd_q (v := ?_) (by rfl) (fun W hW => ?_) ?_; rotate_left; (focus ((obtain ⟨hW1, hW2⟩ := hW; have c0' := hW1.cell 0; have c3' := hW1.cell 3; have c4' := hW1.cell 4; have c5' := hW1.cell 5; have c6' := hW1.cell 6; have cl' := hW1.lt; have x0 := hW2.cell 0; have x1 := hW2.cell 1; have x2 := hW2.cell 2; have x3 := hW2.cell 3; have x4 := hW2.cell 4; have x5 := hW2.cell 5; have x6 := hW2.cell 6; have x7 := hW2.cell 7; have x8 := hW2.cell 8; have xl := hW2.lt); go_simp; try with_reducible rfl)); try simp only [Act.put, List.setIfInBounds_toArray, List.set_cons_zero, List.set_cons_succ])
  obtain ⟨w7, run2, hM2, ho2⟩ := hE1.store (P := Tryz.prog) (T := 175) (.int .i64 (i : Int))
  have ho12 := ho1.trans ho2
  have h7 := h.drew.toConfG.names ho12 hM2
  have rB7 : Blk w7 w.heap.size 41 #[.string s, .int .u8 (lv.toNat : Int), .int .u16 (ct.toNat : Int), .int .i64 b, .int .i64 n, .int .i64 f, .int .i64 p, .int .i64 q, .int .i64 cl] := (ho12.blk (fun e => blk_not_map rB h.nm.is e) rB.drew.lt).trans rB
  have hb7 : Below B w w7 := by
    have := h.hnb
    exact HB.out.drew.grown ho12.1 (Nat.le_trans hB HB.out.drew.size) (fun k hk => by injection hk with hk; omega)
  have HV7 := hide hb7
  refine wpOrd_x (by rfl) (fun K hK => ?_)
  go_simp
  refine hK _ _ _ (fun _ h => h) ⟨h7.blk, rB7⟩ ?_
  clear hK K run2 hb7
  try simp only [Act.put, List.setIfInBounds_toArray, List.set_cons_zero, List.set_cons_succ]
  obtain ⟨en2, w8, run3, hE3, ho3⟩ := h7.lm.entry labEnc Tryz.underlying176 (z := .int .i64 0) (fun _ => by kernel_rfl) (lv, ct) HV2.out
  simp only [dkv] at run3
  have cB3 := (ho3.blk (fun e => blk_not_map h7.blk h7.lm.is e) h7.blk.lt).trans h7.blk
  have rB3 := (ho3.blk (fun e => blk_not_map rB7 h7.lm.is e) rB7.lt).trans rB7
  refine wpOrd_x (by rfl) (fun K hK => ?_)
  go_simp
  refine hK _ _ _ (fun _ h => h) ⟨cB3, rB3⟩ ?_
  clear hK K run3
  try simp only [Act.put, List.setIfInBounds_toArray, List.set_cons_zero, List.set_cons_succ]
  iterate 1 (refine wpOrd_q (v := ?_) (by rfl) (fun W hW => ?_) ?_; rotate_left; (focus ((obtain ⟨hW1, hW2⟩ := hW; have c0' := hW1.cell 0; have c3' := hW1.cell 3; have c4' := hW1.cell 4; have c5' := hW1.cell 5; have c6' := hW1.cell 6; have cl' := hW1.lt; have x0 := hW2.cell 0; have x1 := hW2.cell 1; have x2 := hW2.cell 2; have x3 := hW2.cell 3; have x4 := hW2.cell 4; have x5 := hW2.cell 5; have x6 := hW2.cell 6; have x7 := hW2.cell 7; have x8 := hW2.cell 8; have xl := hW2.lt); go_simp; try with_reducible rfl)); try simp only [Act.put, List.setIfInBounds_toArray, List.set_cons_zero, List.set_cons_succ])
  obtain ⟨w9, run4, hM4, ho4⟩ := hE3.store (P := Tryz.prog) (T := 176) (.int .i64 (i : Int))
  have ho34 := ho3.trans ho4
  have h9 := h7.labels ho34 hM4
  have rB9 : Blk w9 w.heap.size 41 #[.string s, .int .u8 (lv.toNat : Int), .int .u16 (ct.toNat : Int), .int .i64 b, .int .i64 n, .int .i64 f, .int .i64 p, .int .i64 q, .int .i64 cl] := (ho34.blk (fun e => blk_not_map rB7 h7.lm.is e) rB7.lt).trans rB7
  have hb9 : Below B w w9 := by
    have := h.hlb
    exact HV7.out.grown ho34.1 (Nat.le_trans hB HV7.out.size) (fun k hk => by injection hk with hk; omega)
  refine wpOrd_x (by rfl) (fun K hK => ?_)
  go_simp
  refine hK _ _ _ (fun _ h => h) ⟨h9.blk, rB9⟩ ?_
  clear hK K run4 HV7
  try simp only [Act.put, List.setIfInBounds_toArray, List.set_cons_zero, List.set_cons_succ]
  refine wpOrd_nil ?_
  have HB9 := hide hb9
  have HOK := hide h.ok
  clear h rB hb9 HB cB1 rB1 ho1 hE1 hM2 ho2 ho12 h7 rB7 cB3 rB3 ho3 hE3 hM4 ho4 ho34 hbn
  have hsb := HS.out
  simp only [soundC, inB, Bool.and_eq_true, decide_eq_true_eq, beq_iff_eq] at hsb
  obtain ⟨⟨sb1, sb2⟩, ⟨sn1, sn2⟩, sn3, _⟩ := hsb
  obtain ⟨tt1, tt2⟩ := total_bounds HOK.out 32 (by omega)
  have tt3 : totalOf 32 R ≤ 40000 := by have := HI.out; omega
  clear tt2 sn3
  go_wp2_with fail
  have e1 : IntKind.i64.wrap (b + 512) = b + 512 := IntWalk.i64_in _ (by omega)
  have e2 : IntKind.i64.wrap (b + 512 - 1) = b + 511 := by rw [IntWalk.i64_in _ (by omega)]; omega
  obtain ⟨bm, hbm⟩ : ∃ bm, bm = (b + 511) / 512 := ⟨_, rfl⟩
  obtain ⟨tm, htm⟩ : ∃ tm, tm = (n * 32 + 63) / 64 := ⟨_, rfl⟩
  have e3 : (b + 511).tdiv 512 = bm := by rw [hbm]; exact Int.tdiv_eq_ediv_of_nonneg (by omega)
  have e4 : IntKind.i64.wrap (n * 32) = n * 32 := IntWalk.i64_in _ (by omega)
  have e5 : IntKind.i64.wrap (n * 32 + 64) = n * 32 + 64 := IntWalk.i64_in _ (by omega)
  have e6 : IntKind.i64.wrap (n * 32 + 64 - 1) = n * 32 + 63 := by rw [IntWalk.i64_in _ (by omega)]; omega
  have e7 : (n * 32 + 63).tdiv 64 = tm := by rw [htm]; exact Int.tdiv_eq_ediv_of_nonneg (by omega)
  have bm1 : 0 ≤ bm := by omega
  have bm2 : bm ≤ 2 := by omega
  have tm1 : 0 ≤ tm := by omega
  have tm2 : tm ≤ 65 := by omega
  have e8 : IntKind.i64.wrap bm = bm := IntWalk.i64_in _ (by omega)
  have e9 : IntKind.i64.wrap tm = tm := IntWalk.i64_in _ (by omega)
  have HBM := hide hbm
  have HTM := hide htm
  clear hbm htm
  refine wp_region_text [0, 0, 0, 0, 0, 0, 0, 0, 0, 0, 0, 0, 0, 0, 0, 0, 0, 0, 0, 0, 1, 1] (fun W => Blk W c 179 #[.slice A1 R.length c1, .map (some tb), .slice A2 K.length c2, .map (some nb), .map (some lb), .slice A3 (geosOf 32 R).length c3, .int .i64 (totalOf 32 R)] ∧ Blk W w.heap.size 41 #[.string s, .int .u8 (lv.toNat : Int), .int .u16 (ct.toNat : Int), .int .i64 b, .int .i64 n, .int .i64 f, .int .i64 p, .int .i64 q, .int .i64 cl]) (by kernel_rfl) (by kernel_rfl) ⟨h9.blk.drew, rB9.drew⟩ ?_
  iterate 20 (refine wpOrd_q (v := ?_) (by rfl) (fun W hW => ?_) ?_; rotate_left; (focus ((obtain ⟨hW1, hW2⟩ := hW; have c0' := hW1.cell 0; have c3' := hW1.cell 3; have c4' := hW1.cell 4; have c5' := hW1.cell 5; have c6' := hW1.cell 6; have cl' := hW1.lt; have x0 := hW2.cell 0; have x1 := hW2.cell 1; have x2 := hW2.cell 2; have x3 := hW2.cell 3; have x4 := hW2.cell 4; have x5 := hW2.cell 5; have x6 := hW2.cell 6; have x7 := hW2.cell 7; have x8 := hW2.cell 8; have xl := hW2.lt); go_simp; try with_reducible rfl)); try simp only [Act.put, List.setIfInBounds_toArray, List.set_cons_zero, List.set_cons_succ])
  clear e1 e2 e3 e4 e5 e6 e7 e8 e9
  refine wpOrd_x (by rfl) (fun K hK => ?_)
  go_simp
  refine hK _ _ _ (fun _ h => h) ⟨h9.blk.drew.alloc _, rB9.drew.alloc _⟩ ?_
  clear hK K
  try simp only [Act.put, List.setIfInBounds_toArray, List.set_cons_zero, List.set_cons_succ]
  obtain ⟨W10, hW10⟩ : ∃ W10, W10 = (w9.alloc (.cells #[.int .i64 0, .int .i64 0, .int .i64 0, .int .i64 0, .int .i64 0, .int .i64 0] 169)).drew := ⟨_, rfl⟩
  have gB0 : Blk W10 w9.heap.size 169 #[.int .i64 0, .int .i64 0, .int .i64 0, .int .i64 0, .int .i64 0, .int .i64 0] := by rw [hW10]; exact (Blk.new w9 _ _).drew
  have hx10 : Below w9.heap.size w9 W10 := by rw [hW10]; exact ((Below.refl _ _).alloc (Nat.le_refl _) _).drew
  have cB10 := h9.blk.below hx10 h9.blk.lt
  have rB10 := rB9.below hx10 rB9.lt
  rw [← hW10]
  have hz10 : w9.heap.size < W10.heap.size := gB0.lt
  have hcz : c < w9.heap.size := h9.blk.lt
  have hrz : w.heap.size < w9.heap.size := rB9.lt
  clear hW10
  refine wpOrd_x (by rfl) (fun K hK => ?_)
  have g0 := gB0.cell 0
  have g1 := gB0.cell 1
  have g2 := gB0.cell 2
  have g3 := gB0.cell 3
  have g4 := gB0.cell 4
  have g5 := gB0.cell 5
  have f0 := gB0.frozen 0
  have f1 := gB0.frozen 1
  have f2 := gB0.frozen 2
  have f3 := gB0.frozen 3
  have f4 := gB0.frozen 4
  have f5 := gB0.frozen 5
  go_simp
  refine hK _ _ _ (fun _ h => h) ⟨((((((cB10.far (by show c ≠ w9.heap.size; omega) _).far (by show c ≠ w9.heap.size; omega) _).far (by show c ≠ w9.heap.size; omega) _).far (by show c ≠ w9.heap.size; omega) _).far (by show c ≠ w9.heap.size; omega) _).far (by show c ≠ w9.heap.size; omega) _), ((((((rB10.far (by show w.heap.size ≠ w9.heap.size; omega) _).far (by show w.heap.size ≠ w9.heap.size; omega) _).far (by show w.heap.size ≠ w9.heap.size; omega) _).far (by show w.heap.size ≠ w9.heap.size; omega) _).far (by show w.heap.size ≠ w9.heap.size; omega) _).far (by show w.heap.size ≠ w9.heap.size; omega) _)⟩ ?_
  clear hK K g0 g1 g2 g3 g4 g5 f0 f1 f2 f3 f4 f5
  try simp only [Act.put, List.setIfInBounds_toArray, List.set_cons_zero, List.set_cons_succ]
  refine wpOrd_nil ?_
  refine at_world (fun W => Below w9.heap.size w9 W ∧ Blk W w9.heap.size 169 #[.int .i64 (totalOf 32 R), .int .i64 bm, .int .i64 tm, .int .i64 0, .int .i64 b, .int .i64 n]) ⟨((((((hx10.setCell (Nat.le_refl _) _).setCell (Nat.le_refl _) _).setCell (Nat.le_refl _) _).setCell (Nat.le_refl _) _).setCell (Nat.le_refl _) _).setCell (Nat.le_refl _) _), by simpa using ((((((gB0.set_ 0 (.int .i64 (totalOf 32 R))).set_ 1 (.int .i64 bm)).set_ 2 (.int .i64 tm)).set_ 3 (.int .i64 0)).set_ 4 (.int .i64 b)).set_ 5 (.int .i64 n))⟩ (fun W11 h11 => ?_)
  obtain ⟨hx11, gB⟩ := h11
  have g0 := gB.cell 0
  have g1 := gB.cell 1
  have g2 := gB.cell 2
  have g3 := gB.cell 3
  have gf := gB.frozen 3
  have gz := gB.lt
  have e10 : wrap64 (totalOf 32 R + bm) = totalOf 32 R + bm := IntWalk.wrap64_in _ (by omega)
  have e11 : wrap64 (totalOf 32 R + bm + tm) = totalOf 32 R + bm + tm := IntWalk.wrap64_in _ (by omega)
  have HX := hide hx11
  clear hx10 hx11 gB0 cB10 rB10
  go_wp2_with fail
  refine at_world (fun W => Below w9.heap.size w9 W ∧ Blk W w9.heap.size 169 #[.int .i64 (totalOf 32 R), .int .i64 bm, .int .i64 tm, .int .i64 (totalOf 32 R + bm + tm), .int .i64 b, .int .i64 n]) ⟨HX.out.setCell (Nat.le_refl _) _, by simpa using gB.set_ 3 (.int .i64 (totalOf 32 R + bm + tm))⟩ (fun W12 h12 => ?_)
  clear g0 g1 g2 g3 gf gz gB e10 e11 HX
  obtain ⟨hx, gB⟩ := h12
  have st : AddSt B W12.drew c w.heap.size w9.heap.size #[.slice A1 R.length c1, .map (some tb), .slice A2 K.length c2, .map (some nb), .map (some lb), .slice A3 (geosOf 32 R).length c3, .int .i64 (totalOf 32 R)] #[.string s, .int .u8 (lv.toNat : Int), .int .u16 (ct.toNat : Int), .int .i64 b, .int .i64 n, .int .i64 f, .int .i64 p, .int .i64 q, .int .i64 cl] #[.int .i64 (totalOf 32 R), .int .i64 bm, .int .i64 tm, .int .i64 (totalOf 32 R + bm + tm), .int .i64 b, .int .i64 n] K (trustL K) (namesFrom 0 (R ++ [⟨s.data.toList, lv, ct, b, n, f, p, q, cl⟩])) (labelsFrom 0 (R ++ [⟨s.data.toList, lv, ct, b, n, f, p, q, cl⟩])) tb nb lb A2 c2 := by
    have h12 := h9.below hx.drew
    rw [names_put' (r := ⟨s.data.toList, lv, ct, b, n, f, p, q, cl⟩) HV.out rfl HI.out, labels_put' (r := ⟨s.data.toList, lv, ct, b, n, f, p, q, cl⟩) HV2.out HI.out] at h12
    exact ⟨h12.blk, rB9.below hx.drew rB9.lt, gB.drew, h12.marks, h12.tr, h12.nm, h12.lm⟩
  have hR0 : W12.drew.ownsRow B 41 9 (.slice A1 R.length c1) R.length (rcellsOf R) := own_below h9.regs hx.drew
  have hG0 : W12.drew.ownsRow B 169 6 (.slice A3 (geosOf 32 R).length c3) (geosOf 32 R).length (gcellsOf (geosOf 32 R)) := own_below h9.geos hx.drew
  have hb0 : Below B w W12.drew := (HB9.out.trans (hx.mono (Nat.le_trans hB HB9.out.size))).drew
  have hN := (⟨h9.hc, h9.htb, h9.hnb, h9.hlb, h9.n1, h9.n2, h9.n3⟩ : B ≤ c ∧ B ≤ tb ∧ B ≤ nb ∧ B ≤ lb ∧ tb ≠ nb ∧ tb ≠ lb ∧ nb ≠ lb)
  have HNN := hide hN
  clear hN h9 rB9 HB9 hx gB
  have e10 : IntKind.i64.wrap (totalOf 32 R + bm + tm + b) = totalOf 32 R + bm + tm + b := IntWalk.i64_in _ (by omega)
  refine at_act (fun a => a.tmps.size = 132 ∧ a.eval (.tmp 0) = .pointer (some ⟨c, 0, none⟩) ∧ a.eval (.tmp 6) = .pointer (some ⟨w.heap.size, 0, none⟩) ∧ a.eval (.tmp 13) = .pointer (some ⟨w9.heap.size, 0, none⟩)) (by exact ⟨rfl, rfl, rfl, rfl⟩) (fun a0 ha0 ha => ?_)
  obtain ⟨az, a0v, a6v, a13v⟩ := ha
  refine wp_region_C [0,0,0,0,0,0,1,0,9,9,0,0,0,1,0,9,9,0,0,0,0,0,2,2,9,2,2,9,2,2,9] (OC.qs [0,1,2,3,4,5,6,7,10,11,12,13,14,17,18,19,20,21] (.br 8 [] (.br 9 [] (.x 15 [] (.x 16 [] (.q 22 (.q 23 (.x 24 [1] (.q 25 (.q 26 (.x 27 [] (.q 28 (.q 29 (.x 30 [] .nil))))))))))) 15 [] (.x 9 [] (.x 16 [] (.q 22 (.q 23 (.x 24 [1] (.q 25 (.q 26 (.x 27 [] (.q 28 (.q 29 (.x 30 [] .nil)))))))))))) 15 [] (.x 8 [] (.x 9 [] (.x 16 [] (.q 22 (.q 23 (.x 24 [1] (.q 25 (.q 26 (.x 27 [] (.q 28 (.q 29 (.x 30 [] .nil)))))))))))) )) (S2 (fun W => Blk W c 179 #[.slice A1 R.length c1, .map (some tb), .slice A2 K.length c2, .map (some nb), .map (some lb), .slice A3 (geosOf 32 R).length c3, .int .i64 (totalOf 32 R)]) (fun W => Blk W w.heap.size 41 #[.string s, .int .u8 (lv.toNat : Int), .int .u16 (ct.toNat : Int), .int .i64 b, .int .i64 n, .int .i64 f, .int .i64 p, .int .i64 q, .int .i64 cl] ∧ Blk W w9.heap.size 169 #[.int .i64 (totalOf 32 R), .int .i64 bm, .int .i64 tm, .int .i64 (totalOf 32 R + bm + tm), .int .i64 b, .int .i64 n])) (by kernel_rfl) (by kernel_rfl) (S2.hold st.cB ⟨st.rB, st.gB⟩) ?_
  simp only [OC.qs, List.foldr]
  iterate 6 (refine wpC_q (v := ?_) (by simp only [List.getElem?_toArray, List.getElem?_cons_succ, List.getElem?_cons_zero]; try rfl) (by rfl) (fun W hW => ?_) ?_; rotate_left; (focus ((obtain ⟨hW1, hW2⟩ := S2.rest (by decide) hW; have x0 := hW1.cell 0; have x1 := hW1.cell 1; have x2 := hW1.cell 2; have x3 := hW1.cell 3; have x4 := hW1.cell 4; have x5 := hW1.cell 5; have x6 := hW1.cell 6; have x7 := hW1.cell 7; have x8 := hW1.cell 8; have xl := hW1.lt; have g0 := hW2.cell 0; have g1 := hW2.cell 1; have g2 := hW2.cell 2; have g3 := hW2.cell 3; have g4 := hW2.cell 4; have g5 := hW2.cell 5; have gl := hW2.lt); simp only [execOp, Act.eval_put_tmp, Act.eval_put_none, Act.size_put, Act.eval_const', Act.eval_func', az, a0v, a6v, a13v, Nat.reduceLT, Nat.reduceEqDiff, if_true, if_false, reduceCtorEq, ite_true, ite_false]; go_simp; try with_reducible rfl)))
  iterate 1 (refine wpC_q (v := ?_) (by simp only [List.getElem?_toArray, List.getElem?_cons_succ, List.getElem?_cons_zero]; try rfl) (by rfl) (fun W hW => ?_) ?_; rotate_left; (focus ((have hW3 := S2.one hW; have c0' := hW3.cell 0; have c5' := hW3.cell 5; have cl' := hW3.lt); simp only [execOp, Act.eval_put_tmp, Act.eval_put_none, Act.size_put, Act.eval_const', Act.eval_func', az, a0v, a6v, a13v, Nat.reduceLT, Nat.reduceEqDiff, if_true, if_false, reduceCtorEq, ite_true, ite_false]; go_simp; try with_reducible rfl)))
  iterate 4 (refine wpC_q (v := ?_) (by simp only [List.getElem?_toArray, List.getElem?_cons_succ, List.getElem?_cons_zero]; try rfl) (by rfl) (fun W hW => ?_) ?_; rotate_left; (focus ((obtain ⟨hW1, hW2⟩ := S2.rest (by decide) hW; have x0 := hW1.cell 0; have x1 := hW1.cell 1; have x2 := hW1.cell 2; have x3 := hW1.cell 3; have x4 := hW1.cell 4; have x5 := hW1.cell 5; have x6 := hW1.cell 6; have x7 := hW1.cell 7; have x8 := hW1.cell 8; have xl := hW1.lt; have g0 := hW2.cell 0; have g1 := hW2.cell 1; have g2 := hW2.cell 2; have g3 := hW2.cell 3; have g4 := hW2.cell 4; have g5 := hW2.cell 5; have gl := hW2.lt); simp only [execOp, Act.eval_put_tmp, Act.eval_put_none, Act.size_put, Act.eval_const', Act.eval_func', az, a0v, a6v, a13v, Nat.reduceLT, Nat.reduceEqDiff, if_true, if_false, reduceCtorEq, ite_true, ite_false]; go_simp; try with_reducible rfl)))
  iterate 1 (refine wpC_q (v := ?_) (by simp only [List.getElem?_toArray, List.getElem?_cons_succ, List.getElem?_cons_zero]; try rfl) (by rfl) (fun W hW => ?_) ?_; rotate_left; (focus ((have hW3 := S2.one hW; have c0' := hW3.cell 0; have c5' := hW3.cell 5; have cl' := hW3.lt); simp only [execOp, Act.eval_put_tmp, Act.eval_put_none, Act.size_put, Act.eval_const', Act.eval_func', az, a0v, a6v, a13v, Nat.reduceLT, Nat.reduceEqDiff, if_true, if_false, reduceCtorEq, ite_true, ite_false]; go_simp; try with_reducible rfl)))
  iterate 6 (refine wpC_q (v := ?_) (by simp only [List.getElem?_toArray, List.getElem?_cons_succ, List.getElem?_cons_zero]; try rfl) (by rfl) (fun W hW => ?_) ?_; rotate_left; (focus ((obtain ⟨hW1, hW2⟩ := S2.rest (by decide) hW; have x0 := hW1.cell 0; have x1 := hW1.cell 1; have x2 := hW1.cell 2; have x3 := hW1.cell 3; have x4 := hW1.cell 4; have x5 := hW1.cell 5; have x6 := hW1.cell 6; have x7 := hW1.cell 7; have x8 := hW1.cell 8; have xl := hW1.lt; have g0 := hW2.cell 0; have g1 := hW2.cell 1; have g2 := hW2.cell 2; have g3 := hW2.cell 3; have g4 := hW2.cell 4; have g5 := hW2.cell 5; have gl := hW2.lt); simp only [execOp, Act.eval_put_tmp, Act.eval_put_none, Act.size_put, Act.eval_const', Act.eval_func', az, a0v, a6v, a13v, Nat.reduceLT, Nat.reduceEqDiff, if_true, if_false, reduceCtorEq, ite_true, ite_false]; go_simp; try with_reducible rfl)))
  clear e10
  have OKN := hide (okr_snoc (lv := lv) (ct := ct) (cl := cl) HOK.out hn HS.out)
  have hRl := hide (by rw [← HI.out]; exact h64 : R.length < 64)
  have HRZ := hide hrz
  refine wpC_have (t := .q 22 (.q 23 (.x 24 [1] (.q 25 (.q 26 (.x 27 [] (.q 28 (.q 29 (.x 30 [] .nil))))))))) (fun a X => (a.tmps.size = 132 ∧ a.defers = [] ∧ a.eval (.tmp 104) = .pointer (some ⟨c, 0, none⟩) ∧ a.eval (.tmp 105) = .pointer (some ⟨c, 0, none⟩) ∧ a.eval (.tmp 106) = .pointer (some ⟨c, 0, none⟩) ∧ a.eval (.tmp 125) = .int .i64 (totalOf 32 R + bm + tm + b)) ∧ ∃ A1' c1' A3' c3', a.eval (.tmp 113) = .slice A1' (R.length + 1) c1' ∧ a.eval (.tmp 120) = .slice A3' ((geosOf 32 R).length + 1) c3' ∧ AddSt B X c w.heap.size w9.heap.size #[.slice A1 R.length c1, .map (some tb), .slice A2 K.length c2, .map (some nb), .map (some lb), .slice A3 (geosOf 32 R).length c3, .int .i64 (totalOf 32 R)] #[.string s, .int .u8 (lv.toNat : Int), .int .u16 (ct.toNat : Int), .int .i64 b, .int .i64 n, .int .i64 f, .int .i64 p, .int .i64 q, .int .i64 cl] #[.int .i64 (totalOf 32 R), .int .i64 bm, .int .i64 tm, .int .i64 (totalOf 32 R + bm + tm), .int .i64 b, .int .i64 n] K (trustL K) (namesFrom 0 (R ++ [⟨s.data.toList, lv, ct, b, n, f, p, q, cl⟩])) (labelsFrom 0 (R ++ [⟨s.data.toList, lv, ct, b, n, f, p, q, cl⟩])) tb nb lb A2 c2 ∧ X.ownsRow B 41 9 (.slice A1' (R.length + 1) c1') (R.length + 1) (rcellsOf R ++ [.string s, .int .u8 (lv.toNat : Int), .int .u16 (ct.toNat : Int), .int .i64 b, .int .i64 n, .int .i64 f, .int .i64 p, .int .i64 q, .int .i64 cl]) ∧ X.ownsRow B 169 6 (.slice A3' ((geosOf 32 R).length + 1) c3') ((geosOf 32 R).length + 1) (gcellsOf (geosOf 32 R) ++ [.int .i64 (totalOf 32 R), .int .i64 bm, .int .i64 tm, .int .i64 (totalOf 32 R + bm + tm), .int .i64 b, .int .i64 n]) ∧ Below B w X) (fun a X hF => ?_) (fun T22 => ?_)
  · obtain ⟨⟨z, d0, e4, e5, e6, e25⟩, A1', c1', A3', c3', e13, e20, st, o1, o3, hb⟩ := hF
    have k0 := st.cB.cell 0
    have kf0 := st.cB.frozen 0
    have kl := st.cB.lt
    iterate 2 (refine wpC_q (v := ?_) (by simp only [List.getElem?_toArray, List.getElem?_cons_succ, List.getElem?_cons_zero]; try rfl) (by rfl) (fun W hW => ?_) ?_; rotate_left; (focus (simp only [execOp, Act.defers_put, Act.eval_put_tmp, Act.eval_put_none, Act.size_put, Act.eval_const', Act.eval_func', Nat.reduceLT, Nat.reduceEqDiff, if_true, if_false, reduceCtorEq, ite_true, ite_false, z, e4]; go_simp; try with_reducible rfl)))
    refine wpC_act (fun a => a.tmps.size = 132 ∧ a.defers = [] ∧ a.eval (.tmp 127) = .pointer (some ⟨c, 0, none⟩) ∧ a.eval (.tmp 105) = .pointer (some ⟨c, 0, none⟩) ∧ a.eval (.tmp 106) = .pointer (some ⟨c, 0, none⟩) ∧ a.eval (.tmp 125) = .int .i64 (totalOf 32 R + bm + tm + b) ∧ a.eval (.tmp 113) = .slice A1' (R.length + 1) c1' ∧ a.eval (.tmp 120) = .slice A3' ((geosOf 32 R).length + 1) c3') (by refine ⟨?_, ?_, ?_, ?_, ?_, ?_, ?_, ?_⟩ <;> simp only [Act.defers_put, Act.eval_put_tmp, Act.eval_put_none, Act.size_put, Act.eval_const', Act.eval_func', Nat.reduceLT, Nat.reduceEqDiff, if_true, if_false, reduceCtorEq, ite_true, ite_false, z, d0, e4, e5, e6, e25, e13, e20]) (fun a2 hF2 => ?_)
    obtain ⟨z2, d2, m27, m5, m6, m25, m13, m20⟩ := hF2
    refine wpC_x (by simp only [List.getElem?_toArray, List.getElem?_cons_succ, List.getElem?_cons_zero]; try rfl) (by rfl) (fun KK hKK => ?_)
    unfold Oper.wp
    simp only [execOp, List.map_toArray, List.map_cons, List.map_nil, Act.defers_put, Act.eval_put_tmp, Act.eval_put_none, Act.size_put, Act.eval_const', Act.eval_func', Nat.reduceLT, Nat.reduceEqDiff, if_true, if_false, reduceCtorEq, ite_true, ite_false, z2, m27, m13]
    go_simp
    refine hKK (S2 (fun _ => True) _) a2 _ S2.drop (S2.hold trivial ⟨st.rB.far (by show w.heap.size ≠ c; omega) _, st.gB.far (by show w9.heap.size ≠ c; omega) _⟩) ?_
    clear hKK KK k0 kf0 kl
    have cB1 := st.cB.set_ 0 (.slice A1' (R.length + 1) c1')
    have kf5 := cB1.frozen 5
    have k5 := cB1.cell 5
    have kl := cB1.lt
    iterate 2 (refine wpC_q (v := ?_) (by simp only [List.getElem?_toArray, List.getElem?_cons_succ, List.getElem?_cons_zero]; try rfl) (by rfl) (fun W hW => ?_) ?_; rotate_left; (focus (simp only [execOp, Act.defers_put, Act.eval_put_tmp, Act.eval_put_none, Act.size_put, Act.eval_const', Act.eval_func', Nat.reduceLT, Nat.reduceEqDiff, if_true, if_false, reduceCtorEq, ite_true, ite_false, z2, m5]; go_simp; try with_reducible rfl)))
    refine wpC_act (fun a => a.tmps.size = 132 ∧ a.defers = [] ∧ a.eval (.tmp 129) = .pointer (some ⟨c, 5, none⟩) ∧ a.eval (.tmp 106) = .pointer (some ⟨c, 0, none⟩) ∧ a.eval (.tmp 125) = .int .i64 (totalOf 32 R + bm + tm + b) ∧ a.eval (.tmp 120) = .slice A3' ((geosOf 32 R).length + 1) c3') (by refine ⟨?_, ?_, ?_, ?_, ?_, ?_⟩ <;> simp only [Act.defers_put, Act.eval_put_tmp, Act.eval_put_none, Act.size_put, Act.eval_const', Act.eval_func', Nat.reduceLT, Nat.reduceEqDiff, if_true, if_false, reduceCtorEq, ite_true, ite_false, z2, d2, m5, m6, m25, m13, m20]) (fun a3 hF3 => ?_)
    obtain ⟨z3, d3, n29, n6, n25, n20⟩ := hF3
    refine wpC_xs (by simp only [List.getElem?_toArray, List.getElem?_cons_succ, List.getElem?_cons_zero]; try rfl) (by rfl) (fun KK hKK => ?_)
    unfold Oper.wp
    simp only [execOp, List.map_toArray, List.map_cons, List.map_nil, Act.defers_put, Act.eval_put_tmp, Act.eval_put_none, Act.size_put, Act.eval_const', Act.eval_func', Nat.reduceLT, Nat.reduceEqDiff, if_true, if_false, reduceCtorEq, ite_true, ite_false, z3, n29, n20]
    go_simp
    refine hKK a3 _ (S2.hold trivial ⟨(st.rB.far (by show w.heap.size ≠ c; omega) _).far (by show w.heap.size ≠ c; omega) _, (st.gB.far (by show w9.heap.size ≠ c; omega) _).far (by show w9.heap.size ≠ c; omega) _⟩) ?_
    clear hKK KK kf5 kl k5
    have cB2 := cB1.set_ 5 (.slice A3' ((geosOf 32 R).length + 1) c3')
    have kf6 := cB2.frozen 6
    have k6 := cB2.cell 6
    have kl := cB2.lt
    iterate 2 (refine wpC_q (v := ?_) (by simp only [List.getElem?_toArray, List.getElem?_cons_succ, List.getElem?_cons_zero]; try rfl) (by rfl) (fun W hW => ?_) ?_; rotate_left; (focus (simp only [execOp, Act.defers_put, Act.eval_put_tmp, Act.eval_put_none, Act.size_put, Act.eval_const', Act.eval_func', Nat.reduceLT, Nat.reduceEqDiff, if_true, if_false, reduceCtorEq, ite_true, ite_false, z3, n6]; go_simp; try with_reducible rfl)))
    refine wpC_act (fun a => a.tmps.size = 132 ∧ a.defers = [] ∧ a.eval (.tmp 131) = .pointer (some ⟨c, 6, none⟩) ∧ a.eval (.tmp 125) = .int .i64 (totalOf 32 R + bm + tm + b)) (by refine ⟨?_, ?_, ?_, ?_⟩ <;> simp only [Act.defers_put, Act.eval_put_tmp, Act.eval_put_none, Act.size_put, Act.eval_const', Act.eval_func', Nat.reduceLT, Nat.reduceEqDiff, if_true, if_false, reduceCtorEq, ite_true, ite_false, z3, d3, n6, n25]) (fun a4 hF4 => ?_)
    obtain ⟨z4, d4, q31, q25⟩ := hF4
    refine wpC_xs (by simp only [List.getElem?_toArray, List.getElem?_cons_succ, List.getElem?_cons_zero]; try rfl) (by rfl) (fun KK hKK => ?_)
    unfold Oper.wp
    simp only [execOp, List.map_toArray, List.map_cons, List.map_nil, Act.defers_put, Act.eval_put_tmp, Act.eval_put_none, Act.size_put, Act.eval_const', Act.eval_func', Nat.reduceLT, Nat.reduceEqDiff, if_true, if_false, reduceCtorEq, ite_true, ite_false, z4, q31, q25]
    go_simp
    refine hKK a4 _ (S2.hold trivial ⟨((st.rB.far (by show w.heap.size ≠ c; omega) _).far (by show w.heap.size ≠ c; omega) _).far (by show w.heap.size ≠ c; omega) _, ((st.gB.far (by show w9.heap.size ≠ c; omega) _).far (by show w9.heap.size ≠ c; omega) _).far (by show w9.heap.size ≠ c; omega) _⟩) ?_
    clear hKK KK kf6 kl k6
    have cB3 := cB2.set_ 6 (.int .i64 (totalOf 32 R + bm + tm + b))
    refine wpC_nil ?_
    refine at_world (fun W => Below B w W ∧ ConfIn B W c (R ++ [⟨s.data.toList, lv, ct, b, n, f, p, q, cl⟩]) K tb nb lb A1' A2 A3' c1' c2 c3') ⟨?_, ?_⟩ (fun W9 h9 => ?_)
    · exact (((hb.setCell HNN.out.1 _).setCell HNN.out.1 _).setCell HNN.out.1 _)
    · refine st.done (GV := geoOf (totalOf 32 R) ⟨s.data.toList, lv, ct, b, n, f, p, q, cl⟩) (by rw [HBM.out, HTM.out] at o3; exact o3) o1 (by rw [show (geoOf (totalOf 32 R) (⟨s.data.toList, lv, ct, b, n, f, p, q, cl⟩ : RegV)).end_ = totalOf 32 R + bm + tm + b from by rw [HBM.out, HTM.out]; rfl]; simpa using cB3) (fun g hg => ?_) HNN.out OKN.out
      rw [Below.heap_setCell _ _ _ _ hg, Below.heap_setCell _ _ _ _ hg, Below.heap_setCell _ _ _ _ hg]
    clear cB1 cB2 cB3 st o1 o3 hb
    obtain ⟨tps, dfs⟩ := a4
    simp only at d4
    subst d4
    go_wp2
    go_returns
    have z5 : tps.size = 132 := z4
    exact ⟨by simp [Array.getD_eq_getD_getElem?, z5], h9.1, _, _, _, _, h9.2⟩
  refine wpC_have (t := .x 16 [] (.q 22 (.q 23 (.x 24 [1] (.q 25 (.q 26 (.x 27 [] (.q 28 (.q 29 (.x 30 [] .nil)))))))))) (fun a X => (a.tmps.size = 132 ∧ a.defers = [] ∧ a.eval (.tmp 104) = .pointer (some ⟨c, 0, none⟩) ∧ a.eval (.tmp 105) = .pointer (some ⟨c, 0, none⟩) ∧ a.eval (.tmp 106) = .pointer (some ⟨c, 0, none⟩) ∧ a.eval (.tmp 125) = .int .i64 (totalOf 32 R + bm + tm + b)) ∧ a.eval (.tmp 117) = .slice A3 (geosOf 32 R).length c3 ∧ ∃ A1' c1' gg, a.eval (.tmp 113) = .slice A1' (R.length + 1) c1' ∧ a.eval (.tmp 119) = .slice (some ⟨gg, 0, none⟩) 1 1 ∧ AddSt B X c w.heap.size w9.heap.size #[.slice A1 R.length c1, .map (some tb), .slice A2 K.length c2, .map (some nb), .map (some lb), .slice A3 (geosOf 32 R).length c3, .int .i64 (totalOf 32 R)] #[.string s, .int .u8 (lv.toNat : Int), .int .u16 (ct.toNat : Int), .int .i64 b, .int .i64 n, .int .i64 f, .int .i64 p, .int .i64 q, .int .i64 cl] #[.int .i64 (totalOf 32 R), .int .i64 bm, .int .i64 tm, .int .i64 (totalOf 32 R + bm + tm), .int .i64 b, .int .i64 n] K (trustL K) (namesFrom 0 (R ++ [⟨s.data.toList, lv, ct, b, n, f, p, q, cl⟩])) (labelsFrom 0 (R ++ [⟨s.data.toList, lv, ct, b, n, f, p, q, cl⟩])) tb nb lb A2 c2 ∧ X.ownsRow B 41 9 (.slice A1' (R.length + 1) c1') (R.length + 1) (rcellsOf R ++ [.string s, .int .u8 (lv.toNat : Int), .int .u16 (ct.toNat : Int), .int .i64 b, .int .i64 n, .int .i64 f, .int .i64 p, .int .i64 q, .int .i64 cl]) ∧ X.ownsRow B 169 6 (.slice A3 (geosOf 32 R).length c3) (geosOf 32 R).length (gcellsOf (geosOf 32 R)) ∧ X.ownsRow B 169 6 (.slice (some ⟨gg, 0, none⟩) 1 1) 1 [.int .i64 (totalOf 32 R), .int .i64 bm, .int .i64 tm, .int .i64 (totalOf 32 R + bm + tm), .int .i64 b, .int .i64 n] ∧ Below B w X) (fun a X hF => ?_) (fun T16 => ?_)
  · obtain ⟨⟨z, d0, e4, e5, e6, e25⟩, e17, A1', c1', gg, e13, e19, st, o1, o3, og, hb⟩ := hF
    refine wpC_xs (by simp only [List.getElem?_toArray, List.getElem?_cons_succ, List.getElem?_cons_zero]; try rfl) (by rfl) (fun KK hKK => ?_)
    obtain ⟨i0, hi0, i1, i2, i3⟩ := info_parts info_geo
    refine wp_append_rd X (.tmp 117) (.tmp 119) 177 (by rfl) B 169 i0 (.agg #[.int .i64 0, .int .i64 0, .int .i64 0, .int .i64 0, .int .i64 0, .int .i64 0]) 6 48 (by kernel_rfl) hi0 i1 i2 i3 rfl (by decide) (.slice A3 (geosOf 32 R).length c3) (geosOf 32 R).length (gcellsOf (geosOf 32 R)) e17 o3 X.heap.size (some ⟨gg, 0, none⟩) 1 1 [.int .i64 (totalOf 32 R), .int .i64 bm, .int .i64 tm, .int .i64 (totalOf 32 R + bm + tm), .int .i64 b, .int .i64 n] e19 (Rd.of_own og) (by simp [Value.oneCell']) (by have := hRl.out; simp only [maxLen, geosOf_length]; omega) (by have := hRl.out; (try simp only [geosOf_length]); omega) (Nat.le_trans hB (Nat.le_trans (Nat.le_of_lt HRZ.out) (Nat.le_of_lt st.gB.lt |> Nat.le_trans (Nat.le_refl _)))) (fun v' X' ho hg hnil hat => ?_)
    clear i0 hi0 i1 i2 i3 hnil hat
    obtain ⟨A', c', rfl, _, _, _⟩ := own_form ho
    have st' := st.row o3 (by decide) (by decide) (fun e => by have := (HL3.out _ e).2; omega) (fun e => by have := (HL3.out _ e).2; have := HRZ.out; omega) hg
    exact hKK _ _ (S2.hold st'.cB ⟨st'.rB, st'.gB⟩) (T22 _ _ ⟨⟨by rw [Act.size_put]; exact z, by rw [Act.defers_put]; exact d0, by simp only [Act.defers_put, Act.eval_put_tmp, Act.eval_put_none, Act.size_put, Act.eval_const', Act.eval_func', Nat.reduceLT, Nat.reduceEqDiff, if_true, if_false, reduceCtorEq, ite_true, ite_false, z, e4], by simp only [Act.defers_put, Act.eval_put_tmp, Act.eval_put_none, Act.size_put, Act.eval_const', Act.eval_func', Nat.reduceLT, Nat.reduceEqDiff, if_true, if_false, reduceCtorEq, ite_true, ite_false, z, e5], by simp only [Act.defers_put, Act.eval_put_tmp, Act.eval_put_none, Act.size_put, Act.eval_const', Act.eval_func', Nat.reduceLT, Nat.reduceEqDiff, if_true, if_false, reduceCtorEq, ite_true, ite_false, z, e6], by simp only [Act.defers_put, Act.eval_put_tmp, Act.eval_put_none, Act.size_put, Act.eval_const', Act.eval_func', Nat.reduceLT, Nat.reduceEqDiff, if_true, if_false, reduceCtorEq, ite_true, ite_false, z, e25]⟩, A1', c1', A', c', by simp only [Act.defers_put, Act.eval_put_tmp, Act.eval_put_none, Act.size_put, Act.eval_const', Act.eval_func', Nat.reduceLT, Nat.reduceEqDiff, if_true, if_false, reduceCtorEq, ite_true, ite_false, z, e13], by simp only [Act.defers_put, Act.eval_put_tmp, Act.eval_put_none, Act.size_put, Act.eval_const', Act.eval_func', Nat.reduceLT, Nat.reduceEqDiff, if_true, if_false, reduceCtorEq, ite_true, ite_false, z], st', o1.kept hg (own_apart o1 o3 (by decide)), ho, hb.grown hg (Nat.le_trans hB hb.size) (fun k hk => (o3.lt k hk).1)⟩)
  refine wpC_have (t := .x 9 [] (.x 16 [] (.q 22 (.q 23 (.x 24 [1] (.q 25 (.q 26 (.x 27 [] (.q 28 (.q 29 (.x 30 [] .nil))))))))))) (fun a X => (a.tmps.size = 132 ∧ a.defers = [] ∧ a.eval (.tmp 104) = .pointer (some ⟨c, 0, none⟩) ∧ a.eval (.tmp 105) = .pointer (some ⟨c, 0, none⟩) ∧ a.eval (.tmp 106) = .pointer (some ⟨c, 0, none⟩) ∧ a.eval (.tmp 125) = .int .i64 (totalOf 32 R + bm + tm + b)) ∧ a.eval (.tmp 110) = .slice A1 R.length c1 ∧ a.eval (.tmp 117) = .slice A3 (geosOf 32 R).length c3 ∧ ∃ gr gg, a.eval (.tmp 112) = .slice (some ⟨gr, 0, none⟩) 1 1 ∧ a.eval (.tmp 119) = .slice (some ⟨gg, 0, none⟩) 1 1 ∧ AddSt B X c w.heap.size w9.heap.size #[.slice A1 R.length c1, .map (some tb), .slice A2 K.length c2, .map (some nb), .map (some lb), .slice A3 (geosOf 32 R).length c3, .int .i64 (totalOf 32 R)] #[.string s, .int .u8 (lv.toNat : Int), .int .u16 (ct.toNat : Int), .int .i64 b, .int .i64 n, .int .i64 f, .int .i64 p, .int .i64 q, .int .i64 cl] #[.int .i64 (totalOf 32 R), .int .i64 bm, .int .i64 tm, .int .i64 (totalOf 32 R + bm + tm), .int .i64 b, .int .i64 n] K (trustL K) (namesFrom 0 (R ++ [⟨s.data.toList, lv, ct, b, n, f, p, q, cl⟩])) (labelsFrom 0 (R ++ [⟨s.data.toList, lv, ct, b, n, f, p, q, cl⟩])) tb nb lb A2 c2 ∧ X.ownsRow B 41 9 (.slice A1 R.length c1) R.length (rcellsOf R) ∧ X.ownsRow B 169 6 (.slice A3 (geosOf 32 R).length c3) (geosOf 32 R).length (gcellsOf (geosOf 32 R)) ∧ X.ownsRow B 41 9 (.slice (some ⟨gr, 0, none⟩) 1 1) 1 [.string s, .int .u8 (lv.toNat : Int), .int .u16 (ct.toNat : Int), .int .i64 b, .int .i64 n, .int .i64 f, .int .i64 p, .int .i64 q, .int .i64 cl] ∧ X.ownsRow B 169 6 (.slice (some ⟨gg, 0, none⟩) 1 1) 1 [.int .i64 (totalOf 32 R), .int .i64 bm, .int .i64 tm, .int .i64 (totalOf 32 R + bm + tm), .int .i64 b, .int .i64 n] ∧ Below B w X) (fun a X hF => ?_) (fun T9 => ?_)
  · obtain ⟨⟨z, d0, e4, e5, e6, e25⟩, e10, e17, gr, gg, e12, e19, st, o1, o3, or, og, hb⟩ := hF
    refine wpC_xs (by simp only [List.getElem?_toArray, List.getElem?_cons_succ, List.getElem?_cons_zero]; try rfl) (by rfl) (fun KK hKK => ?_)
    obtain ⟨i0, hi0, i1, i2, i3⟩ := info_parts info_reg
    refine wp_append_rd X (.tmp 110) (.tmp 112) 75 (by rfl) B 41 i0 (.agg #[.string ByteArray.empty, .int .u8 0, .int .u16 0, .int .i64 0, .int .i64 0, .int .i64 0, .int .i64 0, .int .i64 0, .int .i64 0]) 9 72 (by kernel_rfl) hi0 i1 i2 i3 rfl (by decide) (.slice A1 R.length c1) R.length (rcellsOf R) e10 o1 X.heap.size (some ⟨gr, 0, none⟩) 1 1 [.string s, .int .u8 (lv.toNat : Int), .int .u16 (ct.toNat : Int), .int .i64 b, .int .i64 n, .int .i64 f, .int .i64 p, .int .i64 q, .int .i64 cl] e12 (Rd.of_own or) (by simp [Value.oneCell']) (by have := hRl.out; simp only [maxLen, geosOf_length]; omega) (by have := hRl.out; (try simp only [geosOf_length]); omega) (Nat.le_trans hB (Nat.le_trans (Nat.le_of_lt HRZ.out) (Nat.le_of_lt st.gB.lt |> Nat.le_trans (Nat.le_refl _)))) (fun v' X' ho hg hnil hat => ?_)
    clear i0 hi0 i1 i2 i3 hnil hat
    obtain ⟨A', c', rfl, _, _, _⟩ := own_form ho
    have st' := st.row o1 (by decide) (by decide) (fun e => by have := (HL1.out _ e).2; omega) (fun e => by have := (HL1.out _ e).2; have := HRZ.out; omega) hg
    exact hKK _ _ (S2.hold st'.cB ⟨st'.rB, st'.gB⟩) (T16 _ _ ⟨⟨by rw [Act.size_put]; exact z, by rw [Act.defers_put]; exact d0, by simp only [Act.defers_put, Act.eval_put_tmp, Act.eval_put_none, Act.size_put, Act.eval_const', Act.eval_func', Nat.reduceLT, Nat.reduceEqDiff, if_true, if_false, reduceCtorEq, ite_true, ite_false, z, e4], by simp only [Act.defers_put, Act.eval_put_tmp, Act.eval_put_none, Act.size_put, Act.eval_const', Act.eval_func', Nat.reduceLT, Nat.reduceEqDiff, if_true, if_false, reduceCtorEq, ite_true, ite_false, z, e5], by simp only [Act.defers_put, Act.eval_put_tmp, Act.eval_put_none, Act.size_put, Act.eval_const', Act.eval_func', Nat.reduceLT, Nat.reduceEqDiff, if_true, if_false, reduceCtorEq, ite_true, ite_false, z, e6], by simp only [Act.defers_put, Act.eval_put_tmp, Act.eval_put_none, Act.size_put, Act.eval_const', Act.eval_func', Nat.reduceLT, Nat.reduceEqDiff, if_true, if_false, reduceCtorEq, ite_true, ite_false, z, e25]⟩, by simp only [Act.defers_put, Act.eval_put_tmp, Act.eval_put_none, Act.size_put, Act.eval_const', Act.eval_func', Nat.reduceLT, Nat.reduceEqDiff, if_true, if_false, reduceCtorEq, ite_true, ite_false, z, e17], A', c', gg, by simp only [Act.defers_put, Act.eval_put_tmp, Act.eval_put_none, Act.size_put, Act.eval_const', Act.eval_func', Nat.reduceLT, Nat.reduceEqDiff, if_true, if_false, reduceCtorEq, ite_true, ite_false, z], by simp only [Act.defers_put, Act.eval_put_tmp, Act.eval_put_none, Act.size_put, Act.eval_const', Act.eval_func', Nat.reduceLT, Nat.reduceEqDiff, if_true, if_false, reduceCtorEq, ite_true, ite_false, z, e19], st', ho, o3.kept hg (own_apart o3 o1 (by decide)), og.kept hg (own_apart og o1 (by decide)), hb.grown hg (Nat.le_trans hB hb.size) (fun k hk => (o1.lt k hk).1)⟩)
  refine wpC_act (fun a => a.tmps.size = 132 ∧ a.defers = [] ∧ a.eval (.tmp 104) = .pointer (some ⟨c, 0, none⟩) ∧ a.eval (.tmp 105) = .pointer (some ⟨c, 0, none⟩) ∧ a.eval (.tmp 106) = .pointer (some ⟨c, 0, none⟩) ∧ a.eval (.tmp 125) = .int .i64 (totalOf 32 R + bm + tm + b) ∧ a.eval (.tmp 110) = .slice A1 R.length c1 ∧ a.eval (.tmp 117) = .slice A3 (geosOf 32 R).length c3 ∧ a.eval (.tmp 111) = .agg #[.string s, .int .u8 (lv.toNat : Int), .int .u16 (ct.toNat : Int), .int .i64 b, .int .i64 n, .int .i64 f, .int .i64 p, .int .i64 q, .int .i64 cl] ∧ a.eval (.tmp 118) = .agg #[.int .i64 (totalOf 32 R), .int .i64 bm, .int .i64 tm, .int .i64 (totalOf 32 R + bm + tm), .int .i64 b, .int .i64 n]) ⟨?_, ?_, ?_, ?_, ?_, ?_, ?_, ?_, ?_, ?_⟩ (fun a hF => ?_)
  · simp only [Act.size_put, az]
  · simp only [Act.defers_put, ha0]
  iterate 8 (focus (simp only [Act.defers_put, Act.eval_put_tmp, Act.eval_put_none, Act.size_put, Act.eval_const', Act.eval_func', Nat.reduceLT, Nat.reduceEqDiff, if_true, if_false, reduceCtorEq, ite_true, ite_false, az, a0v, a6v, a13v]))
  obtain ⟨z, d0, e4, e5, e6, e25, e10, e17, e11, e18⟩ := hF
  have o1 := hR0
  have o3 := hG0
  have hb := hb0
  clear az a0v a6v a13v ha0 hR0 hG0 hb0
  generalize W12.drew = X at st o1 o3 hb ⊢
  refine wpC_br ?_ ?_
  · have D0 := hide d0
    clear d0
    refine wpC_xs (by simp only [List.getElem?_toArray, List.getElem?_cons_succ, List.getElem?_cons_zero]; try rfl) (by rfl) (fun KK hKK => ?_)
    unfold Oper.wp
    simp only [execOp, List.map_toArray, List.map_cons, List.map_nil, Act.defers_put, Act.eval_put_tmp, Act.eval_put_none, Act.size_put, Act.eval_const', Act.eval_func', Nat.reduceLT, Nat.reduceEqDiff, if_true, if_false, reduceCtorEq, ite_true, ite_false, z, e11]
    go_simp
    have d0 := D0.out
    clear D0
    have hbx : Below X.heap.size X (X.alloc (.cells #[.string s, .int .u8 (lv.toNat : Int), .int .u16 (ct.toNat : Int), .int .i64 b, .int .i64 n, .int .i64 f, .int .i64 p, .int .i64 q, .int .i64 cl] 41)) := (Below.refl _ _).alloc (Nat.le_refl _) _
    have or := own_lit (w := X) (base := B) (e := 41) (size := 9) (n := 1) (cs := #[.string s, .int .u8 (lv.toNat : Int), .int .u16 (ct.toNat : Int), .int .i64 b, .int .i64 n, .int .i64 f, .int .i64 p, .int .i64 q, .int .i64 cl]) rfl rfl (Nat.le_trans hB hb.size) (by simp [maxLen]) rfl
    refine hKK (a.put (some 112) (.slice (some ⟨X.heap.size, 0, none⟩) 1 1)) _ (S2.hold (st.cB.alloc _) ⟨st.rB.alloc _, st.gB.alloc _⟩) ?_
    clear hKK KK
    have st := st.below hbx
    have o1 := own_below o1 hbx
    have o3 := own_below o3 hbx
    have hb := hb.trans (hbx.mono (Nat.le_trans hB hb.size))
    clear hbx
    generalize hg112 : X.heap.size = g112 at or ⊢
    generalize X.alloc (.cells #[.string s, .int .u8 (lv.toNat : Int), .int .u16 (ct.toNat : Int), .int .i64 b, .int .i64 n, .int .i64 f, .int .i64 p, .int .i64 q, .int .i64 cl] 41) = Y at *
    clear hg112
    refine wpC_act (fun a => a.tmps.size = 132 ∧ a.defers = [] ∧ a.eval (.tmp 104) = .pointer (some ⟨c, 0, none⟩) ∧ a.eval (.tmp 105) = .pointer (some ⟨c, 0, none⟩) ∧ a.eval (.tmp 106) = .pointer (some ⟨c, 0, none⟩) ∧ a.eval (.tmp 125) = .int .i64 (totalOf 32 R + bm + tm + b) ∧ a.eval (.tmp 110) = .slice A1 R.length c1 ∧ a.eval (.tmp 117) = .slice A3 (geosOf 32 R).length c3 ∧ a.eval (.tmp 118) = .agg #[.int .i64 (totalOf 32 R), .int .i64 bm, .int .i64 tm, .int .i64 (totalOf 32 R + bm + tm), .int .i64 b, .int .i64 n] ∧ a.eval (.tmp 112) = .slice (some ⟨g112, 0, none⟩) 1 1) (by refine ⟨?_, ?_, ?_, ?_, ?_, ?_, ?_, ?_, ?_, ?_⟩ <;> simp only [Act.defers_put, Act.eval_put_tmp, Act.eval_put_none, Act.size_put, Act.eval_const', Act.eval_func', Nat.reduceLT, Nat.reduceEqDiff, if_true, if_false, reduceCtorEq, ite_true, ite_false, z, d0, e4, e5, e6, e25, e10, e17, e18]) (fun a2 hF2 => ?_)
    obtain ⟨z2, d2, e4, e5, e6, e25, e10, e17, e18, e12⟩ := hF2
    refine wpC_br ?_ ?_
    · refine wpC_xs (by simp only [List.getElem?_toArray, List.getElem?_cons_succ, List.getElem?_cons_zero]; try rfl) (by rfl) (fun KK hKK => ?_)
      obtain ⟨i0, hi0, i1, i2, i3⟩ := info_parts info_reg
      refine wp_append_rd Y (.tmp 110) (.tmp 112) 75 (by rfl) B 41 i0 (.agg #[.string ByteArray.empty, .int .u8 0, .int .u16 0, .int .i64 0, .int .i64 0, .int .i64 0, .int .i64 0, .int .i64 0, .int .i64 0]) 9 72 (by kernel_rfl) hi0 i1 i2 i3 rfl (by decide) (.slice A1 R.length c1) R.length (rcellsOf R) e10 o1 Y.heap.size (some ⟨g112, 0, none⟩) 1 1 [.string s, .int .u8 (lv.toNat : Int), .int .u16 (ct.toNat : Int), .int .i64 b, .int .i64 n, .int .i64 f, .int .i64 p, .int .i64 q, .int .i64 cl] e12 (Rd.of_own or) (by simp [Value.oneCell']) (by have := hRl.out; simp only [maxLen, geosOf_length]; omega) (by have := hRl.out; (try simp only [geosOf_length]); omega) (Nat.le_trans hB (Nat.le_trans (Nat.le_of_lt HRZ.out) (Nat.le_of_lt st.gB.lt |> Nat.le_trans (Nat.le_refl _)))) (fun v' X' ho hg hnil hat => ?_)
      clear i0 hi0 i1 i2 i3 hnil hat
      obtain ⟨A', c', rfl, _, _, _⟩ := own_form ho
      have st' := st.row o1 (by decide) (by decide) (fun e => by have := (HL1.out _ e).2; omega) (fun e => by have := (HL1.out _ e).2; have := HRZ.out; omega) hg
      have o3' := o3.kept hg (own_apart o3 o1 (by decide))
      have hb' := hb.grown hg (Nat.le_trans hB hb.size) (fun k hk => (o1.lt k hk).1)
      refine hKK _ _ (S2.hold st'.cB ⟨st'.rB, st'.gB⟩) ?_
      clear st o1 o3 hb hg hKK KK or
      have st := st'
      have o1 := ho
      have o3 := o3'
      have hb := hb'
      clear st' ho o3' hb'
      refine wpC_act (fun a => a.tmps.size = 132 ∧ a.defers = [] ∧ a.eval (.tmp 104) = .pointer (some ⟨c, 0, none⟩) ∧ a.eval (.tmp 105) = .pointer (some ⟨c, 0, none⟩) ∧ a.eval (.tmp 106) = .pointer (some ⟨c, 0, none⟩) ∧ a.eval (.tmp 125) = .int .i64 (totalOf 32 R + bm + tm + b) ∧ a.eval (.tmp 113) = .slice A' (R.length + 1) c' ∧ a.eval (.tmp 117) = .slice A3 (geosOf 32 R).length c3 ∧ a.eval (.tmp 118) = .agg #[.int .i64 (totalOf 32 R), .int .i64 bm, .int .i64 tm, .int .i64 (totalOf 32 R + bm + tm), .int .i64 b, .int .i64 n]) (by refine ⟨?_, ?_, ?_, ?_, ?_, ?_, ?_, ?_, ?_⟩ <;> simp only [Act.defers_put, Act.eval_put_tmp, Act.eval_put_none, Act.size_put, Act.eval_const', Act.eval_func', Nat.reduceLT, Nat.reduceEqDiff, if_true, if_false, reduceCtorEq, ite_true, ite_false, z2, d2, e4, e5, e6, e25, e17, e18]) (fun a3 hF3 => ?_)
      obtain ⟨z3, d3, e4, e5, e6, e25, e13, e17, e18⟩ := hF3
      have D0 := hide d3
      clear d3
      refine wpC_xs (by simp only [List.getElem?_toArray, List.getElem?_cons_succ, List.getElem?_cons_zero]; try rfl) (by rfl) (fun KK hKK => ?_)
      unfold Oper.wp
      simp only [execOp, List.map_toArray, List.map_cons, List.map_nil, Act.defers_put, Act.eval_put_tmp, Act.eval_put_none, Act.size_put, Act.eval_const', Act.eval_func', Nat.reduceLT, Nat.reduceEqDiff, if_true, if_false, reduceCtorEq, ite_true, ite_false, z3, e18]
      go_simp
      have d3 := D0.out
      clear D0
      have hbx : Below X'.heap.size X' (X'.alloc (.cells #[.int .i64 (totalOf 32 R), .int .i64 bm, .int .i64 tm, .int .i64 (totalOf 32 R + bm + tm), .int .i64 b, .int .i64 n] 169)) := (Below.refl _ _).alloc (Nat.le_refl _) _
      have og := own_lit (w := X') (base := B) (e := 169) (size := 6) (n := 1) (cs := #[.int .i64 (totalOf 32 R), .int .i64 bm, .int .i64 tm, .int .i64 (totalOf 32 R + bm + tm), .int .i64 b, .int .i64 n]) rfl rfl (Nat.le_trans hB hb.size) (by simp [maxLen]) rfl
      refine hKK (a3.put (some 119) (.slice (some ⟨X'.heap.size, 0, none⟩) 1 1)) _ (S2.hold (st.cB.alloc _) ⟨st.rB.alloc _, st.gB.alloc _⟩) ?_
      clear hKK KK
      have st := st.below hbx
      have o1 := own_below o1 hbx
      have o3 := own_below o3 hbx
      have hb := hb.trans (hbx.mono (Nat.le_trans hB hb.size))
      clear hbx
      generalize hg119 : X'.heap.size = g119 at og ⊢
      generalize X'.alloc (.cells #[.int .i64 (totalOf 32 R), .int .i64 bm, .int .i64 tm, .int .i64 (totalOf 32 R + bm + tm), .int .i64 b, .int .i64 n] 169) = Z at *
      clear hg119
      exact T16 _ _ ⟨⟨by simp only [Act.defers_put, Act.eval_put_tmp, Act.eval_put_none, Act.size_put, Act.eval_const', Act.eval_func', Nat.reduceLT, Nat.reduceEqDiff, if_true, if_false, reduceCtorEq, ite_true, ite_false, z3], by simp only [Act.defers_put, Act.eval_put_tmp, Act.eval_put_none, Act.size_put, Act.eval_const', Act.eval_func', Nat.reduceLT, Nat.reduceEqDiff, if_true, if_false, reduceCtorEq, ite_true, ite_false, d3], by simp only [Act.defers_put, Act.eval_put_tmp, Act.eval_put_none, Act.size_put, Act.eval_const', Act.eval_func', Nat.reduceLT, Nat.reduceEqDiff, if_true, if_false, reduceCtorEq, ite_true, ite_false, z3, e4], by simp only [Act.defers_put, Act.eval_put_tmp, Act.eval_put_none, Act.size_put, Act.eval_const', Act.eval_func', Nat.reduceLT, Nat.reduceEqDiff, if_true, if_false, reduceCtorEq, ite_true, ite_false, z3, e5], by simp only [Act.defers_put, Act.eval_put_tmp, Act.eval_put_none, Act.size_put, Act.eval_const', Act.eval_func', Nat.reduceLT, Nat.reduceEqDiff, if_true, if_false, reduceCtorEq, ite_true, ite_false, z3, e6], by simp only [Act.defers_put, Act.eval_put_tmp, Act.eval_put_none, Act.size_put, Act.eval_const', Act.eval_func', Nat.reduceLT, Nat.reduceEqDiff, if_true, if_false, reduceCtorEq, ite_true, ite_false, z3, e25]⟩, by simp only [Act.defers_put, Act.eval_put_tmp, Act.eval_put_none, Act.size_put, Act.eval_const', Act.eval_func', Nat.reduceLT, Nat.reduceEqDiff, if_true, if_false, reduceCtorEq, ite_true, ite_false, z3, e17], A', c', g119, by simp only [Act.defers_put, Act.eval_put_tmp, Act.eval_put_none, Act.size_put, Act.eval_const', Act.eval_func', Nat.reduceLT, Nat.reduceEqDiff, if_true, if_false, reduceCtorEq, ite_true, ite_false, z3, e13], by simp only [Act.defers_put, Act.eval_put_tmp, Act.eval_put_none, Act.size_put, Act.eval_const', Act.eval_func', Nat.reduceLT, Nat.reduceEqDiff, if_true, if_false, reduceCtorEq, ite_true, ite_false, z3], st, o1, o3, og, hb⟩
    · have D0 := hide d2
      clear d2
      refine wpC_xs (by simp only [List.getElem?_toArray, List.getElem?_cons_succ, List.getElem?_cons_zero]; try rfl) (by rfl) (fun KK hKK => ?_)
      unfold Oper.wp
      simp only [execOp, List.map_toArray, List.map_cons, List.map_nil, Act.defers_put, Act.eval_put_tmp, Act.eval_put_none, Act.size_put, Act.eval_const', Act.eval_func', Nat.reduceLT, Nat.reduceEqDiff, if_true, if_false, reduceCtorEq, ite_true, ite_false, z2, e18]
      go_simp
      have d2 := D0.out
      clear D0
      have hbx : Below Y.heap.size Y (Y.alloc (.cells #[.int .i64 (totalOf 32 R), .int .i64 bm, .int .i64 tm, .int .i64 (totalOf 32 R + bm + tm), .int .i64 b, .int .i64 n] 169)) := (Below.refl _ _).alloc (Nat.le_refl _) _
      have og := own_lit (w := Y) (base := B) (e := 169) (size := 6) (n := 1) (cs := #[.int .i64 (totalOf 32 R), .int .i64 bm, .int .i64 tm, .int .i64 (totalOf 32 R + bm + tm), .int .i64 b, .int .i64 n]) rfl rfl (Nat.le_trans hB hb.size) (by simp [maxLen]) rfl
      refine hKK (a2.put (some 119) (.slice (some ⟨Y.heap.size, 0, none⟩) 1 1)) _ (S2.hold (st.cB.alloc _) ⟨st.rB.alloc _, st.gB.alloc _⟩) ?_
      clear hKK KK
      have st := st.below hbx
      have o1 := own_below o1 hbx
      have o3 := own_below o3 hbx
      have or := own_below or hbx
      have hb := hb.trans (hbx.mono (Nat.le_trans hB hb.size))
      clear hbx
      generalize hg119 : Y.heap.size = g119 at og ⊢
      generalize Y.alloc (.cells #[.int .i64 (totalOf 32 R), .int .i64 bm, .int .i64 tm, .int .i64 (totalOf 32 R + bm + tm), .int .i64 b, .int .i64 n] 169) = Z at *
      clear hg119
      exact T9 _ _ ⟨⟨by simp only [Act.defers_put, Act.eval_put_tmp, Act.eval_put_none, Act.size_put, Act.eval_const', Act.eval_func', Nat.reduceLT, Nat.reduceEqDiff, if_true, if_false, reduceCtorEq, ite_true, ite_false, z2], by simp only [Act.defers_put, Act.eval_put_tmp, Act.eval_put_none, Act.size_put, Act.eval_const', Act.eval_func', Nat.reduceLT, Nat.reduceEqDiff, if_true, if_false, reduceCtorEq, ite_true, ite_false, d2], by simp only [Act.defers_put, Act.eval_put_tmp, Act.eval_put_none, Act.size_put, Act.eval_const', Act.eval_func', Nat.reduceLT, Nat.reduceEqDiff, if_true, if_false, reduceCtorEq, ite_true, ite_false, z2, e4], by simp only [Act.defers_put, Act.eval_put_tmp, Act.eval_put_none, Act.size_put, Act.eval_const', Act.eval_func', Nat.reduceLT, Nat.reduceEqDiff, if_true, if_false, reduceCtorEq, ite_true, ite_false, z2, e5], by simp only [Act.defers_put, Act.eval_put_tmp, Act.eval_put_none, Act.size_put, Act.eval_const', Act.eval_func', Nat.reduceLT, Nat.reduceEqDiff, if_true, if_false, reduceCtorEq, ite_true, ite_false, z2, e6], by simp only [Act.defers_put, Act.eval_put_tmp, Act.eval_put_none, Act.size_put, Act.eval_const', Act.eval_func', Nat.reduceLT, Nat.reduceEqDiff, if_true, if_false, reduceCtorEq, ite_true, ite_false, z2, e25]⟩, by simp only [Act.defers_put, Act.eval_put_tmp, Act.eval_put_none, Act.size_put, Act.eval_const', Act.eval_func', Nat.reduceLT, Nat.reduceEqDiff, if_true, if_false, reduceCtorEq, ite_true, ite_false, z2, e10], by simp only [Act.defers_put, Act.eval_put_tmp, Act.eval_put_none, Act.size_put, Act.eval_const', Act.eval_func', Nat.reduceLT, Nat.reduceEqDiff, if_true, if_false, reduceCtorEq, ite_true, ite_false, z2, e17], g112, g119, by simp only [Act.defers_put, Act.eval_put_tmp, Act.eval_put_none, Act.size_put, Act.eval_const', Act.eval_func', Nat.reduceLT, Nat.reduceEqDiff, if_true, if_false, reduceCtorEq, ite_true, ite_false, z2, e12], by simp only [Act.defers_put, Act.eval_put_tmp, Act.eval_put_none, Act.size_put, Act.eval_const', Act.eval_func', Nat.reduceLT, Nat.reduceEqDiff, if_true, if_false, reduceCtorEq, ite_true, ite_false, z2], st, o1, o3, or, og, hb⟩
  · have D0 := hide d0
    clear d0
    refine wpC_xs (by simp only [List.getElem?_toArray, List.getElem?_cons_succ, List.getElem?_cons_zero]; try rfl) (by rfl) (fun KK hKK => ?_)
    unfold Oper.wp
    simp only [execOp, List.map_toArray, List.map_cons, List.map_nil, Act.defers_put, Act.eval_put_tmp, Act.eval_put_none, Act.size_put, Act.eval_const', Act.eval_func', Nat.reduceLT, Nat.reduceEqDiff, if_true, if_false, reduceCtorEq, ite_true, ite_false, z, e18]
    go_simp
    have d0 := D0.out
    clear D0
    have hbx : Below X.heap.size X (X.alloc (.cells #[.int .i64 (totalOf 32 R), .int .i64 bm, .int .i64 tm, .int .i64 (totalOf 32 R + bm + tm), .int .i64 b, .int .i64 n] 169)) := (Below.refl _ _).alloc (Nat.le_refl _) _
    have og := own_lit (w := X) (base := B) (e := 169) (size := 6) (n := 1) (cs := #[.int .i64 (totalOf 32 R), .int .i64 bm, .int .i64 tm, .int .i64 (totalOf 32 R + bm + tm), .int .i64 b, .int .i64 n]) rfl rfl (Nat.le_trans hB hb.size) (by simp [maxLen]) rfl
    refine hKK (a.put (some 119) (.slice (some ⟨X.heap.size, 0, none⟩) 1 1)) _ (S2.hold (st.cB.alloc _) ⟨st.rB.alloc _, st.gB.alloc _⟩) ?_
    clear hKK KK
    have st := st.below hbx
    have o1 := own_below o1 hbx
    have o3 := own_below o3 hbx
    have hb := hb.trans (hbx.mono (Nat.le_trans hB hb.size))
    clear hbx
    generalize hg119 : X.heap.size = g119 at og ⊢
    generalize X.alloc (.cells #[.int .i64 (totalOf 32 R), .int .i64 bm, .int .i64 tm, .int .i64 (totalOf 32 R + bm + tm), .int .i64 b, .int .i64 n] 169) = Y at *
    clear hg119
    refine wpC_act (fun a => a.tmps.size = 132 ∧ a.defers = [] ∧ a.eval (.tmp 104) = .pointer (some ⟨c, 0, none⟩) ∧ a.eval (.tmp 105) = .pointer (some ⟨c, 0, none⟩) ∧ a.eval (.tmp 106) = .pointer (some ⟨c, 0, none⟩) ∧ a.eval (.tmp 125) = .int .i64 (totalOf 32 R + bm + tm + b) ∧ a.eval (.tmp 110) = .slice A1 R.length c1 ∧ a.eval (.tmp 117) = .slice A3 (geosOf 32 R).length c3 ∧ a.eval (.tmp 111) = .agg #[.string s, .int .u8 (lv.toNat : Int), .int .u16 (ct.toNat : Int), .int .i64 b, .int .i64 n, .int .i64 f, .int .i64 p, .int .i64 q, .int .i64 cl] ∧ a.eval (.tmp 119) = .slice (some ⟨g119, 0, none⟩) 1 1) (by refine ⟨?_, ?_, ?_, ?_, ?_, ?_, ?_, ?_, ?_, ?_⟩ <;> simp only [Act.defers_put, Act.eval_put_tmp, Act.eval_put_none, Act.size_put, Act.eval_const', Act.eval_func', Nat.reduceLT, Nat.reduceEqDiff, if_true, if_false, reduceCtorEq, ite_true, ite_false, z, d0, e4, e5, e6, e25, e10, e17, e11]) (fun a2 hF2 => ?_)
    obtain ⟨z2, d2, e4, e5, e6, e25, e10, e17, e11, e19⟩ := hF2
    have D0 := hide d2
    clear d2
    refine wpC_xs (by simp only [List.getElem?_toArray, List.getElem?_cons_succ, List.getElem?_cons_zero]; try rfl) (by rfl) (fun KK hKK => ?_)
    unfold Oper.wp
    simp only [execOp, List.map_toArray, List.map_cons, List.map_nil, Act.defers_put, Act.eval_put_tmp, Act.eval_put_none, Act.size_put, Act.eval_const', Act.eval_func', Nat.reduceLT, Nat.reduceEqDiff, if_true, if_false, reduceCtorEq, ite_true, ite_false, z2, e11]
    go_simp
    have d2 := D0.out
    clear D0
    have hbx : Below Y.heap.size Y (Y.alloc (.cells #[.string s, .int .u8 (lv.toNat : Int), .int .u16 (ct.toNat : Int), .int .i64 b, .int .i64 n, .int .i64 f, .int .i64 p, .int .i64 q, .int .i64 cl] 41)) := (Below.refl _ _).alloc (Nat.le_refl _) _
    have or := own_lit (w := Y) (base := B) (e := 41) (size := 9) (n := 1) (cs := #[.string s, .int .u8 (lv.toNat : Int), .int .u16 (ct.toNat : Int), .int .i64 b, .int .i64 n, .int .i64 f, .int .i64 p, .int .i64 q, .int .i64 cl]) rfl rfl (Nat.le_trans hB hb.size) (by simp [maxLen]) rfl
    refine hKK (a2.put (some 112) (.slice (some ⟨Y.heap.size, 0, none⟩) 1 1)) _ (S2.hold (st.cB.alloc _) ⟨st.rB.alloc _, st.gB.alloc _⟩) ?_
    clear hKK KK
    have st := st.below hbx
    have o1 := own_below o1 hbx
    have o3 := own_below o3 hbx
    have og := own_below og hbx
    have hb := hb.trans (hbx.mono (Nat.le_trans hB hb.size))
    clear hbx
    generalize hg112 : Y.heap.size = g112 at or ⊢
    generalize Y.alloc (.cells #[.string s, .int .u8 (lv.toNat : Int), .int .u16 (ct.toNat : Int), .int .i64 b, .int .i64 n, .int .i64 f, .int .i64 p, .int .i64 q, .int .i64 cl] 41) = Z at *
    clear hg112
    exact T9 _ _ ⟨⟨by simp only [Act.defers_put, Act.eval_put_tmp, Act.eval_put_none, Act.size_put, Act.eval_const', Act.eval_func', Nat.reduceLT, Nat.reduceEqDiff, if_true, if_false, reduceCtorEq, ite_true, ite_false, z2], by simp only [Act.defers_put, Act.eval_put_tmp, Act.eval_put_none, Act.size_put, Act.eval_const', Act.eval_func', Nat.reduceLT, Nat.reduceEqDiff, if_true, if_false, reduceCtorEq, ite_true, ite_false, d2], by simp only [Act.defers_put, Act.eval_put_tmp, Act.eval_put_none, Act.size_put, Act.eval_const', Act.eval_func', Nat.reduceLT, Nat.reduceEqDiff, if_true, if_false, reduceCtorEq, ite_true, ite_false, z2, e4], by simp only [Act.defers_put, Act.eval_put_tmp, Act.eval_put_none, Act.size_put, Act.eval_const', Act.eval_func', Nat.reduceLT, Nat.reduceEqDiff, if_true, if_false, reduceCtorEq, ite_true, ite_false, z2, e5], by simp only [Act.defers_put, Act.eval_put_tmp, Act.eval_put_none, Act.size_put, Act.eval_const', Act.eval_func', Nat.reduceLT, Nat.reduceEqDiff, if_true, if_false, reduceCtorEq, ite_true, ite_false, z2, e6], by simp only [Act.defers_put, Act.eval_put_tmp, Act.eval_put_none, Act.size_put, Act.eval_const', Act.eval_func', Nat.reduceLT, Nat.reduceEqDiff, if_true, if_false, reduceCtorEq, ite_true, ite_false, z2, e25]⟩, by simp only [Act.defers_put, Act.eval_put_tmp, Act.eval_put_none, Act.size_put, Act.eval_const', Act.eval_func', Nat.reduceLT, Nat.reduceEqDiff, if_true, if_false, reduceCtorEq, ite_true, ite_false, z2, e10], by simp only [Act.defers_put, Act.eval_put_tmp, Act.eval_put_none, Act.size_put, Act.eval_const', Act.eval_func', Nat.reduceLT, Nat.reduceEqDiff, if_true, if_false, reduceCtorEq, ite_true, ite_false, z2, e17], g112, g119, by simp only [Act.defers_put, Act.eval_put_tmp, Act.eval_put_none, Act.size_put, Act.eval_const', Act.eval_func', Nat.reduceLT, Nat.reduceEqDiff, if_true, if_false, reduceCtorEq, ite_true, ite_false, z2], by simp only [Act.defers_put, Act.eval_put_tmp, Act.eval_put_none, Act.size_put, Act.eval_const', Act.eval_func', Nat.reduceLT, Nat.reduceEqDiff, if_true, if_false, reduceCtorEq, ite_true, ite_false, z2, e19], st, o1, o3, or, og, hb⟩
end

end Go.Proofs.YthmkgohfeahdhaaGreat
namespace Go.Proofs.YthmkgohfeahdhaaGreat
open Go.RowKit
set_option linter.unusedSimpArgs false
set_option linter.unusedVariables false

def szName : Nat → List UInt8
  | 0 => [108, 111, 119]
  | 1 => [114, 101, 100]
  | 2 => [98, 108, 117, 101]
  | 3 => [116, 111, 112]
  | _ => [104, 105, 103, 104]
def szLev : Nat → UInt8
  | 0 => 0
  | 1 => 1
  | 2 => 1
  | 3 => 2
  | _ => 9
def szCat : Nat → UInt16
  | 0 => 0
  | 1 => 1
  | 2 => 2
  | 3 => 3
  | _ => 7
def szClear (many i : Nat) : Nat := if many = 2 then 1 else if many = 3 then (if i = 0 then 1 else i) else many - 1
def szReg (many : Nat) (H : List UInt8) (i : Nat) : RegV :=
  ⟨szName i, szLev i, szCat i, 8 + ((H.getD (5 * i) 0).toNat : Int) % 60, 8 + 2 * (((H.getD (5 * i + 1) 0).toNat : Int) % 12), 4 + ((H.getD (5 * i + 2) 0).toNat : Int) % 40,
    1 + ((H.getD (5 * i + 3) 0).toNat : Int) % 6, 2 + ((H.getD (5 * i + 4) 0).toNat : Int) % 14, (szClear many i : Nat)⟩
def szMany (m : UInt8) : Nat := 2 + m.toNat % 4
def szRegs (m : UInt8) (H : List UInt8) : List RegV := (List.range (szMany m)).map (szReg (szMany m) H)

theorem sz_name (i : Nat) : nameB (szName i) = true := by
  rcases i with _ | _ | _ | _ | i <;> simp only [szName] <;> decide +kernel
theorem inB_of {n a b : Int} (h1 : a ≤ n) (h2 : n ≤ b) : inB n a b = true := by simp [inB, h1, h2]
theorem sz_right (many : Nat) (H : List UInt8) (i : Nat) (h : i < many) (h2 : 2 ≤ many) : rightB (szReg many H i) many = true := by
  have hl : decide ((szReg many H i).lev ≤ 15) = true := by
    show decide (szLev i ≤ 15) = true
    rcases i with _ | _ | _ | _ | i <;> rfl
  have hc : szClear many i < many := by unfold szClear; split <;> (try split) <;> (try split) <;> omega
  have b1 : inB (szReg many H i).blocks 4 512 = true := inB_of (by simp only [szReg]; omega) (by simp only [szReg]; omega)
  have b2 : inB (szReg many H i).nodes 4 128 = true := inB_of (by simp only [szReg]; omega) (by simp only [szReg]; omega)
  have b3 : decide ((szReg many H i).nodes % 2 = 0) = true := decide_eq_true (by show (8 + 2 * (((H.getD (5 * i + 1) 0).toNat : Int) % 12)) % 2 = 0; omega)
  have b4 : inB (szReg many H i).frames 1 256 = true := inB_of (by simp only [szReg]; omega) (by simp only [szReg]; omega)
  have b5 : inB (szReg many H i).procs 1 16 = true := inB_of (by simp only [szReg]; omega) (by simp only [szReg]; omega)
  have b6 : inB (szReg many H i).opens 1 32 = true := inB_of (by simp only [szReg]; omega) (by simp only [szReg]; omega)
  have b7 : inB (szReg many H i).clear 0 ((many : Int) - 1) = true := inB_of (by simp only [szReg]; omega) (by simp only [szReg]; omega)
  rw [rightB, soundB, hl, b1, b2, b3, b4, b5, b6, b7]
  rfl
theorem addE_zero {old : List RegV} {r : RegV} {many : Int} (h1 : nameB r.name = true) (h2 : rightB r many = true) (h3 : r.name ∉ old.map (·.name)) (h4 : (r.lev, r.cats) ∉ old.map (fun x => (x.lev, x.cats))) : addE old r many = 0 := by
  unfold addE
  rw [if_neg (by simp [h1]), if_neg (by simp [h2]), if_neg h3, if_neg h4]
theorem sz_apart {i j : Nat} (hi : i < 5) (hj : j < i) : szName i ≠ szName j ∧ (szLev i, szCat i) ≠ (szLev j, szCat j) := by
  have : ∀ i : Fin 5, ∀ j : Fin 5, j.val < i.val → szName i.val ≠ szName j.val ∧ (szLev i.val, szCat i.val) ≠ (szLev j.val, szCat j.val) := by decide +kernel
  exact this ⟨i, hi⟩ ⟨j, by omega⟩ hj
theorem sz_adds (many : Nat) (H : List UInt8) (h2 : 2 ≤ many) (h5 : many ≤ 5) : ∀ (d k : Nat), k + d = many → addsE ((List.range k).map (szReg many H)) ((List.range' k d).map (szReg many H)) many = 0
  | 0, k, _ => by simp [addsE]
  | d + 1, k, hk => by
    rw [List.range'_succ, List.map_cons, addsE]
    have e : addE ((List.range k).map (szReg many H)) (szReg many H k) many = 0 := by
      refine addE_zero (sz_name k) (sz_right many H k (by omega) h2) ?_ ?_
      · simp only [List.map_map, List.mem_map, List.mem_range, Function.comp, not_exists, not_and]
        exact fun j hj e => (sz_apart (by omega) hj).1 e.symm
      · simp only [List.map_map, List.mem_map, List.mem_range, Function.comp, not_exists, not_and]
        exact fun j hj e => (sz_apart (by omega) hj).2 e.symm
    rw [if_pos e]
    have := sz_adds many H h2 h5 d (k + 1) (by omega)
    rw [List.range_succ, List.map_append] at this
    exact this
theorem szMany_ge (m : UInt8) : 2 ≤ szMany m := by unfold szMany; omega
theorem szMany_le (m : UInt8) : szMany m ≤ 5 := by unfold szMany; omega
theorem szRegs_length (m : UInt8) (H : List UInt8) : (szRegs m H).length = szMany m := by simp [szRegs]
theorem szRegs_get (m : UInt8) (H : List UInt8) {i : Nat} (h : i < szMany m) : (szRegs m H)[i]? = some (szReg (szMany m) H i) := by
  simp [szRegs, List.getElem?_map, List.getElem?_range h]
theorem sz_leq {many i : Nat} (h2 : 2 ≤ many) (h5 : many ≤ 5) (hi : i < many) : lleB (szLev i) (szCat i) (szLev (szClear many i)) (szCat (szClear many i)) = true := by
  have : ∀ many : Fin 6, ∀ i : Fin 5, 2 ≤ many.val → i.val < many.val → lleB (szLev i.val) (szCat i.val) (szLev (szClear many.val i.val)) (szCat (szClear many.val i.val)) = true := by decide +kernel
  exact this ⟨many, by omega⟩ ⟨i, by omega⟩ h2 hi
theorem sz_clear_lt {many i : Nat} (h2 : 2 ≤ many) (hi : i < many) : szClear many i < many := by unfold szClear; split <;> (try split) <;> (try split) <;> omega
theorem reg_at (l : List RegV) (i : Nat) : regAt l (i : Int) = l[i]? := by simp [regAt]
theorem clearsE_zero {l : List RegV} : ∀ {k : Nat} {rest : List RegV}, (∀ j r, rest[j]? = some r → leqAt l ((k + j : Nat) : Int) r.clear = true) → clearsE l k rest = 0
  | _, [], _ => rfl
  | k, r :: rest, h => by
    have h0 := h 0 r rfl
    simp only [Nat.add_zero] at h0
    rw [clearsE, if_pos h0]
    exact clearsE_zero fun j x hx => by
      have := h (j + 1) x (by simpa using hx)
      rw [show k + 1 + j = k + (j + 1) from by omega]
      exact this
theorem marksE_zero {l : List RegV} : ∀ {ms old : List MarkV}, (∀ m ∈ ms, markB l m = true) → (old ++ ms).Nodup → marksE l old ms = 0
  | [], _, _, _ => rfl
  | m :: rest, old, h, hn => by
    have hm : m ∉ old := fun hc => by
      rw [List.nodup_append] at hn
      exact hn.2.2 m hc m (by simp) rfl
    rw [marksE, if_neg (by simp [h m (by simp)]), if_neg hm]
    exact marksE_zero (fun x hx => h x (by simp [hx])) (by simpa using hn)
theorem sz_ok (m : UInt8) (H : List UInt8) (ms : List MarkV) (h1 : ∀ x ∈ ms, x.1.toNat < szMany m ∧ 1 ≤ x.2.toNat ∧ x.2.toNat ≤ 8) (hn : ms.Nodup) : newE (szRegs m H) ms = 0 := by
  have h2 := szMany_ge m
  have h5 := szMany_le m
  have hl := szRegs_length m H
  have ha : addsE [] (szRegs m H) ((szRegs m H).length : Int) = 0 := by
    rw [hl, szRegs, List.range_eq_range']
    exact sz_adds (szMany m) H h2 h5 (szMany m) 0 (by omega)
  have hc : clearsE (szRegs m H) 0 (szRegs m H) = 0 := clearsE_zero fun j r hr => by
    have hj : j < szMany m := by rw [← hl]; exact (List.getElem?_eq_some_iff.1 hr).1
    rw [szRegs_get m H hj] at hr
    injection hr with hr
    subst hr
    have hk := sz_clear_lt h2 hj
    have e1 : regAt (szRegs m H) ((0 + j : Nat) : Int) = some (szReg (szMany m) H j) := by rw [Nat.zero_add, reg_at]; exact szRegs_get m H hj
    have e2 : regAt (szRegs m H) (szReg (szMany m) H j).clear = some (szReg (szMany m) H (szClear (szMany m) j)) := by
      show regAt (szRegs m H) ((szClear (szMany m) j : Nat) : Int) = _
      rw [reg_at]
      exact szRegs_get m H hk
    simp only [leqAt, e1, e2]
    exact sz_leq h2 h5 hj
  have hm : marksE (szRegs m H) [] ms = 0 := marksE_zero (fun x hx => by
    obtain ⟨q1, q2, q3⟩ := h1 x hx
    simp only [markB, szRegs_get m H q1, szReg, Bool.and_eq_true, decide_eq_true_eq]
    omega) (by simpa using hn)
  have h0 := szRegs_get m H (i := 0) (by omega)
  generalize szRegs m H = R at hl ha hc hm h0 ⊢
  cases R with
  | nil => simp at hl; omega
  | cons r rest =>
    simp only [List.getElem?_cons_zero, Option.some.injEq] at h0
    simp only [newE]
    rw [if_neg (by omega), if_neg (fun h => h ha), if_neg (by rw [h0]; simp [szReg, szLev, szCat]), if_neg (fun h => h hc), hm]

end Go.Proofs.YthmkgohfeahdhaaGreat
namespace Go.Proofs.YthmkgohfeahdhaaGreat
open Go.RowKit Go.WideMaps
set_option linter.unusedSimpArgs false
set_option linter.unusedVariables false

theorem own_base {w : World} {B sz n c : Nat} {e : TypeId} {A : Option Addr} {xs : List Value} (h : w.ownsRow B e sz (.slice A n c) n xs) (hn : 0 < n) : ∃ g, A = some ⟨g, 0, none⟩ ∧ B ≤ g ∧ g < w.heap.size ∧ ∀ j v, xs[j]? = some v → w.cell? ⟨g, j, none⟩ = some v := by
  obtain ⟨b, o, hA, hb, hc⟩ := (Rd.of_own h).2 hn
  have ho : o = 0 := by
    rcases h.2 with ⟨h0, _⟩ | ⟨g, cap, cur, hv, _⟩
    · rw [hA] at h0; cases h0
    · rw [hA] at hv; cases hv; rfl
  subst ho
  subst hA
  refine ⟨b, rfl, (h.lt b rfl).1, hb, fun j v hj => ?_⟩
  rw [← Nat.zero_add j]
  exact hc j v hj

section
variable {B : Nat} {w w' : World} {c : Nat} {R : List RegV} {K : List MarkV} {tb nb lb : Nat} {A1 A2 A3 : Option Addr} {c1 c2 c3 : Nat}
def hasB (R : List RegV) (i : Int) : Bool := decide (0 ≤ i) && decide (i < (R.length : Int))
theorem hasB_nat {R : List RegV} {i : Int} (h : hasB R i = true) : ∃ (k : Nat) (r : RegV), i = (k : Int) ∧ R[k]? = some r ∧ k < R.length := by
  simp only [hasB, Bool.and_eq_true, decide_eq_true_eq] at h
  obtain ⟨k, rfl⟩ := Int.eq_ofNat_of_zero_le h.1
  have hk : k < R.length := by omega
  exact ⟨k, _, rfl, List.getElem?_eq_getElem hk, hk⟩
theorem regAt_has {R : List RegV} {i : Int} : hasB R i = (regAt R i).isSome := by
  unfold hasB regAt
  by_cases h : 0 ≤ i
  · obtain ⟨k, rfl⟩ := Int.eq_ofNat_of_zero_le h
    by_cases hk : k < R.length
    · simp [hk]
    · simp [hk]
  · simp [h]
theorem ConfIn.regc (h : ConfIn B w c R K tb nb lb A1 A2 A3 c1 c2 c3) {k : Nat} {r : RegV} (hk : R[k]? = some r) :
    ∃ g, A1 = some ⟨g, 0, none⟩ ∧ g < w.heap.size ∧ ∀ j v, r.cells[j]? = some v → w.cell? ⟨g, k * 9 + j, none⟩ = some v := by
  have hl : k < R.length := (List.getElem?_eq_some_iff.1 hk).1
  obtain ⟨g, hA, _, hg, hc⟩ := own_base h.regs (by omega)
  exact ⟨g, hA, hg, fun j v hv => hc _ _ (flat_get RegV.cells 9 (fun _ => rfl) R k r hk j v hv)⟩
theorem ConfIn.geoc (h : ConfIn B w c R K tb nb lb A1 A2 A3 c1 c2 c3) {k : Nat} {r : GeoV} (hk : (geosOf 32 R)[k]? = some r) :
    ∃ g, A3 = some ⟨g, 0, none⟩ ∧ g < w.heap.size ∧ ∀ j v, r.cells[j]? = some v → w.cell? ⟨g, k * 6 + j, none⟩ = some v := by
  have hl : k < (geosOf 32 R).length := (List.getElem?_eq_some_iff.1 hk).1
  obtain ⟨g, hA, _, hg, hc⟩ := own_base h.geos (by omega)
  exact ⟨g, hA, hg, fun j v hv => hc _ _ (flat_get GeoV.cells 6 (fun _ => rfl) _ k r hk j v hv)⟩

theorem len_ok (h : ConfIn B w c R K tb nb lb A1 A2 A3 c1 c2 c3) :
    Calls Tryz.prog 17 #[.pointer (some ⟨c, 0, none⟩)] w fun e w' => e = .returned (.int .i64 (R.length : Int)) ∧ w' = w := by
  have k0 := h.blk.cell 0
  have kl := h.blk.lt
  go_enter Tryz.func17, Tryz.ntmps17
  go_wp2
  go_returns
  exact ⟨rfl, rfl⟩
theorem total_ok (h : ConfIn B w c R K tb nb lb A1 A2 A3 c1 c2 c3) :
    Calls Tryz.prog 111 #[.pointer (some ⟨c, 0, none⟩)] w fun e w' => e = .returned (.int .i64 (totalOf 32 R)) ∧ w' = w := by
  have k0 := h.blk.cell 6
  have kl := h.blk.lt
  go_enter Tryz.func111, Tryz.ntmps111
  go_wp2
  go_returns
  exact ⟨rfl, rfl⟩
theorem has_ok (h : ConfIn B w c R K tb nb lb A1 A2 A3 c1 c2 c3) (i : Int) :
    Calls Tryz.prog 81 #[.pointer (some ⟨c, 0, none⟩), .int .i64 i] w fun e w' => e = .returned (.bool (hasB R i)) ∧ w' = w := by
  by_cases hi : 0 ≤ i
  · have h1 : decide (0 ≤ i) = true := by simpa using hi
    go_enter Tryz.func81, Tryz.ntmps81
    go_wp2_with (refine (len_ok h).mono ?_; rintro e w' ⟨rfl, rfl⟩)
    go_returns
    exact ⟨by simp [hasB, hi], rfl⟩
  · have h1 : decide (0 ≤ i) = false := by simpa using hi
    go_enter Tryz.func81, Tryz.ntmps81
    go_wp2
    go_returns
    exact ⟨by rw [hasB, h1]; rfl, rfl⟩


set_option maxRecDepth 100000 in
set_option maxHeartbeats 400000 in
theorem geo_ok (h : ConfIn B w c R K tb nb lb A1 A2 A3 c1 c2 c3) {k : Nat} {r : GeoV} (hk : (geosOf 32 R)[k]? = some r) :
    Calls Tryz.prog 79 #[.pointer (some ⟨c, 0, none⟩), .int .i64 (k : Int)] w fun e w' => e = .returned (.tuple #[.agg #[.int .i64 r.base, .int .i64 r.bitmap, .int .i64 r.table, .int .i64 r.data, .int .i64 r.blocks, .int .i64 r.nodes], .bool true]) ∧ Below w.heap.size w w' := by
  have hkl : k < R.length := by have := (List.getElem?_eq_some_iff.1 hk).1; first | exact this | (rw [geosOf_length] at this; exact this)
  have hhas : hasB R (k : Int) = true := by simp [hasB, hkl]
  have hb1 : Below w.heap.size w (w.alloc (.cells #[.int .i64 0, .int .i64 0, .int .i64 0, .int .i64 0, .int .i64 0, .int .i64 0] 169)) := (Below.refl _ _).alloc (Nat.le_refl _) _
  have B1 : Blk (w.alloc (.cells #[.int .i64 0, .int .i64 0, .int .i64 0, .int .i64 0, .int .i64 0, .int .i64 0] 169)) w.heap.size 169 #[.int .i64 0, .int .i64 0, .int .i64 0, .int .i64 0, .int .i64 0, .int .i64 0] := Blk.new w _ _
  have h1 := h.below hb1
  obtain ⟨g, hA, hg, hcc⟩ := h1.geoc hk
  subst hA
  have hgl : g < w.heap.size := by have := h.geoc hk; obtain ⟨g', e, h2, _⟩ := this; cases e; exact h2
  have hkz : (k : Int) < (R.length : Int) := by omega
  go_enter Tryz.func79, Tryz.ntmps79
  go_wp2_with fail
  refine (has_ok h1 _).mono ?_
  rw [hhas]
  rintro e w' ⟨rfl, rfl⟩
  have y0 := hcc 0 _ rfl
  have y1 := hcc 1 _ rfl
  have y2 := hcc 2 _ rfl
  have y3 := hcc 3 _ rfl
  have y4 := hcc 4 _ rfl
  have y5 := hcc 5 _ rfl
  have kc := h1.blk.cell 5
  have kl := h1.blk.lt
  have z0 := B1.cell 0
  have f0 := B1.frozen 0
  have z1 := B1.cell 1
  have f1 := B1.frozen 1
  have z2 := B1.cell 2
  have f2 := B1.frozen 2
  have z3 := B1.cell 3
  have f3 := B1.frozen 3
  have z4 := B1.cell 4
  have f4 := B1.frozen 4
  have z5 := B1.cell 5
  have f5 := B1.frozen 5
  have zl := B1.lt
  have HB := hide hb1
  have HB1 := hide B1
  clear hb1 B1 hhas hk hcc h h1
  simp only [geosOf_length, Nat.add_zero] at kc y0
  go_wp2
  refine at_world (fun W => Blk W w.heap.size 169 #[.int .i64 r.base, .int .i64 r.bitmap, .int .i64 r.table, .int .i64 r.data, .int .i64 r.blocks, .int .i64 r.nodes] ∧ Below w.heap.size w W) ⟨Blk.new w _ _, (Below.refl _ _).alloc (Nat.le_refl _) _⟩ (fun W h9 => ?_)
  exact bodyPost_ret (results_run2 rfl (ResV.struct rfl h9.1 Tryz.underlying169 (by kernel_rfl)) rfl) rfl ⟨rfl, h9.2⟩

set_option maxRecDepth 100000 in
theorem leq_ok (h : ConfIn B w c R K tb nb lb A1 A2 A3 c1 c2 c3) (i k : Int) :
    Calls Tryz.prog 91 #[.pointer (some ⟨c, 0, none⟩), .int .i64 i, .int .i64 k] w fun e w' => e = .returned (.bool (leqAt R i k)) ∧ Below w.heap.size w w' := by
  cases hi : hasB R i with
  | false =>
    have e : leqAt R i k = false := by
      rw [regAt_has] at hi
      unfold leqAt
      cases hx : regAt R i with
      | none => rfl
      | some x => rw [hx] at hi; cases hi
    rw [e]
    clear e
    go_enter Tryz.func91, Tryz.ntmps91
    go_wp2_with fail
    refine wp_region_text [0, 0, 1, 0, 0, 0, 1, 0, 0, 0, 0, 0, 0, 0, 0, 0, 0, 0, 0, 0, 0, 0, 0, 0, 0, 1, 0, 0] (Below w.heap.size w) (by kernel_rfl) (by kernel_rfl) (Below.refl _ _).drew ?_
    iterate 2 (refine wpOrd_q (v := ?_) (by rfl) (fun W hW => ?_) ?_; rotate_left; (focus (go_simp; try with_reducible rfl)); try simp only [Act.put, List.setIfInBounds_toArray, List.set_cons_zero, List.set_cons_succ])
    refine wpOrd_x (by rfl) (fun K hK => ?_)
    go_simp
    refine (has_ok (h.below (Below.refl _ _).drew) _).mono ?_
    rw [hi]
    rintro e w' ⟨rfl, rfl⟩
    refine hK _ _ _ (fun _ h => h) (Below.refl _ _).drew ?_
    clear hK K
    try simp only [Act.put, List.setIfInBounds_toArray, List.set_cons_zero, List.set_cons_succ]
    iterate 1 (refine wpOrd_q (v := ?_) (by rfl) (fun W hW => ?_) ?_; rotate_left; (focus (go_simp; try with_reducible rfl)); try simp only [Act.put, List.setIfInBounds_toArray, List.set_cons_zero, List.set_cons_succ])
    iterate 3 (refine wpOrd_n (by rfl) ?_; try simp only [Act.put, List.setIfInBounds_toArray, List.set_cons_zero, List.set_cons_succ])
    iterate 2 (refine wpOrd_q (v := ?_) (by rfl) (fun W hW => ?_) ?_; rotate_left; (focus (go_simp; try with_reducible rfl)); try simp only [Act.put, List.setIfInBounds_toArray, List.set_cons_zero, List.set_cons_succ])
    iterate 17 (refine wpOrd_n (by rfl) ?_; try simp only [Act.put, List.setIfInBounds_toArray, List.set_cons_zero, List.set_cons_succ])
    iterate 2 (refine wpOrd_q (v := ?_) (by rfl) (fun W hW => ?_) ?_; rotate_left; (focus (go_simp; try with_reducible rfl)); try simp only [Act.put, List.setIfInBounds_toArray, List.set_cons_zero, List.set_cons_succ])
    refine wpOrd_nil ?_
    go_wp2
    go_returns
    exact ⟨rfl, (Below.refl _ _).drew⟩
  | true =>
    cases hk : hasB R k with
    | false =>
      have e : leqAt R i k = false := by
        rw [regAt_has] at hk
        unfold leqAt
        cases hx : regAt R k with
        | none => cases regAt R i <;> rfl
        | some x => rw [hx] at hk; cases hk
      rw [e]
      clear e
      go_enter Tryz.func91, Tryz.ntmps91
      go_wp2_with fail
      refine wp_region_text [0, 0, 1, 0, 0, 0, 1, 0, 0, 0, 0, 0, 0, 0, 0, 0, 0, 0, 0, 0, 0, 0, 0, 0, 0, 1, 0, 0] (Below w.heap.size w) (by kernel_rfl) (by kernel_rfl) (Below.refl _ _).drew ?_
      iterate 2 (refine wpOrd_q (v := ?_) (by rfl) (fun W hW => ?_) ?_; rotate_left; (focus (go_simp; try with_reducible rfl)); try simp only [Act.put, List.setIfInBounds_toArray, List.set_cons_zero, List.set_cons_succ])
      refine wpOrd_x (by rfl) (fun K hK => ?_)
      go_simp
      refine (has_ok (h.below (Below.refl _ _).drew) _).mono ?_
      rw [hi]
      rintro e w' ⟨rfl, rfl⟩
      refine hK _ _ _ (fun _ h => h) (Below.refl _ _).drew ?_
      clear hK K
      try simp only [Act.put, List.setIfInBounds_toArray, List.set_cons_zero, List.set_cons_succ]
      iterate 3 (refine wpOrd_q (v := ?_) (by rfl) (fun W hW => ?_) ?_; rotate_left; (focus (go_simp; try with_reducible rfl)); try simp only [Act.put, List.setIfInBounds_toArray, List.set_cons_zero, List.set_cons_succ])
      refine wpOrd_x (by rfl) (fun K hK => ?_)
      go_simp
      refine (has_ok (h.below (Below.refl _ _).drew) _).mono ?_
      rw [hk]
      rintro e w' ⟨rfl, rfl⟩
      refine hK _ _ _ (fun _ h => h) (Below.refl _ _).drew ?_
      clear hK K
      try simp only [Act.put, List.setIfInBounds_toArray, List.set_cons_zero, List.set_cons_succ]
      iterate 2 (refine wpOrd_q (v := ?_) (by rfl) (fun W hW => ?_) ?_; rotate_left; (focus (go_simp; try with_reducible rfl)); try simp only [Act.put, List.setIfInBounds_toArray, List.set_cons_zero, List.set_cons_succ])
      iterate 17 (refine wpOrd_n (by rfl) ?_; try simp only [Act.put, List.setIfInBounds_toArray, List.set_cons_zero, List.set_cons_succ])
      iterate 2 (refine wpOrd_q (v := ?_) (by rfl) (fun W hW => ?_) ?_; rotate_left; (focus (go_simp; try with_reducible rfl)); try simp only [Act.put, List.setIfInBounds_toArray, List.set_cons_zero, List.set_cons_succ])
      refine wpOrd_nil ?_
      go_wp2
      go_returns
      exact ⟨rfl, (Below.refl _ _).drew⟩
    | true =>
      obtain ⟨i, r1, rfl, hr1, hl1⟩ := hasB_nat hi
      obtain ⟨k, r2, rfl, hr2, hl2⟩ := hasB_nat hk
      have e : leqAt R (i : Int) (k : Int) = lleB r1.lev r1.cats r2.lev r2.cats := by
        simp only [leqAt, reg_at, hr1, hr2, leqB]
      rw [e]
      clear e
      obtain ⟨g, rfl, hg, hc1⟩ := h.regc hr1
      obtain ⟨g', e', _, hc2⟩ := h.regc hr2
      cases e'
      have y1 := hc1 1 _ rfl
      have y2 := hc1 2 _ rfl
      have z1 := hc2 1 _ rfl
      have z2 := hc2 2 _ rfl
      have k0 := h.blk.cell 0
      have kl := h.blk.lt
      have hz1 : (i : Int) < R.length := by omega
      have hz2 : (k : Int) < R.length := by omega
      clear hc1 hc2
      go_enter Tryz.func91, Tryz.ntmps91
      go_wp2_with fail
      refine wp_region_text [0, 0, 1, 0, 0, 0, 1, 0, 0, 0, 0, 0, 0, 0, 0, 0, 0, 0, 0, 0, 0, 0, 0, 0, 0, 1, 0, 0] (Below w.heap.size w) (by kernel_rfl) (by kernel_rfl) (Below.refl _ _).drew ?_
      iterate 2 (refine wpOrd_q (v := ?_) (by rfl) (fun W hW => ?_) ?_; rotate_left; (focus (go_simp; try with_reducible rfl)); try simp only [Act.put, List.setIfInBounds_toArray, List.set_cons_zero, List.set_cons_succ])
      refine wpOrd_x (by rfl) (fun K hK => ?_)
      go_simp
      refine (has_ok (h.below (Below.refl _ _).drew) _).mono ?_
      rw [hi]
      rintro e w' ⟨rfl, rfl⟩
      refine hK _ _ _ (fun _ h => h) (Below.refl _ _).drew ?_
      clear hK K
      try simp only [Act.put, List.setIfInBounds_toArray, List.set_cons_zero, List.set_cons_succ]
      iterate 3 (refine wpOrd_q (v := ?_) (by rfl) (fun W hW => ?_) ?_; rotate_left; (focus (go_simp; try with_reducible rfl)); try simp only [Act.put, List.setIfInBounds_toArray, List.set_cons_zero, List.set_cons_succ])
      refine wpOrd_x (by rfl) (fun K hK => ?_)
      go_simp
      refine (has_ok (h.below (Below.refl _ _).drew) _).mono ?_
      rw [hk]
      rintro e w' ⟨rfl, rfl⟩
      refine hK _ _ _ (fun _ h => h) (Below.refl _ _).drew ?_
      clear hK K
      try simp only [Act.put, List.setIfInBounds_toArray, List.set_cons_zero, List.set_cons_succ]
      iterate 18 (refine wpOrd_q (v := ?_) (by rfl) (fun W hW => ?_) ?_; rotate_left; (focus ((obtain ⟨hWc, hWf⟩ := bcell hW); go_simp; try with_reducible rfl)); try simp only [Act.put, List.setIfInBounds_toArray, List.set_cons_zero, List.set_cons_succ])
      refine wpOrd_x (by rfl) (fun K hK => ?_)
      go_simp
      refine (label_leq _ _ _ _ _).mono ?_
      rintro e w8 ⟨rfl, hb8⟩
      refine hK _ _ _ (fun _ h => h) ((Below.refl _ _).drew.trans hb8) ?_
      clear hK K
      try simp only [Act.put, List.setIfInBounds_toArray, List.set_cons_zero, List.set_cons_succ]
      iterate 2 (refine wpOrd_q (v := ?_) (by rfl) (fun W hW => ?_) ?_; rotate_left; (focus (go_simp; try with_reducible rfl)); try simp only [Act.put, List.setIfInBounds_toArray, List.set_cons_zero, List.set_cons_succ])
      have HB8 := hide hb8
      clear hb8
      refine wpOrd_nil ?_
      go_wp2
      go_returns
      exact ⟨rfl, (Below.refl _ _).drew.trans HB8.out⟩
end

end Go.Proofs.YthmkgohfeahdhaaGreat
namespace Go.Proofs.YthmkgohfeahdhaaGreat
open Go.RowKit Go.WideMaps
set_option linter.unusedSimpArgs false
set_option linter.unusedVariables false

theorem sound_eq (r : RegV) : soundC r.blocks r.nodes r.frames r.procs r.opens = soundB r := by
  have : (r.nodes.tmod 2 == 0) = decide (r.nodes % 2 = 0) := by
    rw [Bool.eq_iff_iff, beq_iff_eq, decide_eq_true_eq, ← Int.dvd_iff_tmod_eq_zero, Int.dvd_iff_emod_eq_zero]
  unfold soundC soundB
  rw [this]
section
variable {B : Nat} {w w' : World} {c : Nat} {R : List RegV} {K : List MarkV} {tb nb lb : Nat} {A1 A2 A3 : Option Addr} {c1 c2 c3 : Nat}
theorem add_ok (hB : B ≤ w.heap.size) (h : ConfIn B w c R K tb nb lb A1 A2 A3 c1 c2 c3) (r : RegV) (many : Int) (i : Nat) (h1 : -9000000000000000000 ≤ many) (h2 : many ≤ 9000000000000000000) (hi : i = R.length) (h64 : i < 64) :
    Calls Tryz.prog 90 #[.pointer (some ⟨c, 0, none⟩), .int .i64 (i : Int), .agg #[.string ⟨r.name.toArray⟩, .int .u8 (r.lev.toNat : Int), .int .u16 (r.cats.toNat : Int), .int .i64 r.blocks, .int .i64 r.nodes, .int .i64 r.frames, .int .i64 r.procs, .int .i64 r.opens, .int .i64 r.clear], .int .i64 many] w fun e w' => e = .returned (.int .i64 (addE R r many)) ∧ Below B w w' ∧
      (addE R r many = 0 → ∃ A1' A3' c1' c3', ConfIn B w' c (R ++ [r]) K tb nb lb A1' A2 A3' c1' c2 c3') := by
  unfold addE
  have hrt : rightB r many = (decide (r.lev ≤ 15) && (soundC r.blocks r.nodes r.frames r.procs r.opens && inB r.clear 0 (many - 1))) := by rw [sound_eq]; rfl
  by_cases hn : nameB r.name = false
  · rw [if_pos hn]
    refine (add_name ⟨r.name.toArray⟩ r.lev r.cats r.blocks r.nodes r.frames r.procs r.opens r.clear many i w hn).mono ?_
    rintro e w' ⟨rfl, hb⟩
    exact ⟨rfl, hb.mono hB, fun h => by simp at h⟩
  · rw [if_neg hn]
    simp only [Bool.not_eq_false] at hn
    by_cases hr : rightB r many = false
    · rw [if_pos hr]
      refine (add_range ⟨r.name.toArray⟩ r.lev r.cats r.blocks r.nodes r.frames r.procs r.opens r.clear many i w hn h1 h2 (by rw [← hrt]; exact hr)).mono ?_
      rintro e w' ⟨rfl, hb⟩
      exact ⟨rfl, hb.mono hB, fun h => by simp at h⟩
    · rw [if_neg hr]
      simp only [Bool.not_eq_false] at hr
      rw [hrt] at hr
      by_cases ht : r.name ∈ R.map (·.name)
      · rw [if_pos ht]
        refine (add_twice h ⟨r.name.toArray⟩ r.lev r.cats r.blocks r.nodes r.frames r.procs r.opens r.clear many i hn h1 h2 hr ht).mono ?_
        rintro e w' ⟨rfl, hb⟩
        exact ⟨rfl, hb.mono hB, fun h => by simp at h⟩
      · rw [if_neg ht]
        by_cases ht2 : (r.lev, r.cats) ∈ R.map (fun x => (x.lev, x.cats))
        · rw [if_pos ht2]
          refine (add_twice2 h ⟨r.name.toArray⟩ r.lev r.cats r.blocks r.nodes r.frames r.procs r.opens r.clear many i hn h1 h2 hr ht ht2).mono ?_
          rintro e w' ⟨rfl, hb⟩
          exact ⟨rfl, hb.mono hB, fun h => by simp at h⟩
        · rw [if_neg ht2]
          refine (add_fine hB h ⟨r.name.toArray⟩ r.lev r.cats r.blocks r.nodes r.frames r.procs r.opens r.clear many i hn h1 h2 hr ht ht2 hi h64).mono ?_
          rintro e w' ⟨rfl, hb, A1', A3', c1', c3', h'⟩
          exact ⟨rfl, hb, fun _ => ⟨A1', A3', c1', c3', h'⟩⟩
end
theorem build_conf (W : World) (a b c : Nat) : (Instr.build 179 #[(1, .map (some a)), (3, .map (some b)), (4, .map (some c)), (6, .int .i64 32)]).run Tryz.prog W = .ok (.agg #[.slice none 0 0, .map (some a), .slice none 0 0, .map (some b), .map (some c), .slice none 0 0, .int .i64 32]) W := by kernel_rfl
theorem build_lab0 (W : World) : (Instr.build 39 #[]).run Tryz.prog W = .ok (.agg #[.int .u8 0, .int .u16 0]) W := by kernel_rfl
theorem conf_empty (w : World) {W1 W2 W3 W4 : World} (e1 : W1 = w.alloc (.map #[] 0)) (e2 : W2 = W1.alloc (.map #[] 0)) (e3 : W3 = W2.alloc (.map #[] 0))
    (e4 : W4 = W3.alloc (.cells #[.slice none 0 0, .map (some w.heap.size), .slice none 0 0, .map (some (w.heap.size + 1)), .map (some (w.heap.size + 1 + 1)), .slice none 0 0, .int .i64 32] 179)) :
    Below w.heap.size w W4 ∧ ConfIn w.heap.size W4 (w.heap.size + 1 + 1 + 1) [] [] w.heap.size (w.heap.size + 1) (w.heap.size + 1 + 1) none none none 0 0 0 := by
  have s1 : W1.heap.size = w.heap.size + 1 := by rw [e1]; simp
  have s2 : W2.heap.size = w.heap.size + 1 + 1 := by rw [e2, ← s1]; simp
  have s3 : W3.heap.size = w.heap.size + 1 + 1 + 1 := by rw [e3, ← s2]; simp
  have m1 : MapR dkv W1 w.heap.size [] := by rw [e1]; exact MapR.made w dkv
  have m2 : MapR skv W2 (w.heap.size + 1) [] := by rw [e2, ← s1]; exact MapR.made W1 skv
  have m3 : MapR dkv W3 (w.heap.size + 1 + 1) [] := by rw [e3, ← s2]; exact MapR.made W2 dkv
  have b2 : Below W1.heap.size W1 W2 := by rw [e2]; exact (Below.refl _ _).alloc (Nat.le_refl _) _
  have b3 : Below W2.heap.size W2 W3 := by rw [e3]; exact (Below.refl _ _).alloc (Nat.le_refl _) _
  have b4 : Below W3.heap.size W3 W4 := by rw [e4]; exact (Below.refl _ _).alloc (Nat.le_refl _) _
  have b1 : Below w.heap.size w W1 := by rw [e1]; exact (Below.refl _ _).alloc (Nat.le_refl _) _
  refine ⟨((b1.trans (b2.mono (by omega))).trans (b3.mono (by omega))).trans (b4.mono (by omega)), ⟨⟨?_, World.ownsRow_nil _ _ _ _, World.ownsRow_nil _ _ _ _, World.ownsRow_nil _ _ _ _, ?_, ?_, ?_, by omega, by omega, by omega, by omega, by omega, by omega, by omega⟩, fun r hr => by cases hr⟩⟩
  · rw [e4, ← s3]; exact Blk.new W3 _ _
  · exact ((m1.below b2 (by omega)).below b3 (by omega)).below b4 (by omega)
  · exact (m2.below b3 (by omega)).below b4 (by omega)
  · exact m3.below b4 (by omega)

theorem info_mark : (Tryz.prog.info? 199).map (fun i => (i.zero, i.size, i.bytes)) = some (some (.agg #[.int .u8 0, .int .u16 0]), 2, 4) := by kernel_rfl
theorem trust_get {L : List MarkV} (hn : ((trustL L).map (·.1)).Nodup) (m : MarkV) : (mget (trustL L) m).getD (.bool false) = .bool (decide (m ∈ L)) := by
  by_cases h : m ∈ L
  · obtain ⟨j, hj⟩ := List.getElem?_of_mem h
    have : (trustL L)[j]? = some (m, .bool true) := by simp [trustL, hj]
    rw [mget_at hn this]
    simp [h]
  · have : mget (trustL L) m = none := mget_none_iff.2 (by simpa [trustL] using h)
    rw [this]
    simp [h]
theorem trust_put {L : List MarkV} {m : MarkV} (h : m ∉ L) : mput (trustL L) m (.bool true) = trustL (L ++ [m]) := by
  rw [mput_none_of fun x hx e => h (by
    obtain ⟨y, hy, rfl⟩ := List.mem_map.1 hx
    simp only at e
    exact e ▸ hy)]
  simp [trustL]
theorem look_trust {w : World} {tb : Nat} {L : List MarkV} (h : MapR dkv w tb (trustL L)) (l : UInt8) (c : UInt16) {b : Bool} (hb : decide ((l, c) ∈ L) = b) (W : World) (hW : Below w.heap.size w W) :
    (Instr.lookup 174 (.map (some tb)) (.agg #[.int .u8 (l.toNat : Int), .int .u16 (c.toNat : Int)]) false).run Tryz.prog W = .ok (.bool b) W := by
  have := (h.is.keep (hW.block tb h.lt)).lookup markEnc Tryz.underlying174 (z := .bool false) (by kernel_rfl) (l, c) false
  rw [trust_get h.nodup, hb] at this
  exact this
theorem ConfG.mark_row {B : Nat} {X X' W3 : World} {c : Nat} {R : List RegV} {G : List GeoV} {tot : Int} {K : List MarkV} {m : MarkV} {T L : List ((UInt8 × UInt16) × Value)} {N : List (SKey × Value)} {tb nb lb : Nat} {A1 A2 A3 A2' : Option Addr} {c1 c2 c3 c2' n : Nat} (hn : K.length = n)
    (h : ConfG B X c R G tot K T N L tb nb lb A1 A2 A3 c1 c2 c3) (hg : X.grownBy X' (Value.slice A2 n c2).ownBlock) (ho : X'.ownsRow B 199 2 (.slice A2' (n + 1) c2') (n + 1) (mcellsOf K ++ markCells m))
    (hblk : Blk W3 c 179 #[.slice A1 R.length c1, .map (some tb), .slice A2' (n + 1) c2', .map (some nb), .map (some lb), .slice A3 G.length c3, .int .i64 tot])
    (far : ∀ g, g ≠ c → W3.heap[g]? = X'.heap[g]?) : ConfG B W3 c R G tot (K ++ [m]) T N L tb nb lb A1 A2' A3 c1 c2' c3 := by
  subst hn
  have hB := h.blk.grown hg fun e => blk_not_own h.blk h.marks (by decide) e.symm
  have o1 := h.regs.kept hg (own_apart h.regs h.marks (by decide))
  have o3 := h.geos.kept hg (own_apart h.geos h.marks (by decide))
  have t1 := h.tr.keep (hg.block _ h.tr.lt fun e => h.tr.is.not_own h.marks e.symm)
  have t2 := h.nm.keep (hg.block _ h.nm.lt fun e => h.nm.is.not_own h.marks e.symm)
  have t3 := h.lm.keep (hg.block _ h.lm.lt fun e => h.lm.is.not_own h.marks e.symm)
  refine ⟨?_, own_keep o1 fun g hg' => far g fun e => blk_not_own hB o1 (by decide) (e ▸ hg'), ?_, own_keep o3 fun g hg' => far g fun e => blk_not_own hB o3 (by decide) (e ▸ hg'), t1.keep (far tb fun e => blk_not_map hB t1.is e.symm), t2.keep (far nb fun e => blk_not_map hB t2.is e.symm), t3.keep (far lb fun e => blk_not_map hB t3.is e.symm), h.hc, h.htb, h.hnb, h.hlb, h.n1, h.n2, h.n3⟩
  · rw [List.length_append]
    exact hblk
  · rw [mcellsOf_snoc, List.length_append]
    exact own_keep ho fun g hg' => far g fun e => blk_not_own hB ho (by decide) (e ▸ hg')

section
attribute [-go_sem] Instr.build
attribute [local go_sem] build_conf build_lab0
variable {R : List RegV} {K : List MarkV} {A A' : Option Addr} {cA cA' : Nat} {w : World}
theorem rd_reg {w : World} {B : Nat} {A : Option Addr} {R : List RegV} (h : Rd w B 9 A R.length (rcellsOf R)) {k : Nat} {r : RegV} (hk : R[k]? = some r) :
    ∃ b o, A = some ⟨b, o, none⟩ ∧ b < B ∧ ∀ j v, r.cells[j]? = some v → w.cell? ⟨b, o + (k * 9 + j), none⟩ = some v := by
  have hl : k < R.length := (List.getElem?_eq_some_iff.1 hk).1
  obtain ⟨b, o, hA, hb, hc⟩ := h.2 (by omega)
  exact ⟨b, o, hA, hb, fun j v hv => hc _ _ (flat_get RegV.cells 9 (fun _ => rfl) R k r hk j v hv)⟩
theorem rd_mark {w : World} {B : Nat} {A : Option Addr} {K : List MarkV} (h : Rd w B 2 A K.length (mcellsOf K)) {k : Nat} {r : MarkV} (hk : K[k]? = some r) :
    ∃ b o, A = some ⟨b, o, none⟩ ∧ b < B ∧ ∀ j v, (markCells r)[j]? = some v → w.cell? ⟨b, o + (k * 2 + j), none⟩ = some v := by
  have hl : k < K.length := (List.getElem?_eq_some_iff.1 hk).1
  obtain ⟨b, o, hA, hb, hc⟩ := h.2 (by omega)
  exact ⟨b, o, hA, hb, fun j v hv => hc _ _ (flat_get markCells 2 (fun _ => rfl) K k r hk j v hv)⟩
def NewSays (w w' : World) (R : List RegV) (K : List MarkV) (e : Ending) : Prop :=
  Below w.heap.size w w' ∧ (newE R K = 0 → ∃ c tb nb lb A1 A2 A3 c1 c2 c3, e = .returned (.tuple #[.pointer (some ⟨c, 0, none⟩), .int .i64 0]) ∧ ConfIn w.heap.size w' c R K tb nb lb A1 A2 A3 c1 c2 c3) ∧
    (newE R K ≠ 0 → e = .returned (.tuple #[.pointer none, .int .i64 (newE R K)]))
theorem NewSays.err {w w' : World} {R : List RegV} {K : List MarkV} {e : Ending} (hb : Below w.heap.size w w') {k : Int} (hk : newE R K = k) (h0 : k ≠ 0) (he : e = .returned (.tuple #[.pointer none, .int .i64 k])) : NewSays w w' R K e :=
  ⟨hb, fun h => absurd (hk.symm.trans h) h0, fun _ => by rw [hk]; exact he⟩
set_option maxRecDepth 100000 in
set_option maxHeartbeats 4000000 in
theorem new_ok (hr : Rd w w.heap.size 9 A R.length (rcellsOf R)) (hm : Rd w w.heap.size 2 A' K.length (mcellsOf K)) (hn : R.length ≤ 60000) (hk : K.length ≤ 60000) :
    Calls Tryz.prog 31 #[.slice A R.length cA, .slice A' K.length cA'] w fun e w' => NewSays w w' R K e := by
  have hmm := @run_makeMap Tryz.prog
  by_cases h0 : R.length = 0
  · have t1 : ((R.length : Int) == 0) = true := by simp [h0]
    have e : newE R K = 23 := by rw [List.length_eq_zero_iff.1 h0]; rfl
    have E := hide e
    clear h0 e
    go_enter Tryz.func31, Tryz.ntmps31
    go_wp2
    go_returns
    exact NewSays.err (Below.refl _ _) E.out (by decide) rfl
  · have t1 : ((R.length : Int) == 0) = false := by simp [h0]
    have hne : R ≠ [] := fun e => h0 (by rw [e]; rfl)
    obtain ⟨r0, rest, hR⟩ := List.exists_cons_of_ne_nil hne
    clear hne
    by_cases h64 : 64 < R.length
    · have t2 : decide ((64 : Int) < R.length) = true := by simp; omega
      have e : newE R K = 23 := by rw [hR] at h64 ⊢; simp only [newE]; rw [if_pos h64]
      have E := hide e
      clear h0 e h64 hR
      go_enter Tryz.func31, Tryz.ntmps31
      go_wp2
      go_returns
      exact NewSays.err (Below.refl _ _) E.out (by decide) rfl
    · have t2 : decide ((64 : Int) < R.length) = false := by simp; omega
      have e : newE R K = if addsE [] R R.length ≠ 0 then addsE [] R R.length else if r0.lev ≠ 0 ∨ r0.cats ≠ 0 then 25 else if clearsE R 0 R ≠ 0 then clearsE R 0 R else marksE R [] K := by
        rw [hR] at h64 ⊢
        simp only [newE]
        rw [if_neg h64]
      have E := hide e
      have HR := hide hR
      have HR0 := hide hr
      have HM0 := hide hm
      clear e hR hr hm
      go_enter Tryz.func31, Tryz.ntmps31
      go_upto_region 4 with (fail)
      refine at_world (fun W => ∃ c tb nb lb, c = w.heap.size + 1 + 1 + 1 ∧ Below w.heap.size w W ∧ ConfIn w.heap.size W c [] [] tb nb lb none none none 0 0 0) ⟨_, _, _, _, rfl, conf_empty w rfl rfl rfl rfl⟩ (fun w1 h1 => ?_)
      obtain ⟨c, tb, nb, lb, hc, hb1, h1⟩ := h1
      rw [← hc]
      clear hc hmm t1 t2
      have HB1 := hide hb1
      have H1 := hide h1
      clear hb1 h1
      go_wp2_with fail
      go_loopg [7, 8, 9, 29] R.length (fun g x7 x8 x9 x29 wr => ∃ k : Nat, k ≤ R.length ∧ g = R.length - k ∧ x29 = .int .i64 k ∧ Aside (∃ A1 A3 c1 c3, Below w.heap.size w wr ∧ ConfIn w.heap.size wr c (R.take k) [] tb nb lb A1 none A3 c1 0 c3 ∧ addsE [] R R.length = addsE (R.take k) (R.drop k) R.length))
      case atStart => exact ⟨0, Nat.zero_le _, rfl, rfl, none, none, 0, 0, HB1.out, H1.out, rfl⟩
      case round =>
        clear HB1 H1
        obtain ⟨k, hkl, hg, rfl, hA⟩ := hrel
        by_cases hkn : k < R.length
        · have hkz : (k : Int) < R.length := by omega
          obtain ⟨A1, A3, c1, c3, hbr, hc, hadd⟩ := hA.out
          obtain ⟨r, hrk⟩ : ∃ r, R[k]? = some r := ⟨_, List.getElem?_eq_getElem hkn⟩
          obtain ⟨b, o, rfl, hb, hcl⟩ := rd_reg HR0.out hrk
          have y0 := (hbr.cell (p := ⟨b, _, none⟩) hb).trans (hcl 0 _ rfl)
          have y1 := (hbr.cell (p := ⟨b, _, none⟩) hb).trans (hcl 1 _ rfl)
          have y2 := (hbr.cell (p := ⟨b, _, none⟩) hb).trans (hcl 2 _ rfl)
          have y3 := (hbr.cell (p := ⟨b, _, none⟩) hb).trans (hcl 3 _ rfl)
          have y4 := (hbr.cell (p := ⟨b, _, none⟩) hb).trans (hcl 4 _ rfl)
          have y5 := (hbr.cell (p := ⟨b, _, none⟩) hb).trans (hcl 5 _ rfl)
          have y6 := (hbr.cell (p := ⟨b, _, none⟩) hb).trans (hcl 6 _ rfl)
          have y7 := (hbr.cell (p := ⟨b, _, none⟩) hb).trans (hcl 7 _ rfl)
          have y8 := (hbr.cell (p := ⟨b, _, none⟩) hb).trans (hcl 8 _ rfl)
          have hbw : b < wr.heap.size := Nat.lt_of_lt_of_le hb hbr.size
          simp only [← Nat.add_assoc, Nat.add_zero] at y0 y1 y2 y3 y4 y5 y6 y7 y8
          have HBR := hide hbr
          have HC := hide hc
          have HD := hide (And.intro hadd hrk)
          clear hbr hc hadd hrk hcl hA hb
          go_wp2_with fail
          have hbn : Below wr.heap.size wr (wr.alloc (.cells #[.string ⟨r.name.toArray⟩, .int .u8 (r.lev.toNat : Int), .int .u16 (r.cats.toNat : Int), .int .i64 r.blocks, .int .i64 r.nodes, .int .i64 r.frames, .int .i64 r.procs, .int .i64 r.opens, .int .i64 r.clear] 41)) := (Below.refl _ _).alloc (Nat.le_refl _) _
          have H64 := hide h64
          refine (add_ok (B := w.heap.size) (Nat.le_trans HBR.out.size hbn.size) (HC.out.below hbn) r _ k (by omega) (by omega) (by simp; omega) (by omega)).mono ?_
          rintro e w6 ⟨rfl, hb6, hc6⟩
          have hb9 := HBR.out.trans ((hbn.mono HBR.out.size).trans hb6)
          obtain ⟨ev, hev⟩ : ∃ ev, ev = addE (R.take k) r R.length := ⟨_, rfl⟩
          rw [← hev] at hc6 ⊢
          clear y0 y1 y2 y3 y4 y5 y6 y7 y8 hbw hbn hb6
          by_cases hz : ev = 0
          · obtain ⟨A1', A3', c1', c3', hc7⟩ := hc6 hz
            have H7 := hide hc7
            have HB9 := hide hb9
            have HEV := hide (hev.symm.trans hz)
            subst hz
            clear hc6 hc7 hb9 hev
            go_wp2
            go_roundg (R.length - (k + 1))
            case measure => omega
            case rel =>
              refine ⟨k + 1, by omega, rfl, by go_num, A1', A3', c1', c3', HB9.out, ?_, ?_⟩
              · rw [List.take_add_one, HD.out.2]
                exact H7.out
              · rw [HD.out.1, List.drop_eq_getElem_cons hkn, addsE]
                have e : R[k] = r := by have := HD.out.2; rw [List.getElem?_eq_getElem hkn] at this; injection this
                rw [e, if_pos HEV.out, List.take_add_one, HD.out.2]
                rfl
          · have hz1 : (ev == 0) = false := by simp [hz]
            have HB9 := hide hb9
            have HEV := hide (⟨hev.symm, hz⟩ : addE (R.take k) r R.length = ev ∧ ev ≠ 0)
            clear hc6 hb9 hev hz
            go_wp2
            go_returns
            refine NewSays.err HB9.out (k := ev) ?_ HEV.out.2 rfl
            have e : R[k] = r := by have := HD.out.2; rw [List.getElem?_eq_getElem hkn] at this; injection this
            have e2 : addsE [] R R.length = ev := by rw [HD.out.1, List.drop_eq_getElem_cons hkn, addsE, e, if_neg (by rw [HEV.out.1]; exact HEV.out.2), HEV.out.1]
            rw [E.out, e2, if_pos HEV.out.2]
        · obtain rfl : k = R.length := by omega
          obtain ⟨A1, A3, c1, c3, hbr, hc, hadd⟩ := hA.out
          rw [List.take_length] at hc hadd
          rw [List.drop_length, addsE] at hadd
          have HBR := hide hbr
          have HC := hide hc
          have HD := hide hadd
          clear hbr hc hadd hA
          have hkz : ¬ ((R.length : Int) < R.length) := by omega
          have hr0 : R[0]? = some r0 := by rw [HR.out]; rfl
          obtain ⟨b, o, rfl, hb, hcl⟩ := rd_reg HR0.out hr0
          have y1 := (HBR.out.cell (p := ⟨b, _, none⟩) hb).trans (hcl 1 _ rfl)
          have y2 := (HBR.out.cell (p := ⟨b, _, none⟩) hb).trans (hcl 2 _ rfl)
          have hbw : b < wr.heap.size := Nat.lt_of_lt_of_le hb HBR.out.size
          have hlz : (0 : Int) < R.length := by omega
          simp only [Nat.zero_mul, Nat.zero_add] at y1 y2
          clear hb hcl hr0
          have HSR := hide hbw
          by_cases hl : r0.lev = 0
          · rw [hl] at y1
            by_cases hc0 : r0.cats = 0
            · rw [hc0] at y2
              have HL := hide (And.intro hl hc0)
              clear hl hc0
              simp only [UInt8.toNat_zero, UInt16.toNat_zero, Int.cast_ofNat_Int] at y1 y2
              go_upto_region 13 with (fail)
              clear y1 y2 hlz
              have HC' := hide HC.out
              have HBR' := hide HBR.out
              clear HC HBR
              go_wp2_with fail
              have HAD := hide HD.out
              clear HD hg hkl hkz hkn
              go_loopg [10, 11, 52] R.length (fun g x10 x11 x52 wr => ∃ k : Nat, k ≤ R.length ∧ g = R.length - k ∧ x52 = .int .i64 k ∧ Aside (Below w.heap.size w wr ∧ ConfIn w.heap.size wr c R [] tb nb lb A1 none A3 c1 0 c3 ∧ clearsE R 0 R = clearsE R k (R.drop k)))
              case atStart => exact ⟨0, Nat.zero_le _, rfl, rfl, HBR'.out, HC'.out, rfl⟩
              case round =>
                clear HBR' HC' HSR hbw
                obtain ⟨k, hkl, hg, rfl, hA⟩ := hrel
                by_cases hkn : k < R.length
                · have hkz : (k : Int) < R.length := by omega
                  obtain ⟨hbr, hc, hadd⟩ := hA.out
                  obtain ⟨r, hrk⟩ : ∃ r, R[k]? = some r := ⟨_, List.getElem?_eq_getElem hkn⟩
                  obtain ⟨b', o', hbo, hb, hcl⟩ := rd_reg HR0.out hrk
                  cases hbo
                  have y0 := (hbr.cell (p := ⟨b, _, none⟩) hb).trans (hcl 0 _ rfl)
                  have y1 := (hbr.cell (p := ⟨b, _, none⟩) hb).trans (hcl 1 _ rfl)
                  have y2 := (hbr.cell (p := ⟨b, _, none⟩) hb).trans (hcl 2 _ rfl)
                  have y3 := (hbr.cell (p := ⟨b, _, none⟩) hb).trans (hcl 3 _ rfl)
                  have y4 := (hbr.cell (p := ⟨b, _, none⟩) hb).trans (hcl 4 _ rfl)
                  have y5 := (hbr.cell (p := ⟨b, _, none⟩) hb).trans (hcl 5 _ rfl)
                  have y6 := (hbr.cell (p := ⟨b, _, none⟩) hb).trans (hcl 6 _ rfl)
                  have y7 := (hbr.cell (p := ⟨b, _, none⟩) hb).trans (hcl 7 _ rfl)
                  have y8 := (hbr.cell (p := ⟨b, _, none⟩) hb).trans (hcl 8 _ rfl)
                  have hbw : b < wr.heap.size := Nat.lt_of_lt_of_le hb hbr.size
                  simp only [← Nat.add_assoc, Nat.add_zero] at y0 y1 y2 y3 y4 y5 y6 y7 y8
                  have HBR := hide hbr
                  have HC := hide hc
                  have HD := hide (And.intro hadd hrk)
                  clear hbr hc hadd hrk hcl hA hb
                  go_wp2_with fail
                  have hbn : Below wr.heap.size wr (wr.alloc (.cells #[.string ⟨r.name.toArray⟩, .int .u8 (r.lev.toNat : Int), .int .u16 (r.cats.toNat : Int), .int .i64 r.blocks, .int .i64 r.nodes, .int .i64 r.frames, .int .i64 r.procs, .int .i64 r.opens, .int .i64 r.clear] 41)) := (Below.refl _ _).alloc (Nat.le_refl _) _
                  refine (leq_ok (HC.out.below hbn) _ _).mono ?_
                  rintro e w6 ⟨rfl, hb6⟩
                  have hb9 : Below wr.heap.size wr w6 := hbn.trans (hb6.mono hbn.size)
                  have HB9 := hide (HBR.out.trans (hb9.mono HBR.out.size))
                  have HC9 := hide (HC.out.below hb9)
                  clear y0 y1 y2 y3 y4 y5 y6 y7 y8 hbw hbn hb6 hb9
                  have e : R[k] = r := by have := HD.out.2; rw [List.getElem?_eq_getElem hkn] at this; injection this
                  have e2 : clearsE R 0 R = if leqAt R k r.clear then clearsE R (k + 1) (R.drop (k + 1)) else 2 := by rw [HD.out.1, List.drop_eq_getElem_cons hkn, clearsE, e]
                  have E2 := hide e2
                  clear e e2
                  cases hz : leqAt R (k : Int) r.clear with
                  | true =>
                    have HZ := hide hz
                    clear hz
                    go_wp2
                    go_roundg (R.length - (k + 1))
                    case measure => omega
                    case rel =>
                      refine ⟨k + 1, by omega, rfl, by go_num, HB9.out, HC9.out, ?_⟩
                      rw [E2.out, if_pos HZ.out]
                  | false =>
                    have HZ := hide hz
                    clear hz
                    go_wp2
                    go_returns
                    refine NewSays.err HB9.out (k := 2) ?_ (by decide) rfl
                    rw [E.out, HAD.out, if_neg (fun h => h rfl), if_neg (by rw [HL.out.1, HL.out.2]; simp), show clearsE R 0 R = 2 by rw [E2.out, if_neg (by rw [HZ.out]; simp)], if_pos (by decide)]
                · obtain rfl : k = R.length := by omega
                  obtain ⟨hbr, hc, hadd⟩ := hA.out
                  rw [List.drop_length, clearsE] at hadd
                  have HBR := hide hbr
                  have HC := hide hc
                  have HD := hide hadd
                  clear hbr hc hadd hA
                  have hkz : ¬ ((R.length : Int) < R.length) := by omega
                  go_wp2_with fail
                  have HE3 := hide (show newE R K = marksE R [] K by rw [E.out, HAD.out, if_neg (fun h => h rfl), if_neg (by rw [HL.out.1, HL.out.2]; simp), HD.out, if_neg (fun h => h rfl)])
                  clear E HAD HL HD hkz hkn hg hkl
                  go_loopg [13, 66, 70, 94] K.length (fun g x13 x66 x70 x94 wr => ∃ k : Nat, k ≤ K.length ∧ g = K.length - k ∧ x66 = .int .i64 k ∧ Aside (∃ A2 c2, Below w.heap.size w wr ∧ ConfIn w.heap.size wr c R (K.take k) tb nb lb A1 A2 A3 c1 c2 c3 ∧ marksE R [] K = marksE R (K.take k) (K.drop k)))
                  case atStart => exact ⟨0, Nat.zero_le _, rfl, rfl, none, 0, HBR.out, HC.out, rfl⟩
                  case round =>
                    clear HBR HC
                    obtain ⟨k, hkl, hg, rfl, hA⟩ := hrel
                    by_cases hkn : k < K.length
                    · have hkz : (k : Int) < K.length := by omega
                      obtain ⟨A2, c2, hbr, hc, hadd⟩ := hA.out
                      obtain ⟨⟨la, nu⟩, hrk⟩ : ∃ r, K[k]? = some r := ⟨_, List.getElem?_eq_getElem hkn⟩
                      obtain ⟨b', o', rfl, hb, hcl⟩ := rd_mark HM0.out hrk
                      have y0 := (hbr.cell (p := ⟨b', _, none⟩) hb).trans (hcl 0 _ rfl)
                      have y1 := (hbr.cell (p := ⟨b', _, none⟩) hb).trans (hcl 1 _ rfl)
                      have hbw : b' < wr.heap.size := Nat.lt_of_lt_of_le hb hbr.size
                      simp only [← Nat.add_assoc, Nat.add_zero] at y0 y1
                      have HBR := hide hbr
                      have HC := hide hc
                      have HD := hide (And.intro hadd hrk)
                      clear hbr hc hadd hrk hcl hA hb
                      have e2 : marksE R [] K = if markB R (la, nu) = false then 27 else if (la, nu) ∈ K.take k then 29 else marksE R (K.take k ++ [(la, nu)]) (K.drop (k + 1)) := by
                        have e : K[k] = (la, nu) := by have := HD.out.2; rw [List.getElem?_eq_getElem hkn] at this; injection this
                        rw [HD.out.1, List.drop_eq_getElem_cons hkn, marksE, e]
                      have E2 := hide e2
                      clear e2
                      go_upto_region 22 with (fail)
                      refine at_world (fun W => ∃ bx, bx = wr.heap.size ∧ Below w.heap.size w W ∧ ConfIn w.heap.size W c R (K.take k) tb nb lb A1 A2 A3 c1 c2 c3 ∧ Blk W bx 199 #[.int .u8 (la.toNat : Int), .int .u16 (nu.toNat : Int)]) ⟨_, rfl, HBR.out.alloc HBR.out.size _, HC.out.below ((Below.refl _ _).alloc (Nat.le_refl _) _), Blk.new _ _ _⟩ (fun w5 h5 => ?_)
                      obtain ⟨bx, hbx, hb5, hc5, bB⟩ := h5
                      rw [← hbx]
                      have HMN := hide (show ∀ g, (Value.slice A2 (K.take k).length c2).ownBlock = some g → g < bx from fun g hg => by rw [hbx]; exact (HC.out.marks.lt g hg).2)
                      clear y0 y1 hbw HBR HC hbx
                      have HB5 := hide hb5
                      have HC5 := hide hc5
                      have z0 := bB.cell 0
                      have z1 := bB.cell 1
                      have zl := bB.lt
                      have BB := hide bB
                      clear hb5 hc5 bB
                      have hla := la.toNat_lt
                      have hnu := nu.toNat_lt
                      have wl1 : IntKind.i64.wrap (la.toNat : Int) = la.toNat := IntWalk.i64_in _ (by omega)
                      have wl2 : IntKind.i64.wrap (nu.toNat : Int) = nu.toNat := IntWalk.i64_in _ (by omega)
                      by_cases hm1 : R.length ≤ la.toNat
                      · have q1 : decide (R.length ≤ la.toNat) = true := by simp; omega
                        have HE4 := hide (show marksE R [] K = 27 by rw [E2.out, if_pos (by unfold markB; rw [List.getElem?_eq_none hm1])])
                        clear E2 hm1
                        refine wp_region_text [0, 0, 0, 0, 0, 0, 0, 0, 0, 0, 0, 0, 0, 0, 0, 0, 0, 0, 0, 0, 0, 0, 0, 0] (Below w5.heap.size w5) (by kernel_rfl) (by kernel_rfl) (Below.refl _ _).drew ?_
                        iterate 7 (refine wpOrd_q (v := ?_) (by rfl) (fun W hW => ?_) ?_; rotate_left; (focus ((obtain ⟨hWc, hWf⟩ := bcell hW); go_simp; try with_reducible rfl)); try simp only [Act.put, List.setIfInBounds_toArray, List.set_cons_zero, List.set_cons_succ])
                        iterate 3 (refine wpOrd_n (by rfl) ?_; try simp only [Act.put, List.setIfInBounds_toArray, List.set_cons_zero, List.set_cons_succ])
                        iterate 2 (refine wpOrd_q (v := ?_) (by rfl) (fun W hW => ?_) ?_; rotate_left; (focus ((obtain ⟨hWc, hWf⟩ := bcell hW); go_simp; try with_reducible rfl)); try simp only [Act.put, List.setIfInBounds_toArray, List.set_cons_zero, List.set_cons_succ])
                        iterate 10 (refine wpOrd_n (by rfl) ?_; try simp only [Act.put, List.setIfInBounds_toArray, List.set_cons_zero, List.set_cons_succ])
                        iterate 2 (refine wpOrd_q (v := ?_) (by rfl) (fun W hW => ?_) ?_; rotate_left; (focus ((obtain ⟨hWc, hWf⟩ := bcell hW); go_simp; try with_reducible rfl)); try simp only [Act.put, List.setIfInBounds_toArray, List.set_cons_zero, List.set_cons_succ])
                        refine wpOrd_nil ?_
                        have HB6 := hide HB5.out.drew
                        go_wp2
                        go_returns
                        exact NewSays.err HB6.out (HE3.out.trans HE4.out) (by decide) rfl
                      · have q1 : decide (R.length ≤ la.toNat) = false := by simp; omega
                        obtain ⟨r, hrl⟩ : ∃ r, R[la.toNat]? = some r := ⟨_, List.getElem?_eq_getElem (by omega)⟩
                        obtain ⟨b2, o2, hbo, hbr, hcr⟩ := rd_reg HR0.out hrl
                        cases hbo
                        have y4 := (HB5.out.cell (p := ⟨b, _, none⟩) hbr).trans (hcr 4 _ rfl)
                        have hbz : b < w5.heap.size := Nat.lt_of_lt_of_le hbr HB5.out.size
                        simp only [← Nat.add_assoc] at y4
                        have hlz : (la.toNat : Int) < R.length := by omega
                        have hc64 : (nu.toNat : Int) < 65536 := by omega
                        have HRL := hide hrl
                        clear hrl hcr hbr hm1
                        by_cases hm2 : nu.toNat < 1
                        · have q2 : decide ((nu.toNat : Int) < 1) = true ∧ decide (nu.toNat < 1) = true ∧ decide (nu.toNat = 0) = true := ⟨by simp; omega, by simp; omega, by simp; omega⟩
                          obtain ⟨q2, q2a, q2b⟩ := q2
                          have HE4 := hide (show marksE R [] K = 27 by rw [E2.out, if_pos (by unfold markB; rw [HRL.out]; simp; omega)])
                          clear E2 hm2
                          refine wp_region_text [0, 0, 0, 0, 0, 0, 0, 0, 0, 0, 0, 0, 0, 0, 0, 0, 0, 0, 0, 0, 0, 0, 0, 0] (Below w5.heap.size w5) (by kernel_rfl) (by kernel_rfl) (Below.refl _ _).drew ?_
                          iterate 12 (refine wpOrd_q (v := ?_) (by rfl) (fun W hW => ?_) ?_; rotate_left; (focus ((obtain ⟨hWc, hWf⟩ := bcell hW); go_simp; try with_reducible rfl)); try simp only [Act.put, List.setIfInBounds_toArray, List.set_cons_zero, List.set_cons_succ])
                          iterate 10 (refine wpOrd_n (by rfl) ?_; try simp only [Act.put, List.setIfInBounds_toArray, List.set_cons_zero, List.set_cons_succ])
                          iterate 2 (refine wpOrd_q (v := ?_) (by rfl) (fun W hW => ?_) ?_; rotate_left; (focus ((obtain ⟨hWc, hWf⟩ := bcell hW); go_simp; try with_reducible rfl)); try simp only [Act.put, List.setIfInBounds_toArray, List.set_cons_zero, List.set_cons_succ])
                          refine wpOrd_nil ?_
                          have HB6 := hide HB5.out.drew
                          go_wp2
                          go_returns
                          exact NewSays.err HB6.out (HE3.out.trans HE4.out) (by decide) rfl
                        · have q2 : decide ((nu.toNat : Int) < 1) = false ∧ decide (nu.toNat < 1) = false ∧ decide (nu.toNat = 0) = false := ⟨by simp; omega, by simp; omega, by simp; omega⟩
                          obtain ⟨q2, q2a, q2b⟩ := q2
                          by_cases hm3 : r.nodes < (nu.toNat : Int)
                          · have q3 : decide (r.nodes < (nu.toNat : Int)) = true := by simpa using hm3
                            have HE4 := hide (show marksE R [] K = 27 by rw [E2.out, if_pos (by unfold markB; rw [HRL.out]; simp; omega)])
                            clear E2 hm2 hm3
                            refine wp_region_text [0, 0, 0, 0, 0, 0, 0, 0, 0, 0, 0, 0, 0, 0, 0, 0, 0, 0, 0, 0, 0, 0, 0, 0] (Below w5.heap.size w5) (by kernel_rfl) (by kernel_rfl) (Below.refl _ _).drew ?_
                            iterate 24 (refine wpOrd_q (v := ?_) (by rfl) (fun W hW => ?_) ?_; rotate_left; (focus ((obtain ⟨hWc, hWf⟩ := bcell hW); go_simp; try with_reducible rfl)); try simp only [Act.put, List.setIfInBounds_toArray, List.set_cons_zero, List.set_cons_succ])
                            refine wpOrd_nil ?_
                            have HB6 := hide HB5.out.drew
                            go_wp2
                            go_returns
                            exact NewSays.err HB6.out (HE3.out.trans HE4.out) (by decide) rfl
                          · have q3 : decide (r.nodes < (nu.toNat : Int)) = false := by simpa using hm3
                            have HMB := hide (show markB R (la, nu) = true by unfold markB; rw [HRL.out]; simp; omega)
                            clear hm2 hm3
                            refine wp_region_text [0, 0, 0, 0, 0, 0, 0, 0, 0, 0, 0, 0, 0, 0, 0, 0, 0, 0, 0, 0, 0, 0, 0, 0] (Below w5.heap.size w5) (by kernel_rfl) (by kernel_rfl) (Below.refl _ _).drew ?_
                            iterate 24 (refine wpOrd_q (v := ?_) (by rfl) (fun W hW => ?_) ?_; rotate_left; (focus ((obtain ⟨hWc, hWf⟩ := bcell hW); go_simp; try with_reducible rfl)); try simp only [Act.put, List.setIfInBounds_toArray, List.set_cons_zero, List.set_cons_succ])
                            refine wpOrd_nil ?_
                            refine at_world (fun W => Below w.heap.size w W ∧ ConfIn w.heap.size W c R (K.take k) tb nb lb A1 A2 A3 c1 c2 c3 ∧ Blk W bx 199 #[.int .u8 (la.toNat : Int), .int .u16 (nu.toNat : Int)]) ⟨HB5.out.drew, HC5.out.below (Below.refl _ _).drew, BB.out.drew⟩ (fun w6 h6 => ?_)
                            clear z0 z1 zl y4 hbz HB5 HC5 BB q1 q2 q2a q2b q3
                            obtain ⟨hb6, hc6, bB⟩ := h6
                            go_wp2_with fail
                            have HB6 := hide hb6
                            have hkl9 : (K.take k).length ≤ 60000 := by rw [List.length_take]; omega
                            by_cases hin : (la, nu) ∈ K.take k
                            · have hlk := look_trust hc6.tr la nu (b := true) (by simp [hin])
                              have HE4 := hide (show marksE R [] K = 29 by rw [E2.out, if_neg (by rw [HMB.out]; simp), if_pos hin])
                              clear E2 hin HMB
                              have z0 := bB.cell 0
                              have z1 := bB.cell 1
                              have zl := bB.lt
                              have k1 := hc6.blk.cell 1
                              have kl := hc6.blk.lt
                              have ktl := hc6.tr.lt
                              clear hc6 bB hb6
                              refine wp_region_text [0, 0, 0, 0, 0, 0, 0] (Below w6.heap.size w6) (by kernel_rfl) (by kernel_rfl) (Below.refl _ _).drew ?_
                              iterate 7 (refine wpOrd_q (v := ?_) (by rfl) (fun W hW => ?_) ?_; rotate_left; (focus ((obtain ⟨hWc, hWf⟩ := bcell hW); have hq := hlk W hW; go_simp; try with_reducible rfl)); try simp only [Act.put, List.setIfInBounds_toArray, List.set_cons_zero, List.set_cons_succ])
                              refine wpOrd_nil ?_
                              have HB7 := hide HB6.out.drew
                              go_wp2
                              go_returns
                              exact NewSays.err HB7.out (HE3.out.trans HE4.out) (by decide) rfl
                            · have hlk := look_trust hc6.tr la nu (b := false) (by simp [hin])
                              have HE4 := hide (show marksE R [] K = marksE R (K.take k ++ [(la, nu)]) (K.drop (k + 1)) by rw [E2.out, if_neg (by rw [HMB.out]; simp), if_neg hin])
                              have HIN := hide hin
                              clear E2 hin HMB
                              have z0 := bB.cell 0
                              have z1 := bB.cell 1
                              have zl := bB.lt
                              have k1 := hc6.blk.cell 1
                              have kl := hc6.blk.lt
                              have ktl := hc6.tr.lt
                              refine wp_region_text [0, 0, 0, 0, 0, 0, 0] (Below w6.heap.size w6) (by kernel_rfl) (by kernel_rfl) (Below.refl _ _).drew ?_
                              iterate 7 (refine wpOrd_q (v := ?_) (by rfl) (fun W hW => ?_) ?_; rotate_left; (focus ((obtain ⟨hWc, hWf⟩ := bcell hW); have hq := hlk W hW; go_simp; try with_reducible rfl)); try simp only [Act.put, List.setIfInBounds_toArray, List.set_cons_zero, List.set_cons_succ])
                              refine wpOrd_nil ?_
                              refine at_world (fun W => Below w.heap.size w W ∧ ConfIn w.heap.size W c R (K.take k) tb nb lb A1 A2 A3 c1 c2 c3 ∧ Blk W bx 199 #[.int .u8 (la.toNat : Int), .int .u16 (nu.toNat : Int)]) ⟨hb6.drew, hc6.below (Below.refl _ _).drew, bB.drew⟩ (fun w7 h7 => ?_)
                              clear z0 z1 zl k1 kl ktl hlk hb6 hc6 bB HB6
                              obtain ⟨hb7, hc7, bB⟩ := h7
                              go_wp2_with fail
                              have z0 := bB.cell 0
                              have z1 := bB.cell 1
                              have zl := bB.lt
                              have k1 := hc7.blk.cell 1
                              have kl := hc7.blk.lt
                              obtain ⟨w8, hrun, hM, ho⟩ := (hc7.tr.keep (w' := w7.drew) rfl).update markEnc Tryz.underlying174 (la, nu) (.bool true)
                              simp only [dkv] at hrun
                              refine wp_region_text [0, 0, 0, 0, 0, 2] (Below w7.heap.size w7) (by kernel_rfl) (by kernel_rfl) (Below.refl _ _).drew ?_
                              iterate 5 (refine wpOrd_q (v := ?_) (by rfl) (fun W hW => ?_) ?_; rotate_left; (focus ((obtain ⟨hWc, hWf⟩ := bcell hW); go_simp; try with_reducible rfl)); try simp only [Act.put, List.setIfInBounds_toArray, List.set_cons_zero, List.set_cons_succ])
                              refine wpOrd_b (by rfl) (fun K hK => ?_)
                              go_simp
                              refine hK (fun _ => True) _ _ trivial ?_
                              clear hK K
                              try simp only [Act.put, List.setIfInBounds_toArray, List.set_cons_zero, List.set_cons_succ]
                              refine wpOrd_nil ?_
                              rw [trust_put HIN.out] at hM
                              have bB8 : Blk w8 bx 199 #[.int .u8 (la.toNat : Int), .int .u16 (nu.toNat : Int)] := (ho.blk (fun e => blk_not_map bB.drew (hc7.tr.keep (w' := w7.drew) rfl).is e) bB.lt).trans bB.drew
                              have hc8 := (hc7.below (Below.refl _ _).drew).toConfG.trust ho hM
                              have hb8 : Below w.heap.size w w8 := hb7.drew.grown ho.1 hb7.size (fun k hk => by have := hc7.htb; injection hk with hk; omega)
                              have OK := hide hc7.ok
                              clear z0 z1 zl k1 kl hrun hM ho hb7 hc7 bB
                              go_wp2_with fail
                              have z0 := bB8.cell 0
                              have z1 := bB8.cell 1
                              have zl := bB8.lt
                              have k2 := hc8.blk.cell 2
                              have kl := hc8.blk.lt
                              refine wp_region_text [0, 0, 0, 0, 0, 0, 1, 1, 0, 0, 2] (fun W => Blk W c 179 #[.slice A1 R.length c1, .map (some tb), .slice A2 (K.take k).length c2, .map (some nb), .map (some lb), .slice A3 (geosOf 32 R).length c3, .int .i64 (totalOf 32 R)] ∧ Blk W bx 199 #[.int .u8 (la.toNat : Int), .int .u16 (nu.toNat : Int)]) (by kernel_rfl) (by kernel_rfl) ⟨hc8.blk.drew, bB8.drew⟩ ?_
                              iterate 6 (refine wpOrd_q (v := ?_) (by rfl) (fun W hW => ?_) ?_; rotate_left; (focus ((obtain ⟨hW1, hW2⟩ := hW; have k2' := hW1.cell 2; have kl' := hW1.lt; have z0' := hW2.cell 0; have z1' := hW2.cell 1; have zl' := hW2.lt); go_simp; try with_reducible rfl)); try simp only [Act.put, List.setIfInBounds_toArray, List.set_cons_zero, List.set_cons_succ])
                              refine wpOrd_x (by rfl) (fun K hK => ?_)
                              go_simp
                              refine hK _ _ _ (fun _ h => h) ⟨hc8.blk.drew.alloc _, bB8.drew.alloc _⟩ ?_
                              clear hK K
                              try simp only [Act.put, List.setIfInBounds_toArray, List.set_cons_zero, List.set_cons_succ]
                              clear z0 z1 zl k2 kl
                              have hbx : Below w8.heap.size w8 (w8.alloc (.cells #[.int .u8 (la.toNat : Int), .int .u16 (nu.toNat : Int)] 199)).drew := ((Below.refl _ _).alloc (Nat.le_refl _) _).drew
                              have or := World.ownsRow.drew <| own_lit (w := w8) (base := w.heap.size) (e := 199) (size := 2) (n := 1) (cs := #[.int .u8 (la.toNat : Int), .int .u16 (nu.toNat : Int)]) rfl rfl hb8.size (by simp [maxLen]) rfl
                              have hc9 := hc8.below hbx
                              have bB9 := bB8.below hbx bB8.lt
                              have hb9 := hb8.trans (hbx.mono hb8.size)
                              clear hc8 bB8 hb8 hbx
                              generalize (w8.alloc (.cells #[.int .u8 (la.toNat : Int), .int .u16 (nu.toNat : Int)] 199)).drew = w9 at *
                              have hlen : (K.take k).length = k := by rw [List.length_take]; omega
                              have hm9 := hc9.marks
                              rw [hlen] at hm9
                              obtain ⟨i0, hi0, i1, i2, i3⟩ := info_parts info_mark
                              refine wpOrd_x (by rfl) (fun KK hKK => ?_)
                              refine wp_append_rd _ (.tmp 110) (.tmp 112) 99 (by rfl) w.heap.size 199 i0 (.agg #[.int .u8 0, .int .u16 0]) 2 4 Tryz.underlying99 hi0 i1 i2 i3 rfl (by decide) (.slice A2 k c2) k (mcellsOf (K.take k)) (by rfl) hm9 _ (some ⟨w8.heap.size, 0, none⟩) 1 1 (markCells (la, nu)) (by rfl) (Rd.of_own or) (by simp [markCells, Value.oneCell']) (by simp only [maxLen]; omega) (by omega) hb9.size (fun v' X' ho hg hnil hat => ?_)
                              clear i0 hi0 i1 i2 i3 hnil hat or
                              obtain ⟨A', c', rfl, _, _, _⟩ := own_form ho
                              have cB' := hc9.blk.grown hg fun e => blk_not_own hc9.blk hm9 (by decide) e.symm
                              rw [hlen] at cB'
                              refine hKK _ _ _ (fun _ h => h) ⟨by rw [hlen]; exact cB', bB9.grown hg fun e => by have := HMN.out bx (by rw [hlen]; exact e.symm); omega⟩ ?_
                              clear hKK KK
                              try simp only [Act.put, List.setIfInBounds_toArray, List.set_cons_zero, List.set_cons_succ]
                              have k2 := cB'.cell 2
                              have kf := cB'.frozen 2
                              have kl := cB'.lt
                              iterate 2 (refine wpOrd_q (v := ?_) (by rfl) (fun W hW => ?_) ?_; rotate_left; (focus (go_simp; try with_reducible rfl)); try simp only [Act.put, List.setIfInBounds_toArray, List.set_cons_zero, List.set_cons_succ])
                              refine wpOrd_b (by rfl) (fun K hK => ?_)
                              go_simp
                              refine hK (fun _ => True) _ _ trivial ?_
                              clear hK K
                              try simp only [Act.put, List.setIfInBounds_toArray, List.set_cons_zero, List.set_cons_succ]
                              refine wpOrd_nil ?_
                              refine at_world (fun W => Below w.heap.size w W ∧ ConfIn w.heap.size W c R (K.take (k + 1)) tb nb lb A1 A' A3 c1 c' c3) ⟨?_, ?_⟩ (fun w10 h10 => ?_)
                              · exact (hb9.grown hg hb9.size (fun k hk => (hm9.lt k hk).1)).setCell hc9.hc _
                              · refine ⟨?_, OK.out⟩
                                rw [List.take_add_one, HD.out.2]
                                exact hc9.mark_row hlen hg ho (by simpa using cB'.set_ 2 (.slice A' (k + 1) c')) fun g hg => Below.heap_setCell _ _ _ _ hg
                              clear k2 kf kl cB' hg ho hc9 bB9 hb9
                              go_wp2
                              go_roundg (K.length - (k + 1))
                              case measure => omega
                              case rel =>
                                refine ⟨k + 1, by omega, rfl, by go_num, A', c', h10.1, h10.2, ?_⟩
                                rw [HE4.out, List.take_add_one, HD.out.2]
                                rfl
                    · obtain rfl : k = K.length := by omega
                      obtain ⟨A2, c2, hbr, hc, hadd⟩ := hA.out
                      rw [List.drop_length, marksE] at hadd
                      rw [List.take_length] at hc
                      have HBR := hide hbr
                      have HC := hide hc
                      have HD := hide hadd
                      clear hbr hc hadd hA
                      have hkz : ¬ ((K.length : Int) < K.length) := by omega
                      go_wp2
                      go_returns
                      exact ⟨HBR.out, fun _ => ⟨c, tb, nb, lb, A1, A2, A3, c1, c2, c3, rfl, HC.out⟩, fun h => absurd (HE3.out.trans HD.out) h⟩
            · have q2 : ((r0.cats.toNat : Int) == 0) = false := by
                have : r0.cats.toNat ≠ 0 := fun e => hc0 (UInt16.toNat_inj.1 e)
                simp; omega
              have HL := hide hc0
              clear hl hc0
              simp only [UInt8.toNat_zero, Int.cast_ofNat_Int] at y1
              go_wp2
              go_returns
              refine NewSays.err HBR.out (k := 25) ?_ (by decide) rfl
              rw [E.out, HD.out, if_neg (fun h => h rfl), if_pos (by exact .inr HL.out)]
          · have q1 : ((r0.lev.toNat : Int) == 0) = false := by
              have : r0.lev.toNat ≠ 0 := fun e => hl (UInt8.toNat_inj.1 e)
              simp; omega
            have HL := hide hl
            clear hl
            go_wp2
            go_returns
            refine NewSays.err HBR.out (k := 25) ?_ (by decide) rfl
            rw [E.out, HD.out, if_neg (fun h => h rfl), if_pos (by exact .inl HL.out)]
end
end Go.Proofs.YthmkgohfeahdhaaGreat
namespace Go.Proofs.YthmkgohfeahdhaaGreat
open Go.RowKit
set_option linter.unusedSimpArgs false
set_option linter.unusedVariables false

theorem grown_alloc {W0 w' : World} {o : Obj} {row : Option Nat} (h : (W0.alloc o).grownBy w' row) : W0.grownBy w' row :=
  ⟨h.os, h.tape, h.output, Nat.le_trans (by simp) h.size, fun k hk hr => (h.block k (by simp; omega) hr).trans (Below.heap_alloc W0 o k hk)⟩
theorem own_block_ge {w : World} {base n size : Nat} {e : TypeId} {v : Value} {xs : List Value} (h : w.ownsRow base e size v n xs) {g : Nat} (hg : v.ownBlock = some g) : base ≤ g ∧ g < w.heap.size := by
  rcases h.2 with ⟨rfl, _⟩ | ⟨g', cap, cur, rfl, h1, h2, _⟩
  · cases hg
  · simp only [Value.ownBlock, Option.some.injEq] at hg
    subst hg
    exact ⟨h1, (Array.getElem?_eq_some_iff.1 h2).1⟩
theorem grown_below {base n size : Nat} {w w' : World} {e : TypeId} {v : Value} {xs : List Value} (ho : w.ownsRow base e size v n xs) (hb : base ≤ w.heap.size) (h : w.grownBy w' v.ownBlock) : Below base w w' :=
  ⟨h.os, h.tape, h.output, h.size, fun k hk => h.block k (by omega) fun e => by
    have := own_block_ge ho e.symm
    omega⟩
theorem own_at {w : World} {base n size : Nat} {e : TypeId} {v : Value} {xs : List Value} (h : w.ownsRow base e size v n xs) : ∃ A c, v = .slice A n c := by
  obtain ⟨A, c, h, _⟩ := own_form h
  exact ⟨A, c, h⟩

theorem wpList_append_one {P : Program} {w : World} {ops : Array Oper} {rest : List Oper} {o : Oper} {a : Act} {Q : Exit → Act → World → Prop} (hgd : o.guard = none) (s x : Operand) (t : TypeId)
    (ho : o.op = .call { callee := .builtin .append, args := #[s, x], argTypes := #[t, t] })
    (base : Nat) (e : TypeId) (i : TypeInfo) (z : Value) (size bytes : Nat) (ht : P.underlying t = some (.slice e)) (hi : P.info? e = some i) (hz : i.zero = some z)
    (hsize : i.size = size) (hby : i.bytes = bytes) (hzs : z.cells.size = size) (hsz : 0 < size)
    (A : Option Addr) (c n : Nat) (xs news : List Value) (W0 : World) (hs : a.eval s = .slice A n c) (hown : W0.ownsRow base e size (.slice A n c) n xs)
    (hw : w = W0.alloc (.cells news.toArray e)) (hx : a.eval x = .slice (some ⟨W0.heap.size, 0, none⟩) 1 1) (hl : news.length = size) (h1 : ∀ u ∈ news, u.oneCell' = true)
    (hn : n ≤ 1000000) (hb : bytes ≤ 1000) (hbase : base ≤ W0.heap.size)
    (h : ∀ A' c' w', w'.ownsRow base e size (.slice A' (n + 1) c') (n + 1) (xs ++ news) → W0.grownBy w' (Value.slice A n c).ownBlock → Below base W0 w' →
      ((Value.slice A' (n + 1) c').ownBlock = (Value.slice A n c).ownBlock ∨ (Value.slice A' (n + 1) c').ownBlock = some (W0.heap.size + 1)) → wpList P ops Q rest (a.put o.dst (.slice A' (n + 1) c')) w') : wpList P ops Q (o :: rest) a w := by
  subst hw
  have ra := own_lit (w := W0) (base := 0) (e := e) (size := size) (n := 1) (cs := news.toArray) rfl rfl (Nat.zero_le _) (by simp [maxLen]) (by simpa using hl)
  have hown2 := own_below (w' := W0.alloc (.cells news.toArray e)) hown ((Below.refl _ _).alloc (Nat.le_refl _) _)
  have hb2 : (n + 1) * bytes ≤ 1000001 * 1000 := Nat.mul_le_mul (by omega) hb
  refine wpList_append_rd _ hgd s x t ho base e i z size bytes ht hi hz hsize hby hzs hsz (.slice A n c) n xs hs hown2 _ (some ⟨W0.heap.size, 0, none⟩) 1 1 news hx (Rd.of_own ra) h1 (by simp only [maxLen]; omega) (by omega) (by simp; omega) ?_
  intro v' w' h2 h3 _ h5
  obtain ⟨A', c', rfl⟩ := own_at h2
  have hg := grown_alloc h3
  exact h A' c' w' h2 hg (grown_below hown hbase hg) (by rcases h5 with h5 | h5 <;> simp [h5])

end Go.Proofs.YthmkgohfeahdhaaGreat
namespace Go.Proofs.YthmkgohfeahdhaaGreat
open Go.RowKit Go.WideMaps
set_option linter.unusedSimpArgs false
set_option linter.unusedVariables false

theorem below_setRow {B g : Nat} {w w' : World} (h : Below B w w') (hg : B ≤ g) (cs : Array Value) : Below B w (w'.setRow g cs) :=
  ⟨h.os, h.tape, h.output, by rw [setRow_size]; exact h.size, fun k hk => (setRow_other w' g k cs (by omega)).trans (h.block k hk)⟩
/-- a row of other elements is not touched -/
theorem own_besides {w w' : World} {B B' n n' s s' : Nat} {e e' : TypeId} {v v' : Value} {xs xs' : List Value} (h : w.ownsRow B e s v n xs) (h' : w.ownsRow B' e' s' v' n' xs') (hne : e ≠ e') (hg : w.grownBy w' v'.ownBlock) : w'.ownsRow B e s v n xs := by
  refine own_keep h fun g hv => ?_
  have hgl := (own_block_ge h hv).2
  refine hg.block g hgl fun e2 => ?_
  rcases h.2 with ⟨rfl, _⟩ | ⟨g1, cap, cur, rfl, _, hh, _⟩
  · cases hv
  · simp only [Value.ownBlock, Option.some.injEq] at hv
    subst hv
    exact blk_not_own_any hh h' hne e2.symm
where blk_not_own_any {w : World} {B' n' s' g : Nat} {e e' : TypeId} {v' : Value} {xs' : List Value} {cur : Array Value} (hh : w.heap[g]? = some (.cells cur e (0, 0))) (h' : w.ownsRow B' e' s' v' n' xs') (hne : e ≠ e') : v'.ownBlock ≠ some g :=
  blk_not_own (t := e) (cs := cur) hh h' hne

/-- a cell of one's own row, written -/
theorem own_set {w : World} {base g n c i size : Nat} {e : TypeId} {xs : List Value} {u : Value} (h : w.ownsRow base e size (.slice (some ⟨g, 0, none⟩) n c) n xs) :
    (w.setCell ⟨g, i, none⟩ u).ownsRow base e size (.slice (some ⟨g, 0, none⟩) n c) n (xs.set i u) := by
  refine ⟨by simpa using h.1, ?_⟩
  rcases h.2 with ⟨h', _⟩ | ⟨g', cap', cur, h', hg, hh, hnc, hcm, hcs, htake⟩
  · cases h'
  · simp only [Value.slice.injEq, Option.some.injEq, Addr.mk.injEq] at h'
    obtain ⟨⟨rfl, _, _⟩, _, rfl⟩ := h'
    refine .inr ⟨_, _, cur.setIfInBounds i u, rfl, hg, (Blk.set_ (t := e) (cs := cur) hh i u), hnc, hcm, by simpa using hcs, ?_⟩
    rw [Array.toList_setIfInBounds, List.take_set, htake]
theorem own_frozen {w : World} {base g n c i size : Nat} {e : TypeId} {xs : List Value} (h : w.ownsRow base e size (.slice (some ⟨g, 0, none⟩) n c) n xs) : w.frozen? ⟨g, i, none⟩ = false := by
  rcases h.2 with ⟨h', _⟩ | ⟨g', cap', cur, h', hg, hh, _⟩
  · cases h'
  · simp only [Value.slice.injEq, Option.some.injEq, Addr.mk.injEq] at h'
    obtain ⟨⟨rfl, _, _⟩, _, rfl⟩ := h'
    simp [World.frozen?, hh]

theorem rcells_set : ∀ (L : List RegV) (k : Nat) (r : RegV) (c : Int), L[k]? = some r → (rcellsOf L).set (k * 9 + 8) (.int .i64 c) = rcellsOf (L.set k { r with clear := c })
  | [], _, _, _, h => by simp at h
  | x :: rest, 0, r, c, h => by
    simp at h
    subst h
    rfl
  | x :: rest, k + 1, r, c, h => by
    simp at h
    have ih := rcells_set rest k r c h
    rw [List.set_cons_succ]
    show (x.cells ++ rcellsOf rest).set ((k + 1) * 9 + 8) _ = x.cells ++ rcellsOf (rest.set k _)
    rw [← ih, List.set_append]
    have h9 : x.cells.length = 9 := rfl
    rw [if_neg (by rw [h9]; omega), h9]
    congr 2
    omega

theorem ConfIn.base {B B' c tb nb lb c1 c2 c3 : Nat} {w : World} {R : List RegV} {K : List MarkV} {A1 A2 A3 : Option Addr} (h : ConfIn B w c R K tb nb lb A1 A2 A3 c1 c2 c3) (hB : B' ≤ B) : ConfIn B' w c R K tb nb lb A1 A2 A3 c1 c2 c3 :=
  { h with regs := own_mono h.regs hB, marks := own_mono h.marks hB, geos := own_mono h.geos hB, hc := Nat.le_trans hB h.hc, htb := Nat.le_trans hB h.htb, hnb := Nat.le_trans hB h.hnb, hlb := Nat.le_trans hB h.hlb }
end Go.Proofs.YthmkgohfeahdhaaGreat
namespace Go.Proofs.YthmkgohfeahdhaaGreat
open Go.RowKit
set_option linter.unusedSimpArgs false
set_option linter.unusedVariables false

theorem zero_block (w : World) : (zeroValue 106).run Tryz.prog w = .ok (.agg (bvs zeroB).toArray) w := by kernel_rfl
theorem size_block : (Tryz.prog.info? 106).map (·.size) = some 64 := by kernel_rfl
theorem size_blockOf {b : List UInt8} (h : b.length = 64) : (Tryz.prog.info? 106).map (·.size) = some (bvs b).toArray.size := by rw [size_block, bvs_size h]

theorem info_block : ∃ i, Tryz.prog.info? 106 = some i ∧ i.zero = some (bval zeroB) ∧ i.size = 64 ∧ i.bytes = 64 := by
  have h : (Tryz.prog.info? 106).map (fun i => (i.zero, i.size, i.bytes)) = some (some (bval zeroB), 64, 64) := by kernel_rfl
  cases hi : Tryz.prog.info? 106 with
  | none => rw [hi] at h; cases h
  | some i =>
    rw [hi] at h
    simp only [Option.map_some, Option.some.injEq, Prod.mk.injEq] at h
    exact ⟨i, rfl, h.1, h.2.1, h.2.2⟩

/-- A disk that works, of these blocks. -/
structure DiskAt (w : World) (dd rr : Nat) (D : List BlkV) : Prop where
  disk : ∃ wr rd : Int, Blk w dd 248 #[.slice (some ⟨rr, 0, none⟩) D.length D.length, .int .i64 (-1), .bool false, .int .i64 wr, .int .i64 rd]
  row : Blk w rr 106 (flatB D).toArray
  len : ∀ b ∈ D, b.length = 64
  most : D.length ≤ 65536
section
variable {w w' : World} {dd rr : Nat} {D : List BlkV}
theorem DiskAt.dlt (h : DiskAt w dd rr D) : dd < w.heap.size := by obtain ⟨_, _, hd⟩ := h.disk; exact hd.lt
theorem DiskAt.keep (h : DiskAt w dd rr D) (h1 : w'.heap[dd]? = w.heap[dd]?) (h2 : w'.heap[rr]? = w.heap[rr]?) : DiskAt w' dd rr D := by
  obtain ⟨wr, rd, hd⟩ := h.disk
  exact ⟨⟨wr, rd, h1.trans hd⟩, h2.trans h.row, h.len, h.most⟩
theorem DiskAt.below (h : DiskAt w dd rr D) (hb : Below w.heap.size w w') : DiskAt w' dd rr D := h.keep (hb.block _ h.dlt) (hb.block _ h.row.lt)

theorem disk_len (h : DiskAt w dd rr D) : Calls Tryz.prog 163 #[.pointer (some ⟨dd, 0, none⟩)] w fun e w' => e = .returned (.int .i64 (D.length : Int)) ∧ w = w' := by
  obtain ⟨wr, rd, hd⟩ := h.disk
  have k0 := hd.cell 0
  have kl := hd.lt
  go_enter Tryz.func163, Tryz.ntmps163
  go_wp2
  go_returns
  exact ⟨rfl, rfl⟩

set_option maxRecDepth 100000 in
theorem disk_read (h : DiskAt w dd rr D) {k : Nat} {b : BlkV} (hk : D[k]? = some b) :
    Calls Tryz.prog 137 #[.pointer (some ⟨dd, 0, none⟩), .int .i64 (k : Int)] w fun e w' => e = .returned (.tuple #[bval b, .int .i64 0]) ∧ DiskAt w' dd rr D ∧ Tch w.heap.size (· = dd) w w' := by
  obtain ⟨wr, rd, hd⟩ := h.disk
  have hkl : k < D.length := (List.getElem?_eq_some_iff.1 hk).1
  have hb : b.length = 64 := h.len b (List.mem_of_getElem? hk)
  have hR := h.row
  have hrl := hR.lt
  have hkz : (k : Int) < (D.length : Int) := by omega
  go_enter Tryz.func137, Tryz.ntmps137
  go_upto_region 1 with (first | ((with_reducible refine at_alloc 106 ?_); refine wpList_alloc_as rfl 106 rfl _ (zero_block _) ?_) | fail)
  refine at_world (fun W => ∃ g, g = w.heap.size ∧ Below w.heap.size w W ∧ Blk W g 106 (bvs zeroB).toArray) ⟨_, rfl, (Below.refl _ _).alloc (Nat.le_refl _) _, Blk.new _ _ _⟩ (fun w1 h1 => ?_)
  obtain ⟨g, hg, hb1, hG⟩ := h1
  rw [← hg]
  have d1 := hd.below hb1 hd.lt
  have r1 := hR.below hb1 hR.lt
  have c0 := d1.cell 0
  have c4 := d1.cell 4
  have f4 := d1.frozen 4
  have dl := d1.lt
  have k0 : decide ((k : Int) < 0) = false := by simp
  have k1 : decide (D.length ≤ k) = false := by simpa using hkl
  have gl : w.heap.size ≤ g := Nat.le_of_eq hg.symm
  have HG := hide hg
  clear hg
  go_upto_region 6 with (fail)
  refine at_world (fun W => Tch w.heap.size (· = dd) w W ∧ Blk W g 106 (bvs zeroB).toArray ∧ DiskAt W dd rr D)
    ⟨(Tch.of_below hb1).trans (Tch.setCell fun _ => rfl), hG.far (by have := hG.ne d1 (by decide); exact this) _, ⟨⟨wr, _, d1.set_ 4 _⟩, r1.far (r1.ne d1 (by decide)) _, h.len, h.most⟩⟩ (fun w2 h2 => ?_)
  obtain ⟨ht2, hG2, h2⟩ := h2
  have HR := hide (fun o (ho : o = 64 * k) => (h2.row.range (o := o) (xs := bvs b) fun j v hj => by
    have hj64 : j < 64 := by have := (List.getElem?_eq_some_iff.1 hj).1; rw [bvs_length, hb] at this; exact this
    rw [ho, List.getElem?_toArray, flatB_get h.len hk hj64]; exact hj))
  clear c0 c4 f4 dl d1 r1 hG hb1 hR hd
  obtain ⟨wr2, rd2, d2⟩ := h2.disk
  have c0 := d2.cell 0
  have dl := d2.lt
  have H2 := hide (And.intro ht2 h2)
  have HB := hide hb
  clear ht2 d2 h2 h hb hk
  go_wp2_with (first | ((with_reducible refine at_load 106 (.tmp 35) ?_); refine wpList_load_mid rfl 106 (.tmp 35) rfl rr _ (by rfl) (bvs b) _ (HR.out _ (by omega)) Tryz.underlying106 rfl (by rw [size_block, bvs_length, HB.out]) ?_) | ((with_reducible refine at_store 106 (.tmp 4) (.tmp 36) ?_); refine wpList_store_blk rfl 106 (.tmp 4) (.tmp 36) rfl g 106 _ _ (by rfl) (by rfl) hG2 (size_blockOf HB.out) (by rw [zero_size, bvs_size HB.out]) (bvs_oneCell _) (fun hB3 => ?_)) | ((with_reducible refine at_end ?_); refine bodyPost_ret (v := .tuple #[bval b, .int .i64 0]) (results_run2 rfl (ResV.row rfl hB3 Tryz.underlying106 rfl (size_blockOf HB.out)) rfl) rfl ⟨rfl, ?_, ?_⟩) | fail)
  all_goals obtain ⟨ht2, h2⟩ := H2.out
  all_goals have n1 : g ≠ dd := fun e => by obtain ⟨_, _, d2⟩ := h2.disk; exact hG2.ne d2 (by decide) e
  all_goals have n2 : rr ≠ g := fun e => by have := h2.row.lt; subst e; exact absurd hrl (by omega)
  · exact h2.keep (setRow_other _ _ _ _ (Ne.symm n1)) (setRow_other _ _ _ _ n2)
  · exact ht2.trans (Tch.setRow fun hp => absurd hp (by omega))

set_option maxRecDepth 100000 in
theorem disk_write (h : DiskAt w dd rr D) {k : Nat} {b : BlkV} (hkl : k < D.length) (hb : b.length = 64) :
    Calls Tryz.prog 84 #[.pointer (some ⟨dd, 0, none⟩), .int .i64 (k : Int), bval b] w fun e w' => e = .returned (.int .i64 0) ∧ DiskAt w' dd rr (D.set k b) ∧ Tch w.heap.size (fun x => x = dd ∨ x = rr) w w' := by
  obtain ⟨wr, rd, hd⟩ := h.disk
  have hR := h.row
  have hrl := hR.lt
  have hkz : (k : Int) < (D.length : Int) := by omega
  go_enter Tryz.func84, Tryz.ntmps84
  go_upto_region 1 with (fail)
  refine at_world (fun W => ∃ g, g = w.heap.size ∧ Below w.heap.size w W ∧ Blk W g 106 (bvs b).toArray) ⟨_, rfl, (Below.refl _ _).alloc (Nat.le_refl _) _, Blk.new _ _ _⟩ (fun w1 h1 => ?_)
  obtain ⟨g, hg, hb1, hG⟩ := h1
  rw [← hg]
  have d1 := hd.below hb1 hd.lt
  have r1 := hR.below hb1 hR.lt
  have c0 := d1.cell 0
  have c1 := d1.cell 1
  have c2 := d1.cell 2
  have dl := d1.lt
  have k0 : decide ((k : Int) < 0) = false := by simp
  have k1 : decide (D.length ≤ k) = false := by simpa using hkl
  have gl : w.heap.size ≤ g := Nat.le_of_eq hg.symm
  have HG := hide hg
  clear hg
  have HB := hide hb
  clear hb
  go_upto_region 9 with (fail)
  refine wp_region_text [0, 0, 0, 0, 0, 0, 0, 2] (· = w1.drew) (by kernel_rfl) (by kernel_rfl) rfl ?_
  iterate 5 (refine wpOrd_q (v := ?_) (by rfl) (fun W hW => ?_) ?_; rotate_left; (focus ((cases hW; go_simp); try with_reducible rfl)); try simp only [Act.put, List.setIfInBounds_toArray, List.set_cons_zero, List.set_cons_succ])
  refine wpOrd_q (v := .agg (bvs b).toArray) (by rfl) (fun W hW => by cases hW; exact exec_load_blk 106 (.tmp 5) rfl g _ (bvs b).toArray _ rfl hG.drew Tryz.underlying106 rfl (size_blockOf HB.out)) ?_
  try simp only [Act.put, List.setIfInBounds_toArray, List.set_cons_zero, List.set_cons_succ]
  iterate 1 (refine wpOrd_q (v := ?_) (by rfl) (fun W hW => ?_) ?_; rotate_left; (focus ((cases hW; go_simp); try with_reducible rfl)); try simp only [Act.put, List.setIfInBounds_toArray, List.set_cons_zero, List.set_cons_succ])
  refine wpOrd_b (by rfl) (fun K hK => ?_)
  refine wp_store_mid 106 (.tmp 41) (.tmp 40) rfl rr (k * 64) (bvs b).toArray (by rfl) (by rfl) (r1.drew.there (by rw [bvs_size HB.out, List.size_toArray, flatB_length h.len]; omega)) (size_blockOf HB.out) (bvs_oneCell _) ?_
  refine hK (fun _ => True) _ _ trivial (wpOrd_nil ?_)
  have hB3 : Blk (w1.drew.setCells rr (k * 64) (bvs b)) rr 106 (flatB (D.set k b)).toArray := by
    have := r1.drew.setCells (k * 64) (bvs b) (by rw [bvs_length, HB.out, List.size_toArray, flatB_length h.len]; omega)
    rw [Nat.mul_comm k 64, bvs_length, HB.out] at this
    rw [Nat.mul_comm k 64, ← flatB_set h.len hkl HB.out]
    exact this
  refine at_world (fun W => Tch w.heap.size (fun x => x = dd ∨ x = rr) w W ∧ DiskAt W dd rr (D.set k b))
    ⟨((Tch.of_below hb1).drew).trans (Tch.setCells (fun _ => .inr rfl) _ _ _), ⟨⟨wr, rd, by
      rw [List.length_set]
      exact (Tch.setCells (B := w1.heap.size) (S := (· = rr)) (fun _ => rfl) (bvs b) (k * 64) w1.drew).block dd dl (d1.ne r1 (by decide)) |>.trans d1.drew⟩, hB3, set_lens h.len HB.out, by rw [List.length_set]; exact h.most⟩⟩ (fun w2 h2 => ?_)
  obtain ⟨ht2, h2⟩ := h2
  clear c0 c1 c2 dl d1 r1 hG hb1 hR hd h hB3
  obtain ⟨wr2, rd2, d2⟩ := h2.disk
  have c1 := d2.cell 1
  have f1 := d2.frozen 1
  have c3 := d2.cell 3
  have f3 := d2.frozen 3
  have dl := d2.lt
  have H2 := hide (And.intro ht2 h2)
  clear ht2 h2
  go_wp2
  go_returns
  obtain ⟨ht2, h2⟩ := H2.out
  refine ⟨rfl, ⟨⟨_, _, d2.set_ 3 _⟩, h2.row.far (h2.row.ne d2 (by decide)) _, h2.len, h2.most⟩, ht2.trans (Tch.setCell fun _ => .inl rfl)⟩



theorem made_zero (n : Nat) : (madeCells (bvs zeroB).toArray (n * 64)).toList = flatB (List.replicate n zeroB) := by
  rw [flatB_zero]
  apply List.ext_getElem
  · simp [madeCells, Nat.mul_comm]
  · intro i h1 h2
    have hr : bvs zeroB = List.replicate 64 (.int .u8 0) := by rw [bvs, zeroB, List.map_replicate]; rfl
    have hz : ∀ j : Nat, j < 64 → (bvs zeroB).toArray[j]! = .int .u8 0 := fun j hj => by
      rw [hr, getElem!_pos _ j (by simpa using hj)]
      simp only [List.getElem_toArray, List.getElem_replicate]
    simp only [madeCells, Array.toList_map, List.getElem_map, Array.toList_range, List.getElem_range, List.getElem_replicate]
    rw [zero_size]
    exact hz _ (Nat.mod_lt _ (by decide))

set_option maxRecDepth 100000 in
theorem disk_new (w : World) {n : Nat} (hn : n ≤ 65536) :
    Calls Tryz.prog 128 #[.int .i64 (n : Int)] w fun e w' => ∃ dd rr, e = .returned (.tuple #[.pointer (some ⟨dd, 0, none⟩), .int .i64 0]) ∧ w.heap.size ≤ dd ∧ w.heap.size ≤ rr ∧ DiskAt w' dd rr (List.replicate n zeroB) ∧ Below w.heap.size w w' := by
  have k0 : decide ((n : Int) < 0) = false := by simp
  have k1 : decide ((65536 : Int) < n) = false := by simp; omega
  go_enter Tryz.func128, Tryz.ntmps128
  obtain ⟨i, hi1, hi2, hi3, hi4⟩ := info_block
  have HI1 := hide hi1
  have HI2 := hide hi2
  have HI3 := hide hi3
  have HI4 := hide hi4
  clear hi1 hi2 hi3 hi4
  go_wp2_with (first | (refine wpList_make_full w rfl (.tmp 10) (.tmp 10) 162 rfl w.heap.size 106 i (bval zeroB) 64 Tryz.underlying162 HI1.out HI2.out HI3.out .i64 .i64 n n n (by rfl) (by rfl) rfl rfl (by rw [HI4.out]; omega) (by unfold maxLen; omega) (Nat.le_refl _) (fun w1 ho hg => ?_)) | fail)
  go_returns
  have hB := own_blk ho
  have hbz : (bval zeroB).cells = (bvs zeroB).toArray := rfl
  rw [hbz, made_zero] at hB
  have hz : ∀ b ∈ List.replicate n zeroB, b.length = 64 := fun b hb => by rw [(List.mem_replicate.1 hb).2]; exact zeroB_length
  refine ⟨w1.heap.size, w.heap.size, rfl, hg.size, Nat.le_refl _, ⟨⟨0, 0, by rw [List.length_replicate]; exact Blk.new _ _ _⟩, hB.alloc _, hz, by rw [List.length_replicate]; exact hn⟩, (grown_none hg).alloc hg.size _⟩
end
end Go.Proofs.YthmkgohfeahdhaaGreat
namespace Go.Proofs.YthmkgohfeahdhaaGreat
open Go.RowKit
set_option linter.unusedSimpArgs false
set_option linter.unusedVariables false

/-- two bytes of a number, written -/
def put2B (b : BlkV) (at_ n : Nat) : BlkV := (b.set at_ (UInt8.ofNat (n % 256))).set (at_ + 1) (UInt8.ofNat (n / 256))
theorem put2B_length (b : BlkV) (at_ n : Nat) : (put2B b at_ n).length = b.length := by simp [put2B]
theorem bvs_set (b : List UInt8) (i : Nat) (x : UInt8) : (bvs b).toArray.setIfInBounds i (bv x) = (bvs (b.set i x)).toArray := by
  simp [bvs, List.map_set]
/-- a head -/
def headGo : Nat → List Nat → BlkV → BlkV
  | _, [], b => b
  | i, n :: r, b => headGo (i + 1) r (put2B b (4 + 2 * i) n)
def headB (l : List Nat) : BlkV := headGo 0 l (put2B (put2B zeroB 0 26529) 2 l.length)
theorem headGo_length : ∀ (i : Nat) (l : List Nat) (b : BlkV), (headGo i l b).length = b.length
  | _, [], _ => rfl
  | i, n :: r, b => by rw [headGo, headGo_length (i + 1) r, put2B_length]
theorem headB_length (l : List Nat) : (headB l).length = 64 := by rw [headB, headGo_length, put2B_length, put2B_length, zeroB_length]

/-- numbers as cells -/
def nvs (l : List Nat) : List Value := l.map fun x => .int .i64 ((x : Nat) : Int)
theorem nvs_get {l : List Nat} {k x : Nat} (h : l[k]? = some x) : (nvs l)[k]? = some (.int .i64 (x : Int)) := by simp [nvs, h]

section
variable {w w' : World} {g : Nat} {b : BlkV}
set_option maxRecDepth 100000 in
theorem put2_ok (hB : Blk w g 106 (bvs b).toArray) (hb : b.length = 64) {k n : Nat} (hk : k + 1 < 64) (hn : n < 65536) :
    Calls Tryz.prog 136 #[.pointer (some ⟨g, 0, none⟩), .int .i64 (k : Int), .int .u16 (n : Int)] w fun e w' => e = .returned (.tuple #[]) ∧ Blk w' g 106 (bvs (put2B b k n)).toArray ∧ Tch w.heap.size (· = g) w w' ∧ w'.heap.size = w.heap.size := by
  have hz : IntKind.i64.wrap ((k : Int) + 1) = (k : Int) + 1 := IntWalk.i64_in _ (by omega)
  have h64 : (k : Int) < 64 := by omega
  have h65 : (k : Int) + 1 < 64 := by omega
  have h66 : (0 : Int) ≤ (k : Int) + 1 := by omega
  go_enter Tryz.func136, Tryz.ntmps136
  go_wp2_with fail
  refine wp_region_ord [0, 1, 2, 3, 4, 5, 6, 7, 8, 9, 10, 11, 13, 12, 14, 15] [0, 0, 0, 0, 0, 0, 0, 0, 0, 0, 0, 0, 0, 1, 0, 2] (fun _ => True) (by kernel_rfl) (by kernel_rfl) trivial ?_
  iterate 13 (refine wpOrd_q (v := ?_) (by rfl) (fun W hW => ?_) ?_; rotate_left; (focus (go_simp; try with_reducible rfl)); try simp only [Act.put, List.setIfInBounds_toArray, List.set_cons_zero, List.set_cons_succ])
  have e1 : IntKind.u8.wrap (n : Int) = ((n % 256 : Nat) : Int) := by simp [IntKind.wrap, IntKind.signed, IntKind.bits]
  have e2 : IntKind.u8.wrap ((n : Int) / 256) = ((n / 256 : Nat) : Int) := by simp [IntKind.wrap, IntKind.signed, IntKind.bits]; omega
  rw [e1, e2, ← bv_ofNat (k := n % 256) (by omega), ← bv_ofNat (k := n / 256) (by omega)]
  clear e1 e2
  have hB0 : Blk w.drew g 106 (bvs b).toArray := hB
  have hB1 := hB0.set_ k (bv (UInt8.ofNat (n % 256)))
  rw [bvs_set] at hB1
  have hB2 := hB1.set_ (k + 1) (bv (UInt8.ofNat (n / 256)))
  rw [bvs_set] at hB2
  refine wpOrd_x (by rfl) (fun K hK => ?_)
  refine wp_store_cell 5 (.tmp 17) (.tmp 12) rfl g k _ _ _ (by rfl) (by rfl) hB0 (by rw [bvs_size hb]; omega) rfl (by kernel_rfl) ?_
  refine hK _ _ _ (fun _ h => h) trivial ?_
  clear hK K
  try simp only [Act.put, List.setIfInBounds_toArray, List.set_cons_zero, List.set_cons_succ]
  iterate 1 (refine wpOrd_q (v := ?_) (by rfl) (fun W hW => ?_) ?_; rotate_left; (focus (go_simp; try with_reducible rfl)); try simp only [Act.put, List.setIfInBounds_toArray, List.set_cons_zero, List.set_cons_succ])
  refine wpOrd_b (by rfl) (fun K hK => ?_)
  refine wp_store_cell 5 (.tmp 19) (.tmp 15) rfl g (k + 1) _ _ _ (by rfl) (by rfl) hB1 (by rw [bvs_size (by rw [List.length_set]; exact hb)]; omega) rfl (by kernel_rfl) ?_
  refine hK (fun _ => True) _ _ trivial (wpOrd_nil ?_)
  have HB := hide hB2
  clear hK K hB hB0 hB1 hB2
  go_wp2
  go_returns
  refine ⟨rfl, HB.out, ?_, by simp⟩
  exact ((Tch.setCell (S := (· = g)) (p := ⟨g, k, none⟩) fun _ => rfl).trans (Tch.setCell (S := (· = g)) (p := ⟨g, k + 1, none⟩) fun _ => rfl)).drew

set_option maxRecDepth 100000 in
set_option maxHeartbeats 1000000 in
theorem head_ok (w : World) {A : Option Addr} {n c : Nat} {l : List Nat} (hR : Rd w w.heap.size 1 A n (nvs l)) (hn : l.length ≤ 30) (hl : ∀ x ∈ l, x < 65536) :
    Calls Tryz.prog 85 #[.slice A n c] w fun e w' => e = .returned (bval (headB l)) ∧ Below w.heap.size w w' := by
  have hln : n = l.length := by have := hR.len; simp [nvs] at this; omega
  subst hln
  have h16 : IntKind.u16.wrap (l.length : Int) = (l.length : Int) := by simp [IntKind.wrap, IntKind.signed, IntKind.bits]; omega
  have hnz : (l.length : Int) ≤ 30 := by omega
  go_enter Tryz.func85, Tryz.ntmps85
  go_upto_region 1 with (first | ((with_reducible refine at_alloc 106 ?_); refine wpList_alloc_as rfl 106 rfl _ (zero_block _) ?_) | fail)
  refine at_world (fun W => ∃ g, g = w.heap.size ∧ Below w.heap.size w W ∧ Blk W g 106 (bvs zeroB).toArray ∧ W.heap.size = g + 1) ⟨_, rfl, (Below.refl _ _).alloc (Nat.le_refl _) _, Blk.new _ _ _, by simp⟩ (fun w1 h1 => ?_)
  obtain ⟨g, hg, hb1, hG, hs1⟩ := h1
  rw [← hg]
  go_upto_region 2 with (first | ((with_reducible refine at_alloc 106 ?_); refine wpList_alloc_as rfl 106 rfl _ (zero_block _) ?_) | fail)
  refine at_world (fun W => ∃ q, q = w1.heap.size ∧ Below w.heap.size w W ∧ Blk W g 106 (bvs zeroB).toArray ∧ Blk W q 106 (bvs zeroB).toArray) ⟨_, rfl, hb1.alloc hb1.size _, hG.alloc _, Blk.new _ _ _⟩ (fun w2 h2 => ?_)
  obtain ⟨q, hq, hb2, hG2, hQ2⟩ := h2
  rw [← hq]
  have hgq : g < q := by omega
  have hwg : w.heap.size ≤ g := Nat.le_of_eq hg.symm
  clear hG hb1 hq hs1 hg
  go_wp2_with fail
  refine (put2_ok hQ2 zeroB_length (k := 0) (n := 26529) (by omega) (by omega)).mono ?_
  rintro e w3 ⟨rfl, hQ3, ht3, hs3⟩
  have hG3 := hG2.tch ht3 hG2.lt (by omega)
  have hb3 : Below w.heap.size w w3 := hb2.trans ((ht3.mono hb2.size (S' := fun _ => False) (fun k hk h => by omega)).below fun _ _ h => h)
  clear hG2 hQ2 ht3 hs3 hb2
  go_wp2_with fail
  refine (put2_ok hQ3 (by rw [put2B_length]; exact zeroB_length) (k := 2) (n := l.length) (by omega) (by omega)).mono ?_
  rintro e w4 ⟨rfl, hQ4, ht4, hs4⟩
  have hG4 := hG3.tch ht4 hG3.lt (by omega)
  have hb4 : Below w.heap.size w w4 := hb3.trans ((ht4.mono hb3.size (S' := fun _ => False) (fun k hk h => by omega)).below fun _ _ h => h)
  clear hG3 hQ3 ht4 hs4 hb3
  have HR := hide hR
  have HL := hide hl
  clear hR hl
  have hH : Hid (headB l = headGo 0 l (put2B (put2B zeroB 0 26529) 2 l.length)) := hide rfl
  have hlen0 : (put2B (put2B zeroB 0 26529) 2 l.length).length = 64 := by rw [put2B_length, put2B_length]; exact zeroB_length
  generalize (put2B (put2B zeroB 0 26529) 2 l.length) = b0 at hQ4 hH hlen0
  have H0 := hide (And.intro hQ4 (And.intro hG4 (And.intro hb4 hlen0)))
  clear hQ4 hG4 hb4 hlen0
  go_wp2_with fail
  go_loopg [13] l.length (fun gh x13 wr => ∃ (k : Nat) (b : BlkV), k ≤ l.length ∧ gh = l.length - k ∧ x13 = .int .i64 (k : Int) ∧ Below w.heap.size w wr ∧ Blk wr g 106 (bvs zeroB).toArray ∧ Blk wr q 106 (bvs b).toArray ∧ Hid (headGo k (l.drop k) b = headB l) ∧ Hid (b.length = 64))
  case atStart =>
    obtain ⟨h1, h2, h3, h4⟩ := H0.out
    exact ⟨0, b0, Nat.zero_le _, rfl, rfl, h3, h2, h1, hide hH.out.symm, hide h4⟩
  case round =>
    obtain ⟨k, b, hk, hg, rfl, hbr, hGr, hQr, HD, HBl⟩ := hrel
    have HGH := hide hg
    clear hg
    rcases Nat.lt_or_ge k l.length with hkl | hkl
    · have hkz : (k : Int) < l.length := by omega
      obtain ⟨bA, o, rfl, hbA, hc⟩ := HR.out.2 (by omega)
      have y := (hbr.cell (p := ⟨bA, o + k, none⟩) hbA).trans (hc k _ (nvs_get (List.getElem?_eq_getElem hkl)))
      have hx := HL.out _ (List.getElem_mem hkl)
      have HX : Hid (headGo (k + 1) (l.drop (k + 1)) (put2B b (4 + 2 * k) l[k]) = headB l) := hide (by
        have := HD.out
        rw [List.drop_eq_getElem_cons hkl, headGo] at this
        exact this)
      generalize l[k] = x at y hx HX
      have hx16 : IntKind.u16.wrap (x : Int) = (x : Int) := by simp [IntKind.wrap, IntKind.signed, IntKind.bits]; omega
      have bl := Nat.lt_of_lt_of_le hbA hbr.size
      clear hc HD
      have hp := put2_ok hQr HBl.out (k := 4 + 2 * k) (n := x) (by omega) hx
      rw [show ((4 + 2 * k : Nat) : Int) = 4 + 2 * (k : Int) from by omega] at hp
      have HP := hide hp
      clear hp
      go_wp2_with fail
      refine HP.out.mono ?_
      rintro e w5 ⟨rfl, hQ5, ht5, hs5⟩
      have hG5 := hGr.tch ht5 hGr.lt (by omega)
      have hb5 : Below w.heap.size w w5 := hbr.trans ((ht5.mono hbr.size (S' := fun _ => False) (fun k hk h => by omega)).below fun _ _ h => h)
      clear hs5 ht5 HP hbr hGr hQr
      go_wp2
      go_roundg (l.length - (k + 1))
      case rel => exact ⟨k + 1, _, by omega, rfl, by go_num, hb5, hG5, hQ5, HX, hide (by rw [put2B_length]; exact HBl.out)⟩
      case measure => have := HGH.out; omega
    · have hd : headGo k (l.drop k) b = b := by rw [List.drop_of_length_le hkl]; rfl
      have HE : Hid (headB l = b) := hide (by rw [← HD.out, hd])
      clear hd HD
      have hkd : decide (k < l.length) = false := by simpa using hkl
      go_wp2_with (first | ((with_reducible refine at_load 106 (.tmp 3) ?_); refine wpList_load_blk rfl 106 (.tmp 3) rfl q 106 _ _ (by rfl) hQr Tryz.underlying106 rfl (size_blockOf HBl.out) ?_) | ((with_reducible refine at_store 106 (.tmp 2) (.tmp 25) ?_); refine wpList_store_blk rfl 106 (.tmp 2) (.tmp 25) rfl g 106 _ _ (by rfl) (by rfl) hGr (size_blockOf HBl.out) (by rw [zero_size, bvs_size HBl.out]) (bvs_oneCell _) (fun hB3 => ?_)) | ((with_reducible refine at_end ?_); refine bodyPost_ret (v := bval b) (results_run1 rfl (ResV.row rfl hB3 Tryz.underlying106 rfl (size_blockOf HBl.out))) rfl ⟨by rw [HE.out], below_setRow hbr hwg _⟩) | fail)
end

/-- A log at block 1 of a disk that works. -/
structure LogAt (w : World) (ll dd rr : Nat) (D : List BlkV) : Prop where
  log : Blk w ll 190 #[.pointer (some ⟨dd, 0, none⟩), .int .i64 1]
  disk : DiskAt w dd rr D
section
variable {w w' : World} {ll dd rr : Nat} {D : List BlkV}
theorem LogAt.below (h : LogAt w ll dd rr D) (hb : Below w.heap.size w w') : LogAt w' ll dd rr D := ⟨h.log.below hb h.log.lt, h.disk.below hb⟩
theorem LogAt.nd (h : LogAt w ll dd rr D) : ll ≠ dd := by obtain ⟨_, _, hd⟩ := h.disk.disk; exact h.log.ne hd (by decide)
theorem LogAt.nr (h : LogAt w ll dd rr D) : ll ≠ rr := h.log.ne h.disk.row (by decide)

set_option maxRecDepth 100000 in
theorem open_ok (h : DiskAt w dd rr D) (hm : 32 ≤ D.length) :
    Calls Tryz.prog 129 #[.pointer (some ⟨dd, 0, none⟩), .int .i64 1] w fun e w' => ∃ ll, e = .returned (.tuple #[.pointer (some ⟨ll, 0, none⟩), .int .i64 0]) ∧ w.heap.size ≤ ll ∧ LogAt w' ll dd rr D ∧ Below w.heap.size w w' := by
  have hz : (D.length : Int) ≤ 65536 := by have := h.most; omega
  have k1 : IntKind.i64.wrap ((D.length : Int) - 1) = (D.length : Int) - 1 := IntWalk.i64_in _ (by omega)
  have k2 : IntKind.i64.wrap ((D.length : Int) - 1 - 30) = (D.length : Int) - 1 - 30 := IntWalk.i64_in _ (by omega)
  have k3 : decide ((D.length : Int) - 1 - 30 < 1) = false := by simp; omega
  go_enter Tryz.func129, Tryz.ntmps129
  go_wp2_with fail
  refine (disk_len h).mono ?_
  rintro e w1 ⟨rfl, rfl⟩
  have H := hide h
  clear h hm
  go_wp2
  go_returns
  exact ⟨w.heap.size, rfl, Nat.le_refl _, ⟨Blk.new _ _ _, H.out.below ((Below.refl _ _).alloc (Nat.le_refl _) _)⟩, (Below.refl _ _).alloc (Nat.le_refl _) _⟩

set_option maxRecDepth 100000 in
theorem format_ok (h : LogAt w ll dd rr D) (hm : 32 ≤ D.length) :
    Calls Tryz.prog 130 #[.pointer (some ⟨ll, 0, none⟩)] w fun e w' => e = .returned (.int .i64 0) ∧ LogAt w' ll dd rr (D.set 1 (headB [])) ∧ Tch w.heap.size (fun x => x = dd ∨ x = rr) w w' := by
  have c0 := h.log.cell 0
  have c1 := h.log.cell 1
  have ct := h.log.lt
  go_enter Tryz.func130, Tryz.ntmps130
  go_wp2_with fail
  refine wp_region_text [0, 0, 0, 0, 0, 0, 0, 0, 1, 2, 0] (Below w.heap.size w) (by kernel_rfl) (by kernel_rfl) (Below.refl _ _).drew ?_
  iterate 8 (refine wpOrd_q (v := ?_) (by rfl) (fun W hW => ?_) ?_; rotate_left; (focus ((obtain ⟨hWc, hWf⟩ := bcell hW; go_simp); try with_reducible rfl)); try simp only [Act.put, List.setIfInBounds_toArray, List.set_cons_zero, List.set_cons_succ])
  refine wpOrd_x (by rfl) (fun K hK => ?_)
  go_simp
  have hR0 : Rd w.drew w.drew.heap.size 1 none 0 (nvs []) := Rd.nil _ _ _ _
  refine (head_ok w.drew (l := []) hR0 (by simp) (by simp)).mono ?_
  rintro e w1 ⟨rfl, hb1⟩
  have hb1 : Below w.heap.size w w1 := (Below.refl _ _).drew.trans hb1
  refine hK _ _ _ (fun _ h => h) hb1 ?_
  clear hK K
  try simp only [Act.put, List.setIfInBounds_toArray, List.set_cons_zero, List.set_cons_succ]
  have h1 := h.below hb1
  refine wpOrd_b (by rfl) (fun K hK => ?_)
  go_simp
  refine (disk_write h1.disk (k := 1) (by omega) (headB_length [])).mono ?_
  rintro e w2 ⟨rfl, hd2, ht2⟩
  refine hK (fun _ => True) _ _ trivial ?_
  clear hK K
  try simp only [Act.put, List.setIfInBounds_toArray, List.set_cons_zero, List.set_cons_succ]
  iterate 1 (refine wpOrd_q (v := ?_) (by rfl) (fun W hW => ?_) ?_; rotate_left; (focus (go_simp; try with_reducible rfl)); try simp only [Act.put, List.setIfInBounds_toArray, List.set_cons_zero, List.set_cons_succ])
  refine wpOrd_nil ?_
  have hl2 : Blk w2 ll 190 #[.pointer (some ⟨dd, 0, none⟩), .int .i64 1] := h1.log.tch ht2 h1.log.lt (by rintro (e | e); exact h1.nd e; exact h1.nr e)
  have H := hide (And.intro hd2 (And.intro hl2 ((Tch.of_below hb1).trans (ht2.mono hb1.size fun _ _ h => h))))
  clear hd2 hl2 ht2 hb1 h1 h
  go_wp2
  go_returns
  exact ⟨rfl, ⟨H.out.2.1, H.out.1⟩, H.out.2.2⟩
end

/-- where a transaction lies: itself, its map, its log, its disk, that one's row -/
structure Ids where
  tt : Nat
  mm : Nat
  ll : Nat
  dd : Nat
  rr : Nat
/-- what a transaction's calls write -/
def Ids.own (i : Ids) (k : Nat) : Prop := k = i.tt ∨ k = i.mm ∨ k = i.dd ∨ k = i.rr

/-- A transaction on a disk that works. -/
structure TxAt (w : World) (i : Ids) (s : Sto) : Prop where
  txn : Blk w i.tt 183 #[.pointer (some ⟨i.ll, 0, none⟩), .map (some i.mm), .int .i64 s.bad]
  map : MapR nkv w i.mm (dm s.M)
  log : LogAt w i.ll i.dd i.rr s.D
  ok : s.Ok
section
variable {w w' : World} {i : Ids} {s : Sto}
theorem TxAt.below (h : TxAt w i s) (hb : Below w.heap.size w w') : TxAt w' i s := ⟨h.txn.below hb h.txn.lt, h.map.below hb h.map.lt, h.log.below hb, h.ok⟩
theorem TxAt.ntd (h : TxAt w i s) : i.tt ≠ i.dd := by obtain ⟨_, _, hd⟩ := h.log.disk.disk; exact h.txn.ne hd (by decide)
theorem TxAt.ntr (h : TxAt w i s) : i.tt ≠ i.rr := h.txn.ne h.log.disk.row (by decide)
theorem TxAt.ntm (h : TxAt w i s) : i.tt ≠ i.mm := h.txn.ne_map h.map.is
theorem TxAt.ntl (h : TxAt w i s) : i.tt ≠ i.ll := h.txn.ne h.log.log (by decide)
theorem TxAt.nmd (h : TxAt w i s) : i.mm ≠ i.dd := by obtain ⟨_, _, hd⟩ := h.log.disk.disk; exact (hd.ne_map h.map.is).symm
theorem TxAt.nmr (h : TxAt w i s) : i.mm ≠ i.rr := (h.log.disk.row.ne_map h.map.is).symm
theorem TxAt.nml (h : TxAt w i s) : i.mm ≠ i.ll := (h.log.log.ne_map h.map.is).symm
/-- a block of another element type is none of its own -/
theorem TxAt.other {g : Nat} {t : TypeId} {cs : Array Value} (h : TxAt w i s) (hB : Blk w g t cs) (h1 : t ≠ 183) (h2 : t ≠ 248) (h3 : t ≠ 106) : ¬ i.own g := by
  obtain ⟨_, _, hd⟩ := h.log.disk.disk
  rintro (e | e | e | e)
  · exact hB.ne h.txn h1 e
  · exact hB.ne_map h.map.is e
  · exact hB.ne hd h2 e
  · exact hB.ne h.log.disk.row h3 e
theorem TxAt.other_new {g : Nat} (h : TxAt w i s) (hg : w.heap.size ≤ g) : ¬ i.own g := by
  have a1 := h.txn.lt
  have a2 := h.map.lt
  have a3 := h.log.disk.dlt
  have a4 := h.log.disk.row.lt
  rintro (e | e | e | e) <;> omega

theorem nEnc : KeyEnc Tryz.prog 3 nkv where
  keyed := Go.Maps.int_keyed Tryz.underlying3
  reads a := ⟨_, Go.Maps.keyOf_int_mk Tryz.underlying3 (by
    have := a.isLt
    simp [Lit.wf, IntKind.min, IntKind.max, IntKind.signed, IntKind.bits]
    omega)⟩
  inj a b h := by
    simp only [nkv, Value.int.injEq, true_and] at h
    exact Fin.ext (by omega)

set_option maxRecDepth 100000 in
theorem begin_ok {ll dd rr : Nat} {D : List BlkV} (h : LogAt w ll dd rr D) (hm : 32 ≤ D.length) :
    Calls Tryz.prog 20 #[.pointer (some ⟨ll, 0, none⟩)] w fun e w' => ∃ tt mm, e = .returned (.pointer (some ⟨tt, 0, none⟩)) ∧ w.heap.size ≤ tt ∧ w.heap.size ≤ mm ∧ TxAt w' ⟨tt, mm, ll, dd, rr⟩ ⟨D, [], 0⟩ ∧ Below w.heap.size w w' := by
  have hmm := @run_makeMap Tryz.prog
  go_enter Tryz.func20, Tryz.ntmps20
  go_wp2_with fail
  go_returns
  have hb : Below w.heap.size w ((w.alloc (.map #[] 0)).alloc (.cells #[.pointer (some ⟨ll, 0, none⟩), .map (some w.heap.size), .int .i64 0] 183)) := ((Below.refl _ _).alloc (Nat.le_refl _) _).alloc (by simp) _
  have hB : Blk ((w.alloc (.map #[] 0)).alloc (.cells #[.pointer (some ⟨ll, 0, none⟩), .map (some w.heap.size), .int .i64 0] 183)) (w.heap.size + 1) 183 #[.pointer (some ⟨ll, 0, none⟩), .map (some w.heap.size), .int .i64 0] := by
    have := Blk.new (w.alloc (.map #[] 0)) 183 #[.pointer (some ⟨ll, 0, none⟩), .map (some w.heap.size), .int .i64 0]
    simpa using this
  refine ⟨_, w.heap.size, rfl, by omega, Nat.le_refl _, ⟨hB, ?_, h.below hb, ?_⟩, hb⟩
  · exact (MapR.made w nkv).below ((Below.refl _ _).alloc (Nat.le_refl _) _) (by simp)
  · exact ⟨h.disk.len, by simp, by simp, hm, h.disk.most, by simp, by simp, by simp⟩
end
end Go.Proofs.YthmkgohfeahdhaaGreat
namespace Go.Proofs.YthmkgohfeahdhaaGreat
open Go.RowKit
set_option linter.unusedSimpArgs false
set_option linter.unusedVariables false

section
variable {w w' : World} {i : Ids} {s : Sto}
theorem Tch.own_dd {B : Nat} (h : Tch B (· = i.dd) w w') : Tch B i.own w w' := h.sub fun k hk => .inr (.inr (.inl hk))
/-- what a disk's call leaves of a transaction -/
theorem TxAt.disk_step (h : TxAt w i s) (hd : DiskAt w' i.dd i.rr s.D) (ht : Tch w.heap.size (fun x => x = i.dd ∨ x = i.rr) w w') : TxAt w' i s :=
  ⟨h.txn.tch ht h.txn.lt (by rintro (e | e); exact h.ntd e; exact h.ntr e), h.map.keep (ht.block _ h.map.lt (by rintro (e | e); exact h.nmd e; exact h.nmr e)),
    ⟨h.log.log.tch ht h.log.log.lt (by rintro (e | e); exact h.log.nd e; exact h.log.nr e), hd⟩, h.ok⟩

set_option maxRecDepth 100000 in
set_option maxHeartbeats 800000 in
theorem get_ok (h : TxAt w i s) {k : Nat} (hk : k < s.D.length) :
    Calls Tryz.prog 112 #[.pointer (some ⟨i.tt, 0, none⟩), .int .i64 (k : Int)] w fun e w' => e = .returned (.tuple #[bval (s.at_ k), .int .i64 0]) ∧ TxAt w' i s ∧ Tch w.heap.size (· = i.dd) w w' := by
  have hk16 : k < 65536 := Nat.lt_of_lt_of_le hk h.ok.most
  have HKV := hide (show (.int .i64 (k : Int) : Value) = nkv (nk k) from (nkv_nk hk16).symm)
  have hdg := dm_get h.ok.small hk16
  have hkz : decide ((k : Int) < 0) = false := by simp
  go_enter Tryz.func112, Tryz.ntmps112
  go_upto_region 1 with (first | (refine wpList_alloc_as rfl 106 rfl _ (zero_block _) ?_) | fail)
  refine at_world (fun W => ∃ g, g = w.heap.size ∧ Below w.heap.size w W ∧ Blk W g 106 (bvs zeroB).toArray ∧ W.heap.size = g + 1) ⟨_, rfl, (Below.refl _ _).alloc (Nat.le_refl _) _, Blk.new _ _ _, by simp⟩ (fun w1 h1 => ?_)
  obtain ⟨g, hg, hb1, hG, hs1⟩ := h1
  rw [← hg]
  have hx1 := h.below hb1
  have c0 := hx1.txn.cell 0
  have c1 := hx1.txn.cell 1
  have cl := hx1.txn.lt
  have hwg : w.heap.size ≤ g := Nat.le_of_eq hg.symm
  have hgz : g < w1.heap.size := by omega
  have HX := hide hx1
  have HB1 := hide hb1
  have HM := hide hx1.map.is
  clear hg hs1 hx1 hb1
  cases hm : mget s.M k with
  | some b =>
    have hb64 : b.length = 64 := h.ok.mlen _ (mget_mem hm)
    have HAT : Hid (s.at_ k = b) := hide (by simp [Sto.at_, hm])
    have hv : (if true = true then .tuple #[(mget (dm s.M) (nk k)).getD (.agg (bvs zeroB).toArray), .bool (mget (dm s.M) (nk k)).isSome] else (mget (dm s.M) (nk k)).getD (.agg (bvs zeroB).toArray)) = Value.tuple #[bval b, .bool true] := by rw [hdg, hm]; rfl
    have HV := hide hv
    have HB := hide hb64
    have H := hide h
    clear hv hdg hm h hb64
    go_upto_region 4 with (first | ((with_reducible refine at_look 181 (.tmp 15) (.tmp 16) true ?_); refine wpList_lookup_map rfl 181 (.tmp 15) (.tmp 16) true rfl (nk k) (by rfl) HKV.out HM.out nEnc Tryz.underlying181 (zero_block _) _ HV.out ?_) | ((with_reducible refine at_alloc 106 ?_); refine wpList_alloc_as rfl 106 rfl _ (zero_block _) ?_) | ((with_reducible refine at_store 106 (.tmp 6) (.tmp 18) ?_); refine wpList_store_blk rfl 106 (.tmp 6) (.tmp 18) rfl w1.heap.size 106 _ _ (by rfl) (by rfl) (Blk.new _ _ _) (size_blockOf HB.out) ((bvs_size zeroB_length).trans (bvs_size HB.out).symm) (bvs_oneCell _) (fun _ => ?_)) | fail)
    refine at_world (fun W => ∃ q, q = w1.heap.size ∧ Below w.heap.size w W ∧ Blk W g 106 (bvs zeroB).toArray ∧ Blk W q 106 (bvs b).toArray) ⟨_, rfl, below_setRow (HB1.out.alloc HB1.out.size _) (by have := HB1.out.size; omega) _, (hG.alloc _).setRow_far (by omega) _, (Blk.new _ _ _).setRow_same _⟩ (fun w2 h2 => ?_)
    obtain ⟨q, hq, hb2, hG2, hQ2⟩ := h2
    rw [← hq]
    have HX2 := hide (And.intro hb2 (And.intro hwg hq))
    clear hb2 hq hG HM HX c0 c1
    go_wp2_with (first | ((with_reducible refine at_load 106 (.tmp 6) ?_); refine wpList_load_blk rfl 106 (.tmp 6) rfl q 106 _ _ (by rfl) hQ2 Tryz.underlying106 rfl (size_blockOf HB.out) ?_) | ((with_reducible refine at_store 106 (.tmp 4) (.tmp 21) ?_); refine wpList_store_blk rfl 106 (.tmp 4) (.tmp 21) rfl g 106 _ _ (by rfl) (by rfl) hG2 (size_blockOf HB.out) ((bvs_size zeroB_length).trans (bvs_size HB.out).symm) (bvs_oneCell _) (fun hB3 => ?_)) | ((with_reducible refine at_end ?_); refine bodyPost_ret (v := .tuple #[bval b, .int .i64 0]) (results_run2 rfl (ResV.row rfl hB3 Tryz.underlying106 rfl (size_blockOf HB.out)) rfl) rfl ⟨by rw [HAT.out], ?_, ?_⟩) | fail)
    · exact H.out.below (below_setRow HX2.out.1 HX2.out.2.1 _)
    · exact Tch.of_below (below_setRow HX2.out.1 HX2.out.2.1 _)
  | none =>
    have hD : s.D[k]? = some (s.D[k]'hk) := List.getElem?_eq_getElem hk
    have hb64 : (s.D[k]'hk).length = 64 := h.ok.dlen _ (List.getElem_mem hk)
    have HAT : Hid (s.at_ k = s.D[k]'hk) := hide (by simp [Sto.at_, hm, List.getD_eq_getElem?_getD, hD])
    generalize s.D[k]'hk = b at hD hb64 HAT
    have hv : (if true = true then .tuple #[(mget (dm s.M) (nk k)).getD (.agg (bvs zeroB).toArray), .bool (mget (dm s.M) (nk k)).isSome] else (mget (dm s.M) (nk k)).getD (.agg (bvs zeroB).toArray)) = Value.tuple #[bval zeroB, .bool false] := by rw [hdg, hm]; rfl
    have HV := hide hv
    have HB := hide hb64
    have HD := hide hD
    have H := hide h
    clear hv hdg hm h hb64 hD
    go_upto_region 4 with (first | ((with_reducible refine at_look 181 (.tmp 15) (.tmp 16) true ?_); refine wpList_lookup_map rfl 181 (.tmp 15) (.tmp 16) true rfl (nk k) (by rfl) HKV.out HM.out nEnc Tryz.underlying181 (zero_block _) _ HV.out ?_) | ((with_reducible refine at_alloc 106 ?_); refine wpList_alloc_as rfl 106 rfl _ (zero_block _) ?_) | ((with_reducible refine at_store 106 (.tmp 6) (.tmp 18) ?_); refine wpList_store_blk rfl 106 (.tmp 6) (.tmp 18) rfl w1.heap.size 106 _ _ (by rfl) (by rfl) (Blk.new _ _ _) (size_blockOf zeroB_length) ((bvs_size zeroB_length).trans (bvs_size zeroB_length).symm) (bvs_oneCell _) (fun _ => ?_)) | fail)
    refine at_world (fun W => Below w.heap.size w W ∧ Blk W g 106 (bvs zeroB).toArray ∧ TxAt W i s) ⟨below_setRow (HB1.out.alloc HB1.out.size _) (by have := HB1.out.size; omega) _, (hG.alloc _).setRow_far (by omega) _, HX.out.below (below_setRow ((Below.refl _ _).alloc (Nat.le_refl _) _) (Nat.le_refl _) _)⟩ (fun w2 h2 => ?_)
    obtain ⟨hb2, hG2, hx2⟩ := h2
    clear hG HM HX c0 c1 cl
    have c0 := hx2.txn.cell 0
    have c1 := hx2.txn.cell 1
    have cl := hx2.txn.lt
    have e0 := hx2.log.log.cell 0
    have el := hx2.log.log.lt
    have HB2 := hide hb2
    have HX2 := hide hx2
    clear hb2 hx2
    go_wp2_with fail
    refine (disk_read HX2.out.log.disk HD.out).mono ?_
    rintro e w3 ⟨rfl, hd3, ht3⟩
    have hx3 : TxAt w3 i s := HX2.out.disk_step hd3 (ht3.sub fun _ h => .inl h)
    have hgd : g ≠ i.dd := by have := H.out.log.disk.dlt; omega
    have hG3 := hG2.tch ht3 hG2.lt hgd
    have hng : w.heap.size ≤ w3.heap.size := Nat.le_trans HB2.out.size ht3.size
    have HT := hide (And.intro hx3 (And.intro ((Tch.of_below HB2.out).trans (ht3.mono HB2.out.size fun _ _ h => h)) hgd))
    have HG2 := hide hG2
    clear hG2 hd3 ht3 hx3 c0 c1 cl e0 el
    go_wp2_with (first | ((with_reducible refine at_store 106 (.tmp 4) (.tmp 31) ?_); refine wpList_store_blk rfl 106 (.tmp 4) (.tmp 31) rfl g 106 _ _ (by rfl) (by rfl) hG3 (size_blockOf HB.out) ((bvs_size zeroB_length).trans (bvs_size HB.out).symm) (bvs_oneCell _) (fun hB3 => ?_)) | ((with_reducible refine at_end ?_); refine bodyPost_ret (v := .tuple #[bval b, .int .i64 0]) (results_run2 rfl (ResV.row rfl hB3 Tryz.underlying106 rfl (size_blockOf HB.out)) rfl) rfl ⟨by rw [HAT.out], ?_, ?_⟩) | fail)
    · obtain ⟨hx3, ht, hgd⟩ := HT.out
      have a1 := H.out.txn.lt
      have a2 := H.out.map.lt
      have a3 := H.out.log.log.lt
      have a4 := H.out.log.disk.row.lt
      have a5 := H.out.log.disk.dlt
      exact ⟨hx3.txn.setRow_far (by omega) _, hx3.map.keep (setRow_other _ _ _ _ (by omega)), ⟨hx3.log.log.setRow_far (by omega) _, hx3.log.disk.keep (setRow_other _ _ _ _ (by omega)) (setRow_other _ _ _ _ (by omega))⟩, hx3.ok⟩
    · exact HT.out.2.1.trans (Tch.setRow fun hp => absurd hp (by omega))


/-- may a block be written through a transaction? -/
theorem Ids.own_tt {k : Nat} (h : k = i.tt) : i.own k := .inl h
theorem Ids.own_mm {k : Nat} (h : k = i.mm) : i.own k := .inr (.inl h)

set_option maxRecDepth 100000 in
set_option maxHeartbeats 800000 in
theorem put_ok (h : TxAt w i s) {k : Nat} {b : BlkV} (hb : b.length = 64) (hk : k < s.D.length) (hf : Sto.free k) (hm : (mget s.M k).isSome = true ∨ s.M.length < 30) :
    Calls Tryz.prog 134 #[.pointer (some ⟨i.tt, 0, none⟩), .int .i64 (k : Int), bval b] w fun e w' => e = .returned (.int .i64 0) ∧ TxAt w' i (s.put k b) ∧ Tch w.heap.size (· = i.mm) w w' := by
  have hk16 : k < 65536 := Nat.lt_of_lt_of_le hk h.ok.most
  have HKV := hide (show (.int .i64 (k : Int) : Value) = nkv (nk k) from (nkv_nk hk16).symm)
  have hdg := dm_get h.ok.small hk16
  have k0 : decide ((k : Int) < 0) = false := by simp
  have k1 : decide (s.D.length ≤ k) = false := by simpa using hk
  have k31 : IntKind.i64.wrap (1 + 30) = 31 := rfl
  have hf2 : decide (1 ≤ (k : Int)) = false ∨ (decide (1 ≤ (k : Int)) = true ∧ decide ((k : Int) ≤ 31) = false) := by
    rcases hf with h0 | h0
    · left; simp; omega
    · right; simp; omega
  rcases hf2 with h9 | ⟨h9, h10⟩
  all_goals
    go_enter Tryz.func134, Tryz.ntmps134
    go_upto_region 1 with (fail)
    refine at_world (fun W => ∃ g, g = w.heap.size ∧ Below w.heap.size w W ∧ Blk W g 106 (bvs b).toArray ∧ W.heap.size = g + 1) ⟨_, rfl, (Below.refl _ _).alloc (Nat.le_refl _) _, Blk.new _ _ _, by simp⟩ (fun w1 h1 => ?_)
    obtain ⟨g, hg, hb1, hG, hs1⟩ := h1
    rw [← hg]
    have hx1 := h.below hb1
    have c0 := hx1.txn.cell 0
    have c1 := hx1.txn.cell 1
    have cl := hx1.txn.lt
    have e0 := hx1.log.log.cell 0
    have e1 := hx1.log.log.cell 1
    have el := hx1.log.log.lt
    have hwg : w.heap.size ≤ g := Nat.le_of_eq hg.symm
    have HLN := hide hx1.log.disk
    have HX := hide hx1
    have HB1 := hide hb1
    clear hg hs1 hx1 hb1
    have HF := hide hf
    have HM := hide hm
    have HDG := hide hdg
    clear hf hm hdg
    go_wp2_with fail
    refine (disk_len HLN.out).mono ?_
    rintro e w' ⟨rfl, rfl⟩
    go_upto_region 5 with (fail)
    cases hmm : mget s.M k with
    | some b' =>
      have hb' : b'.length = 64 := h.ok.mlen _ (mget_mem hmm)
      have hv : (if true = true then .tuple #[(mget (dm s.M) (nk k)).getD (.agg (bvs zeroB).toArray), .bool (mget (dm s.M) (nk k)).isSome] else (mget (dm s.M) (nk k)).getD (.agg (bvs zeroB).toArray)) = Value.tuple #[bval b', .bool true] := by rw [HDG.out, hmm]; rfl
      have HV := hide hv
      have HB := hide hb'
      have H := hide h
      clear hv hmm h hb'
      go_upto_region 6 with (first | ((with_reducible refine at_look 181 (.tmp 56) (.tmp 57) true ?_); refine wpList_lookup_map rfl 181 (.tmp 56) (.tmp 57) true rfl (nk k) (by rfl) HKV.out HX.out.map.is nEnc Tryz.underlying181 (zero_block _) _ HV.out ?_) | ((with_reducible refine at_alloc 106 ?_); refine wpList_alloc_as rfl 106 rfl _ (zero_block _) ?_) | ((with_reducible refine at_store 106 (.tmp 7) (.tmp 59) ?_); refine wpList_store_blk rfl 106 (.tmp 7) (.tmp 59) rfl w1.heap.size 106 _ _ (by rfl) (by rfl) (Blk.new _ _ _) (size_blockOf HB.out) ((bvs_size zeroB_length).trans (bvs_size HB.out).symm) (bvs_oneCell _) (fun _ => ?_)) | fail)
      refine at_world (fun W => Below w.heap.size w W ∧ Blk W g 106 (bvs b).toArray ∧ TxAt W i s) ⟨below_setRow (HB1.out.alloc HB1.out.size _) HB1.out.size _, (hG.alloc _).setRow_far (Nat.ne_of_lt hG.lt) _, HX.out.below (below_setRow ((Below.refl _ _).alloc (Nat.le_refl _) _) (Nat.le_refl _) _)⟩ (fun w2 h2 => ?_)
      obtain ⟨hb2, hG2, hx2⟩ := h2
      clear hG HX c0 c1 cl e0 e1 el HLN
      have c0 := hx2.txn.cell 0
      have c1 := hx2.txn.cell 1
      have cl := hx2.txn.lt
      have HX2 := hide (And.intro hb2 hx2)
      clear hb2 hx2
      go_upto_region 8 with (fail)
      refine wp_region_text [0, 0, 0, 0, 0, 0, 2] (· = w2.drew) (by kernel_rfl) (by kernel_rfl) rfl ?_
      iterate 5 (refine wpOrd_q (v := ?_) (by rfl) (fun W hW => ?_) ?_; rotate_left; (focus ((cases hW; go_simp); try with_reducible rfl)); try simp only [Act.put, List.setIfInBounds_toArray, List.set_cons_zero, List.set_cons_succ])
      refine wpOrd_q (v := .agg (bvs b).toArray) (by rfl) (fun W hW => by cases hW; exact exec_load_blk 106 (.tmp 5) rfl g _ (bvs b).toArray _ rfl hG2.drew Tryz.underlying106 rfl (size_blockOf hb)) ?_
      try simp only [Act.put, List.setIfInBounds_toArray, List.set_cons_zero, List.set_cons_succ]
      refine wpOrd_b (by rfl) (fun K hK => ?_)
      refine wp_update_map 181 (.tmp 76) (.tmp 77) (.tmp 78) rfl (nk k) (bval b) (by rfl) HKV.out (by rfl) (HX2.out.2.map.keep rfl) nEnc Tryz.underlying181 (fun w3 hm3 ho3 => ?_)
      refine hK (fun _ => True) _ _ trivial (wpOrd_nil ?_)
      have HU := hide (And.intro hm3 ho3)
      clear hm3 ho3 hK K c0 c1 cl
      go_wp2
      go_returns
      obtain ⟨hb2, hx2⟩ := HX2.out
      obtain ⟨hm3, ho3⟩ := HU.out
      have hg3 := ho3.1
      rw [dm_put H.out.ok.small hk16] at hm3
      have a1 := hx2.txn.lt
      have a2 := hx2.log.log.lt
      have a3 := hx2.log.disk.dlt
      have a4 := hx2.log.disk.row.lt
      refine ⟨rfl, ⟨(hg3.block _ a1 (fun e => hx2.ntm (Option.some.inj e))).trans hx2.txn, hm3, ⟨(hg3.block _ a2 (fun e => hx2.nml (Option.some.inj e).symm)).trans hx2.log.log, hx2.log.disk.keep (hg3.block _ a3 (fun e => hx2.nmd (Option.some.inj e).symm)) (hg3.block _ a4 (fun e => hx2.nmr (Option.some.inj e).symm))⟩, H.out.ok.put hb hk HF.out HM.out⟩, ?_⟩
      exact ((Tch.of_below hb2).drew).trans (Tch.of_only (w := w2.drew) ho3 hb2.size)
    | none =>
      have hv : (if true = true then .tuple #[(mget (dm s.M) (nk k)).getD (.agg (bvs zeroB).toArray), .bool (mget (dm s.M) (nk k)).isSome] else (mget (dm s.M) (nk k)).getD (.agg (bvs zeroB).toArray)) = Value.tuple #[bval zeroB, .bool false] := by rw [HDG.out, hmm]; rfl
      have hlm : s.M.length < 30 := by rcases HM.out with h | h; rw [hmm] at h; cases h; exact h
      have hl30 : ((s.M.length : Int) == 30) = false := by simp; omega
      have HV := hide hv
      have H := hide h
      clear hv hmm h hlm
      go_upto_region 6 with (first | ((with_reducible refine at_look 181 (.tmp 56) (.tmp 57) true ?_); refine wpList_lookup_map rfl 181 (.tmp 56) (.tmp 57) true rfl (nk k) (by rfl) HKV.out HX.out.map.is nEnc Tryz.underlying181 (zero_block _) _ HV.out ?_) | ((with_reducible refine at_alloc 106 ?_); refine wpList_alloc_as rfl 106 rfl _ (zero_block _) ?_) | ((with_reducible refine at_store 106 (.tmp 7) (.tmp 59) ?_); refine wpList_store_blk rfl 106 (.tmp 7) (.tmp 59) rfl w1.heap.size 106 _ _ (by rfl) (by rfl) (Blk.new _ _ _) (size_blockOf zeroB_length) ((bvs_size zeroB_length).trans (bvs_size zeroB_length).symm) (bvs_oneCell _) (fun _ => ?_)) | fail)
      refine at_world (fun W => Below w.heap.size w W ∧ Blk W g 106 (bvs b).toArray ∧ TxAt W i s) ⟨below_setRow (HB1.out.alloc HB1.out.size _) HB1.out.size _, (hG.alloc _).setRow_far (Nat.ne_of_lt hG.lt) _, HX.out.below (below_setRow ((Below.refl _ _).alloc (Nat.le_refl _) _) (Nat.le_refl _) _)⟩ (fun w2 h2 => ?_)
      obtain ⟨hb2, hG2, hx2⟩ := h2
      clear hG HX c0 c1 cl e0 e1 el HLN
      have c0 := hx2.txn.cell 0
      have c1 := hx2.txn.cell 1
      have cl := hx2.txn.lt
      have hl := hx2.map.is.len Tryz.underlying181 3
      rw [dm_length] at hl
      have HX2 := hide (And.intro hb2 hx2)
      clear hb2 hx2
      go_upto_region 8 with (fail)
      refine wp_region_text [0, 0, 0, 0, 0, 0, 2] (· = w2.drew) (by kernel_rfl) (by kernel_rfl) rfl ?_
      iterate 5 (refine wpOrd_q (v := ?_) (by rfl) (fun W hW => ?_) ?_; rotate_left; (focus ((cases hW; go_simp); try with_reducible rfl)); try simp only [Act.put, List.setIfInBounds_toArray, List.set_cons_zero, List.set_cons_succ])
      refine wpOrd_q (v := .agg (bvs b).toArray) (by rfl) (fun W hW => by cases hW; exact exec_load_blk 106 (.tmp 5) rfl g _ (bvs b).toArray _ rfl hG2.drew Tryz.underlying106 rfl (size_blockOf hb)) ?_
      try simp only [Act.put, List.setIfInBounds_toArray, List.set_cons_zero, List.set_cons_succ]
      refine wpOrd_b (by rfl) (fun K hK => ?_)
      refine wp_update_map 181 (.tmp 76) (.tmp 77) (.tmp 78) rfl (nk k) (bval b) (by rfl) HKV.out (by rfl) (HX2.out.2.map.keep rfl) nEnc Tryz.underlying181 (fun w3 hm3 ho3 => ?_)
      refine hK (fun _ => True) _ _ trivial (wpOrd_nil ?_)
      have HU := hide (And.intro hm3 ho3)
      clear hm3 ho3 hK K c0 c1 cl hl
      go_wp2
      go_returns
      obtain ⟨hb2, hx2⟩ := HX2.out
      obtain ⟨hm3, ho3⟩ := HU.out
      have hg3 := ho3.1
      rw [dm_put H.out.ok.small hk16] at hm3
      have a1 := hx2.txn.lt
      have a2 := hx2.log.log.lt
      have a3 := hx2.log.disk.dlt
      have a4 := hx2.log.disk.row.lt
      refine ⟨rfl, ⟨(hg3.block _ a1 (fun e => hx2.ntm (Option.some.inj e))).trans hx2.txn, hm3, ⟨(hg3.block _ a2 (fun e => hx2.nml (Option.some.inj e).symm)).trans hx2.log.log, hx2.log.disk.keep (hg3.block _ a3 (fun e => hx2.nmd (Option.some.inj e).symm)) (hg3.block _ a4 (fun e => hx2.nmr (Option.some.inj e).symm))⟩, H.out.ok.put hb hk HF.out HM.out⟩, ?_⟩
      exact ((Tch.of_below hb2).drew).trans (Tch.of_only (w := w2.drew) ho3 hb2.size)

/-- a block from behind a transaction, written -/
theorem TxAt.setRow_new {g : Nat} (h0 : TxAt w i s) (hg : w.heap.size ≤ g) {s' : Sto} (h : TxAt w' i s') (c : Array Value) : TxAt (w'.setRow g c) i s' := by
  have a1 := h0.txn.lt
  have a2 := h0.map.lt
  have a3 := h0.log.log.lt
  have a4 := h0.log.disk.row.lt
  have a5 := h0.log.disk.dlt
  exact ⟨h.txn.setRow_far (by omega) _, h.map.keep (setRow_other _ _ _ _ (by omega)), ⟨h.log.log.setRow_far (by omega) _, h.log.disk.keep (setRow_other _ _ _ _ (by omega)) (setRow_other _ _ _ _ (by omega))⟩, h.ok⟩
end
end Go.Proofs.YthmkgohfeahdhaaGreat
namespace Go.Proofs.YthmkgohfeahdhaaGreat
open Go.RowKit
set_option linter.unusedSimpArgs false
set_option linter.unusedVariables false

/-- a bit of a block -/
def bitB (b : BlkV) (j : Nat) : Bool := (b.getD (j / 8) 0).toNat.testBit (j % 8)
/-- that bit turned -/
def flipB (b : BlkV) (j : Nat) : BlkV := b.set (j / 8) (UInt8.ofNat ((b.getD (j / 8) 0).toNat ^^^ 2 ^ (j % 8)))
theorem and_pow (x : UInt8) {j : Nat} (hj : j < 8) : x.toNat &&& 2 ^ j = if x.toNat.testBit j then 2 ^ j else 0 := by
  have hn : 2 ^ j < 256 := Nat.pow_lt_pow_right (by decide) hj
  apply Nat.eq_of_testBit_eq
  intro k
  rw [Nat.testBit_and, Nat.testBit_two_pow]
  by_cases h : j = k
  · subst h
    cases hx : x.toNat.testBit j
    · simp
    · simp
  · cases hx : x.toNat.testBit j
    · simp [h]
    · simp [h]

/-- a bit of a map from block f on -/
def Sto.bit (s : Sto) (f k : Nat) : Bool := bitB (s.at_ (f + k / 512)) (k % 512)

theorem i64_small (n : Int) (h0 : 0 ≤ n) (h1 : n < 2 ^ 63) : IntKind.i64.wrap n = n := IntWalk.i64_in _ (by omega)
theorem and63 (k : Nat) (hk : k < 2 ^ 62) : bits BinOp.and IntKind.i64 ((k : Int) / 8) 63 = ((k / 8 % 64 : Nat) : Int) := by
  have := bits_mask .i64 63 (by decide) i64_small 6 (by decide) ((k : Int) / 8) (by omega) (by omega)
  rw [show ((2 : Int) ^ 6 - 1) = 63 from rfl, show ((2 : Int) ^ 6) = 64 from rfl] at this
  rw [this]; omega
theorem and7 (k : Nat) (hk : k < 2 ^ 62) : bits BinOp.and IntKind.i64 (k : Int) 7 = ((k % 8 : Nat) : Int) := by
  have := bits_mask .i64 63 (by decide) i64_small 3 (by decide) (k : Int) (by omega) (by omega)
  rw [show ((2 : Int) ^ 3 - 1) = 7 from rfl, show ((2 : Int) ^ 3) = 8 from rfl] at this
  rw [this]; omega
theorem shl1 {j : Nat} (hj : j < 8) : IntKind.u8.wrap ((2 : Int) ^ min j 8) = ((2 ^ j : Nat) : Int) := by
  have : ∀ j : Fin 8, IntKind.u8.wrap ((2 : Int) ^ min j.val 8) = ((2 ^ j.val : Nat) : Int) := by decide
  exact this ⟨j, hj⟩
theorem and8 {a b : Nat} (ha : a < 256) (hb : b < 256) : bits BinOp.and IntKind.u8 (a : Int) (b : Int) = ((a &&& b : Nat) : Int) :=
  (bits_nat .u8 8 (by decide) (fun n h0 h1 => wraps_u8 n h0 h1) a b ha hb).1
theorem pow8 {j : Nat} (hj : j < 8) : 2 ^ j < 256 := Nat.pow_lt_pow_right (n := 8) (by decide) hj

section
variable {w w' : World} {i : Ids} {s : Sto}
/-- a map of bits over a transaction -/
def BitsAt (w : World) (bm tt f m : Nat) : Prop := Blk w bm 283 #[.iface 33 (.pointer (some ⟨tt, 0, none⟩)), .int .i64 (f : Int), .int .i64 (m : Int)]
theorem bits_new (tt : Nat) {f m : Nat} (hf : f ≤ 65536) (hm : m ≤ 65536) (w : World) :
    Calls Tryz.prog 150 #[.pointer (some ⟨tt, 0, none⟩), .int .i64 (f : Int), .int .i64 (m : Int)] w fun e w' => ∃ bm, e = .returned (.tuple #[.pointer (some ⟨bm, 0, none⟩), .int .i64 0]) ∧ w.heap.size ≤ bm ∧ BitsAt w' bm tt f m ∧ Below w.heap.size w w' := by
  have k0 : decide ((f : Int) < 0) = false := by simp
  have k1 : decide ((65536 : Int) < f) = false := by simp; omega
  have k2 : decide ((m : Int) < 0) = false := by simp
  have k3 : decide ((65536 : Int) < m) = false := by simp; omega
  go_enter Tryz.func150, Tryz.ntmps150
  go_wp2
  go_returns
  exact ⟨w.heap.size, rfl, Nat.le_refl _, Blk.new _ _ _, (Below.refl _ _).alloc (Nat.le_refl _) _⟩

theorem place_ok {bm tt f m k : Nat} (hB : BitsAt w bm tt f m) (hf : f ≤ 65536) (hk : k ≤ 65536) :
    Calls Tryz.prog 170 #[.pointer (some ⟨bm, 0, none⟩), .int .i64 (k : Int)] w fun e w' => e = .returned (.tuple #[.int .i64 ((f + k / 512 : Nat) : Int), .int .i64 ((k / 8 % 64 : Nat) : Int), .int .u8 ((2 ^ (k % 8) : Nat) : Int)]) ∧ Below w.heap.size w w' := by
  have e1 : IntKind.i64.wrap ((f : Int) + (k : Int) / 512) = ((f + k / 512 : Nat) : Int) := by rw [IntWalk.i64_in _ (by omega)]; omega
  have e2 := and63 k (by omega)
  have e3 := and7 k (by omega)
  have e4 := shl1 (j := k % 8) (Nat.mod_lt _ (by decide))
  generalize f + k / 512 = n1 at e1 ⊢
  generalize k / 8 % 64 = n2 at e2 ⊢
  generalize 2 ^ (k % 8) = n4 at e4 ⊢
  generalize k % 8 = n3 at e3 e4
  have c1 := hB.cell 1
  have cl := hB.lt
  go_enter Tryz.func170, Tryz.ntmps170
  go_wp2
  refine wp_region_text [0, 0, 0, 0, 0, 0, 0, 0, 0, 0, 0, 0, 0, 0, 0, 0] (· = w.drew) (by kernel_rfl) (by kernel_rfl) rfl ?_
  iterate 16 (refine wpOrd_q (v := ?_) (by rfl) (fun W hW => ?_) ?_; rotate_left; (focus ((cases hW; go_simp); try with_reducible rfl)); try simp only [Act.put, List.setIfInBounds_toArray, List.set_cons_zero, List.set_cons_succ])
  refine wpOrd_nil ?_
  go_wp2
  go_returns
  exact ⟨rfl, (Below.refl _ _).drew⟩

/-- what Set comes to -/
def Sto.setBit (s : Sto) (f k : Nat) (on : Bool) : Sto := if s.bit f k = on then s else s.put (f + k / 512) (flipB (s.at_ (f + k / 512)) (k % 512))
/-- may a block be changed? -/
structure Sto.Can (s : Sto) (n : Nat) : Prop where
  lt : n < s.D.length
  free : Sto.free n
  room : (mget s.M n).isSome = true ∨ s.M.length < 30

end
end Go.Proofs.YthmkgohfeahdhaaGreat
namespace Go.Proofs
open Go.Shelf
def Tryz.lays189_ren : Go.Shelf.Ren := ⟨fun | 189 => 135 | 125 => 168 | 257 => 167 | 128 => 183 | 129 => 184 | 294 => 174 | 295 => 175 | 296 => 176 | 297 => 177 | 298 => 178 | 299 => 179 | 216 => 180 | 300 => 181 | 301 => 182 | 328 => 186 | 329 => 187 | 330 => 188 | 331 => 189 | 332 => 190 | 215 => 191 | 343 => 192 | n => n, fun | 28 => 187 | 3 => 3 | 46 => 93 | 0 => 0 | 51 => 49 | 53 => 108 | 4 => 4 | 183 => 315 | 182 => 314 | 131 => 264 | 5 => 5 | 9 => 9 | 218 => 322 | 222 => 326 | 228 => 328 | 229 => 84 | n => n, fun | n => n⟩
theorem Tryz.lays189 : Go.Proofs.Lays.n189 Tryz.prog Tryz.lays189_ren := {
  mixed := by kernel_rfl
  f125 := Tryz.func168.trans (congrArg some (by kernel_rfl))
  f128 := Tryz.func183.trans (congrArg some (by kernel_rfl))
  f129 := Tryz.func184.trans (congrArg some (by kernel_rfl))
  f189 := Tryz.func135.trans (congrArg some (by kernel_rfl))
  f215 := Tryz.func191.trans (congrArg some (by kernel_rfl))
  f216 := Tryz.func180.trans (congrArg some (by kernel_rfl))
  f257 := Tryz.func167.trans (congrArg some (by kernel_rfl))
  f294 := Tryz.func174.trans (congrArg some (by kernel_rfl))
  f295 := Tryz.func175.trans (congrArg some (by kernel_rfl))
  f296 := Tryz.func176.trans (congrArg some (by kernel_rfl))
  f297 := Tryz.func177.trans (congrArg some (by kernel_rfl))
  f298 := Tryz.func178.trans (congrArg some (by kernel_rfl))
  f299 := Tryz.func179.trans (congrArg some (by kernel_rfl))
  f300 := Tryz.func181.trans (congrArg some (by kernel_rfl))
  f301 := Tryz.func182.trans (congrArg some (by kernel_rfl))
  f328 := Tryz.func186.trans (congrArg some (by kernel_rfl))
  f329 := Tryz.func187.trans (congrArg some (by kernel_rfl))
  f330 := Tryz.func188.trans (congrArg some (by kernel_rfl))
  f331 := Tryz.func189.trans (congrArg some (by kernel_rfl))
  f332 := Tryz.func190.trans (congrArg some (by kernel_rfl))
  f343 := Tryz.func192.trans (congrArg some (by kernel_rfl))
  t0 := Tryz.underlying0
  a0 := Tryz.isAgg0
  z0 := Tryz.sizeOf0
  v0 := Tryz.zeroValue0
  t3 := Tryz.underlying3
  a3 := Tryz.isAgg3
  z3 := Tryz.sizeOf3
  v3 := Tryz.zeroValue3
  t4 := Tryz.underlying4
  a4 := Tryz.isAgg4
  z4 := Tryz.sizeOf4
  v4 := Tryz.zeroValue4
  t5 := Tryz.underlying5
  a5 := Tryz.isAgg5
  z5 := Tryz.sizeOf5
  v5 := Tryz.zeroValue5
  t9 := Tryz.underlying9
  a9 := Tryz.isAgg9
  z9 := Tryz.sizeOf9
  v9 := Tryz.zeroValue9
  t28 := Tryz.underlying187
  a28 := Tryz.isAgg187
  z28 := Tryz.sizeOf187
  v28 := Tryz.zeroValue187
  t46 := Tryz.underlying93
  a46 := Tryz.isAgg93
  z46 := Tryz.sizeOf93
  v46 := Tryz.zeroValue93
  t51 := Tryz.underlying49
  a51 := Tryz.isAgg49
  z51 := Tryz.sizeOf49
  v51 := Tryz.zeroValue49
  t53 := Tryz.underlying108
  a53 := Tryz.isAgg108
  z53 := Tryz.sizeOf108
  v53 := Tryz.zeroValue108
  t131 := Tryz.underlying264
  a131 := Tryz.isAgg264
  z131 := Tryz.sizeOf264
  v131 := Tryz.zeroValue264
  t182 := Tryz.underlying314
  a182 := Tryz.isAgg314
  z182 := Tryz.sizeOf314
  v182 := Tryz.zeroValue314
  t183 := Tryz.underlying315
  a183 := Tryz.isAgg315
  z183 := Tryz.sizeOf315
  v183 := Tryz.zeroValue315
  t218 := Tryz.underlying322
  a218 := Tryz.isAgg322
  z218 := Tryz.sizeOf322
  v218 := Tryz.zeroValue322
  t222 := Tryz.underlying326
  a222 := Tryz.isAgg326
  z222 := Tryz.sizeOf326
  v222 := Tryz.zeroValue326
  t228 := Tryz.underlying328
  a228 := Tryz.isAgg328
  z228 := Tryz.sizeOf328
  v228 := Tryz.zeroValue328
  t229 := Tryz.underlying84
  a229 := Tryz.isAgg84
  z229 := Tryz.sizeOf84
  v229 := Tryz.zeroValue84 }
open Go.Sort Go.RowKit in
theorem Tryz.slices_Sort_int (blk off cap : Nat) (zs : List Int) (w : World) (hH : Holds (Value.int .i64) w blk off zs.toArray) (hblk : blk < w.heap.size) (hsz : zs.length < 4611686018427387904) :
    Calls Tryz.prog 135 #[.slice (some ⟨blk, off, none⟩) zs.length cap] w fun e w' =>
      e = .returned (.tuple #[]) ∧ ∃ n os, w' = grow (putRow (Value.int .i64) (Sort.ahead w n) blk off (zs.mergeSort fun x y => decide (x ≤ y)).toArray) os := Any.slices_Sort_int Tryz.lays189 blk off cap zs w hH hblk hsz
open Go.RowKit Go.Sort in
theorem Tryz.slices_Sort_int_none (p : Option Addr) (cap : Nat) (w : World) :
    Calls Tryz.prog 135 #[.slice p 0 cap] w fun e w' => e = .returned (.tuple #[]) ∧ w' = w := Any.slices_Sort_int_none Tryz.lays189 p cap w
end Go.Proofs

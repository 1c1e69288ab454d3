/- Configurations' texts: a line's words, a label's line. -/
import Derived.Test.YtniboffmdkeacaaDoorConfLabP
import Derived.Test.YtniboffmdkeacaaDoorConfRows
import Derived.Test.YtniboffmdkeacaaDoorRegion
import Derived.Test.YtniboffmdkeacaaDoorShelf
import Derived.WalkSmall
import Derived.Laws.Tables
import Derived.Test.YtniboffmdkeacaaDoorOrd
namespace Go.Proofs.YtniboffmdkeacaaDoor
open Go.RowKit Go.WideMaps
set_option linter.unusedSimpArgs false
set_option linter.unusedVariables false

def svs (l : List (List UInt8)) : List Value := l.map fun x => .string ⟨x.toArray⟩
theorem svs_length (l : List (List UInt8)) : (svs l).length = l.length := by simp [svs]
theorem svs_get (l : List (List UInt8)) (i : Nat) : (svs l)[i]? = (l[i]?).map fun x => .string ⟨x.toArray⟩ := by simp [svs]
theorem svs_snoc (l : List (List UInt8)) (x : List UInt8) : svs (l ++ [x]) = svs l ++ [.string ⟨x.toArray⟩] := by simp [svs]
/-- the words of a row, by number -/
theorem rd_words {w : World} {B n : Nat} {A : Option Addr} {l : List (List UInt8)} (h : Rd w B 1 A n (svs l)) (hn : 0 < n) :
    ∃ b o, A = some ⟨b, o, none⟩ ∧ b < B ∧ ∀ i, i < n → w.cell? ⟨b, o + i, none⟩ = some (.string ⟨(wd l i).toArray⟩) := by
  have hl : l.length = n := by have := h.1; simpa [svs] using this
  obtain ⟨b, o, hA, hb, hc⟩ := h.2 hn
  refine ⟨b, o, hA, hb, fun i hi => hc i _ ?_⟩
  rw [svs_get, List.getElem?_eq_getElem (by omega)]
  simp [wd, List.getD_eq_getElem?_getD, List.getElem?_eq_getElem (show i < l.length by omega)]

theorem keys_ok (w : World) : Calls Tryd.prog 47 #[] w fun e w' => ∃ g, g = w.heap.size ∧ e = .returned (.slice (some ⟨g, 0, none⟩) 5 5) ∧ Below w.heap.size w w' ∧ g < w'.heap.size ∧ ∀ k, k < 5 → w'.cell? ⟨g, k, none⟩ = some (.string ⟨(wd keyW k).toArray⟩) := by
  go_enter Tryd.func47, Tryd.ntmps47
  go_wp2
  go_returns
  refine ⟨_, rfl, rfl, (Below.refl _ _).alloc (Nat.le_refl _) _, by simp, fun k hk => ?_⟩
  rw [cell_of_row _ _ _ _ _ _ (heap_alloc_new w _)]
  match k, hk with
  | 0, _ => rfl
  | 1, _ => rfl
  | 2, _ => rfl
  | 3, _ => rfl
  | 4, _ => rfl

/-! ### a line's words -/
/-- what the library's text functions read of the laid world -/
def Lw (w : World) : Prop := (∃ m, w.cell? ⟨3, 0, none⟩ = some (.int .i64 m)) ∧ Lib.TabIs Tryd.prog w "strings.asciiSpace" .u8 Lib.asciiSpaceTab
theorem asciiSpace_is : Tryd.prog.globalNamed "strings.asciiSpace" = some 0 := by kernel_rfl
theorem Lw.lt {w : World} (h : Lw w) : 3 < w.heap.size := by
  obtain ⟨m, hm⟩ := h.1
  exact World.block_lt_of_cell? w _ hm
theorem Lw.below {w w' : World} {B : Nat} (h : Lw w) (hb : Below B w w') (h3 : 3 < B) : Lw w' := by
  obtain ⟨⟨m, hm⟩, ht⟩ := h
  exact ⟨⟨m, (hb.cell (p := ⟨3, 0, none⟩) h3).trans hm⟩, var?_below hb asciiSpace_is (by omega) ht⟩
theorem Lw.below' {w w' : World} (h : Lw w) (hb : Below w.heap.size w w') : Lw w' := h.below hb h.lt
theorem Lw.drewN {w : World} (h : Lw w) (n : Nat) : Lw (w.drewN n) := h

theorem cut_fst (l sep : List UInt8) : ∃ i, (Lib.cut l sep).1 = l.take i := by
  unfold Lib.cut
  split
  · exact ⟨_, rfl⟩
  · exact ⟨l.length, by simp⟩
theorem fields_ok (s : ByteArray) (w : World) (hs : s.size < 4294967281) (ha : ∀ (j : Nat) b, s.data.toList[j]? = some b → b.toNat < 128) (hL : Lw w) :
    Calls Tryd.prog 37 #[.string s] w fun e w' => ∃ A g, A = some ⟨g, 0, none⟩ ∧ w.heap.size ≤ g ∧ e = .returned (.slice A (fieldsP s.data.toList).length (fieldsP s.data.toList).length) ∧ Below w.heap.size w w' ∧ Rd w' w'.heap.size 1 A (fieldsP s.data.toList).length (svs (fieldsP s.data.toList)) := by
  obtain ⟨m, hm⟩ := hL.1
  go_enter Tryd.func37, Tryd.ntmps37
  go_wp2_with fail
  refine (Tryd.strings_Cut s ⟨#[35]⟩ m w hs hm).mono ?_
  rintro e w' ⟨rfl, n, rfl⟩
  have hT := (hL.drewN n).2
  obtain ⟨i, hi⟩ := cut_fst s.data.toList [35]
  have hx : (⟨(Lib.cut s.data.toList [35]).1.toArray⟩ : ByteArray).size < 4294967281 := by
    rw [hi, sz]; simp; rw [sz] at hs; simp at hs; omega
  have hxa : ∀ (j : Nat) b, (⟨(Lib.cut s.data.toList [35]).1.toArray⟩ : ByteArray).data.toList[j]? = some b → b.toNat < 128 := fun j b h => by
    rw [hi] at h
    exact ha j b (by simp [List.getElem?_take] at h; simpa using h.2)
  have hb := (below_drewN (Below.refl w.heap.size w) n)
  clear hm
  have HX := hide hx
  clear hi
  go_wp2_with fail
  refine (Tryd.strings_Fields _ _ hx hxa hT).mono ?_
  rintro e w' ⟨rfl, rfl⟩
  go_wp2
  go_returns
  refine ⟨some ⟨w.heap.size, 0, none⟩, w.heap.size, rfl, Nat.le_refl _, by simp [fieldsP], hb.alloc (Nat.le_refl _) _, ?_⟩
  have := Rd.lit (w := w.drewN n) (e := 9) (fr := (0, 0)) (cs := (List.map (fun l => Value.string { data := List.toArray l }) (Lib.fields (Lib.cut s.data.toList [35]).1)).toArray) (n := (fieldsP s.data.toList).length) rfl rfl rfl (by simp [fieldsP])
  simpa [svs, fieldsP] using this

/-! ### a label's line -/
def regA (nm : ByteArray) (lv : UInt8) (ct : UInt16) (v : List Nat) : Array Value :=
  #[.string nm, .int .u8 (lv.toNat : Int), .int .u16 (ct.toNat : Int), .int .i64 (v.getD 0 0 : Nat), .int .i64 (v.getD 1 0 : Nat), .int .i64 (v.getD 2 0 : Nat), .int .i64 (v.getD 3 0 : Nat), .int .i64 (v.getD 4 0 : Nat), .int .i64 0]
def regVals (ws : List (List UInt8)) : Nat → Option (List Nat)
  | 0 => some []
  | k + 1 => (regVals ws k).bind fun v => (numAt ws k).map fun n => v ++ [n]
theorem regP_vals {ws : List (List UInt8)} (h1 : ws.length = 15) (h2 : wd ws 13 = clearW) {lv : UInt8} {ct : UInt16} {er : Int} (h3 : labP (wd ws 2) = (some (lv, ct), er)) :
    regP ws = match regVals ws 5 with
      | some v => (some (⟨wd ws 1, lv, ct, v.getD 0 0, v.getD 1 0, v.getD 2 0, v.getD 3 0, v.getD 4 0, 0⟩, wd ws 14), 0)
      | none => (none, 28) := by
  unfold regP
  rw [if_neg (by simp [h1, h2]), h3]
  simp only [regVals]
  cases numAt ws 0 with
  | none => rfl
  | some a0 =>
    cases numAt ws 1 with
    | none => rfl
    | some a1 =>
      cases numAt ws 2 with
      | none => rfl
      | some a2 =>
        cases numAt ws 3 with
        | none => rfl
        | some a3 =>
          cases numAt ws 4 with
          | none => rfl
          | some a4 => rfl
theorem regVals_none {ws : List (List UInt8)} {k : Nat} (hk : k < 5) {v : List Nat} (h : regVals ws k = some v) (hn : numAt ws k = none) : regVals ws 5 = none := by
  match k, hk with
  | 0, _ => simp [regVals, hn]
  | 1, _ => simp [regVals] at h ⊢; simp [h, hn]
  | 2, _ => simp [regVals] at h ⊢; simp [h, hn]
  | 3, _ => simp [regVals] at h ⊢; simp [h, hn]
  | 4, _ => simp [regVals] at h ⊢; simp [h, hn]
theorem regVals_len {ws : List (List UInt8)} : ∀ {k : Nat} {v : List Nat}, regVals ws k = some v → v.length = k
  | 0, v, h => by simp [regVals] at h; simp [h]
  | k + 1, v, h => by
    simp only [regVals, Option.bind_eq_some_iff, Option.map_eq_some_iff] at h
    obtain ⟨u, hu, n, _, rfl⟩ := h
    simp [regVals_len hu]

-- GENERATED BELOW (wip/tools/confreg.py)
theorem regA_at {nm : ByteArray} {lv : UInt8} {ct : UInt16} {v : List Nat} {k : Nat} (h : v.length = k) (hk : k < 5) : (regA nm lv ct v)[3 + k]? = some (.int .i64 0) := by
  subst h
  match v, hk with
  | [], _ => rfl
  | [_], _ => rfl
  | [_, _], _ => rfl
  | [_, _, _], _ => rfl
  | [_, _, _, _], _ => rfl
theorem regA_set {nm : ByteArray} {lv : UInt8} {ct : UInt16} {v : List Nat} {k : Nat} {n : Nat} (h : v.length = k) (hk : k < 5) : (regA nm lv ct v).setIfInBounds (3 + k) (.int .i64 (n : Int)) = regA nm lv ct (v ++ [n]) := by
  subst h
  match v, hk with
  | [], _ => rfl
  | [_], _ => rfl
  | [_, _], _ => rfl
  | [_, _, _], _ => rfl
  | [_, _, _, _], _ => rfl
def RegAns (r : Option (RegV × List UInt8) × Int) (e : Ending) : Prop :=
  match r with
  | (none, er) => ∃ nm lv ct v, e = .returned (.tuple #[.agg (regA nm lv ct v), .string ByteArray.empty, .int .i64 er])
  | (some (r, tw), _) => e = .returned (.tuple #[.agg r.cells.toArray, .string ⟨tw.toArray⟩, .int .i64 0])
set_option maxRecDepth 100000 in
set_option maxHeartbeats 4000000 in
theorem regl_ok (ws : List (List UInt8)) (A : Option Addr) (cA : Nat) (w : World) (hr : Rd w w.heap.size 1 A ws.length (svs ws)) (hsz : ∀ x ∈ ws, x.length < 4294967281) :
    Calls Tryd.prog 38 #[.slice A ws.length cA] w fun e w' => RegAns (regP ws) e ∧ Below w.heap.size w w' := by
  go_enter Tryd.func38, Tryd.ntmps38
  refine at_world (fun W => W = w) rfl (fun w0 e0 => ?_)
  subst e0
  have hb5 : Below w0.heap.size w0 ((w0.alloc (.cells #[.string ByteArray.empty, .int .u8 0, .int .u16 0, .int .i64 0, .int .i64 0, .int .i64 0, .int .i64 0, .int .i64 0, .int .i64 0] 38)).alloc (.cells #[.string ByteArray.empty, .int .u8 0, .int .u16 0, .int .i64 0, .int .i64 0, .int .i64 0, .int .i64 0, .int .i64 0, .int .i64 0] 38)) := ((Below.refl _ _).alloc (Nat.le_refl _) _).alloc (by simp) _
  by_cases h15 : ws.length = 15
  · obtain ⟨b, o, hA, hb, hw⟩ := rd_words hr (by omega)
    have t1 : ((ws.length : Int) == 15) = true := by simp; omega
    subst hA
    have w13 := hw 13 (by omega)
    have i13 : (13 : Int) < ws.length := by omega
    by_cases h13 : wd ws 13 = clearW
    · have q1 : (wd ws 13 == [99, 108, 101, 97, 114]) = true := by simpa [clearW] using h13
      have q2 : wd ws 13 = [99, 108, 101, 97, 114] := h13
      have w1 := hw 1 (by omega)
      have w2 := hw 2 (by omega)
      have i1 : (1 : Int) < ws.length := by omega
      have i2 : (2 : Int) < ws.length := by omega
      have hz2 : (⟨(wd ws 2).toArray⟩ : ByteArray).size < 4294967281 := by
        have : wd ws 2 ∈ ws := by unfold wd; rw [List.getD_eq_getElem?_getD, List.getElem?_eq_getElem (by omega)]; exact List.getElem_mem _
        have := hsz _ this
        simpa [ByteArray.size] using this
      have hbL : Below w0.heap.size w0 ((w0.alloc (.cells #[.string ByteArray.empty, .int .u8 0, .int .u16 0, .int .i64 0, .int .i64 0, .int .i64 0, .int .i64 0, .int .i64 0, .int .i64 0] 38)).alloc (.cells #[.string ⟨(wd ws 1).toArray⟩, .int .u8 0, .int .u16 0, .int .i64 0, .int .i64 0, .int .i64 0, .int .i64 0, .int .i64 0, .int .i64 0] 38)) := ((Below.refl _ _).alloc (Nat.le_refl _) _).alloc (by simp) _
      have B2 : Blk ((w0.alloc (.cells #[.string ByteArray.empty, .int .u8 0, .int .u16 0, .int .i64 0, .int .i64 0, .int .i64 0, .int .i64 0, .int .i64 0, .int .i64 0] 38)).alloc (.cells #[.string ⟨(wd ws 1).toArray⟩, .int .u8 0, .int .u16 0, .int .i64 0, .int .i64 0, .int .i64 0, .int .i64 0, .int .i64 0, .int .i64 0] 38)) w0.heap.size 38 #[.string ByteArray.empty, .int .u8 0, .int .u16 0, .int .i64 0, .int .i64 0, .int .i64 0, .int .i64 0, .int .i64 0, .int .i64 0] := (Blk.new w0 _ _).alloc _
      have B5 : Blk ((w0.alloc (.cells #[.string ByteArray.empty, .int .u8 0, .int .u16 0, .int .i64 0, .int .i64 0, .int .i64 0, .int .i64 0, .int .i64 0, .int .i64 0] 38)).alloc (.cells #[.string ⟨(wd ws 1).toArray⟩, .int .u8 0, .int .u16 0, .int .i64 0, .int .i64 0, .int .i64 0, .int .i64 0, .int .i64 0, .int .i64 0] 38)) (w0.heap.size + 1) 38 #[.string ⟨(wd ws 1).toArray⟩, .int .u8 0, .int .u16 0, .int .i64 0, .int .i64 0, .int .i64 0, .int .i64 0, .int .i64 0, .int .i64 0] := by simpa using Blk.new (w0.alloc (.cells #[.string ByteArray.empty, .int .u8 0, .int .u16 0, .int .i64 0, .int .i64 0, .int .i64 0, .int .i64 0, .int .i64 0, .int .i64 0] 38)) 38 #[.string ⟨(wd ws 1).toArray⟩, .int .u8 0, .int .u16 0, .int .i64 0, .int .i64 0, .int .i64 0, .int .i64 0, .int .i64 0, .int .i64 0]
      have HBL := hide hbL
      have HB2 := hide B2
      have HB5 := hide B5
      have HR := hide hr
      have HW := hide hw
      have H13 := hide h13
      have H15 := hide h15
      clear hb5 hw hr hbL B2 B5 h13
      go_wp2_with fail
      refine (labparse_ok _ _ hz2).mono ?_
      intro e w3 h3
      change e = labAns (labP (wd ws 2)).1 (labP (wd ws 2)).2 ∧ _ at h3
      obtain ⟨he, hb3⟩ := h3
      have C2 := HB2.out.below hb3 HB2.out.lt
      have C5 := HB5.out.below hb3 HB5.out.lt
      have hbw := Below.then_ HBL.out HBL.out.size hb3
      clear hb3
      cases hl : labP (wd ws 2) with
      | mk r er =>
      rw [hl] at he
      cases r with
      | none =>
        have her := labP_err hl
        have hp : Hid (regP ws = (none, er)) := by
          unfold regP
          rw [if_neg (by simp [H15.out, H13.out]), hl]
          exact hide rfl
        simp only [labAns] at he
        subst he
        have te : (er == 0) = false := by rcases her with rfl | rfl <;> rfl
        have te2 : ¬ er = 0 := by rcases her with rfl | rfl <;> decide
        refine at_world (fun W => ∃ b2 b5, b2 = w0.heap.size ∧ b5 = w0.heap.size + 1 ∧ Below w0.heap.size w0 W ∧ Blk W b2 38 #[.string ByteArray.empty, .int .u8 0, .int .u16 0, .int .i64 0, .int .i64 0, .int .i64 0, .int .i64 0, .int .i64 0, .int .i64 0] ∧ Blk W b5 38 #[.string ⟨(wd ws 1).toArray⟩, .int .u8 0, .int .u16 0, .int .i64 0, .int .i64 0, .int .i64 0, .int .i64 0, .int .i64 0, .int .i64 0]) ⟨_, _, rfl, rfl, hbw, C2, C5⟩ (fun w4 h4 => ?_)
        obtain ⟨b2, b5, e2, e5, hb4, h2, h5⟩ := h4
        rw [← e5, ← e2]
        have ne : b2 ≠ b5 := by omega
        have E2 := hide e2
        have E5 := hide e5
        have HB4 := hide hb4
        have H2 := hide h2
        have H5 := hide h5
        clear e2 e5 hb4 h2 hbw C2 C5
        have c0 := h5.cell 0; have c1 := h5.cell 1; have c2 := h5.cell 2; have c3 := h5.cell 3; have c4 := h5.cell 4; have c5 := h5.cell 5; have c6 := h5.cell 6; have c7 := h5.cell 7; have c8 := h5.cell 8; have cl := h5.lt; have cf1 := h5.frozen 1; have cf2 := h5.frozen 2
        clear h5
        have H2A := hide (H2.out.alloc (.cells #[.int .u8 0, .int .u16 0] 36))
        have HB7 := hide (HB4.out.alloc HB4.out.size (.cells #[.int .u8 0, .int .u16 0] 36))
        go_wp2_with (refine wpList_store_row rfl 38 (.tmp 2) (.tmp 35) (by rfl) b2 #[.string ⟨(wd ws 1).toArray⟩, .int .u8 0, .int .u16 0, .int .i64 0, .int .i64 0, .int .i64 0, .int .i64 0, .int .i64 0, .int .i64 0] (by rfl) (by rfl) 38 _ H2A.out (by kernel_rfl) (by rfl) (by simp [Value.oneCell']) ?_)
        refine bodyPost_ret (results_run3 rfl (ResV.struct rfl (setRow_heap _ _ _ _ _ _ H2A.out) Tryd.underlying38 (by kernel_rfl)) rfl rfl) rfl ?_
        rw [hp.out]
        exact ⟨⟨⟨(wd ws 1).toArray⟩, 0, 0, [], rfl⟩, below_setRow HB7.out (Nat.le_of_eq E2.out.symm) _⟩
      | some q =>
        obtain ⟨lv, ct⟩ := q
        have hpv := regP_vals h15 H13.out hl
        simp only [labAns] at he
        subst he
        refine at_world (fun W => ∃ b2 b5, b2 = w0.heap.size ∧ b5 = w0.heap.size + 1 ∧ Below w0.heap.size w0 W ∧ Blk W b2 38 #[.string ByteArray.empty, .int .u8 0, .int .u16 0, .int .i64 0, .int .i64 0, .int .i64 0, .int .i64 0, .int .i64 0, .int .i64 0] ∧ Blk W b5 38 #[.string ⟨(wd ws 1).toArray⟩, .int .u8 0, .int .u16 0, .int .i64 0, .int .i64 0, .int .i64 0, .int .i64 0, .int .i64 0, .int .i64 0]) ⟨_, _, rfl, rfl, hbw, C2, C5⟩ (fun w4 h4 => ?_)
        obtain ⟨b2, b5, e2, e5, hb4, h2, h5⟩ := h4
        rw [← e5, ← e2]
        have ne : b2 ≠ b5 := by omega
        have E2 := hide e2
        have E5 := hide e5
        have HB4 := hide hb4
        have H2 := hide h2
        have H5 := hide h5
        clear e2 e5 hb4 h2 hbw C2 C5
        have HP := hide hpv
        have c0 := h5.cell 0; have c1 := h5.cell 1; have c2 := h5.cell 2; have c3 := h5.cell 3; have c4 := h5.cell 4; have c5 := h5.cell 5; have c6 := h5.cell 6; have c7 := h5.cell 7; have c8 := h5.cell 8; have cl := h5.lt; have cf1 := h5.frozen 1; have cf2 := h5.frozen 2
        clear h5 hl
        go_wp2_with fail
        refine at_world (fun W => ∃ b44, b44 = w4.heap.size + 1 ∧ Below w0.heap.size w0 W ∧ Blk W b2 38 #[.string ByteArray.empty, .int .u8 0, .int .u16 0, .int .i64 0, .int .i64 0, .int .i64 0, .int .i64 0, .int .i64 0, .int .i64 0] ∧ Blk W b5 38 (regA ⟨(wd ws 1).toArray⟩ lv ct []) ∧ b44 ≠ b5 ∧ b44 < W.heap.size ∧ ∀ j, j < 5 → W.cell? ⟨b44, j, none⟩ = some (.pointer (some ⟨b5, 3 + j, none⟩))) ?_ (fun w5 h5 => ?_)
        · refine ⟨_, rfl, (((HB4.out.setCell (Nat.le_trans (Nat.le_succ _) (Nat.le_of_eq E5.out.symm)) _).setCell (Nat.le_trans (Nat.le_succ _) (Nat.le_of_eq E5.out.symm)) _).alloc (by simp; exact HB4.out.size) _).alloc (by simp; have := HB4.out.size; omega) _, (((H2.out.far ne _).far ne _).alloc _).alloc _, ?_, by have := H5.out.lt; omega, by simp, fun j hj => ?_⟩
          · simpa [regA] using (((H5.out.set_ 1 (.int .u8 (lv.toNat : Int))).set_ 2 (.int .u16 (ct.toNat : Int))).alloc (.cells #[.int .u8 (lv.toNat : Int), .int .u16 (ct.toNat : Int)] 36)).alloc (.cells #[.pointer (some ⟨b5, 3, none⟩), .pointer (some ⟨b5, 4, none⟩), .pointer (some ⟨b5, 5, none⟩), .pointer (some ⟨b5, 6, none⟩), .pointer (some ⟨b5, 7, none⟩)] 128)
          · rw [cell_of_row _ _ _ _ _ _ (by have := heap_alloc_new (((w4.setCell ⟨b5, 1, none⟩ (.int .u8 (lv.toNat : Int))).setCell ⟨b5, 2, none⟩ (.int .u16 (ct.toNat : Int))).alloc (.cells #[.int .u8 (lv.toNat : Int), .int .u16 (ct.toNat : Int)] 36)) (.cells #[.pointer (some ⟨b5, 3, none⟩), .pointer (some ⟨b5, 4, none⟩), .pointer (some ⟨b5, 5, none⟩), .pointer (some ⟨b5, 6, none⟩), .pointer (some ⟨b5, 7, none⟩)] 128); simpa using this)]
            match j, hj with
            | 0, _ => rfl
            | 1, _ => rfl
            | 2, _ => rfl
            | 3, _ => rfl
            | 4, _ => rfl
        obtain ⟨b44, e44, hb5, k2, k5, ne4, hl44, hp44⟩ := h5
        rw [← e44]
        have HB5x := hide hb5
        have K2 := hide k2
        have K5 := hide k5
        have HPT := hide hp44
        clear e44 hb5 k2 k5 hp44 c0 c1 c2 c3 c4 c5 c6 c7 c8 cf1 cf2 cl
        go_loopg [46] 5 (fun g x46 wr => ∃ (k : Nat) (v : List Nat), k ≤ 5 ∧ g = 5 - k ∧ x46 = .int .i64 (k : Int) ∧ Below w0.heap.size w0 wr ∧ Blk wr b2 38 #[.string ByteArray.empty, .int .u8 0, .int .u16 0, .int .i64 0, .int .i64 0, .int .i64 0, .int .i64 0, .int .i64 0, .int .i64 0] ∧ Blk wr b5 38 (regA ⟨(wd ws 1).toArray⟩ lv ct v) ∧ b44 < wr.heap.size ∧ Hid (∀ j, j < 5 → wr.cell? ⟨b44, j, none⟩ = some (.pointer (some ⟨b5, 3 + j, none⟩))) ∧ Hid (regVals ws k = some v))
        case atStart => exact ⟨0, [], by omega, rfl, rfl, HB5x.out, K2.out, K5.out, hl44, HPT, hide rfl⟩
        case round =>
          obtain ⟨k, v, hk, hg, rfl, hbr, m2, m5, hl4, hpt, hv⟩ := hrel
          have l15 : 15 ≤ ws.length := by omega
          have l15z : (15 : Int) ≤ ws.length := by omega
          clear h15
          rcases Nat.lt_or_ge k 5 with hk5 | hk5
          · have hvl := regVals_len hv.out
            have hkz : (k : Int) < 5 := by omega
            have pk := hpt.out k hk5
            have j4 : wr.cell? ⟨b, o + (4 + 2 * k), none⟩ = some (.string ⟨(wd ws (4 + 2 * k)).toArray⟩) := (hbr.cell (p := ⟨b, o + (4 + 2 * k), none⟩) hb).trans (HW.out (4 + 2 * k) (by omega))
            have hbl : b < wr.heap.size := Nat.lt_of_lt_of_le hb hbr.size
            have HBR := hide hbr
            have M2 := hide m2
            have M5 := hide m5
            clear hbr m2 m5 w13 w1 w2
            go_wp2_with fail
            refine (count_ok _ _).mono ?_
            intro e w6 h6
            change e = .returned (.tuple #[.int .i64 (((cntP (wd ws (4 + 2 * k))).getD 0 : Nat) : Int), .bool (cntP (wd ws (4 + 2 * k))).isSome]) ∧ _ at h6
            obtain ⟨he6, hb6⟩ := h6
            obtain ⟨nv, sb, rfl, hcn⟩ : ∃ (nv : Nat) (sb : Bool), e = .returned (.tuple #[.int .i64 (nv : Int), .bool sb]) ∧ Hid (cntP (wd ws (4 + 2 * k)) = if sb then some nv else none) := by
              revert he6
              cases cntP (wd ws (4 + 2 * k)) with
              | none => exact fun h => ⟨0, false, h, hide rfl⟩
              | some n => exact fun h => ⟨n, true, h, hide rfl⟩
            clear he6
            have N2 := hide (M2.out.below hb6 M2.out.lt)
            have N5 := hide (M5.out.below hb6 M5.out.lt)
            have hpt6 : Hid (∀ j, j < 5 → w6.cell? ⟨b44, j, none⟩ = some (.pointer (some ⟨b5, 3 + j, none⟩))) := hide fun j hj => (hb6.cell (p := ⟨b44, j, none⟩) hl4).trans (hpt.out j hj)
            have hl46 : b44 < w6.heap.size := Nat.lt_of_lt_of_le hl4 hb6.size
            have HB6 := hide (Below.then_ HBR.out HBR.out.size hb6)
            have j3 : w6.cell? ⟨b, o + (3 + 2 * k), none⟩ = some (.string ⟨(wd ws (3 + 2 * k)).toArray⟩) := (HB6.out.cell (p := ⟨b, o + (3 + 2 * k), none⟩) hb).trans (HW.out (3 + 2 * k) (by omega))
            have hbl6 : b < w6.heap.size := Nat.lt_of_lt_of_le hb HB6.out.size
            obtain ⟨i2, hi2⟩ : ∃ i2, i2 = 2 * k := ⟨_, rfl⟩
            obtain ⟨i3, hi3⟩ : ∃ i3, i3 = 3 + 2 * k := ⟨_, rfl⟩
            have v2 : IntKind.i64.wrap (2 * (k : Int)) = (i2 : Int) := by rw [IntWalk.i64_in _ (by omega)]; omega
            have v3 : IntKind.i64.wrap (3 + (i2 : Int)) = (i3 : Int) := by rw [IntWalk.i64_in _ (by omega)]; omega
            have v5 : (i3 : Int) < ws.length := by omega
            rw [← hi3] at j3
            have HI3 := hide hi3
            clear hi2 hi3
            clear pk j4 hpt hb6
            go_wp2_with fail
            refine wp_region_tree (.q 0 (.q 1 (.q 2 (.q 3 (.q 4 (.q 5 (.q 7 (.x 6 (.q 8 (.q 9 (.q 10 (.q 11 (.q 12 (.q 13 (.q 14 .nil))))))))))))))) (fun W => W.cell? ⟨b, o + i3, none⟩ = some (.string ⟨(wd ws i3).toArray⟩)) (by kernel_rfl) (by kernel_rfl) j3 ?_
            iterate 7 (refine wpT_q (v := ?_) (by simp only [List.getElem?_toArray, List.getElem?_cons_succ, List.getElem?_cons_zero]; try rfl) (by rfl) (fun W hW => ?_) ?_; rotate_left; (focus ((try dsimp only at hW); go_simp; try with_reducible rfl)); try simp only [Act.put, List.setIfInBounds_toArray, List.set_cons_zero, List.set_cons_succ])
            refine wpT_x (by simp only [List.getElem?_toArray, List.getElem?_cons_succ, List.getElem?_cons_zero]; try rfl) (by rfl) (fun K hK => ?_)
            go_simp
            refine (keys_ok _).mono ?_
            rintro e w7 ⟨g, hg7, rfl, hb7', hgl, hkey⟩
            have hb7 : Below w6.heap.size w6 w7 := (Below.refl _ _).drew.trans hb7'
            refine hK (fun W => W.cell? ⟨b, o + i3, none⟩ = some (.string ⟨(wd ws i3).toArray⟩) ∧ W.cell? ⟨g, k, none⟩ = some (.string ⟨(wd keyW k).toArray⟩)) _ _ (fun _ h => h.1) ⟨(hb7.cell (p := ⟨b, o + i3, none⟩) hbl6).trans j3, hkey k hk5⟩ ?_
            clear hK K hb7' hg7
            try simp only [Act.put, List.setIfInBounds_toArray, List.set_cons_zero, List.set_cons_succ]
            have P2 := hide (N2.out.below hb7 N2.out.lt)
            have P5 := hide (N5.out.below hb7 N5.out.lt)
            have hpt7 : Hid (∀ j, j < 5 → w7.cell? ⟨b44, j, none⟩ = some (.pointer (some ⟨b5, 3 + j, none⟩))) := hide fun j hj => (hb7.cell (p := ⟨b44, j, none⟩) hl46).trans (hpt6.out j hj)
            have hl47 : b44 < w7.heap.size := Nat.lt_of_lt_of_le hl46 hb7.size
            have HB7 := hide (Below.then_ HB6.out HB6.out.size hb7)
            have hna : numAt ws k = if wd ws i3 = wd keyW k then (if sb then some nv else none) else none := by rw [HI3.out, ← hcn.out]; rfl
            generalize wd ws i3 = wx at *
            generalize wd keyW k = wk at *
            clear hl4 hl46 j3 hbl hbl6 v2 v3 v5
            by_cases hxk : wx = wk
            · subst hxk
              rw [if_pos rfl] at hna
              cases sb with
              | false =>
                rw [if_neg Bool.false_ne_true] at hna
                have hp : Hid (regP ws = (none, 28)) := by rw [HP.out, regVals_none hk5 hv.out hna]; exact hide rfl
                iterate 7 (refine wpT_q (v := ?_) (by simp only [List.getElem?_toArray, List.getElem?_cons_succ, List.getElem?_cons_zero]; try rfl) (by rfl) (fun W hW => ?_) ?_; rotate_left; (focus ((obtain ⟨hW1, hW2⟩ := hW); go_simp; try with_reducible rfl)); try simp only [Act.put, List.setIfInBounds_toArray, List.set_cons_zero, List.set_cons_succ])
                refine wpT_nil ?_
                have P5L := show Blk w7 b5 38 #[.string ⟨(wd ws 1).toArray⟩, .int .u8 (lv.toNat : Int), .int .u16 (ct.toNat : Int), .int .i64 (v.getD 0 0 : Nat), .int .i64 (v.getD 1 0 : Nat), .int .i64 (v.getD 2 0 : Nat), .int .i64 (v.getD 3 0 : Nat), .int .i64 (v.getD 4 0 : Nat), .int .i64 0] from P5.out
                have c0 := P5L.cell 0; have c1 := P5L.cell 1; have c2 := P5L.cell 2; have c3 := P5L.cell 3; have c4 := P5L.cell 4; have c5 := P5L.cell 5; have c6 := P5L.cell 6; have c7 := P5L.cell 7; have c8 := P5L.cell 8; have cl := P5L.lt
                clear P5L
                go_wp2_with (refine wpList_store_row rfl 38 (.tmp 2) (.tmp 76) (by rfl) b2 #[.string ⟨(wd ws 1).toArray⟩, .int .u8 (lv.toNat : Int), .int .u16 (ct.toNat : Int), .int .i64 (v.getD 0 0 : Nat), .int .i64 (v.getD 1 0 : Nat), .int .i64 (v.getD 2 0 : Nat), .int .i64 (v.getD 3 0 : Nat), .int .i64 (v.getD 4 0 : Nat), .int .i64 0] (by rfl) (by rfl) 38 _ P2.out (by kernel_rfl) (by rfl) (by simp [Value.oneCell']) ?_)
                refine bodyPost_ret (results_run3 rfl (ResV.struct rfl (setRow_heap _ _ _ _ _ _ P2.out) Tryd.underlying38 (by kernel_rfl)) rfl rfl) rfl ?_
                rw [hp.out]
                exact ⟨⟨⟨(wd ws 1).toArray⟩, lv, ct, v, rfl⟩, below_setRow HB7.out (Nat.le_of_eq E2.out.symm) _⟩
              | true =>
                rw [if_pos rfl] at hna
                iterate 7 (refine wpT_q (v := ?_) (by simp only [List.getElem?_toArray, List.getElem?_cons_succ, List.getElem?_cons_zero]; try rfl) (by rfl) (fun W hW => ?_) ?_; rotate_left; (focus ((obtain ⟨hW1, hW2⟩ := hW); go_simp; try with_reducible rfl)); try simp only [Act.put, List.setIfInBounds_toArray, List.set_cons_zero, List.set_cons_succ])
                refine wpT_nil ?_
                have hs3 : w7.cell? ⟨b5, 3 + k, none⟩ = some (.int .i64 0) := by rw [P5.out.cell]; exact regA_at hvl hk5
                have hf3 := P5.out.frozen (3 + k)
                have hl5 := P5.out.lt
                go_wp2
                go_roundg (5 - (k + 1))
                case measure => omega
                case rel =>
                  have h25 : b5 ≠ b2 := fun e => ne e.symm
                  refine ⟨k + 1, v ++ [nv], by omega, rfl, by go_num, HB7.out.setCell (Nat.le_trans (Nat.le_succ _) (Nat.le_of_eq E5.out.symm)) _, P2.out.far ne _, ?_, by simpa using hl47, hide fun j hj => ?_, hide ?_⟩
                  · have := P5.out.set_ (3 + k) (.int .i64 (nv : Int))
                    rw [regA_set hvl hk5] at this
                    exact this
                  · rw [World.cell?_setCell_other _ _ _ _ (fun e => ne4 (by have h := congrArg Addr.block e; first | exact h | exact h.symm))]
                    exact hpt7.out j hj
                  · simp [regVals, hv.out, hna]
            · rw [if_neg hxk] at hna
              have hp : Hid (regP ws = (none, 28)) := by rw [HP.out, regVals_none hk5 hv.out hna]; exact hide rfl
              have u1 : (wx == wk) = false := by simpa using hxk
              iterate 4 (refine wpT_q (v := ?_) (by simp only [List.getElem?_toArray, List.getElem?_cons_succ, List.getElem?_cons_zero]; try rfl) (by rfl) (fun W hW => ?_) ?_; rotate_left; (focus ((obtain ⟨hW1, hW2⟩ := hW); go_simp; try with_reducible rfl)); try simp only [Act.put, List.setIfInBounds_toArray, List.set_cons_zero, List.set_cons_succ])
              iterate 2 (refine wpT_n (by simp only [List.getElem?_toArray, List.getElem?_cons_succ, List.getElem?_cons_zero]; try rfl) (by rfl) ?_; try simp only [Act.put, List.setIfInBounds_toArray, List.set_cons_zero, List.set_cons_succ])
              iterate 1 (refine wpT_q (v := ?_) (by simp only [List.getElem?_toArray, List.getElem?_cons_succ, List.getElem?_cons_zero]; try rfl) (by rfl) (fun W hW => ?_) ?_; rotate_left; (focus ((obtain ⟨hW1, hW2⟩ := hW); go_simp; try with_reducible rfl)); try simp only [Act.put, List.setIfInBounds_toArray, List.set_cons_zero, List.set_cons_succ])
              refine wpT_nil ?_
              have P5L := show Blk w7 b5 38 #[.string ⟨(wd ws 1).toArray⟩, .int .u8 (lv.toNat : Int), .int .u16 (ct.toNat : Int), .int .i64 (v.getD 0 0 : Nat), .int .i64 (v.getD 1 0 : Nat), .int .i64 (v.getD 2 0 : Nat), .int .i64 (v.getD 3 0 : Nat), .int .i64 (v.getD 4 0 : Nat), .int .i64 0] from P5.out
              have c0 := P5L.cell 0; have c1 := P5L.cell 1; have c2 := P5L.cell 2; have c3 := P5L.cell 3; have c4 := P5L.cell 4; have c5 := P5L.cell 5; have c6 := P5L.cell 6; have c7 := P5L.cell 7; have c8 := P5L.cell 8; have cl := P5L.lt
              clear P5L
              go_wp2_with (refine wpList_store_row rfl 38 (.tmp 2) (.tmp 76) (by rfl) b2 #[.string ⟨(wd ws 1).toArray⟩, .int .u8 (lv.toNat : Int), .int .u16 (ct.toNat : Int), .int .i64 (v.getD 0 0 : Nat), .int .i64 (v.getD 1 0 : Nat), .int .i64 (v.getD 2 0 : Nat), .int .i64 (v.getD 3 0 : Nat), .int .i64 (v.getD 4 0 : Nat), .int .i64 0] (by rfl) (by rfl) 38 _ P2.out (by kernel_rfl) (by rfl) (by simp [Value.oneCell']) ?_)
              refine bodyPost_ret (results_run3 rfl (ResV.struct rfl (setRow_heap _ _ _ _ _ _ P2.out) Tryd.underlying38 (by kernel_rfl)) rfl rfl) rfl ?_
              rw [hp.out]
              exact ⟨⟨⟨(wd ws 1).toArray⟩, lv, ct, v, rfl⟩, below_setRow HB7.out (Nat.le_of_eq E2.out.symm) _⟩
          · obtain rfl : k = 5 := by omega
            have j14 : wr.cell? ⟨b, o + 14, none⟩ = some (.string ⟨(wd ws 14).toArray⟩) := (hbr.cell (p := ⟨b, o + 14, none⟩) hb).trans (HW.out 14 (by omega))
            have hbl : b < wr.heap.size := Nat.lt_of_lt_of_le hb hbr.size
            have hp : Hid (regP ws = (some (⟨wd ws 1, lv, ct, v.getD 0 0, v.getD 1 0, v.getD 2 0, v.getD 3 0, v.getD 4 0, 0⟩, wd ws 14), 0)) := by rw [HP.out, hv.out]; exact hide rfl
            have bne : b ≠ b2 := by have := E2.out; omega
            have i14 : (14 : Int) < ws.length := by omega
            have HBR := hide hbr
            have M2 := hide m2
            have M5 := hide m5
            clear hbr m2 m5 w13 w1 w2
            go_wp2_with fail
            refine wp_region_tree (.q 0 (.q 1 (.q 2 (.q 3 (.x 4 (.q 5 (.q 6 .nil))))))) (fun W => Blk W b5 38 #[.string ⟨(wd ws 1).toArray⟩, .int .u8 (lv.toNat : Int), .int .u16 (ct.toNat : Int), .int .i64 (v.getD 0 0 : Nat), .int .i64 (v.getD 1 0 : Nat), .int .i64 (v.getD 2 0 : Nat), .int .i64 (v.getD 3 0 : Nat), .int .i64 (v.getD 4 0 : Nat), .int .i64 0] ∧ W.cell? ⟨b, o + 14, none⟩ = some (.string ⟨(wd ws 14).toArray⟩)) (by kernel_rfl) (by kernel_rfl) ⟨M5.out, j14⟩ ?_
            iterate 4 (refine wpT_q (v := ?_) (by simp only [List.getElem?_toArray, List.getElem?_cons_succ, List.getElem?_cons_zero]; try rfl) (by rfl) (fun W hW => ?_) ?_; rotate_left; (focus ((obtain ⟨hW1, hW2⟩ := hW; have c0 := hW1.cell 0; have c1 := hW1.cell 1; have c2 := hW1.cell 2; have c3 := hW1.cell 3; have c4 := hW1.cell 4; have c5 := hW1.cell 5; have c6 := hW1.cell 6; have c7 := hW1.cell 7; have c8 := hW1.cell 8; have cl := hW1.lt); go_simp; try with_reducible rfl)); try simp only [Act.put, List.setIfInBounds_toArray, List.set_cons_zero, List.set_cons_succ])
            refine wpT_x (by simp only [List.getElem?_toArray, List.getElem?_cons_succ, List.getElem?_cons_zero]; try rfl) (by rfl) (fun K hK => ?_)
            refine wp_store_row 38 (.tmp 2) (.tmp 81) (by rfl) b2 #[.string ⟨(wd ws 1).toArray⟩, .int .u8 (lv.toNat : Int), .int .u16 (ct.toNat : Int), .int .i64 (v.getD 0 0 : Nat), .int .i64 (v.getD 1 0 : Nat), .int .i64 (v.getD 2 0 : Nat), .int .i64 (v.getD 3 0 : Nat), .int .i64 (v.getD 4 0 : Nat), .int .i64 0] (by rfl) (by rfl) 38 _ M2.out (by kernel_rfl) (by rfl) (by simp [Value.oneCell']) ?_
            refine hK (fun W => Blk W b5 38 #[.string ⟨(wd ws 1).toArray⟩, .int .u8 (lv.toNat : Int), .int .u16 (ct.toNat : Int), .int .i64 (v.getD 0 0 : Nat), .int .i64 (v.getD 1 0 : Nat), .int .i64 (v.getD 2 0 : Nat), .int .i64 (v.getD 3 0 : Nat), .int .i64 (v.getD 4 0 : Nat), .int .i64 0] ∧ W.cell? ⟨b, o + 14, none⟩ = some (.string ⟨(wd ws 14).toArray⟩)) _ _ (fun _ h => h) ⟨(setRow_other wr b2 b5 _ (fun e => ne e.symm)).trans M5.out, ?_⟩ ?_
            · rw [← j14]
              exact World.cell?_of_block (a := ⟨b, o + 14, none⟩) (setRow_other wr b2 b _ (fun e => bne e))
            clear hK K
            try simp only [Act.put, List.setIfInBounds_toArray, List.set_cons_zero, List.set_cons_succ]
            iterate 2 (refine wpT_q (v := ?_) (by simp only [List.getElem?_toArray, List.getElem?_cons_succ, List.getElem?_cons_zero]; try rfl) (by rfl) (fun W hW => ?_) ?_; rotate_left; (focus ((obtain ⟨hW1, hW2⟩ := hW); go_simp; try with_reducible rfl)); try simp only [Act.put, List.setIfInBounds_toArray, List.set_cons_zero, List.set_cons_succ])
            refine wpT_nil ?_
            have H6 : Hid (Blk (wr.setRow b2 #[.string ⟨(wd ws 1).toArray⟩, .int .u8 (lv.toNat : Int), .int .u16 (ct.toNat : Int), .int .i64 (v.getD 0 0 : Nat), .int .i64 (v.getD 1 0 : Nat), .int .i64 (v.getD 2 0 : Nat), .int .i64 (v.getD 3 0 : Nat), .int .i64 (v.getD 4 0 : Nat), .int .i64 0]) b2 38 #[.string ⟨(wd ws 1).toArray⟩, .int .u8 (lv.toNat : Int), .int .u16 (ct.toNat : Int), .int .i64 (v.getD 0 0 : Nat), .int .i64 (v.getD 1 0 : Nat), .int .i64 (v.getD 2 0 : Nat), .int .i64 (v.getD 3 0 : Nat), .int .i64 (v.getD 4 0 : Nat), .int .i64 0]) := hide (setRow_heap _ _ _ _ _ _ M2.out)
            go_wp2
            refine bodyPost_ret (results_run3 rfl (ResV.struct rfl H6.out Tryd.underlying38 (by kernel_rfl)) rfl rfl) rfl ?_
            rw [hp.out]
            exact ⟨rfl, below_setRow HBR.out.drew (Nat.le_of_eq E2.out.symm) _⟩
    · have hp : Hid (regP ws = (none, 28)) := if_pos (.inr h13)
      have q1 : (wd ws 13 == [99, 108, 101, 97, 114]) = false := by simpa [clearW] using h13
      have q2 : ¬ wd ws 13 = [99, 108, 101, 97, 114] := h13
      have HB5 := hide hb5
      clear hb5 hw h13 hr
      go_wp2
      refine bodyPost_ret (results_run3 rfl (ResV.struct rfl ((Blk.new w0 _ _).alloc _) Tryd.underlying38 (by kernel_rfl)) rfl rfl) rfl ?_
      rw [hp.out]
      exact ⟨⟨ByteArray.empty, 0, 0, [], rfl⟩, HB5.out⟩
  · have t1 : ((ws.length : Int) == 15) = false := by simp; omega
    have hp : Hid (regP ws = (none, 28)) := if_pos (.inl h15)
    go_wp2_with fail
    refine bodyPost_ret (results_run3 rfl (ResV.struct rfl ((Blk.new w0 _ _).alloc _) Tryd.underlying38 (by kernel_rfl)) rfl rfl) rfl ?_
    rw [hp.out]
    exact ⟨⟨ByteArray.empty, 0, 0, [], rfl⟩, hb5⟩

end Go.Proofs.YtniboffmdkeacaaDoor

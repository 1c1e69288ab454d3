/- Configurations' texts: conf.Parse. Printed by wip/tools/confpar.py. -/
import Derived.Test.YtniboffmdkeacaaDoorConfParP
namespace Go.Proofs.YtniboffmdkeacaaDoor
open Go.RowKit Go.WideMaps
set_option linter.unusedSimpArgs false
set_option linter.unusedVariables false

theorem info_str : (Tryd.prog.info? 9).map (fun i => (i.zero, i.size, i.bytes)) = some (some (.string ByteArray.empty), 1, 16) := by kernel_rfl
theorem info_pair : (Tryd.prog.info? 102).map (fun i => (i.zero, i.size, i.bytes)) = some (some (.agg #[.string ByteArray.empty, .string ByteArray.empty]), 2, 32) := by kernel_rfl
/-- what conf.Parse answers -/
def ParSays (w w' : World) (p : Option (List RegV × List MarkV) × Nat × Int) (e : Ending) : Prop :=
  Below w.heap.size w w' ∧
  match p with
  | (none, n, er) => e = .returned (.tuple #[.pointer none, .int .i64 (n : Int), .int .i64 er])
  | (some (R, K), _) => (newE R K = 0 → ∃ c tb nb lb A1 A2 A3 c1 c2 c3, e = .returned (.tuple #[.pointer (some ⟨c, 0, none⟩), .int .i64 0, .int .i64 0]) ∧ ConfIn w.heap.size w' c R K tb nb lb A1 A2 A3 c1 c2 c3) ∧
      (newE R K ≠ 0 → e = .returned (.tuple #[.pointer none, .int .i64 0, .int .i64 (newE R K)]))

set_option maxRecDepth 100000 in
set_option maxHeartbeats 8000000 in
theorem parse_ok (s : ByteArray) (w : World) (hs : s.size ≤ 59000) (ha : ∀ (j : Nat) b, s.data.toList[j]? = some b → b.toNat < 128) (hL : Lw w) :
    Calls Tryd.prog 19 #[.string s] w fun e w' => ParSays w w' (parseP s) e := by
  obtain ⟨mx, hmx⟩ := hL.1
  have hw3 := hL.lt
  have hmm := @run_makeMap Tryd.prog
  go_enter Tryd.func19, Tryd.ntmps19
  have t1 : decide ((65536 : Int) < (s.size : Int)) = false := by simp; omega
  have hP : Hid (parseP s = match linesP ⟨[], [], [], []⟩ 0 (linesOf s) with
      | (none, n, e) => (none, n, e)
      | (some st, _) =>
        match clearsP st.regs st.regs st.clears with
        | none => (none, 0, 3)
        | some R =>
          match marksP R [] st.trust st.at_ with
          | (none, n, e) => (none, n, e)
          | (some K, _) => (some (R, K), 0, 0)) := if_neg (by omega)
  go_wp2_with fail
  refine (Tryd.strings_Split s ⟨#[10]⟩ mx w (by omega) hmx (by decide)).mono ?_
  rintro e w' ⟨rfl, rfl⟩
  have hLn : (linesOf s).length = Lib.countB s ⟨#[10]⟩ + 1 := linesOf_length s
  have hLs : ∀ l ∈ linesOf s, l.length ≤ 59000 ∧ ∀ (j : Nat) b, l[j]? = some b → b.toNat < 128 := fun l h => ⟨Nat.le_trans (linesOf_sub h).1 hs, (linesOf_sub h).2 ha⟩
  have hLc : (linesOf s).length ≤ 59001 := Nat.le_trans (linesOf_few s) (by omega)
  refine at_world (fun W => ∃ g, g = w.heap.size ∧ Below w.heap.size w W ∧ g < W.heap.size ∧ ∀ j l, (linesOf s)[j]? = some l → W.cell? ⟨g, j, none⟩ = some (.string ⟨l.toArray⟩)) ?_ (fun w1 h1 => ?_)
  · refine ⟨_, rfl, (Below.refl _ _).alloc (Nat.le_refl _) _, by simp, fun j l hj => ?_⟩
    rw [cell_of_row _ _ _ _ _ _ (heap_alloc_new w _)]
    have hj2 : ((Lib.splitB (str [10]) 0 (Lib.countB s (str [10])) s).map fun l => l.data.toList)[j]? = some l := hj
    rw [List.getElem?_map] at hj2
    have hx : (Lib.splitB ⟨#[10]⟩ 0 (Lib.countB s ⟨#[10]⟩) s)[j]? = (Lib.splitB (str [10]) 0 (Lib.countB s (str [10])) s)[j]? := rfl
    simp only [List.getElem?_toArray, List.getElem?_map, hx]
    cases hq : (Lib.splitB (str [10]) 0 (Lib.countB s (str [10])) s)[j]? with
    | none => rw [hq] at hj2; cases hj2
    | some x => rw [hq] at hj2; injection hj2 with hj2; simp [← hj2]
  obtain ⟨gl, egl, hb1, hgl, hlc⟩ := h1
  rw [← egl]
  rw [← hLn]
  have hL1 := hL.below' hb1
  have HB1 := hide hb1
  have EGL := hide egl
  have HLC := hide hlc
  have HL1 := hide hL1
  have HLN := hide hLn
  have HLS := hide hLs
  have HLm := hide hL
  have hL13 := hL1.lt
  clear hb1 egl hlc hL1 hLn hLs hL hmx
  generalize hLd : linesOf s = L at *
  have HLD := hide hLd
  clear hLd
  go_wp2
  go_loopg [5, 6, 7, 8, 35] L.length (fun g x5 x6 x7 x8 x35 wr => ∃ (st : PSt) (i : Nat) (A5 A6 A7 A8 : Option Addr) (c5 c6 c7 c8 : Nat), i ≤ L.length ∧ g = L.length - i ∧ x5 = .slice A5 st.regs.length c5 ∧ x6 = .slice A6 st.clears.length c6 ∧ x7 = .slice A7 st.trust.length c7 ∧ x8 = .slice A8 st.at_.length c8 ∧ x35 = .int .i64 (i : Int) ∧
    Below w1.heap.size w1 wr ∧ PRows w1.heap.size wr st A5 A6 A7 A8 c5 c6 c7 c8 ∧ Hid (linesP st i (L.drop i) = linesP ⟨[], [], [], []⟩ 0 L) ∧ Hid (PB st i))
  case atStart => exact ⟨⟨[], [], [], []⟩, 0, none, none, none, none, 0, 0, 0, 0, by omega, rfl, rfl, rfl, rfl, rfl, rfl, Below.refl _ _, ⟨⟨rfl, .inl ⟨rfl, rfl⟩⟩, ⟨rfl, .inl ⟨rfl, rfl⟩⟩, ⟨rfl, .inl ⟨rfl, rfl⟩⟩, ⟨rfl, .inl ⟨rfl, rfl⟩⟩⟩, hide rfl, hide ⟨Nat.le_refl _, Nat.le_refl _, rfl, rfl, by simp, by simp, by simp⟩⟩
  case round =>
    obtain ⟨st, i, A5, A6, A7, A8, c5, c6, c7, c8, hi, hg, rfl, rfl, rfl, rfl, rfl, hbr, hrows, hst, hln⟩ := hrel
    rcases Nat.lt_or_ge i L.length with hiL | hiL
    · have hiz : (i : Int) < L.length := by omega
      obtain ⟨l, hl⟩ : ∃ l, L[i]? = some l := ⟨_, List.getElem?_eq_getElem hiL⟩
      have hl59 := HLS.out l (List.mem_of_getElem? hl)
      have jc : wr.cell? ⟨gl, i, none⟩ = some (.string ⟨l.toArray⟩) := (hbr.cell (p := ⟨gl, i, none⟩) hgl).trans (HLC.out i l hl)
      have hglr : gl < wr.heap.size := Nat.lt_of_lt_of_le hgl hbr.size
      have hLr : Lw wr := HL1.out.below hbr hL13
      have hlz : (⟨l.toArray⟩ : ByteArray).size < 4294967281 := by simp [ByteArray.size]; omega
      have hln0 := linesP_at (st := st) hl
      have HLN0 := hide hln0
      have HBR := hide hbr
      have HRW := hide hrows
      have HLR := hide hLr
      clear hln0 hbr hrows hLr hl
      go_wp2_with fail
      refine (fields_ok _ _ hlz hl59.2 HLR.out).mono ?_
      intro e w2 h2
      change ∃ A g, A = some ⟨g, 0, none⟩ ∧ wr.heap.size ≤ g ∧ e = .returned (.slice A (fieldsP l).length (fieldsP l).length) ∧ Below wr.heap.size wr w2 ∧ Rd w2 w2.heap.size 1 A (fieldsP l).length (svs (fieldsP l)) at h2
      obtain ⟨_, gw, rfl, hgw, rfl, hb2, hrw⟩ := h2
      have hws59 : ∀ x ∈ fieldsP l, x.length ≤ 59000 := fun x hx => Nat.le_trans (fields_le hx) hl59.1
      generalize hws : fieldsP l = ws at *
      have hlin := HLN0.out
      have HB2 := hide (HBR.out.trans (hb2.mono HBR.out.size))
      have HR2 := hide (HRW.out.below hb2)
      have hwsz : ∀ x ∈ ws, x.length < 4294967281 := fun x hx => Nat.lt_of_le_of_lt (hws59 x hx) (by decide)
      have HWS := hide hws59
      clear hws59
      have HGW : Hid ((Value.slice A5 st.regs.length c5).ownBlock ≠ some gw ∧ (Value.slice A6 st.clears.length c6).ownBlock ≠ some gw ∧ (Value.slice A7 st.trust.length c7).ownBlock ≠ some gw ∧ (Value.slice A8 st.at_.length c8).ownBlock ≠ some gw) := hide ⟨fun e => by have := (own_block_ge HRW.out.regs e).2; omega, fun e => by have := (own_block_ge HRW.out.clears e).2; omega, fun e => by have := (own_block_ge HRW.out.trust e).2; omega, fun e => by have := (own_block_ge HRW.out.ats e).2; omega⟩
      clear jc hb2 hws hlz HLN0
      by_cases h0 : ws.length = 0
      · have hw0 := List.eq_nil_of_length_eq_zero h0
        have q0 : ((ws.length : Int) == 0) = true := by simp [h0]
        have hlin2 : linesP st i (L.drop i) = linesP st (i + 1) (L.drop (i + 1)) := by rw [hlin, hw0]; rfl
        have HLI := hide hlin2
        clear h0 hw0 hlin hlin2
        go_wp2
        go_roundg (L.length - (i + 1))
        case measure => omega
        case rel => exact ⟨st, i + 1, A5, A6, A7, A8, c5, c6, c7, c8, by omega, rfl, rfl, rfl, rfl, rfl, by go_num, HB2.out, HR2.out, hide (HLI.out.symm.trans hst.out), hide hln.out.skip⟩
      have q0 : ((ws.length : Int) == 0) = false := by simpa using fun h : ws = [] => h0 (by rw [h]; rfl)
      obtain ⟨bw, ow, hAw, hbw, hcw⟩ := rd_words hrw (by omega)
      cases hAw
      have hcw : ∀ k, k < ws.length → w2.cell? ⟨gw, k, none⟩ = some (.string ⟨(wd ws k).toArray⟩) := fun k hk => by have := hcw k hk; rwa [Nat.zero_add] at this
      have z0 := hcw 0 (by omega)
      have i0 : (0 : Int) < ws.length := by omega
      by_cases hlab : wd ws 0 = labelW
      · have qa : (wd ws 0 == [108, 97, 98, 101, 108]) = true := by simpa [labelW] using hlab
        have qb : wd ws 0 = [108, 97, 98, 101, 108] := hlab
        have hlr : Hid (lineP st (i + 1) ws = match regP ws with
          | (none, e) => (none, e)
          | (some (r, tw), _) => (some { st with regs := st.regs ++ [r], clears := st.clears ++ [tw] }, 0)) := by unfold lineP; rw [if_neg h0, if_pos hlab]; exact hide rfl
        have HRD := hide hrw
        clear hrw hcw h0 hlab
        go_wp2_with fail
        refine (regl_ok ws (some ⟨gw, 0, none⟩) _ _ HRD.out hwsz).mono ?_
        rintro e w3 ⟨hra, hb3⟩
        have HB3 := hide (HB2.out.trans (hb3.mono HB2.out.size))
        have HR3 := hide (HR2.out.below hb3)
        clear z0 hb3
        cases hreg : regP ws with
        | mk rr er =>
        rw [hreg] at hra
        have hlr2 := hlr.out
        rw [hreg] at hlr2
        cases rr with
        | none =>
          obtain ⟨nm, lv, ct, v, he⟩ := hra
          have her := regP_err hreg
          have te : (er == 0) = false := by rcases her with rfl | rfl <;> rfl
          have te2 : ¬ er = 0 := by rcases her with rfl | rfl <;> decide
          simp only [regA] at he
          subst he
          have hans : Hid (parseP s = (none, i + 1, er)) := by rw [hP.out, ← hst.out, hlin, hlr2]; exact hide rfl
          have HB4 := hide ((HB1.out.trans (HB3.out.mono HB1.out.size)).alloc (Nat.le_trans HB1.out.size HB3.out.size) (.cells #[.string nm, .int .u8 (lv.toNat : Int), .int .u16 (ct.toNat : Int), .int .i64 (v.getD 0 0 : Nat), .int .i64 (v.getD 1 0 : Nat), .int .i64 (v.getD 2 0 : Nat), .int .i64 (v.getD 3 0 : Nat), .int .i64 (v.getD 4 0 : Nat), .int .i64 0] 38))
          clear hlin hlr2 hreg her
          go_wp2
          go_returns
          exact ⟨HB4.out, by rw [hans.out]; rfl⟩
        | some q =>
          obtain ⟨r, tw⟩ := q
          simp only [RegAns, RegV.cells] at hra
          subst hra
          have hlin2 : linesP st i (L.drop i) = linesP { st with regs := st.regs ++ [r], clears := st.clears ++ [tw] } (i + 1) (L.drop (i + 1)) := by rw [hlin, hlr2]
          have HLI := hide hlin2
          have hrt := regP_texts hreg
          have HNM : Hid (r.name.length ≤ 59000 ∧ tw.length ≤ 59000) := hide ⟨by rw [hrt.1]; exact wd_le HWS.out 1, by rw [hrt.2]; exact wd_le HWS.out 14⟩
          clear hrt
          clear hlin hlin2 hlr2 hreg
          have hbx : Below w3.heap.size w3 (w3.alloc (.cells #[.string ⟨r.name.toArray⟩, .int .u8 (r.lev.toNat : Int), .int .u16 (r.cats.toNat : Int), .int .i64 r.blocks, .int .i64 r.nodes, .int .i64 r.frames, .int .i64 r.procs, .int .i64 r.opens, .int .i64 r.clear] 38)) := (Below.refl _ _).alloc (Nat.le_refl _) _
          have HR4 := hide (HR3.out.below hbx)
          have HB4 := hide (HB3.out.trans (hbx.mono HB3.out.size))
          have HBW := hide HB4.out.size
          have hrl := hln.out
          have hn17 : st.regs.length ≤ 1000000 := by have := hrl.regs; omega
          have hn17b : st.clears.length ≤ 1000000 := by have := hrl.regs; have := hrl.cl; omega
          have hBW := HBW.out
          clear hbx hrl
          obtain ⟨r0, hr0, r1, r2, r3⟩ := info_parts info_reg
          obtain ⟨s0, hs0, s1, s2, s3⟩ := info_parts info_str
          go_wp2_with (first | (at_builtin; (refine wpList_append_one rfl (.tmp 64) (.tmp 66) 43 rfl w1.heap.size 38 r0 (.agg #[.string ByteArray.empty, .int .u8 0, .int .u16 0, .int .i64 0, .int .i64 0, .int .i64 0, .int .i64 0, .int .i64 0, .int .i64 0]) 9 72 Tryd.underlying43 hr0 r1 r2 r3 rfl (by decide) A5 c5 st.regs.length (rcellsOf st.regs) r.cells (w3.alloc (.cells #[.string ⟨r.name.toArray⟩, .int .u8 (r.lev.toNat : Int), .int .u16 (r.cats.toNat : Int), .int .i64 r.blocks, .int .i64 r.nodes, .int .i64 r.frames, .int .i64 r.procs, .int .i64 r.opens, .int .i64 r.clear] 38)) rfl HR4.out.regs rfl (by simp [Act.eval]) rfl (by simp [RegV.cells, Value.oneCell']) hn17 (by decide) hBW ?_; intro A5' c5' w5 hown5 hg5 hb5 hat5; have k6 := own_besides HR4.out.clears HR4.out.regs (by decide) hg5; have k7 := own_besides HR4.out.trust HR4.out.regs (by decide) hg5; have k8 := own_besides HR4.out.ats HR4.out.regs (by decide) hg5; have hBW5 := Nat.le_trans hBW (Nat.le_trans (by simp) hb5.size); clear hg5 hat5)) | (at_builtin; go_must (refine wpList_append_one rfl (.tmp 68) (.tmp 70) 60 rfl w1.heap.size 9 s0 (.string ByteArray.empty) 1 16 Tryd.underlying60 hs0 s1 s2 s3 rfl (by decide) A6 c6 st.clears.length (svs st.clears) [.string ⟨tw.toArray⟩] w5 rfl k6 rfl rfl rfl (by simp [Value.oneCell']) hn17b (by decide) hBW5 ?_; intro A6' c6' w6 hown6 hg6 hb6 hat6)) | fail)
          have q6 := own_besides hown5 k6 (by decide) hg6
          have q7 := own_besides k7 k6 (by decide) hg6
          have q8 := own_besides k8 k6 (by decide) hg6
          go_roundg (L.length - (i + 1))
          case measure => omega
          case rel =>
            have hl := hln.out
            refine ⟨{ st with regs := st.regs ++ [r], clears := st.clears ++ [tw] }, i + 1, A5', A6', A7, A8, c5', c6', c7, c8, by omega, rfl, by simp, by simp, rfl, rfl, by go_num, (HB4.out.trans hb5).trans hb6, ⟨?_, ?_, q7, q8⟩, hide (HLI.out.symm.trans hst.out), hide (hl.label HNM.out.1 HNM.out.2)⟩
            · rw [rcellsOf_snoc, List.length_append, List.length_singleton]; exact q6
            · rw [svs_snoc, List.length_append, List.length_singleton]; exact hown6
      · have qa : (wd ws 0 == [108, 97, 98, 101, 108]) = false := by simpa [labelW] using hlab
        have qb : ¬ wd ws 0 = [108, 97, 98, 101, 108] := hlab
        by_cases htr : wd ws 0 = trustW ∧ ws.length = 3
        · have ra : (wd ws 0 == [116, 114, 117, 115, 116]) = true := by simpa [trustW] using htr.1
          have rb : wd ws 0 = [116, 114, 117, 115, 116] := htr.1
          have rc : ((ws.length : Int) == 3) = true := by simp; omega
          have qa2 : (([116, 114, 117, 115, 116] : List UInt8) == [108, 97, 98, 101, 108]) = false := by decide
          have z1 := hcw 1 (by omega)
          have z2 := hcw 2 (by omega)
          have i1 : (1 : Int) < ws.length := by omega
          have i2 : (2 : Int) < ws.length := by omega
          have hlin2 : linesP st i (L.drop i) = linesP { st with trust := st.trust ++ [(wd ws 1, wd ws 2)], at_ := st.at_ ++ [i + 1] } (i + 1) (L.drop (i + 1)) := by
            rw [hlin]; unfold lineP; rw [if_neg h0, if_neg hlab, if_pos htr]
          have HLI := hide hlin2
          have hgwl : gw < w2.heap.size := hbw
          have hrl := hln.out
          have hn7 : st.trust.length ≤ 59001 := by have := hrl.trust; omega
          have hn8 : st.at_.length ≤ 59001 := by have := hrl.trust; have := hrl.at_; omega
          clear hlin hlin2 hrw hcw h0 hlab hl59 htr qa qb hrl
          go_wp2
          obtain ⟨p0, hp0, p1, p2, p3⟩ := info_parts info_pair
          obtain ⟨n0, hn0, n1, n2, n3⟩ := info_parts info_int
          have wi : IntKind.i64.wrap ((i : Int) + 1) = (i : Int) + 1 := by rw [IntWalk.i64_in _ (by omega)]
          have NE7 := hide HGW.out.2.2.1
          have NE8 := hide HGW.out.2.2.2
          refine wp_region_tree (.q 0 (.q 1 (.q 2 (.q 3 (.q 4 (.q 5 (.q 6 (.q 7 (.q 10 (.q 11 (.q 12 (.br 8 (.br 9 (.x 13 (.x 14 (.q 15 (.q 16 .nil)))) 13 (.x 9 (.x 14 (.q 15 (.q 16 .nil))))) 13 (.x 8 (.x 9 (.x 14 (.q 15 (.q 16 .nil))))))))))))))))) (fun W => W.cell? ⟨gw, 1, none⟩ = some (.string ⟨(wd ws 1).toArray⟩) ∧ W.cell? ⟨gw, 2, none⟩ = some (.string ⟨(wd ws 2).toArray⟩)) (by kernel_rfl) (by kernel_rfl) ⟨z1, z2⟩ ?_
          iterate 11 (refine wpT_q (v := ?_) (by simp only [List.getElem?_toArray, List.getElem?_cons_succ, List.getElem?_cons_zero]; try rfl) (by rfl) (fun W hW => ?_) ?_; rotate_left; (focus ((obtain ⟨hW1, hW2⟩ := hW); go_simp; try with_reducible rfl)); try simp only [Act.put, List.setIfInBounds_toArray, List.set_cons_zero, List.set_cons_succ])
          refine at_world (fun W => Below w2.heap.size w2 W) (Below.refl _ _).drew (fun w20 hbx => ?_)
          have Bw20 := hide (HB2.out.trans (hbx.mono HB2.out.size))
          have O5w20 := hide (own_below HR2.out.regs hbx)
          have O6w20 := hide (own_below HR2.out.clears hbx)
          have O7w20 := hide (own_below HR2.out.trust hbx)
          have O8w20 := hide (own_below HR2.out.ats hbx)
          have Cw20 : Hid (w20.cell? ⟨gw, 1, none⟩ = some (.string ⟨(wd ws 1).toArray⟩) ∧ w20.cell? ⟨gw, 2, none⟩ = some (.string ⟨(wd ws 2).toArray⟩)) := hide ⟨(hbx.cell (p := ⟨gw, 1, none⟩) hgwl).trans z1, (hbx.cell (p := ⟨gw, 2, none⟩) hgwl).trans z2⟩
          have Gw20 := hide (Nat.lt_of_lt_of_le hgwl hbx.size)
          clear hbx
          refine wpT_br ?_ ?_
          · refine wpT_x (by simp only [List.getElem?_toArray, List.getElem?_cons_succ, List.getElem?_cons_zero]; try rfl) (by rfl) (fun K hK => ?_)
            go_simp
            have hbx : Below w20.heap.size w20 (w20.alloc (.cells #[.string ⟨(wd ws 1).toArray⟩, .string ⟨(wd ws 2).toArray⟩] 102)) := (Below.refl _ _).alloc (Nat.le_refl _) _
            refine hK (fun W => W.cell? ⟨gw, 1, none⟩ = some (.string ⟨(wd ws 1).toArray⟩) ∧ W.cell? ⟨gw, 2, none⟩ = some (.string ⟨(wd ws 2).toArray⟩)) _ _ (fun _ h => h) ⟨(hbx.cell (p := ⟨gw, 1, none⟩) Gw20.out).trans Cw20.out.1, (hbx.cell (p := ⟨gw, 2, none⟩) Gw20.out).trans Cw20.out.2⟩ ?_
            clear hK K hbx
            try simp only [Act.put, List.setIfInBounds_toArray, List.set_cons_zero, List.set_cons_succ]
            refine at_world (fun W => Below w20.heap.size w20 W ∧ Blk W w20.heap.size 102 #[.string ⟨(wd ws 1).toArray⟩, .string ⟨(wd ws 2).toArray⟩]) ⟨(Below.refl _ _).alloc (Nat.le_refl _) _, Blk.new _ _ _⟩ (fun w21 h9 => ?_)
            obtain ⟨hbx, hl9⟩ := h9
            have Bw21 := hide (Bw20.out.trans (hbx.mono Bw20.out.size))
            have O5w21 := hide (own_below O5w20.out hbx)
            have O6w21 := hide (own_below O6w20.out hbx)
            have O7w21 := hide (own_below O7w20.out hbx)
            have O8w21 := hide (own_below O8w20.out hbx)
            have Cw21 : Hid (w21.cell? ⟨gw, 1, none⟩ = some (.string ⟨(wd ws 1).toArray⟩) ∧ w21.cell? ⟨gw, 2, none⟩ = some (.string ⟨(wd ws 2).toArray⟩)) := hide ⟨(hbx.cell (p := ⟨gw, 1, none⟩) Gw20.out).trans Cw20.out.1, (hbx.cell (p := ⟨gw, 2, none⟩) Gw20.out).trans Cw20.out.2⟩
            have Gw21 := hide (Nat.lt_of_lt_of_le Gw20.out hbx.size)
            have L90w21 := hide hl9
            clear hbx hl9
            refine wpT_br ?_ ?_
            · refine wpT_x (by simp only [List.getElem?_toArray, List.getElem?_cons_succ, List.getElem?_cons_zero]; try rfl) (by rfl) (fun K hK => ?_)
              refine wp_append_rd w21 (.tmp 82) (.tmp 90) 96 (by rfl) w1.heap.size 102 p0 (.agg #[.string ByteArray.empty, .string ByteArray.empty]) 2 32 Tryd.underlying96 hp0 p1 p2 p3 rfl (by decide) (.slice A7 st.trust.length c7) st.trust.length (tcells st.trust) (by rfl) O7w21.out _ (some ⟨w20.heap.size, 0, none⟩) 1 1 [.string ⟨(wd ws 1).toArray⟩, .string ⟨(wd ws 2).toArray⟩] (by rfl) (Rd.of_blk L90w21.out rfl rfl) (by simp [Value.oneCell']) (by simp only [maxLen]; omega) (by omega) Bw21.out.size ?_
              intro v9 w22 hown hg9 _ hat
              obtain ⟨A7', c7', rfl⟩ := own_at hown
              have hb9 : Below w1.heap.size w21 w22 := grown_below O7w21.out Bw21.out.size hg9
              have Cw22 : Hid (w22.cell? ⟨gw, 1, none⟩ = some (.string ⟨(wd ws 1).toArray⟩) ∧ w22.cell? ⟨gw, 2, none⟩ = some (.string ⟨(wd ws 2).toArray⟩)) := hide ⟨(World.cell?_of_block (a := ⟨gw, 1, none⟩) (hg9.block gw Gw21.out (fun e => NE7.out e.symm))).trans Cw21.out.1, (World.cell?_of_block (a := ⟨gw, 2, none⟩) (hg9.block gw Gw21.out (fun e => NE7.out e.symm))).trans Cw21.out.2⟩
              refine hK (fun W => W.cell? ⟨gw, 1, none⟩ = some (.string ⟨(wd ws 1).toArray⟩) ∧ W.cell? ⟨gw, 2, none⟩ = some (.string ⟨(wd ws 2).toArray⟩)) _ _ (fun _ h => h) Cw22.out ?_
              clear hK K
              try simp only [Act.put, List.setIfInBounds_toArray, List.set_cons_zero, List.set_cons_succ]
              have Bw22 := hide (Bw21.out.trans hb9)
              have O5w22 := hide (own_besides O5w21.out O7w21.out (by decide) hg9)
              have O6w22 := hide (own_besides O6w21.out O7w21.out (by decide) hg9)
              have O7w22 := hide hown
              have O8w22 := hide (own_besides O8w21.out O7w21.out (by decide) hg9)
              have Gw22 := hide (Nat.lt_of_lt_of_le Gw21.out hg9.size)
              clear hown hg9 hat hb9
              refine wpT_x (by simp only [List.getElem?_toArray, List.getElem?_cons_succ, List.getElem?_cons_zero]; try rfl) (by rfl) (fun K hK => ?_)
              go_simp
              have hbx : Below w22.heap.size w22 (w22.alloc (.cells #[.int .i64 ((i : Int) + 1)] 3)) := (Below.refl _ _).alloc (Nat.le_refl _) _
              refine hK (fun W => W.cell? ⟨gw, 1, none⟩ = some (.string ⟨(wd ws 1).toArray⟩) ∧ W.cell? ⟨gw, 2, none⟩ = some (.string ⟨(wd ws 2).toArray⟩)) _ _ (fun _ h => h) ⟨(hbx.cell (p := ⟨gw, 1, none⟩) Gw22.out).trans Cw22.out.1, (hbx.cell (p := ⟨gw, 2, none⟩) Gw22.out).trans Cw22.out.2⟩ ?_
              clear hK K hbx
              try simp only [Act.put, List.setIfInBounds_toArray, List.set_cons_zero, List.set_cons_succ]
              refine at_world (fun W => Below w22.heap.size w22 W ∧ Blk W w22.heap.size 3 #[.int .i64 ((i : Int) + 1)]) ⟨(Below.refl _ _).alloc (Nat.le_refl _) _, Blk.new _ _ _⟩ (fun w23 h9 => ?_)
              obtain ⟨hbx, hl9⟩ := h9
              have Bw23 := hide (Bw22.out.trans (hbx.mono Bw22.out.size))
              have O5w23 := hide (own_below O5w22.out hbx)
              have O6w23 := hide (own_below O6w22.out hbx)
              have O7w23 := hide (own_below O7w22.out hbx)
              have O8w23 := hide (own_below O8w22.out hbx)
              have Cw23 : Hid (w23.cell? ⟨gw, 1, none⟩ = some (.string ⟨(wd ws 1).toArray⟩) ∧ w23.cell? ⟨gw, 2, none⟩ = some (.string ⟨(wd ws 2).toArray⟩)) := hide ⟨(hbx.cell (p := ⟨gw, 1, none⟩) Gw22.out).trans Cw22.out.1, (hbx.cell (p := ⟨gw, 2, none⟩) Gw22.out).trans Cw22.out.2⟩
              have Gw23 := hide (Nat.lt_of_lt_of_le Gw22.out hbx.size)
              have L95w23 := hide hl9
              clear hbx hl9
              refine wpT_x (by simp only [List.getElem?_toArray, List.getElem?_cons_succ, List.getElem?_cons_zero]; try rfl) (by rfl) (fun K hK => ?_)
              refine wp_append_rd w23 (.tmp 92) (.tmp 95) 97 (by rfl) w1.heap.size 3 n0 (.int .i64 0) 1 8 Tryd.underlying97 hn0 n1 n2 n3 rfl (by decide) (.slice A8 st.at_.length c8) st.at_.length (ivs st.at_) (by rfl) O8w23.out _ (some ⟨w22.heap.size, 0, none⟩) 1 1 [.int .i64 ((i : Int) + 1)] (by rfl) (Rd.of_blk L95w23.out rfl rfl) (by simp [Value.oneCell']) (by simp only [maxLen]; omega) (by omega) Bw23.out.size ?_
              intro v9 w24 hown hg9 _ hat
              obtain ⟨A8', c8', rfl⟩ := own_at hown
              have hb9 : Below w1.heap.size w23 w24 := grown_below O8w23.out Bw23.out.size hg9
              have Cw24 : Hid (w24.cell? ⟨gw, 1, none⟩ = some (.string ⟨(wd ws 1).toArray⟩) ∧ w24.cell? ⟨gw, 2, none⟩ = some (.string ⟨(wd ws 2).toArray⟩)) := hide ⟨(World.cell?_of_block (a := ⟨gw, 1, none⟩) (hg9.block gw Gw23.out (fun e => NE8.out e.symm))).trans Cw23.out.1, (World.cell?_of_block (a := ⟨gw, 2, none⟩) (hg9.block gw Gw23.out (fun e => NE8.out e.symm))).trans Cw23.out.2⟩
              refine hK (fun W => W.cell? ⟨gw, 1, none⟩ = some (.string ⟨(wd ws 1).toArray⟩) ∧ W.cell? ⟨gw, 2, none⟩ = some (.string ⟨(wd ws 2).toArray⟩)) _ _ (fun _ h => h) Cw24.out ?_
              clear hK K
              try simp only [Act.put, List.setIfInBounds_toArray, List.set_cons_zero, List.set_cons_succ]
              have Bw24 := hide (Bw23.out.trans hb9)
              have O5w24 := hide (own_besides O5w23.out O8w23.out (by decide) hg9)
              have O6w24 := hide (own_besides O6w23.out O8w23.out (by decide) hg9)
              have O7w24 := hide (own_besides O7w23.out O8w23.out (by decide) hg9)
              have O8w24 := hide hown
              have Gw24 := hide (Nat.lt_of_lt_of_le Gw23.out hg9.size)
              clear hown hg9 hat hb9
              iterate 2 (refine wpT_q (v := ?_) (by simp only [List.getElem?_toArray, List.getElem?_cons_succ, List.getElem?_cons_zero]; try rfl) (by rfl) (fun W hW => ?_) ?_; rotate_left; (focus (skip; go_simp; try with_reducible rfl)); try simp only [Act.put, List.setIfInBounds_toArray, List.set_cons_zero, List.set_cons_succ])
              refine wpT_nil ?_
              clear ra rb rc z0 z1 z2 i0 i1 i2
              go_wp2
              go_roundg (L.length - (i + 1))
              case measure => omega
              case rel =>
                have hl := hln.out
                refine ⟨{ st with trust := st.trust ++ [(wd ws 1, wd ws 2)], at_ := st.at_ ++ [i + 1] }, i + 1, A5, A6, A7', A8', c5, c6, c7', c8', by omega, rfl, rfl, rfl, by simp, by simp, by go_num, Bw24.out, ⟨O5w24.out, O6w24.out, ?_, ?_⟩, hide (HLI.out.symm.trans hst.out), hide (hl.mark (wd_le HWS.out 1))⟩
                · rw [tcells_snoc, List.length_append, List.length_singleton]; exact O7w24.out
                · rw [ivs_snoc, List.length_append, List.length_singleton]; exact O8w24.out
            · refine wpT_x (by simp only [List.getElem?_toArray, List.getElem?_cons_succ, List.getElem?_cons_zero]; try rfl) (by rfl) (fun K hK => ?_)
              go_simp
              have hbx : Below w21.heap.size w21 (w21.alloc (.cells #[.int .i64 ((i : Int) + 1)] 3)) := (Below.refl _ _).alloc (Nat.le_refl _) _
              refine hK (fun W => W.cell? ⟨gw, 1, none⟩ = some (.string ⟨(wd ws 1).toArray⟩) ∧ W.cell? ⟨gw, 2, none⟩ = some (.string ⟨(wd ws 2).toArray⟩)) _ _ (fun _ h => h) ⟨(hbx.cell (p := ⟨gw, 1, none⟩) Gw21.out).trans Cw21.out.1, (hbx.cell (p := ⟨gw, 2, none⟩) Gw21.out).trans Cw21.out.2⟩ ?_
              clear hK K hbx
              try simp only [Act.put, List.setIfInBounds_toArray, List.set_cons_zero, List.set_cons_succ]
              refine at_world (fun W => Below w21.heap.size w21 W ∧ Blk W w21.heap.size 3 #[.int .i64 ((i : Int) + 1)]) ⟨(Below.refl _ _).alloc (Nat.le_refl _) _, Blk.new _ _ _⟩ (fun w22 h9 => ?_)
              obtain ⟨hbx, hl9⟩ := h9
              have Bw22 := hide (Bw21.out.trans (hbx.mono Bw21.out.size))
              have O5w22 := hide (own_below O5w21.out hbx)
              have O6w22 := hide (own_below O6w21.out hbx)
              have O7w22 := hide (own_below O7w21.out hbx)
              have O8w22 := hide (own_below O8w21.out hbx)
              have Cw22 : Hid (w22.cell? ⟨gw, 1, none⟩ = some (.string ⟨(wd ws 1).toArray⟩) ∧ w22.cell? ⟨gw, 2, none⟩ = some (.string ⟨(wd ws 2).toArray⟩)) := hide ⟨(hbx.cell (p := ⟨gw, 1, none⟩) Gw21.out).trans Cw21.out.1, (hbx.cell (p := ⟨gw, 2, none⟩) Gw21.out).trans Cw21.out.2⟩
              have Gw22 := hide (Nat.lt_of_lt_of_le Gw21.out hbx.size)
              have L90w22 := hide (L90w21.out.below hbx L90w21.out.lt)
              have L95w22 := hide hl9
              clear hbx hl9
              refine wpT_x (by simp only [List.getElem?_toArray, List.getElem?_cons_succ, List.getElem?_cons_zero]; try rfl) (by rfl) (fun K hK => ?_)
              refine wp_append_rd w22 (.tmp 82) (.tmp 90) 96 (by rfl) w1.heap.size 102 p0 (.agg #[.string ByteArray.empty, .string ByteArray.empty]) 2 32 Tryd.underlying96 hp0 p1 p2 p3 rfl (by decide) (.slice A7 st.trust.length c7) st.trust.length (tcells st.trust) (by rfl) O7w22.out _ (some ⟨w20.heap.size, 0, none⟩) 1 1 [.string ⟨(wd ws 1).toArray⟩, .string ⟨(wd ws 2).toArray⟩] (by rfl) (Rd.of_blk L90w22.out rfl rfl) (by simp [Value.oneCell']) (by simp only [maxLen]; omega) (by omega) Bw22.out.size ?_
              intro v9 w23 hown hg9 _ hat
              obtain ⟨A7', c7', rfl⟩ := own_at hown
              have hb9 : Below w1.heap.size w22 w23 := grown_below O7w22.out Bw22.out.size hg9
              have Cw23 : Hid (w23.cell? ⟨gw, 1, none⟩ = some (.string ⟨(wd ws 1).toArray⟩) ∧ w23.cell? ⟨gw, 2, none⟩ = some (.string ⟨(wd ws 2).toArray⟩)) := hide ⟨(World.cell?_of_block (a := ⟨gw, 1, none⟩) (hg9.block gw Gw22.out (fun e => NE7.out e.symm))).trans Cw22.out.1, (World.cell?_of_block (a := ⟨gw, 2, none⟩) (hg9.block gw Gw22.out (fun e => NE7.out e.symm))).trans Cw22.out.2⟩
              refine hK (fun W => W.cell? ⟨gw, 1, none⟩ = some (.string ⟨(wd ws 1).toArray⟩) ∧ W.cell? ⟨gw, 2, none⟩ = some (.string ⟨(wd ws 2).toArray⟩)) _ _ (fun _ h => h) Cw23.out ?_
              clear hK K
              try simp only [Act.put, List.setIfInBounds_toArray, List.set_cons_zero, List.set_cons_succ]
              have Bw23 := hide (Bw22.out.trans hb9)
              have O5w23 := hide (own_besides O5w22.out O7w22.out (by decide) hg9)
              have O6w23 := hide (own_besides O6w22.out O7w22.out (by decide) hg9)
              have O7w23 := hide hown
              have O8w23 := hide (own_besides O8w22.out O7w22.out (by decide) hg9)
              have Gw23 := hide (Nat.lt_of_lt_of_le Gw22.out hg9.size)
              have L95w23 := hide (L95w22.out.grown hg9 (fun e => blk_not_own L95w22.out O7w22.out (by decide) e.symm))
              clear hown hg9 hat hb9
              refine wpT_x (by simp only [List.getElem?_toArray, List.getElem?_cons_succ, List.getElem?_cons_zero]; try rfl) (by rfl) (fun K hK => ?_)
              refine wp_append_rd w23 (.tmp 92) (.tmp 95) 97 (by rfl) w1.heap.size 3 n0 (.int .i64 0) 1 8 Tryd.underlying97 hn0 n1 n2 n3 rfl (by decide) (.slice A8 st.at_.length c8) st.at_.length (ivs st.at_) (by rfl) O8w23.out _ (some ⟨w21.heap.size, 0, none⟩) 1 1 [.int .i64 ((i : Int) + 1)] (by rfl) (Rd.of_blk L95w23.out rfl rfl) (by simp [Value.oneCell']) (by simp only [maxLen]; omega) (by omega) Bw23.out.size ?_
              intro v9 w24 hown hg9 _ hat
              obtain ⟨A8', c8', rfl⟩ := own_at hown
              have hb9 : Below w1.heap.size w23 w24 := grown_below O8w23.out Bw23.out.size hg9
              have Cw24 : Hid (w24.cell? ⟨gw, 1, none⟩ = some (.string ⟨(wd ws 1).toArray⟩) ∧ w24.cell? ⟨gw, 2, none⟩ = some (.string ⟨(wd ws 2).toArray⟩)) := hide ⟨(World.cell?_of_block (a := ⟨gw, 1, none⟩) (hg9.block gw Gw23.out (fun e => NE8.out e.symm))).trans Cw23.out.1, (World.cell?_of_block (a := ⟨gw, 2, none⟩) (hg9.block gw Gw23.out (fun e => NE8.out e.symm))).trans Cw23.out.2⟩
              refine hK (fun W => W.cell? ⟨gw, 1, none⟩ = some (.string ⟨(wd ws 1).toArray⟩) ∧ W.cell? ⟨gw, 2, none⟩ = some (.string ⟨(wd ws 2).toArray⟩)) _ _ (fun _ h => h) Cw24.out ?_
              clear hK K
              try simp only [Act.put, List.setIfInBounds_toArray, List.set_cons_zero, List.set_cons_succ]
              have Bw24 := hide (Bw23.out.trans hb9)
              have O5w24 := hide (own_besides O5w23.out O8w23.out (by decide) hg9)
              have O6w24 := hide (own_besides O6w23.out O8w23.out (by decide) hg9)
              have O7w24 := hide (own_besides O7w23.out O8w23.out (by decide) hg9)
              have O8w24 := hide hown
              have Gw24 := hide (Nat.lt_of_lt_of_le Gw23.out hg9.size)
              clear hown hg9 hat hb9
              iterate 2 (refine wpT_q (v := ?_) (by simp only [List.getElem?_toArray, List.getElem?_cons_succ, List.getElem?_cons_zero]; try rfl) (by rfl) (fun W hW => ?_) ?_; rotate_left; (focus (skip; go_simp; try with_reducible rfl)); try simp only [Act.put, List.setIfInBounds_toArray, List.set_cons_zero, List.set_cons_succ])
              refine wpT_nil ?_
              clear ra rb rc z0 z1 z2 i0 i1 i2
              go_wp2
              go_roundg (L.length - (i + 1))
              case measure => omega
              case rel =>
                have hl := hln.out
                refine ⟨{ st with trust := st.trust ++ [(wd ws 1, wd ws 2)], at_ := st.at_ ++ [i + 1] }, i + 1, A5, A6, A7', A8', c5, c6, c7', c8', by omega, rfl, rfl, rfl, by simp, by simp, by go_num, Bw24.out, ⟨O5w24.out, O6w24.out, ?_, ?_⟩, hide (HLI.out.symm.trans hst.out), hide (hl.mark (wd_le HWS.out 1))⟩
                · rw [tcells_snoc, List.length_append, List.length_singleton]; exact O7w24.out
                · rw [ivs_snoc, List.length_append, List.length_singleton]; exact O8w24.out
          · refine wpT_x (by simp only [List.getElem?_toArray, List.getElem?_cons_succ, List.getElem?_cons_zero]; try rfl) (by rfl) (fun K hK => ?_)
            go_simp
            have hbx : Below w20.heap.size w20 (w20.alloc (.cells #[.int .i64 ((i : Int) + 1)] 3)) := (Below.refl _ _).alloc (Nat.le_refl _) _
            refine hK (fun W => W.cell? ⟨gw, 1, none⟩ = some (.string ⟨(wd ws 1).toArray⟩) ∧ W.cell? ⟨gw, 2, none⟩ = some (.string ⟨(wd ws 2).toArray⟩)) _ _ (fun _ h => h) ⟨(hbx.cell (p := ⟨gw, 1, none⟩) Gw20.out).trans Cw20.out.1, (hbx.cell (p := ⟨gw, 2, none⟩) Gw20.out).trans Cw20.out.2⟩ ?_
            clear hK K hbx
            try simp only [Act.put, List.setIfInBounds_toArray, List.set_cons_zero, List.set_cons_succ]
            refine at_world (fun W => Below w20.heap.size w20 W ∧ Blk W w20.heap.size 3 #[.int .i64 ((i : Int) + 1)]) ⟨(Below.refl _ _).alloc (Nat.le_refl _) _, Blk.new _ _ _⟩ (fun w21 h9 => ?_)
            obtain ⟨hbx, hl9⟩ := h9
            have Bw21 := hide (Bw20.out.trans (hbx.mono Bw20.out.size))
            have O5w21 := hide (own_below O5w20.out hbx)
            have O6w21 := hide (own_below O6w20.out hbx)
            have O7w21 := hide (own_below O7w20.out hbx)
            have O8w21 := hide (own_below O8w20.out hbx)
            have Cw21 : Hid (w21.cell? ⟨gw, 1, none⟩ = some (.string ⟨(wd ws 1).toArray⟩) ∧ w21.cell? ⟨gw, 2, none⟩ = some (.string ⟨(wd ws 2).toArray⟩)) := hide ⟨(hbx.cell (p := ⟨gw, 1, none⟩) Gw20.out).trans Cw20.out.1, (hbx.cell (p := ⟨gw, 2, none⟩) Gw20.out).trans Cw20.out.2⟩
            have Gw21 := hide (Nat.lt_of_lt_of_le Gw20.out hbx.size)
            have L95w21 := hide hl9
            clear hbx hl9
            refine wpT_x (by simp only [List.getElem?_toArray, List.getElem?_cons_succ, List.getElem?_cons_zero]; try rfl) (by rfl) (fun K hK => ?_)
            go_simp
            have hbx : Below w21.heap.size w21 (w21.alloc (.cells #[.string ⟨(wd ws 1).toArray⟩, .string ⟨(wd ws 2).toArray⟩] 102)) := (Below.refl _ _).alloc (Nat.le_refl _) _
            refine hK (fun W => W.cell? ⟨gw, 1, none⟩ = some (.string ⟨(wd ws 1).toArray⟩) ∧ W.cell? ⟨gw, 2, none⟩ = some (.string ⟨(wd ws 2).toArray⟩)) _ _ (fun _ h => h) ⟨(hbx.cell (p := ⟨gw, 1, none⟩) Gw21.out).trans Cw21.out.1, (hbx.cell (p := ⟨gw, 2, none⟩) Gw21.out).trans Cw21.out.2⟩ ?_
            clear hK K hbx
            try simp only [Act.put, List.setIfInBounds_toArray, List.set_cons_zero, List.set_cons_succ]
            refine at_world (fun W => Below w21.heap.size w21 W ∧ Blk W w21.heap.size 102 #[.string ⟨(wd ws 1).toArray⟩, .string ⟨(wd ws 2).toArray⟩]) ⟨(Below.refl _ _).alloc (Nat.le_refl _) _, Blk.new _ _ _⟩ (fun w22 h9 => ?_)
            obtain ⟨hbx, hl9⟩ := h9
            have Bw22 := hide (Bw21.out.trans (hbx.mono Bw21.out.size))
            have O5w22 := hide (own_below O5w21.out hbx)
            have O6w22 := hide (own_below O6w21.out hbx)
            have O7w22 := hide (own_below O7w21.out hbx)
            have O8w22 := hide (own_below O8w21.out hbx)
            have Cw22 : Hid (w22.cell? ⟨gw, 1, none⟩ = some (.string ⟨(wd ws 1).toArray⟩) ∧ w22.cell? ⟨gw, 2, none⟩ = some (.string ⟨(wd ws 2).toArray⟩)) := hide ⟨(hbx.cell (p := ⟨gw, 1, none⟩) Gw21.out).trans Cw21.out.1, (hbx.cell (p := ⟨gw, 2, none⟩) Gw21.out).trans Cw21.out.2⟩
            have Gw22 := hide (Nat.lt_of_lt_of_le Gw21.out hbx.size)
            have L95w22 := hide (L95w21.out.below hbx L95w21.out.lt)
            have L90w22 := hide hl9
            clear hbx hl9
            refine wpT_x (by simp only [List.getElem?_toArray, List.getElem?_cons_succ, List.getElem?_cons_zero]; try rfl) (by rfl) (fun K hK => ?_)
            refine wp_append_rd w22 (.tmp 82) (.tmp 90) 96 (by rfl) w1.heap.size 102 p0 (.agg #[.string ByteArray.empty, .string ByteArray.empty]) 2 32 Tryd.underlying96 hp0 p1 p2 p3 rfl (by decide) (.slice A7 st.trust.length c7) st.trust.length (tcells st.trust) (by rfl) O7w22.out _ (some ⟨w21.heap.size, 0, none⟩) 1 1 [.string ⟨(wd ws 1).toArray⟩, .string ⟨(wd ws 2).toArray⟩] (by rfl) (Rd.of_blk L90w22.out rfl rfl) (by simp [Value.oneCell']) (by simp only [maxLen]; omega) (by omega) Bw22.out.size ?_
            intro v9 w23 hown hg9 _ hat
            obtain ⟨A7', c7', rfl⟩ := own_at hown
            have hb9 : Below w1.heap.size w22 w23 := grown_below O7w22.out Bw22.out.size hg9
            have Cw23 : Hid (w23.cell? ⟨gw, 1, none⟩ = some (.string ⟨(wd ws 1).toArray⟩) ∧ w23.cell? ⟨gw, 2, none⟩ = some (.string ⟨(wd ws 2).toArray⟩)) := hide ⟨(World.cell?_of_block (a := ⟨gw, 1, none⟩) (hg9.block gw Gw22.out (fun e => NE7.out e.symm))).trans Cw22.out.1, (World.cell?_of_block (a := ⟨gw, 2, none⟩) (hg9.block gw Gw22.out (fun e => NE7.out e.symm))).trans Cw22.out.2⟩
            refine hK (fun W => W.cell? ⟨gw, 1, none⟩ = some (.string ⟨(wd ws 1).toArray⟩) ∧ W.cell? ⟨gw, 2, none⟩ = some (.string ⟨(wd ws 2).toArray⟩)) _ _ (fun _ h => h) Cw23.out ?_
            clear hK K
            try simp only [Act.put, List.setIfInBounds_toArray, List.set_cons_zero, List.set_cons_succ]
            have Bw23 := hide (Bw22.out.trans hb9)
            have O5w23 := hide (own_besides O5w22.out O7w22.out (by decide) hg9)
            have O6w23 := hide (own_besides O6w22.out O7w22.out (by decide) hg9)
            have O7w23 := hide hown
            have O8w23 := hide (own_besides O8w22.out O7w22.out (by decide) hg9)
            have Gw23 := hide (Nat.lt_of_lt_of_le Gw22.out hg9.size)
            have L95w23 := hide (L95w22.out.grown hg9 (fun e => blk_not_own L95w22.out O7w22.out (by decide) e.symm))
            clear hown hg9 hat hb9
            refine wpT_x (by simp only [List.getElem?_toArray, List.getElem?_cons_succ, List.getElem?_cons_zero]; try rfl) (by rfl) (fun K hK => ?_)
            refine wp_append_rd w23 (.tmp 92) (.tmp 95) 97 (by rfl) w1.heap.size 3 n0 (.int .i64 0) 1 8 Tryd.underlying97 hn0 n1 n2 n3 rfl (by decide) (.slice A8 st.at_.length c8) st.at_.length (ivs st.at_) (by rfl) O8w23.out _ (some ⟨w20.heap.size, 0, none⟩) 1 1 [.int .i64 ((i : Int) + 1)] (by rfl) (Rd.of_blk L95w23.out rfl rfl) (by simp [Value.oneCell']) (by simp only [maxLen]; omega) (by omega) Bw23.out.size ?_
            intro v9 w24 hown hg9 _ hat
            obtain ⟨A8', c8', rfl⟩ := own_at hown
            have hb9 : Below w1.heap.size w23 w24 := grown_below O8w23.out Bw23.out.size hg9
            have Cw24 : Hid (w24.cell? ⟨gw, 1, none⟩ = some (.string ⟨(wd ws 1).toArray⟩) ∧ w24.cell? ⟨gw, 2, none⟩ = some (.string ⟨(wd ws 2).toArray⟩)) := hide ⟨(World.cell?_of_block (a := ⟨gw, 1, none⟩) (hg9.block gw Gw23.out (fun e => NE8.out e.symm))).trans Cw23.out.1, (World.cell?_of_block (a := ⟨gw, 2, none⟩) (hg9.block gw Gw23.out (fun e => NE8.out e.symm))).trans Cw23.out.2⟩
            refine hK (fun W => W.cell? ⟨gw, 1, none⟩ = some (.string ⟨(wd ws 1).toArray⟩) ∧ W.cell? ⟨gw, 2, none⟩ = some (.string ⟨(wd ws 2).toArray⟩)) _ _ (fun _ h => h) Cw24.out ?_
            clear hK K
            try simp only [Act.put, List.setIfInBounds_toArray, List.set_cons_zero, List.set_cons_succ]
            have Bw24 := hide (Bw23.out.trans hb9)
            have O5w24 := hide (own_besides O5w23.out O8w23.out (by decide) hg9)
            have O6w24 := hide (own_besides O6w23.out O8w23.out (by decide) hg9)
            have O7w24 := hide (own_besides O7w23.out O8w23.out (by decide) hg9)
            have O8w24 := hide hown
            have Gw24 := hide (Nat.lt_of_lt_of_le Gw23.out hg9.size)
            clear hown hg9 hat hb9
            iterate 2 (refine wpT_q (v := ?_) (by simp only [List.getElem?_toArray, List.getElem?_cons_succ, List.getElem?_cons_zero]; try rfl) (by rfl) (fun W hW => ?_) ?_; rotate_left; (focus (skip; go_simp; try with_reducible rfl)); try simp only [Act.put, List.setIfInBounds_toArray, List.set_cons_zero, List.set_cons_succ])
            refine wpT_nil ?_
            clear ra rb rc z0 z1 z2 i0 i1 i2
            go_wp2
            go_roundg (L.length - (i + 1))
            case measure => omega
            case rel =>
              have hl := hln.out
              refine ⟨{ st with trust := st.trust ++ [(wd ws 1, wd ws 2)], at_ := st.at_ ++ [i + 1] }, i + 1, A5, A6, A7', A8', c5, c6, c7', c8', by omega, rfl, rfl, rfl, by simp, by simp, by go_num, Bw24.out, ⟨O5w24.out, O6w24.out, ?_, ?_⟩, hide (HLI.out.symm.trans hst.out), hide (hl.mark (wd_le HWS.out 1))⟩
              · rw [tcells_snoc, List.length_append, List.length_singleton]; exact O7w24.out
              · rw [ivs_snoc, List.length_append, List.length_singleton]; exact O8w24.out
        · have hl2 : Hid (lineP st (i + 1) ws = (none, 28)) := by unfold lineP; rw [if_neg h0, if_neg hlab, if_neg htr]; exact hide rfl
          have hans : Hid (parseP s = (none, i + 1, 28)) := by rw [hP.out, ← hst.out, hlin, hl2.out]; exact hide rfl
          have HB3 := hide (HB1.out.trans (HB2.out.mono HB1.out.size))
          clear hlin hrw hcw h0 hlab hl59
          by_cases htw : wd ws 0 = trustW
          · have ra : (wd ws 0 == [116, 114, 117, 115, 116]) = true := by simpa [trustW] using htw
            have rb : wd ws 0 = [116, 114, 117, 115, 116] := htw
            have rc : ((ws.length : Int) == 3) = false := by have : ¬ ws.length = 3 := fun h => htr ⟨htw, h⟩; simp; omega
            clear htr htw qa qb
            have qa : (([116, 114, 117, 115, 116] : List UInt8) == [108, 97, 98, 101, 108]) = false := by decide
            go_wp2
            go_returns
            exact ⟨HB3.out, by rw [hans.out]; rfl⟩
          · have ra : (wd ws 0 == [116, 114, 117, 115, 116]) = false := by simpa [trustW] using htw
            have rb : ¬ wd ws 0 = [116, 114, 117, 115, 116] := htw
            clear htr htw
            go_wp2
            go_returns
            exact ⟨HB3.out, by rw [hans.out]; rfl⟩
    · obtain rfl : i = L.length := by omega
      have hst2 := hst.out
      rw [List.drop_length] at hst2
      have HP2 : Hid (parseP s = match clearsP st.regs st.regs st.clears with
              | none => (none, 0, 3)
              | some R =>
                match marksP R [] st.trust st.at_ with
                | (none, n, e) => (none, n, e)
                | (some K, _) => (some (R, K), 0, 0)) := by rw [hP.out, ← hst2]; exact hide rfl
      have hpb := hln.out
      have hn59 : st.regs.length ≤ 59001 := by have := hpb.regs; omega
      have ht59 : st.trust.length ≤ 59001 := by have := hpb.trust; omega
      have BR := hide hbr
      have RW := hide hrows
      have PBH := hide hpb
      clear hst hst2 hln hbr hrows hpb hP
      go_wp2_with fail
      refine at_world (fun W => ∃ tb, tb = wr.heap.size ∧ Below w1.heap.size w1 W ∧ PRows w1.heap.size W st A5 A6 A7 A8 c5 c6 c7 c8 ∧ MapR skv W tb ([] : List (SKey × Value))) ⟨_, rfl, BR.out.alloc BR.out.size _, RW.out.below ((Below.refl _ _).alloc (Nat.le_refl _) _), MapR.made wr skv⟩ (fun w30 h30 => ?_)
      obtain ⟨tb, etb, hb30, hr30, hm30⟩ := h30
      rw [← etb]
      have htb : w1.heap.size ≤ tb := by rw [etb]; exact BR.out.size
      have B30 := hide hb30
      have R30 := hide hr30
      have M30 := hide hm30
      clear etb hb30 hr30 hm30
      go_loopg [16] st.regs.length (fun g x16 wr => ∃ (m : Nat) (v : Int), m ≤ st.regs.length ∧ g = m ∧ x16 = .int .i64 v ∧ Hid (v = (m : Int) - 1) ∧ Below w1.heap.size w1 wr ∧ PRows w1.heap.size wr st A5 A6 A7 A8 c5 c6 c7 c8 ∧ MapR skv wr tb (namesBack m (st.regs.drop m)))
      case atStart =>
        refine ⟨st.regs.length, (st.regs.length : Int) - 1, Nat.le_refl _, rfl, by go_num, hide rfl, B30.out, R30.out, ?_⟩
        rw [List.drop_length]
        exact M30.out
      case round =>
        obtain ⟨m, v, hmn, hg, rfl, hv, hbr, hrows, hmap⟩ := hrel
        rcases Nat.eq_zero_or_pos m with h0 | hmp
        · subst h0
          obtain rfl : v = -1 := hv.out
          rw [List.drop_zero] at hmap
          have HLK : Hid (∀ (W : World), MapR skv W tb (namesBack 0 st.regs) → ∀ c : List UInt8, c.length ≤ 59000 → (Instr.lookup 73 (.map (some tb)) (.string ⟨c.toArray⟩) true).run Tryd.prog W = .ok (.tuple #[.int .i64 (((placeP st.regs c).getD 0 : Nat) : Int), .bool (placeP st.regs c).isSome]) W) := hide fun W h c hc => by
            have hcm : c.length ≤ maxLen := Nat.le_trans hc (by decide)
            have hsz : (⟨c.toArray⟩ : ByteArray).size ≤ maxLen := by simpa [ByteArray.size] using hcm
            have hg : mget (namesBack 0 st.regs) (sk ⟨c.toArray⟩ hsz) = (placeP st.regs c).map fun k => .int .i64 ((0 + k : Nat) : Int) := by
              rw [sk_skey]
              exact namesBack_get hcm st.regs 0 fun r hr => Nat.le_trans (PBH.out.rn r hr) (by decide)
            refine look_names h ⟨c.toArray⟩ hsz ?_ ?_ W (Below.refl _ _)
            · rw [hg]; cases placeP st.regs c <;> simp
            · rw [hg]; cases placeP st.regs c <;> simp
          have B31 := hide hbr
          have R31 := hide hrows
          have M31 := hide hmap
          have hcn : st.clears.length = st.regs.length := PBH.out.cl
          have HCN := hide hcn
          clear hbr hrows hmap hv hcn
          go_wp2_with fail
          go_loopg [115] st.regs.length (fun g x115 wr => ∃ (i : Nat) (D : List RegV), i ≤ st.regs.length ∧ g = st.regs.length - i ∧ x115 = .int .i64 (i : Int) ∧ Below w1.heap.size w1 wr ∧
            wr.ownsRow w1.heap.size 38 9 (.slice A5 st.regs.length c5) st.regs.length (rcellsOf (D ++ st.regs.drop i)) ∧ wr.ownsRow w1.heap.size 9 1 (.slice A6 st.clears.length c6) st.clears.length (svs st.clears) ∧
            wr.ownsRow w1.heap.size 102 2 (.slice A7 st.trust.length c7) st.trust.length (tcells st.trust) ∧ wr.ownsRow w1.heap.size 3 1 (.slice A8 st.at_.length c8) st.at_.length (ivs st.at_) ∧
            MapR skv wr tb (namesBack 0 st.regs) ∧ Hid (D.length = i ∧ D.map (·.name) = (st.regs.take i).map (·.name) ∧ (clearsP st.regs (st.regs.drop i) (st.clears.drop i)).map (D ++ ·) = clearsP st.regs st.regs st.clears))
          case atStart =>
            refine ⟨0, [], Nat.zero_le _, rfl, rfl, B31.out, ?_, R31.out.clears, R31.out.trust, R31.out.ats, M31.out, hide ⟨rfl, rfl, ?_⟩⟩
            · simpa using R31.out.regs
            · simp
          case round =>
            obtain ⟨i, D, hi, hg, rfl, hbr, o5, o6, o7, o8, hmap, hD⟩ := hrel
            rcases Nat.lt_or_ge i st.regs.length with hiR | hiR
            · have hiz : (i : Int) < st.regs.length := by omega
              have hicl : i < st.clears.length := by rw [HCN.out]; exact hiR
              have hicz : (i : Int) < st.clears.length := by omega
              obtain ⟨r, hr⟩ : ∃ r, st.regs[i]? = some r := ⟨_, List.getElem?_eq_getElem hiR⟩
              obtain ⟨c, hc⟩ : ∃ c, st.clears[i]? = some c := ⟨_, List.getElem?_eq_getElem hicl⟩
              obtain ⟨g6, hA6, _, hg6, hcr6⟩ := own_base o6 (by omega)
              have y6 := hcr6 i _ (by rw [svs_get, hc]; rfl)
              have hlk := HLK.out wr hmap c (PBH.out.cn c (List.mem_of_getElem? hc))
              obtain ⟨hDl, hDn, hDc⟩ := hD.out
              have hstep : clearsP st.regs (st.regs.drop i) (st.clears.drop i) = match placeP st.regs c with
                  | none => none
                  | some k => (clearsP st.regs (st.regs.drop (i + 1)) (st.clears.drop (i + 1))).map ({ r with clear := (k : Int) } :: ·) := by
                obtain ⟨h1, rfl⟩ := List.getElem?_eq_some_iff.1 hr
                obtain ⟨h2, rfl⟩ := List.getElem?_eq_some_iff.1 hc
                rw [List.drop_eq_getElem_cons h1, List.drop_eq_getElem_cons h2]; rfl
              subst hA6
              cases hpl : placeP st.regs c with
              | none =>
                rw [hpl] at hlk hstep
                simp only [Option.getD_none, Option.isSome_none] at hlk
                rw [hstep] at hDc
                have hans : Hid (parseP s = (none, 0, 3)) := by rw [HP2.out, ← hDc]; exact hide rfl
                have HB9 := hide (HB1.out.trans (hbr.mono HB1.out.size))
                clear hDl hDn hDc hstep hr hc hcr6 o5 o6 o7 o8 hmap hbr hD
                go_wp2
                go_returns
                exact ⟨HB9.out, by rw [hans.out]; rfl⟩
              | some k =>
                rw [hpl] at hlk hstep
                simp only [Option.getD_some, Option.isSome_some] at hlk
                rw [hstep] at hDc
                obtain ⟨g5, hA5, hg5b, hg5, hcr5⟩ := own_base o5 (by omega)
                have hDi : (D ++ st.regs.drop i)[i]? = some r := by
                  rw [List.getElem?_append_right (by omega), hDl, Nat.sub_self, List.getElem?_drop, Nat.add_zero]; exact hr
                have y5 := hcr5 _ _ (flat_get RegV.cells 9 (fun _ => rfl) _ i r hDi 8 _ rfl)
                subst hA5
                have f5 := own_frozen (i := i * 9 + 8) o5
                have hkl := placeP_lt hpl
                have ntb : tb ≠ g5 := fun e => hmap.is.not_own o5 (by rw [e]; rfl)
                have n6 : (Value.slice (some ⟨g6, 0, none⟩) st.clears.length c6).ownBlock ≠ some g5 := fun e => by rcases own_apart o6 o5 (by decide) with h | h; rw [h] at e; cases e; exact h e
                have n7 : (Value.slice A7 st.trust.length c7).ownBlock ≠ some g5 := fun e => by rcases own_apart o7 o5 (by decide) with h | h; rw [h] at e; cases e; exact h e
                have n8 : (Value.slice A8 st.at_.length c8).ownBlock ≠ some g5 := fun e => by rcases own_apart o8 o5 (by decide) with h | h; rw [h] at e; cases e; exact h e
                have N6 := hide n6
                have N7 := hide n7
                have N8 := hide n8
                have O5 := hide o5
                have O6 := hide o6
                have O7 := hide o7
                have O8 := hide o8
                have BB := hide hbr
                have MM := hide hmap
                have DD := hide (And.intro hDl (And.intro hDn (And.intro hDc (And.intro hDi hr))))
                clear n6 n7 n8 o5 o6 o7 o8 hbr hmap hDl hDn hDc hDi hr hc hstep hcr5 hcr6 hD
                go_wp2
                go_roundg (st.regs.length - (i + 1))
                case measure => omega
                case rel =>
                  obtain ⟨hDl, hDn, hDc, hDi, hr⟩ := DD.out
                  obtain ⟨hlt, her⟩ := List.getElem?_eq_some_iff.1 hr
                  refine ⟨i + 1, D ++ [{ r with clear := (k : Int) }], by omega, rfl, by go_num, BB.out.setCell hg5b _, ?_, ownsRow_setCell_other O6.out N6.out _, ownsRow_setCell_other O7.out N7.out _, ownsRow_setCell_other O8.out N8.out _, MM.out.keep (Below.heap_setCell _ _ _ _ ntb), hide ⟨by simp [hDl], ?_, ?_⟩⟩
                  · have h2 := own_set (i := i * 9 + 8) (u := .int .i64 (k : Int)) O5.out
                    rw [rcells_set _ i r _ hDi] at h2
                    have e3 : (D ++ st.regs.drop i).set i { r with clear := (k : Int) } = (D ++ [{ r with clear := (k : Int) }]) ++ st.regs.drop (i + 1) := by
                      rw [List.set_append, if_neg (by omega), hDl, Nat.sub_self, List.drop_eq_getElem_cons hlt, List.set_cons_zero, List.append_assoc]; rfl
                    rw [e3] at h2
                    exact h2
                  · rw [List.take_add_one, hr, List.map_append, List.map_append, hDn]; rfl
                  · rw [← hDc, Option.map_map]
                    congr 1
                    funext x
                    simp
            · obtain rfl : i = st.regs.length := by omega
              obtain ⟨hDl, hDn, hDc⟩ := hD.out
              rw [List.drop_length, List.append_nil] at o5
              rw [List.take_length] at hDn
              have hcl : clearsP st.regs st.regs st.clears = some D := by
                rw [← hDc, List.drop_length]
                simp [clearsP]
              have HP3 : Hid (parseP s = match marksP D [] st.trust st.at_ with
                        | (none, n, e) => (none, n, e)
                        | (some K, _) => (some (D, K), 0, 0)) := by rw [HP2.out, hcl]; exact hide rfl
              have HPL : Hid (∀ nm, placeP D nm = placeP st.regs nm) := hide fun nm => placeP_names hDn nm
              have HDL := hide hDl
              have hat : st.at_.length = st.trust.length := PBH.out.at_
              have HAT := hide hat
              have O5 := hide o5
              have O7 := hide o7
              have O8 := hide o8
              have BB := hide hbr
              have MM := hide hmap
              clear hat hDl hDn hDc hcl hD o5 o6 o7 o8 hbr hmap
              go_wp2_with fail
              go_loopg [20, 137] st.trust.length (fun g x20 x137 wr => ∃ (i : Nat) (K : List MarkV) (A : Option Addr) (c : Nat), i ≤ st.trust.length ∧ g = st.trust.length - i ∧ x20 = .slice A K.length c ∧ x137 = .int .i64 (i : Int) ∧ Below w1.heap.size w1 wr ∧
                wr.ownsRow w1.heap.size 38 9 (.slice A5 st.regs.length c5) st.regs.length (rcellsOf D) ∧ wr.ownsRow w1.heap.size 102 2 (.slice A7 st.trust.length c7) st.trust.length (tcells st.trust) ∧ wr.ownsRow w1.heap.size 3 1 (.slice A8 st.at_.length c8) st.at_.length (ivs st.at_) ∧
                MapR skv wr tb (namesBack 0 st.regs) ∧ wr.ownsRow w1.heap.size 48 2 (.slice A K.length c) K.length (mcellsOf K) ∧ Hid (marksP D K (st.trust.drop i) (st.at_.drop i) = marksP D [] st.trust st.at_ ∧ K.length ≤ i))
              case atStart => exact ⟨0, [], none, 0, Nat.zero_le _, rfl, rfl, rfl, BB.out, O5.out, O7.out, O8.out, MM.out, ⟨rfl, .inl ⟨rfl, rfl⟩⟩, hide ⟨rfl, Nat.zero_le _⟩⟩
              case round =>
                obtain ⟨i, K, A, c, hi, hg, rfl, rfl, hbr, o5, o7, o8, hmap, oK, hK⟩ := hrel
                rcases Nat.lt_or_ge i st.trust.length with hiR | hiR
                · have hiz : (i : Int) < st.trust.length := by omega
                  have hial : i < st.at_.length := by rw [HAT.out]; exact hiR
                  have hiaz : (i : Int) < st.at_.length := by omega
                  obtain ⟨t, ht⟩ : ∃ t, st.trust[i]? = some t := ⟨_, List.getElem?_eq_getElem hiR⟩
                  obtain ⟨n0, hn0⟩ : ∃ n0, st.at_[i]? = some n0 := ⟨_, List.getElem?_eq_getElem hial⟩
                  obtain ⟨g7, hA7, _, hg7, hcr7⟩ := own_base o7 (by omega)
                  obtain ⟨g8, hA8, _, hg8, hcr8⟩ := own_base o8 (by omega)
                  have y7 := hcr7 _ _ (tcells_get ht).1
                  have y7' := hcr7 _ _ (tcells_get ht).2
                  have y8 := hcr8 i _ (by rw [ivs_get, hn0]; rfl)
                  have hbx : Below wr.heap.size wr (wr.alloc (.cells #[.string ⟨t.1.toArray⟩, .string ⟨t.2.toArray⟩] 102)) := (Below.refl _ _).alloc (Nat.le_refl _) _
                  have hlk := HLK.out _ (hmap.below hbx hmap.lt) t.1 (PBH.out.tn t (List.mem_of_getElem? ht))
                  have hstep : marksP D K (st.trust.drop i) (st.at_.drop i) = match placeP st.regs t.1 with
                      | none => (none, n0, 3)
                      | some k =>
                        match cntP t.2 with
                        | none => (none, n0, 28)
                        | some m => marksP D (K ++ [(UInt8.ofNat k, UInt16.ofNat m)]) (st.trust.drop (i + 1)) (st.at_.drop (i + 1)) := by
                    obtain ⟨h1, rfl⟩ := List.getElem?_eq_some_iff.1 ht
                    obtain ⟨h2, rfl⟩ := List.getElem?_eq_some_iff.1 hn0
                    rw [List.drop_eq_getElem_cons h1, List.drop_eq_getElem_cons h2, ← HPL.out]; rfl
                  obtain ⟨hKm, hKl⟩ := hK.out
                  rw [hstep] at hKm
                  subst hA7
                  subst hA8
                  have O5 := hide o5
                  have O7 := hide o7
                  have O8 := hide o8
                  have OK := hide oK
                  have BB := hide hbr
                  have MM := hide hmap
                  have HBX := hide hbx
                  have KM := hide hKm
                  clear hstep ht hn0 hcr7 hcr8 o5 o7 o8 oK hbr hmap hbx hKm hK
                  go_wp2_with fail
                  refine (count_ok _ _).mono ?_
                  intro e w33 h33
                  change e = .returned (.tuple #[.int .i64 (((cntP t.2).getD 0 : Nat) : Int), .bool (cntP t.2).isSome]) ∧ _ at h33
                  obtain ⟨he, hb33'⟩ := h33
                  have hb33 := Below.then_ HBX.out HBX.out.size hb33'
                  have hKm := KM.out
                  have B33 := hide (BB.out.trans (hb33.mono BB.out.size))
                  have P5 := hide (own_below O5.out hb33)
                  have P7 := hide (own_below O7.out hb33)
                  have P8 := hide (own_below O8.out hb33)
                  have PK := hide (own_below OK.out hb33)
                  have N33 := hide (MM.out.below hb33 MM.out.lt)
                  have z8 := (hb33.cell (p := ⟨g8, i, none⟩) hg8).trans y8
                  have hg8' := Nat.lt_of_lt_of_le hg8 hb33.size
                  have HBA := hide (HB1.out.trans (B33.out.mono HB1.out.size))
                  clear y7 y7' y8 hlk hb33' hb33 KM
                  cases hpl : placeP st.regs t.1 with
                  | none =>
                    rw [hpl] at hKm
                    have hans : Hid (parseP s = (none, n0, 3)) := by rw [HP3.out, ← hKm]; exact hide rfl
                    clear hKm hpl
                    generalize (cntP t.2).getD 0 = cv at he
                    generalize (cntP t.2).isSome = cs at he
                    subst he
                    simp only [Option.getD_none, Option.isSome_none]
                    go_wp2
                    go_quiet (fail)
                    go_wp2
                    go_returns
                    exact ⟨below_drewN HBA.out _, by rw [hans.out]; rfl⟩
                  | some k =>
                    rw [hpl] at hKm
                    have hkl := placeP_lt hpl
                    clear hpl
                    cases hcn : cntP t.2 with
                    | none =>
                      rw [hcn] at hKm he
                      have hans : Hid (parseP s = (none, n0, 28)) := by rw [HP3.out, ← hKm]; exact hide rfl
                      clear hKm hcn
                      simp only [Option.getD_none, Option.isSome_none] at he
                      subst he
                      simp only [Option.getD_some, Option.isSome_some]
                      go_wp2
                      go_quiet (fail)
                      go_wp2
                      go_returns
                      exact ⟨below_drewN HBA.out _, by rw [hans.out]; rfl⟩
                    | some m =>
                      rw [hcn] at hKm he
                      simp only [Option.getD_some, Option.isSome_some] at he
                      subst he
                      simp only [Option.getD_some, Option.isSome_some]
                      have KM := hide hKm
                      have hBW := B33.out.size
                      obtain ⟨m0, hm0, m1, m2, m3⟩ := info_parts info_mark
                      have u1 : IntKind.u8.wrap (k : Int) = ((UInt8.ofNat k).toNat : Int) := by simp [IntKind.wrap_u8]
                      have u2 : IntKind.u16.wrap (m : Int) = ((UInt16.ofNat m).toNat : Int) := by simp [IntKind.wrap_u16]
                      clear hKm hcn
                      have hKl6 : K.length ≤ 1000000 := by omega
                      go_wp2_with (at_builtin; refine wpList_append_one rfl (.tmp 169) (.tmp 175) 44 rfl w1.heap.size 48 m0 (.agg #[.int .u8 0, .int .u16 0]) 2 4 Tryd.underlying44 hm0 m1 m2 m3 rfl (by decide) A c K.length (mcellsOf K) (markCells (UInt8.ofNat k, UInt16.ofNat m)) w33 rfl PK.out rfl rfl rfl (by simp [markCells, Value.oneCell']) hKl6 (by decide) hBW ?_; intro A' c' w34 hown hg hb hat)
                      have ntb := N33.out.is.not_own PK.out
                      go_roundg (st.trust.length - (i + 1))
                      case measure => omega
                      case rel =>
                        refine ⟨i + 1, K ++ [(UInt8.ofNat k, UInt16.ofNat m)], A', c', by omega, rfl, by simp, by go_num, B33.out.trans hb, own_besides P5.out PK.out (by decide) hg, own_besides P7.out PK.out (by decide) hg, own_besides P8.out PK.out (by decide) hg, N33.out.keep (hg.block tb N33.out.lt fun e => ntb e.symm), ?_, hide ⟨KM.out, by simp; omega⟩⟩
                        rw [mcellsOf_snoc, List.length_append, List.length_singleton]
                        exact hown
                · obtain rfl : i = st.trust.length := by omega
                  obtain ⟨hKm, hKl⟩ := hK.out
                  rw [List.drop_length] at hKm
                  have hans : Hid (parseP s = (some (D, K), 0, 0)) := by
                    rw [HP3.out, ← hKm]
                    simp only [marksP]
                    exact hide trivial
                  have hnew := new_ok (R := D) (K := K) (w := wr) (A := A5) (cA := c5) (A' := A) (cA' := c) (by rw [HDL.out]; exact Rd.of_own o5) (Rd.of_own oK) (by rw [HDL.out]; omega) (by omega)
                  rw [HDL.out] at hnew
                  have HBA := hide (HB1.out.trans (hbr.mono HB1.out.size))
                  clear hKm o5 o7 o8 oK hmap hK
                  go_wp2_with fail
                  refine hnew.mono ?_
                  rintro e w40 ⟨hb40, h0, h1⟩
                  have HB4 := hide (Below.then_ HBA.out HBA.out.size hb40)
                  clear hnew
                  by_cases he0 : newE D K = 0
                  · obtain ⟨cc, tb', nb, lb, A1, A2, A3, d1, d2, d3, rfl, hin⟩ := h0 he0
                    clear h1
                    go_wp2
                    go_returns
                    refine ⟨HB4.out, ?_⟩
                    rw [hans.out]
                    exact ⟨fun _ => ⟨cc, tb', nb, lb, A1, A2, A3, d1, d2, d3, rfl, hin.base (Nat.le_trans HB1.out.size hbr.size)⟩, fun h => absurd he0 h⟩
                  · obtain rfl := h1 he0
                    clear h0
                    go_wp2
                    go_returns
                    refine ⟨HB4.out, ?_⟩
                    rw [hans.out]
                    exact ⟨fun h => absurd h he0, fun _ => rfl⟩
        · obtain ⟨k, rfl⟩ : ∃ k, m = k + 1 := ⟨m - 1, by omega⟩
          obtain rfl : v = (k : Int) := by rw [hv.out]; simp
          obtain ⟨r, hr⟩ : ∃ r, st.regs[k]? = some r := ⟨_, List.getElem?_eq_getElem (by omega)⟩
          obtain ⟨gr, hA5, _, hgr, hcr⟩ := own_base hrows.regs (by omega)
          have y0 := hcr _ _ (flat_get RegV.cells 9 (fun _ => rfl) st.regs k r hr 0 _ rfl)
          simp only [Nat.add_zero] at y0
          obtain ⟨w31, hrun, hM, ho⟩ := hmap.update strEnc Tryd.underlying73 (skey r.name) (.int .i64 (k : Int))
          have hnl : r.name.length ≤ maxLen := Nat.le_trans (PBH.out.rn r (List.mem_of_getElem? hr)) (by decide)
          have hkv : skv (skey r.name) = .string ⟨r.name.toArray⟩ := by unfold skv; rw [skey_val hnl]
          rw [hkv] at hrun
          have hnb : mput (namesBack (k + 1) (st.regs.drop (k + 1))) (skey r.name) (.int .i64 (k : Int)) = namesBack k (st.regs.drop k) := by
            obtain ⟨hk, rfl⟩ := List.getElem?_eq_some_iff.1 hr
            rw [List.drop_eq_getElem_cons hk]; rfl
          rw [hnb] at hM
          have hkz : (k : Int) < st.regs.length := by omega
          have hk0 : (0 : Int) ≤ (k : Int) := by omega
          have MP := hide hmap
          have MN := hide hM
          have HO := hide ho
          have BB := hide hbr
          have RR := hide hrows
          clear hr hcr hnb hkv hnl hM hmap ho hbr hrows hv
          subst hA5
          go_wp2
          go_roundg k
          case measure => omega
          case rel =>
            have hi := MP.out.is
            exact ⟨k, (k : Int) - 1, by omega, rfl, by go_num, hide rfl, BB.out.grown HO.out.1 BB.out.size (fun g hg => by injection hg with hg; omega), ⟨own_only RR.out.regs hi HO.out, own_only RR.out.clears hi HO.out, own_only RR.out.trust hi HO.out, own_only RR.out.ats hi HO.out⟩, MN.out⟩

end Go.Proofs.YtniboffmdkeacaaDoor

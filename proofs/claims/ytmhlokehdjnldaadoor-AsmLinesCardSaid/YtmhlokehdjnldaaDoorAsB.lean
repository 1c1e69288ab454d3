/- Programs' texts: Assemble. -/
import Derived.Test.YtmhlokehdjnldaaDoorAsR
import Derived.Test.YtmhlokehdjnldaaDoorAsX
import Derived.Lib.ConvBytes
namespace Go.Proofs.YtmhlokehdjnldaaDoor
open Go.RowKit Go.WideMaps
set_option linter.unusedSimpArgs false
set_option linter.unusedVariables false

/-- what Assemble answers -/
def AsmAns (B : Nat) (w' : World) (r : Except (Nat × Int) (Nat × List UInt8)) (e : Ending) : Prop :=
  match r with
  | .error (n, er) => e = .returned (.tuple #[.agg (progC 0 none 0 0), .int .i64 (n : Int), .int .i64 er]) ∧ er ≠ 0
  | .ok (ex, c) => ex ≤ 32 ∧ c.length ≤ 2048 ∧ ∃ A cc, e = .returned (.tuple #[.agg (progC ex A c.length cc), .int .i64 0, .int .i64 0]) ∧ w'.ownsRow B 5 1 (.slice A c.length cc) c.length (bvs c)
theorem size_prog (a b : Value) : (Tryd.prog.info? 27).map (·.size) = some (#[a, b] : Array Value).size := by kernel_rfl
theorem prog_one (e : Nat) (A : Option Addr) (n c : Nat) : (progC e A n c).all (·.oneCell') = true := by simp [Value.oneCell']
theorem build_prog (w : World) : (Instr.build 27 #[]).run Tryd.prog w = .ok (.agg (progC 0 none 0 0)) w := by kernel_rfl
theorem rowL_get {Ms : List LnM} {k : Nat} {m : LnM} (h : Ms[k]? = some m) : (rowL Ms)[k * 2]? = some (.int .i64 (m.at_ : Int)) ∧ (rowL Ms)[k * 2 + 1]? = some (.slice (some ⟨m.g, m.off, none⟩) m.ws.length m.ws.length) := by
  induction Ms generalizing k with
  | nil => simp at h
  | cons x t ih =>
    have e : rowL (x :: t) = x.cells ++ rowL t := rfl
    rw [e]
    cases k with
    | zero => simp at h; subst h; exact ⟨rfl, rfl⟩
    | succ k =>
      obtain ⟨h1, h2⟩ := ih (by simpa using h)
      have l2 : x.cells.length = 2 := rfl
      rw [List.getElem?_append_right (by omega), List.getElem?_append_right (by omega), l2]
      rw [show (k + 1) * 2 - 2 = k * 2 by omega, show (k + 1) * 2 + 1 - 2 = k * 2 + 1 by omega]
      exact ⟨h1, h2⟩
theorem own_setRow_far {w : World} {g B B' n size : Nat} {t e : TypeId} {cs cs' : Array Value} {v : Value} {xs : List Value} (h : w.ownsRow B e size v n xs) (hb : Blk w g t cs) (hne : t ≠ e) (hB : B' ≤ B) : (w.setRow g cs').ownsRow B' e size v n xs := by
  refine own_mono (own_keep h fun k hk => setRow_other w g k cs' fun e2 => ?_) hB
  exact blk_not_own hb h hne (by rw [hk, e2])
theorem szs_take (ls : List Ln) (k : Nat) : szs (ls.take k) ≤ szs ls := by
  have := szs_app (ls.take k) (ls.drop k)
  rw [List.take_append_drop] at this
  omega
theorem lnsM_get {Ms : List LnM} {k : Nat} {m : LnM} (h : Ms[k]? = some m) : (lnsM Ms)[k]? = some ⟨m.at_, m.ws⟩ := by simp [lnsM, h]
theorem run_slice_whole {P : Program} {w : World} (t e : TypeId) (g n : Nat) (hu : P.underlying t = some (.array n e)) (hs : (P.info? e).map (·.size) = some 1) (hn : 0 < n) :
    (Instr.sliceAt t (.pointer (some ⟨g, 0, none⟩)) none none none).run P w = .ok (.slice (some ⟨g, 0, none⟩) n n) w := by
  cases hq : P.info? e with
  | none => simp [hq] at hs
  | some i =>
    have hi : i.size = 1 := by simpa [hq] using hs
    have h2 : ¬ n = 0 := by omega
    simp [Instr.sliceAt, Instr.sureAddr, run_underlying hu, Instr.sliceBounds, sizeOf, typeInfo, hq, hi, Addr.add_mid, h2, Result.andThen]
/-- a text as bytes -/
theorem conv_text (w : World) (s : ByteArray) : ∃ w' cap, (convert 9 22 (.string s)).run Tryd.prog w = .ok (.slice (some ⟨w.heap.size, 0, none⟩) s.size cap) w' ∧ Below w.heap.size w w' ∧ Rd w' w'.heap.size 1 (some ⟨w.heap.size, 0, none⟩) s.size (bvs s.data.toList) := by
  refine ⟨_, _, Lib.run_convert_string_bytes w 9 22 5 s Tryd.underlying9 Tryd.underlying22 Tryd.underlying5, ⟨rfl, rfl, rfl, by rw [Lib.bytesWorld_size]; omega, fun k hk => Lib.bytesWorld_at_old w _ s k hk⟩, ?_⟩
  refine ⟨by rw [bvs_length, sz]; omega, fun _ => ⟨w.heap.size, 0, rfl, by rw [Lib.bytesWorld_size]; omega, fun j u hj => ?_⟩⟩
  rw [bvs_get] at hj
  have hl : j < s.data.toList.length := by
    rcases Nat.lt_or_ge j s.data.toList.length with h | h
    · exact h
    · rw [List.getElem?_eq_none h] at hj; cases hj
  rw [Nat.zero_add, Lib.bytesWorld_cell w _ s j (by rw [sz]; exact hl)]
  rw [List.getElem?_eq_getElem hl] at hj
  rw [← hj, List.getD_eq_getElem?_getD, List.getElem?_eq_getElem hl]
  rfl
/-- what a line's bytes are, behind its switch -/
def LnAns (r : Except Int (List UInt8)) (x : Value) (er : Int) (w : World) : Prop :=
  match r with
  | .error e => er = e ∧ e ≠ 0
  | .ok bb => er = 0 ∧ ∃ A c, x = .slice A bb.length c ∧ Rd w w.heap.size 1 A bb.length (bvs bb)
set_option maxRecDepth 100000 in
set_option maxHeartbeats 8000000 in
theorem asm_ok (s : ByteArray) (w : World) (ha : ∀ (j : Nat) b, s.data.toList[j]? = some b → b.toNat < 128) (hL : Lw w) :
    Calls Tryd.prog 10 #[.string s] w fun e w' => AsmAns w.heap.size w' (asmA s.data.toList) e ∧ Below w.heap.size w w' := by
  obtain ⟨rs, hrs⟩ : ∃ rs, asmA s.data.toList = rs := ⟨_, rfl⟩
  have HRS := hide hrs
  rw [hrs]
  clear hrs
  have hsz := sz s
  go_enter Tryd.func10, Tryd.ntmps10
  go_upto_region 1 with (fail)
  refine at_world (fun W => ∃ r, r = w.heap.size ∧ Below w.heap.size w W ∧ Blk W r 27 (progC 0 none 0 0)) ⟨_, rfl, below1 w _, Blk.new w _ _⟩ (fun w0 hW => ?_)
  obtain ⟨r, hr, hB0, hR0⟩ := hW
  rw [← hr]
  have HR := hide hr
  have HB0 := hide hB0
  have HR0 := hide hR0
  have hL0 := hide (hL.below' hB0)
  clear hr hB0 hR0
  by_cases hbig : 65536 < s.size
  · have t1 : decide ((65536 : Int) < (s.size : Int)) = true := by simp; omega
    have hend : Hid (rs = .error (0, 8)) := hide (by rw [← HRS.out]; unfold asmA; rw [if_pos (by omega)])
    clear hbig hsz
    go_wp2_with (first | ((with_reducible refine at_build 27 #[] ?_); refine wpList_zero_as rfl 27 rfl _ (build_prog _) ?_) | ((with_reducible refine at_store 27 (.tmp 2) (.tmp 20) ?_); refine wpList_store_blk rfl 27 (.tmp 2) (.tmp 20) rfl r _ _ _ (by rfl) (by rfl) HR0.out (size_prog _ _) (by rfl) (prog_one 0 none 0 0) (fun hB4 => ?_)) | ((with_reducible refine at_end ?_); refine bodyPost_ret (v := .tuple #[.agg (progC 0 none 0 0), .int .i64 0, .int .i64 8]) (results_run3 rfl (ResV.row rfl hB4 Tryd.underlying27 rfl (size_prog _ _)) rfl rfl) rfl ⟨by rw [hend.out]; exact ⟨rfl, by decide⟩, below_setRow HB0.out (Nat.le_of_eq HR.out.symm) _⟩) | fail)
  have t1 : decide ((65536 : Int) < (s.size : Int)) = false := by simp; omega
  have hs6 : s.size ≤ 65536 := by omega
  have HRS2 : Hid (rs = match readA src0 0 (linesOf s) with
    | .error e => .error e
    | .ok st => match codeA st.labels [] st.lines with
      | .error e => .error e
      | .ok c => if fitsA st.extra c.length then .ok (st.extra, c) else .error (0, 19)) := hide (by
    rw [← HRS.out]
    unfold asmA
    rw [if_neg (by omega), linesOf_go]
    rfl)
  clear hbig hsz HRS
  go_wp2_with fail
  refine (read_ok s w0 hs6 ha hL0.out).mono ?_
  rintro e w1 ⟨hans, hb1⟩
  have HB1 := hide (Below.then_ HB0.out HB0.out.size hb1)
  have HR1 := hide (HR0.out.below hb1 HR0.out.lt)
  have hw01 : Hid (w.heap.size ≤ w0.heap.size ∧ w0.heap.size ≤ w1.heap.size) := hide ⟨HB0.out.size, hb1.size⟩
  clear hb1 t1
  cases hrd : readA src0 0 (linesOf s) with
  | error q =>
    obtain ⟨n, er⟩ := q
    rw [hrd] at hans
    obtain ⟨rfl, he⟩ := hans
    have hend : Hid (rs = .error (n, er)) := hide (by rw [HRS2.out, hrd])
    have t2 : (er != 0) = true := by simpa using he
    have HE := hide he
    clear hrd he
    go_wp2_with (first | ((with_reducible refine at_build 27 #[] ?_); refine wpList_zero_as rfl 27 rfl _ (build_prog _) ?_) | ((with_reducible refine at_store 27 (.tmp 2) (.tmp 29) ?_); refine wpList_store_blk rfl 27 (.tmp 2) (.tmp 29) rfl r _ _ _ (by rfl) (by rfl) HR1.out (size_prog _ _) (by rfl) (prog_one 0 none 0 0) (fun hB4 => ?_)) | ((with_reducible refine at_end ?_); refine bodyPost_ret (v := .tuple #[.agg (progC 0 none 0 0), .int .i64 (n : Int), .int .i64 er]) (results_run3 rfl (ResV.row rfl hB4 Tryd.underlying27 rfl (size_prog _ _)) rfl rfl) rfl ⟨by rw [hend.out]; exact ⟨rfl, HE.out⟩, below_setRow HB1.out (Nat.le_of_eq HR.out.symm) _⟩) | fail)
  | ok st =>
    rw [hrd] at hans
    obtain ⟨b, mp, v, Ms, Gs, rfl, hS, hgood⟩ := hans
    have hsize : st.size = szs st.lines := readA_size hrd rfl
    have HRS3 : Hid (rs = match codeA st.labels [] st.lines with
      | .error e => .error e
      | .ok c => if fitsA st.extra c.length then .ok (st.extra, c) else .error (0, 19)) := hide (by rw [HRS2.out, hrd])
    have HSZ : Hid (szs (lnsM Ms) ≤ 2048) := hide (by rw [← hS.lns, ← hsize]; exact hS.sz)
    have c2 := hS.blk.cell 2
    have c0 := hS.blk.cell 0
    have cb := hS.blt
    obtain ⟨Av, cv, rfl, hnc0, hcm0, -⟩ := own_form hS.own
    have HML : Hid (Ms.length ≤ 9223372036854775807) := hide (by simp only [maxLen] at hcm0; omega)
    clear hnc0 hcm0
    have HS := hide hS
    have HGO := hide hgood
    have hex := HS.out.ex
    clear hS hgood hrd HRS2 hsize
    go_upto_region 8 with (fail)
    refine at_world (fun W => ∃ p, p = w1.heap.size ∧ Below w1.heap.size w1 W ∧ Blk W p 27 (progC st.extra none 0 0)) ⟨_, rfl, below1 w1 _, Blk.new w1 _ _⟩ (fun w2 hW => ?_)
    obtain ⟨p, hp, hB2, hP2⟩ := hW
    rw [← hp]
    have HPP := hide hp
    have HB2 := hide hB2
    have HP2 := hide hP2
    obtain ⟨i0, hi0, hz0, hz1, hz2⟩ := info_parts info_u8
    clear hp hB2 hP2 c2 c0 cb
    go_loopg [42] Ms.length (fun gh x42 wr => ∃ (k : Nat) (c : List UInt8) (A : Option Addr) (cc : Nat), k ≤ Ms.length ∧ gh = Ms.length - k ∧ x42 = .int .i64 (k : Nat) ∧ Hid (Below w1.heap.size w1 wr) ∧ Hid (Blk wr p 27 (progC st.extra A c.length cc)) ∧ Hid (wr.ownsRow w1.heap.size 5 1 (.slice A c.length cc) c.length (bvs c)) ∧ Hid (codeA st.labels [] (lnsM Ms) = codeA st.labels c ((lnsM Ms).drop k)) ∧ Hid (c.length = szs ((lnsM Ms).take k)))
    case atStart => exact ⟨0, [], none, 0, by omega, rfl, rfl, HB2, HP2, hide (World.ownsRow_nil _ _ _ _), hide rfl, hide rfl⟩
    case round =>
      obtain ⟨k, c, A, cc, hk, hgh, rfl, HBr, HPr, HOr, HCD, HCL⟩ := hrel
      have HGH := hide hgh
      have hcl : c.length ≤ 2048 := by rw [HCL.out]; have := szs_take (lnsM Ms) k; have := HSZ.out; omega
      clear hgh
      by_cases hkn : k < Ms.length
      rotate_left
      · have t1 : decide ((k : Int) < (Ms.length : Int)) = false := by simp; omega
        have t1' : ¬ (k : Int) < (Ms.length : Int) := by omega
        have hcode : codeA st.labels [] (lnsM Ms) = .ok c := by
          rw [HCD.out, List.drop_eq_nil_of_le (by simp [lnsM]; omega)]
          rfl
        have HRS4 : Hid (rs = if fitsA st.extra c.length then .ok (st.extra, c) else .error (0, 19)) := hide (by rw [HRS3.out, HS.out.lns, hcode])
        have HRr := hide (HR1.out.below HBr.out HR1.out.lt)
        have HBw := hide (Below.then_ HB1.out HB1.out.size HBr.out)
        have hRdc := hide (Rd.of_own HOr.out)
        obtain ⟨nc, hnc⟩ : ∃ nc, c.length = nc := ⟨_, rfl⟩
        have HNC := hide hnc
        have HPr2 : Hid (Blk wr p 27 (progC st.extra A nc cc)) := hide (by rw [← hnc]; exact HPr.out)
        have hRdc2 : Hid (Rd wr wr.heap.size 1 A nc (bvs c)) := hide (by rw [← hnc]; exact hRdc.out)
        rw [hnc] at hcl
        clear hcode hkn hk hnc hRdc
        go_wp2_with (first | ((with_reducible refine at_load 27 (.tmp 8) ?_); refine wpList_load_blk rfl 27 (.tmp 8) rfl p _ _ _ (by rfl) HPr2.out Tryd.underlying27 rfl (size_prog _ _) ?_) | fail)
        refine (file_ok st.extra nc cc A c (by omega) (by omega) wr hRdc2.out).mono ?_
        rintro e w5 ⟨⟨v5, rfl⟩, hb5⟩
        have HP5 := hide (HPr2.out.below hb5 HPr2.out.lt)
        have HR5 := hide (HRr.out.below hb5 HRr.out.lt)
        have HB5 := hide (Below.then_ HBw.out HBw.out.size hb5)
        have HO5 := hide (own_below HOr.out hb5)
        clear hb5
        by_cases hf : fitsA st.extra c.length = true
        · have hfe : fitsE st.extra nc = 0 := by rw [← HNC.out]; unfold fitsE; rw [if_pos hf]
          have hend : Hid (rs = .ok (st.extra, c)) := hide (by rw [HRS4.out, if_pos hf])
          rw [hfe]
          clear hfe hf
          have hbase := hide (show w.heap.size ≤ w1.heap.size from Nat.le_trans hw01.out.1 hw01.out.2)
          go_wp2_with (first | ((with_reducible refine at_load 27 (.tmp 8) ?_); refine wpList_load_blk rfl 27 (.tmp 8) rfl p _ _ _ (by rfl) HP5.out Tryd.underlying27 rfl (size_prog _ _) ?_) | ((with_reducible refine at_store 27 (.tmp 2) (.tmp 113) ?_); refine wpList_store_blk rfl 27 (.tmp 2) (.tmp 113) rfl r _ _ _ (by rfl) (by rfl) HR5.out (size_prog _ _) (by rfl) (prog_one st.extra A nc cc) (fun hB4 => ?_)) | ((with_reducible refine at_end ?_); refine bodyPost_ret (v := .tuple #[.agg (progC st.extra A nc cc), .int .i64 0, .int .i64 0]) (results_run3 rfl (ResV.row rfl hB4 Tryd.underlying27 rfl (size_prog _ _)) rfl rfl) rfl ⟨by rw [hend.out]; exact ⟨HS.out.ex, by rw [HNC.out]; omega, A, cc, by rw [HNC.out], own_setRow_far HO5.out HR5.out (by decide) hbase.out⟩, below_setRow HB5.out (Nat.le_of_eq HR.out.symm) _⟩) | fail)
        · have hfe : fitsE st.extra nc = 19 := by rw [← HNC.out]; unfold fitsE; rw [if_neg hf]
          have hend : Hid (rs = .error (0, 19)) := hide (by rw [HRS4.out, if_neg hf])
          rw [hfe]
          clear hfe hf
          go_wp2_with (first | ((with_reducible refine at_build 27 #[] ?_); refine wpList_zero_as rfl 27 rfl _ (build_prog _) ?_) | ((with_reducible refine at_store 27 (.tmp 2) (.tmp 111) ?_); refine wpList_store_blk rfl 27 (.tmp 2) (.tmp 111) rfl r _ _ _ (by rfl) (by rfl) HR5.out (size_prog _ _) (by rfl) (prog_one 0 none 0 0) (fun hB4 => ?_)) | ((with_reducible refine at_end ?_); refine bodyPost_ret (v := .tuple #[.agg (progC 0 none 0 0), .int .i64 0, .int .i64 19]) (results_run3 rfl (ResV.row rfl hB4 Tryd.underlying27 rfl (size_prog _ _)) rfl rfl) rfl ⟨by rw [hend.out]; exact ⟨rfl, by decide⟩, below_setRow HB5.out (Nat.le_of_eq HR.out.symm) _⟩) | fail)
      have hkz : (k : Int) < (Ms.length : Int) := by omega
      have t1 : decide ((k : Int) < (Ms.length : Int)) = true := by simpa using hkz
      obtain ⟨m, hm⟩ : ∃ m, Ms[k]? = some m := ⟨_, List.getElem?_eq_getElem hkn⟩
      obtain ⟨hmin, hmoff⟩ := HS.out.ins m (List.mem_of_getElem? hm)
      have hgd := HGO.out m (List.mem_of_getElem? hm)
      obtain ⟨rc1, rc2⟩ := rowL_get hm
      obtain ⟨gv, ov, hAv, hgv, hcv⟩ := (Rd.of_own HS.out.own).2 (by omega)
      subst hAv
      have e0 : wr.cell? ⟨gv, ov + k * 2, none⟩ = some (.int .i64 (m.at_ : Int)) := (HBr.out.cell (p := ⟨gv, ov + k * 2, none⟩) hgv).trans (hcv _ _ rc1)
      obtain ⟨nn, hnn⟩ : ∃ nn, m.ws.length = nn := ⟨_, rfl⟩
      rw [hnn] at rc2
      have e1 : wr.cell? ⟨gv, ov + k * 2 + 1, none⟩ = some (.slice (some ⟨m.g, m.off, none⟩) nn nn) := by
        rw [Nat.add_assoc]
        exact (HBr.out.cell (p := ⟨gv, ov + (k * 2 + 1), none⟩) hgv).trans (hcv _ _ rc2)
      have hgvr : gv < wr.heap.size := Nat.lt_of_lt_of_le hgv HBr.out.size
      have HCD2 : Hid (codeA st.labels c ((lnsM Ms).drop k) = match codeLn st.labels m.ws c.length with | .error e => .error (m.at_, e) | .ok bb => codeA st.labels (c ++ bb) ((lnsM Ms).drop (k + 1))) := hide (by
        have hlk := lnsM_get hm
        have hlt := (List.getElem?_eq_some_iff.1 hlk).1
        rw [List.drop_eq_getElem_cons hlt]
        rw [List.getElem?_eq_getElem hlt] at hlk
        injection hlk with hlk
        rw [hlk, codeA]
        cases codeLn st.labels m.ws c.length <;> rfl)
      have HTK : Hid (szs ((lnsM Ms).take (k + 1)) = szs ((lnsM Ms).take k) + msz m.ws) := hide (by
        rw [List.take_add_one, lnsM_get hm, szs_app]
        simp [szs])
      have HM := hide (show (m.g, (svs m.full).toArray) ∈ Gs ∧ m.off < m.full.length ∧ LnGood m from ⟨hmin, hmoff, hgd⟩)
      have HNN := hide hnn
      have HKN := hide hkn
      clear hm hmin hmoff hgd rc1 rc2 hcv hnn hkn hk
      go_upto_region 12 with (fail)
      refine at_world (fun W => ∃ q, q = wr.heap.size ∧ Below w1.heap.size w1 W ∧ Blk W p 27 (progC st.extra A c.length cc) ∧ W.ownsRow w1.heap.size 5 1 (.slice A c.length cc) c.length (bvs c) ∧ Blk W q 61 #[.int .i64 (m.at_ : Int), .slice (some ⟨m.g, m.off, none⟩) nn nn]) ⟨_, rfl, HBr.out.alloc HBr.out.size _, HPr.out.alloc _, own_below HOr.out (below1 wr _), Blk.new wr _ _⟩ (fun W hW => ?_)
      obtain ⟨q, hq, hBW, hPW, hOW, hQW⟩ := hW
      rw [← hq]
      have HBW := hide hBW
      have HPW := hide hPW
      have HOW := hide hOW
      have HQW := hide hQW
      have HSW := hide (HS.out.below hBW)
      clear hq hBW hPW hOW hQW HBr HPr HOr e0 e1 hgvr hgv t1 hkz
      have hl0 : (m.full.drop m.off).length = nn := HNN.out
      have hn0 : 0 < nn := by rw [← hl0, List.length_drop]; have := HM.out.2.1; omega
      have hRW := hide (rd_line (HSW.out.str HM.out.1) m.off (some ⟨m.g, m.off, none⟩) fun _ => rfl)
      obtain ⟨bg, og, hag, hgl, hwc⟩ := rd_words hRW.out (by omega)
      injection hag with hag
      injection hag with hag1 hag2
      subst hag1; subst hag2
      have wc0 : W.cell? ⟨m.g, m.off, none⟩ = some (.string ⟨(wd m.ws 0).toArray⟩) := hwc 0 (by omega)
      have hi0z : (0 : Int) < (nn : Int) := by omega
      have hnn7 : nn ≤ 65537 := by have := HM.out.2.2.1; rw [← hl0, List.length_drop]; omega
      have hqc0 := HQW.out.cell 0
      have hqc1 := HQW.out.cell 1
      have hql := HQW.out.lt
      have HWC := hide hwc
      clear hwc
      go_upto_block 2 with (fail)
      go_cut [11, 12, 13, 14] from 50 to 92 (fun x11 x12 x13 x14 wc => ∃ er : Int, x12 = .int .i64 er ∧ Hid (Below W.heap.size W wc) ∧ Hid (LnAns (codeLn st.labels m.ws c.length) x11 er wc))
      case first =>
        have htl : (m.full.drop (m.off + 1)).length = nn - 1 := by rw [← hl0, List.length_drop, List.length_drop]; omega
        have htail : m.ws.tail = m.full.drop (m.off + 1) := by show (m.full.drop m.off).tail = _; rw [List.tail_drop]
        have hslA : 0 < (m.full.drop (m.off + 1)).length → slA (some ⟨m.g, m.off, none⟩) nn 1 = some ⟨m.g, m.off + 1, none⟩ := fun h => by
          rw [htl] at h
          unfold slA; rw [if_neg (by omega)]; simp [Addr.add_mid]
        have hsl : (Instr.sliceAt 25 (.slice (some ⟨m.g, m.off, none⟩) nn nn) (some (.int .i64 1)) none none).run Tryd.prog W = .ok (.slice (slA (some ⟨m.g, m.off, none⟩) nn 1) (nn - 1) (nn - 1)) W :=
          run_slice_from (P := Tryd.prog) (w := W) 25 9 (some ⟨m.g, m.off, none⟩) nn nn 1 .i64 Tryd.underlying25 (by kernel_rfl) (by omega)
        by_cases q1 : wd m.ws 0 = wExtra
        · have pq1 : (wd m.ws 0 == [101, 120, 116, 114, 97]) = true := by simpa [wExtra] using q1
          have hv : Hid (LnAns (codeLn st.labels m.ws c.length) (.slice none 0 0) 0 W) := hide (by
            have : codeLn st.labels m.ws c.length = .ok [] := by unfold codeLn; rw [if_pos q1]
            rw [this]
            exact ⟨rfl, none, 0, rfl, Rd.nil _ _ _ _⟩)
          clear q1
          go_wp2_with fail
          go_meet
          case rel => exact ⟨0, rfl, hide (Below.refl _ _), hv⟩
        have pq1 : (wd m.ws 0 == [101, 120, 116, 114, 97]) = false := by simpa [wExtra] using q1
        have pq1' : ¬ wd m.ws 0 = [101, 120, 116, 114, 97] := q1
        by_cases q2 : wd m.ws 0 = wByte
        · have pq2 : (wd m.ws 0 == [98, 121, 116, 101]) = true := by simpa [wByte] using q2
          have hv : Hid (codeLn st.labels m.ws c.length = dataA st.labels 1 m.ws.tail) := hide (by unfold codeLn; rw [if_neg q1, if_pos q2])
          clear q2
          go_wp2_with (first | ((with_reducible refine at_slice 25 (.tmp 70) (some (.const (.int .i64 1))) none ?_); refine wpList_run rfl _ (exec_slice 25 (.tmp 70) (some (.const (.int .i64 1))) none rfl hsl) ?_) | fail)
          have hdt := data_ok HSW.out.labs HSW.out.ok (m.full.drop (m.off + 1)) (slA (some ⟨m.g, m.off, none⟩) nn 1) (nn - 1) (rd_line (HSW.out.str HM.out.1) (m.off + 1) _ hslA) (by have := HM.out.2.2.1; rw [List.length_drop]; omega) (fun x hx => by have := HM.out.2.2.2.1 x (List.mem_of_mem_drop hx); simp only [maxLen]; omega) 1 (by omega)
          rw [htl, show ((1 : Nat) : Int) = 1 from rfl] at hdt
          refine hdt.mono ?_
          rintro e w6 ⟨⟨v6, er, rfl, hdr⟩, hb6⟩
          have hans : Hid (LnAns (codeLn st.labels m.ws c.length) v6 er w6) := hide (by
            rw [hv.out, htail]
            cases hd : dataA st.labels 1 (m.full.drop (m.off + 1)) with
            | error x => rw [hd] at hdr; exact hdr
            | ok bb =>
              rw [hd] at hdr
              obtain ⟨h1, h2⟩ := hdr
              obtain ⟨A6, c6, rfl, -, -, -⟩ := own_form h2
              exact ⟨h1, A6, c6, rfl, Rd.of_own h2⟩)
          have HB6 := hide hb6
          clear hdr hb6 hdt
          go_wp2_with fail
          go_meet
          case rel => exact ⟨er, rfl, HB6, hans⟩
        have pq2 : (wd m.ws 0 == [98, 121, 116, 101]) = false := by simpa [wByte] using q2
        have pq2' : ¬ wd m.ws 0 = [98, 121, 116, 101] := q2
        by_cases q3 : wd m.ws 0 = wWord
        · have pq3 : (wd m.ws 0 == [119, 111, 114, 100]) = true := by simpa [wWord] using q3
          have hv : Hid (codeLn st.labels m.ws c.length = dataA st.labels 4 m.ws.tail) := hide (by unfold codeLn; rw [if_neg q1, if_neg q2, if_pos q3])
          clear q3
          go_wp2_with (first | ((with_reducible refine at_slice 25 (.tmp 80) (some (.const (.int .i64 1))) none ?_); refine wpList_run rfl _ (exec_slice 25 (.tmp 80) (some (.const (.int .i64 1))) none rfl hsl) ?_) | fail)
          have hdt := data_ok HSW.out.labs HSW.out.ok (m.full.drop (m.off + 1)) (slA (some ⟨m.g, m.off, none⟩) nn 1) (nn - 1) (rd_line (HSW.out.str HM.out.1) (m.off + 1) _ hslA) (by have := HM.out.2.2.1; rw [List.length_drop]; omega) (fun x hx => by have := HM.out.2.2.2.1 x (List.mem_of_mem_drop hx); simp only [maxLen]; omega) 4 (by omega)
          rw [htl, show ((4 : Nat) : Int) = 4 from rfl] at hdt
          refine hdt.mono ?_
          rintro e w6 ⟨⟨v6, er, rfl, hdr⟩, hb6⟩
          have hans : Hid (LnAns (codeLn st.labels m.ws c.length) v6 er w6) := hide (by
            rw [hv.out, htail]
            cases hd : dataA st.labels 4 (m.full.drop (m.off + 1)) with
            | error x => rw [hd] at hdr; exact hdr
            | ok bb =>
              rw [hd] at hdr
              obtain ⟨h1, h2⟩ := hdr
              obtain ⟨A6, c6, rfl, -, -, -⟩ := own_form h2
              exact ⟨h1, A6, c6, rfl, Rd.of_own h2⟩)
          have HB6 := hide hb6
          clear hdr hb6 hdt
          go_wp2_with fail
          go_meet
          case rel => exact ⟨er, rfl, HB6, hans⟩
        have pq3 : (wd m.ws 0 == [119, 111, 114, 100]) = false := by simpa [wWord] using q3
        have pq3' : ¬ wd m.ws 0 = [119, 111, 114, 100] := q3
        by_cases q4 : wd m.ws 0 = wText
        · have pq4 : (wd m.ws 0 == [116, 101, 120, 116]) = true := by simpa [wText] using q4
          have h2 : nn = 2 := by
            obtain ⟨r0, hr0⟩ := HM.out.2.2.2.2
            unfold measA at hr0
            rw [if_neg q1, if_neg q2, if_neg q3, if_pos q4] at hr0
            by_cases h : m.ws.length = 2
            · rw [← HNN.out]; exact h
            · rw [if_neg h] at hr0; cases hr0
          have wc1 : W.cell? ⟨m.g, m.off + 1, none⟩ = some (.string ⟨(wd m.ws 1).toArray⟩) := HWC.out 1 (by omega)
          obtain ⟨w6, cap, hcv, hb6, hrd6⟩ := conv_text W ⟨(wd m.ws 1).toArray⟩
          rw [sa_size] at hcv hrd6
          have hi1z : (1 : Int) < (nn : Int) := by omega
          have hv : Hid (LnAns (codeLn st.labels m.ws c.length) (.slice (some ⟨W.heap.size, 0, none⟩) (wd m.ws 1).length cap) 0 w6) := hide (by
            have : codeLn st.labels m.ws c.length = .ok (wd m.ws 1) := by unfold codeLn; rw [if_neg q1, if_neg q2, if_neg q3, if_pos q4]
            rw [this]
            exact ⟨rfl, _, cap, rfl, hrd6⟩)
          have HB6 := hide hb6
          clear q1 q2 q3 q4 hb6 hrd6 h2
          go_wp2_with fail
          go_meet
          case rel => exact ⟨0, rfl, HB6, hv⟩
        have pq4 : (wd m.ws 0 == [116, 101, 120, 116]) = false := by simpa [wText] using q4
        have pq4' : ¬ wd m.ws 0 = [116, 101, 120, 116] := q4
        have hop : opA (wd m.ws 0) ≠ 0 := fun e => by
          obtain ⟨r0, hr0⟩ := HM.out.2.2.2.2
          unfold measA at hr0
          rw [if_neg q1, if_neg q2, if_neg q3, if_neg q4, if_pos e] at hr0
          cases hr0
        have hv : Hid (codeLn st.labels m.ws c.length = instrA st.labels m.ws c.length) := hide (by unfold codeLn; rw [if_neg q1, if_neg q2, if_neg q3, if_neg q4])
        have pc1 := HPW.out.cell 1
        have pcl := HPW.out.lt
        clear q1 q2 q3 q4 hsl hslA htl htail
        go_upto_region 14 with (fail)
        refine at_world (fun W1 => ∃ i, i = W.heap.size ∧ Below W.heap.size W W1 ∧ Blk W1 i 38 (insC 0 0 0 0)) ⟨_, rfl, below1 W _, Blk.new W _ _⟩ (fun W1 hW1 => ?_)
        obtain ⟨i, hi, hB1, hI1⟩ := hW1
        rw [← hi]
        have HI := hide hi
        have HBi := hide hB1
        have HII := hide hI1
        have hin := instr_ok (w := W1) ((HSW.out.below hB1).labs) HSW.out.ok (m.full.drop m.off) (some ⟨m.g, m.off, none⟩) nn (rd_line ((HSW.out.below hB1).str HM.out.1) m.off _ fun _ => rfl) (by rw [hl0]; exact Nat.le_refl _) (by rw [hl0]; exact hn0) (by rw [hl0]; omega) (fun x hx => by have := HM.out.2.2.2.1 x (List.mem_of_mem_drop hx); simp only [maxLen]; omega) c.length (by omega) hop
        rw [hl0] at hin
        have qc1 : W1.cell? ⟨q, 1, none⟩ = some (.slice (some ⟨m.g, m.off, none⟩) nn nn) := (HQW.out.below hB1 HQW.out.lt).cell 1
        have pc1' : W1.cell? ⟨p, 1, none⟩ = some (.slice A c.length cc) := (HPW.out.below hB1 HPW.out.lt).cell 1
        have hsz1 := hB1.size
        clear hi hB1 hI1 pc1 wc0 hqc0 hqc1 hop
        go_wp2_with fail
        refine hin.mono ?_
        rintro e w6 ⟨⟨o, x, y, z, er, rfl, hia⟩, hb6⟩
        have HI6 := hide (HII.out.below hb6 HII.out.lt)
        have HB6 := hide (Below.then_ HBi.out HBi.out.size hb6)
        clear hb6 hin qc1 pc1'
        go_wp2_with (first | ((with_reducible refine at_store 38 (.tmp 13) (.tmp 58) ?_); refine wpList_store_blk rfl 38 (.tmp 13) (.tmp 58) rfl i _ _ _ (by rfl) (by rfl) HI6.out (size_ins o x y z) (by rfl) (ins_one o x y z) (fun hI7 => ?_)) | ((with_reducible refine at_load 38 (.tmp 13) ?_); refine wpList_load_blk rfl 38 (.tmp 13) rfl i _ _ _ (by rfl) hI7 Tryd.underlying38 rfl (size_ins _ _ _ _) ?_) | fail)
        have HB7 := hide (below_setRow HB6.out (Nat.le_of_eq HI.out.symm) (insC o x y z))
        refine (pack_ok o x y z _).mono ?_
        rintro e w8 ⟨rfl, hb8⟩
        have HB8 := hide (Below.then_ HB7.out HB7.out.size hb8)
        have hans : Hid (∀ w9, Blk w9 w8.heap.size 40 (fourC o x y z) → LnAns (codeLn st.labels m.ws c.length) (.slice (some ⟨w8.heap.size, 0, none⟩) 4 4) er w9) := hide (fun w9 h9 => by
          rw [hv.out]
          show LnAns (instrA st.labels (m.full.drop m.off) c.length) _ er w9
          cases hins : instrA st.labels (m.full.drop m.off) c.length with
          | error xx => rw [hins] at hia; exact hia
          | ok bb =>
            rw [hins] at hia
            obtain ⟨h1, h2⟩ := hia
            have hb4 := instrA_len hins
            refine ⟨h1, some ⟨w8.heap.size, 0, none⟩, 4, by rw [hb4], ?_⟩
            have := rd_of_blk h9 h2 (k := 4) (by rw [bvs_length]; omega)
            rw [List.take_of_length_le (by rw [bvs_length]; omega)] at this
            rw [hb4]; exact this)
        have HB9 := hide (HB8.out.alloc HB8.out.size (.cells (fourC o x y z) 40))
        have hN := hide (Blk.new w8 40 (fourC o x y z))
        clear hia hb8 hI7
        go_wp2_with (first | ((with_reducible refine at_slice 40 (.tmp 14) none none ?_); refine wpList_run rfl _ (exec_slice 40 (.tmp 14) none none rfl (run_slice_whole 40 5 w8.heap.size 4 Tryd.underlying40 (by kernel_rfl) (by decide))) ?_) | fail)
        go_meet
        case rel => exact ⟨er, rfl, HB9, hide (hans.out _ hN.out)⟩
      case rest =>
        obtain ⟨er, rfl, HBc, HAN⟩ := hcut
        have HPc := hide (HPW.out.below HBc.out HPW.out.lt)
        have HQc := hide (HQW.out.below HBc.out HQW.out.lt)
        have HOc := hide (own_below HOW.out HBc.out)
        have HB1c := hide (Below.then_ HBW.out HBW.out.size HBc.out)
        have HRc := hide (HR1.out.below HB1c.out HR1.out.lt)
        have HBwc := hide (Below.then_ HB1.out HB1.out.size HB1c.out)
        clear HPW HQW HOW wc0 hqc0 hqc1 hql HWC hi0z
        cases hcode : codeLn st.labels m.ws c.length with
        | error xx =>
          have han := HAN.out
          rw [hcode] at han
          obtain ⟨hx1, hx2⟩ := han
          have her : er ≠ 0 := by rw [hx1]; exact hx2
          have hend : Hid (rs = .error (m.at_, er)) := hide (by
            rw [HRS3.out, HS.out.lns, HCD.out, HCD2.out, hcode, hx1])
          have t5 : (er != 0) = true := by simpa using her
          have HER := hide her
          clear hcode hx1 hx2 her
          go_upto_region 25 with (fail)
          have hqd : (HQc.out.drew).cell 0 = (HQc.out.drew).cell 0 := rfl
          have hqr : q ≠ r := HQc.out.ne HRc.out (by decide)
          have hS0 : Blk wc.drew q 61 #[.int .i64 (m.at_ : Int), .slice (some ⟨m.g, m.off, none⟩) nn nn] := HQc.out.drew
          refine wp_region_ord [0, 1, 2, 3, 4, 5, 6] [0, 0, 0, 0, 1, 0, 0] (fun W => Blk W q 61 #[.int .i64 (m.at_ : Int), .slice (some ⟨m.g, m.off, none⟩) nn nn]) (by kernel_rfl) (by kernel_rfl) hS0 ?_
          refine wpOrd_q (v := .agg (progC 0 none 0 0)) (by rfl) (fun W hW => by simp only [execOp, Sem.run_bind, Array.map_empty, List.map_toArray, List.map_nil]; rw [build_prog]; rfl) ?_
          try simp only [Act.put, List.setIfInBounds_toArray, List.set_cons_zero, List.set_cons_succ]
          iterate 3 (refine wpOrd_q (v := ?_) (by rfl) (fun W hW => ?_) ?_; rotate_left; (focus ((have z0 := hW.cell 0; have zl := hW.lt; go_simp); try with_reducible rfl)); try simp only [Act.put, List.setIfInBounds_toArray, List.set_cons_zero, List.set_cons_succ])
          refine wpOrd_x (by rfl) (fun KK hKK => ?_)
          refine wp_store_blk 27 (.tmp 2) (.tmp 94) rfl r 27 _ (progC 0 none 0 0) (by rfl) (by rfl) HRc.out.drew (size_prog _ _) (by rfl) (prog_one 0 none 0 0) (fun hB4 => ?_)
          refine hKK _ _ _ (fun _ h => h) (hS0.setRow_far hqr _) ?_
          clear hKK KK
          try simp only [Act.put, List.setIfInBounds_toArray, List.set_cons_zero, List.set_cons_succ]
          iterate 2 (refine wpOrd_q (v := ?_) (by rfl) (fun W hW => ?_) ?_; rotate_left; (focus (go_simp; try with_reducible rfl)); try simp only [Act.put, List.setIfInBounds_toArray, List.set_cons_zero, List.set_cons_succ])
          refine wpOrd_nil ?_
          have HBz := hide (below_setRow HBwc.out.drew (Nat.le_of_eq HR.out.symm) (progC 0 none 0 0))
          clear hS0 hqd
          go_wp2_with (first | ((with_reducible refine at_end ?_); refine bodyPost_ret (v := .tuple #[.agg (progC 0 none 0 0), .int .i64 (m.at_ : Int), .int .i64 er]) (results_run3 rfl (ResV.row rfl hB4 Tryd.underlying27 rfl (size_prog _ _)) rfl rfl) rfl ⟨by rw [hend.out]; exact ⟨rfl, HER.out⟩, HBz.out⟩) | fail)
        | ok bb =>
          have han := HAN.out
          rw [hcode] at han
          obtain ⟨rfl, Ab, cb, rfl, hrb⟩ := han
          have hbl : bb.length = msz m.ws := code_len hcode HM.out.2.2.2.2.choose_spec
          have hnext : Hid (codeA st.labels [] (lnsM Ms) = codeA st.labels (c ++ bb) ((lnsM Ms).drop (k + 1))) := hide (by rw [HCD.out, HCD2.out, hcode])
          have hlen2 : Hid ((c ++ bb).length = szs ((lnsM Ms).take (k + 1))) := hide (by rw [List.length_append, HTK.out, ← HCL.out, hbl])
          have hcb : c.length + bb.length ≤ 2048 := by
            have h1 := hlen2.out
            rw [List.length_append] at h1
            have := szs_take (lnsM Ms) (k + 1); have := HSZ.out; omega
          have pk1 := HPc.out.cell 1
          have pkl := HPc.out.lt
          have hrB := hide hrb
          have hwz := HB1c.out.size
          obtain ⟨nc, hnc⟩ : ∃ nc, c.length = nc := ⟨_, rfl⟩
          obtain ⟨nb, hnb⟩ : ∃ nb, bb.length = nb := ⟨_, rfl⟩
          rw [hnc] at pk1 hcb
          rw [hnb] at hcb
          have hrB2 : Hid (Rd wc wc.heap.size 1 Ab nb (bvs bb)) := hide (by rw [← hnb]; exact hrb)
          have HOc2 : Hid (wc.ownsRow w1.heap.size 5 1 (.slice A nc cc) nc (bvs c)) := hide (by rw [← hnc]; exact HOc.out)
          have HPc2 : Hid (Blk wc p 27 (progC st.extra A nc cc)) := hide (by rw [← hnc]; exact HPc.out)
          have HNCB := hide (show c.length = nc ∧ bb.length = nb from ⟨hnc, hnb⟩)
          rw [hnb]
          clear hcode hbl hrb hnc hnb hrB HPc HOc
          go_wp2_with (first | (at_builtin; refine wpList_append_rd _ rfl (.tmp 99) (.tmp 100) 22 rfl w1.heap.size 5 i0 (.int .u8 0) 1 1 Tryd.underlying22 hi0 hz0 hz1 hz2 rfl (by decide) (.slice A nc cc) nc (bvs c) rfl HOc2.out wc.heap.size Ab nb cb (bvs bb) rfl hrB2.out (bvs_one bb) (by simp only [maxLen]; omega) (by omega) hwz (fun v' w9 g2 g3 g4 g5 => ?_); obtain ⟨A9, c9, rfl, -, -, -⟩ := own_form g2; have hpg := HPc2.out.grown g3 (fun e => blk_not_own HPc2.out HOc2.out (by decide) e.symm); have pg1 : w9.cell? ⟨p, 1, none⟩ = some (.slice A nc cc) := hpg.cell 1; have pgf := hpg.frozen 1; have pgl := hpg.lt) | fail)
          have hP10 := hpg.set_ 1 (.slice A9 (nc + nb) c9)
          have hln : (c ++ bb).length = nc + nb := by rw [List.length_append, HNCB.out.1, HNCB.out.2]
          have HP10 : Hid (Blk (w9.setCell ⟨p, 1, none⟩ (.slice A9 (nc + nb) c9)) p 27 (progC st.extra A9 (c ++ bb).length c9)) := hide (by rw [hln]; exact hP10)
          have HO10 : Hid ((w9.setCell ⟨p, 1, none⟩ (.slice A9 (nc + nb) c9)).ownsRow w1.heap.size 5 1 (.slice A9 (c ++ bb).length c9) (c ++ bb).length (bvs (c ++ bb))) := hide (by
            rw [hln, show bvs (c ++ bb) = bvs c ++ bvs bb by simp [bvs]]
            refine own_keep g2 fun gg hv => Below.heap_setCell _ _ _ _ fun e => ?_
            exact blk_not_own hpg g2 (by decide) (by rw [hv, e]))
          have HB10 : Hid (Below w1.heap.size w1 (w9.setCell ⟨p, 1, none⟩ (.slice A9 (nc + nb) c9))) := hide (Below.setCell (HB1c.out.grown g3 HB1c.out.size (fun g hg => own_ge HOc2.out hg)) (p := ⟨p, 1, none⟩) (Nat.le_of_eq HPP.out.symm) _)
          have HLN := hide hln
          clear g2 g3 g4 g5 hpg pg1 pgf pgl hP10 pk1 hln
          go_wp2_with fail
          go_roundg (Ms.length - (k + 1))
          case measure => have := HGH.out; have := HKN.out; omega
          case rel => exact ⟨k + 1, c ++ bb, A9, c9, by have := HKN.out; omega, rfl, congrArg (Value.int .i64) (by have h1 := HKN.out; have h2 := HML.out; unfold wrap64; omega), HB10, HP10, HO10, hnext, hlen2⟩
end Go.Proofs.YtmhlokehdjnldaaDoor

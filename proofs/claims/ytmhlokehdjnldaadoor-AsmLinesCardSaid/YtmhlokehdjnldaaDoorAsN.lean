/- Programs' texts: a line's instruction. -/
import Derived.Test.YtmhlokehdjnldaaDoorAsI
import Derived.Carry
namespace Go.Proofs.YtmhlokehdjnldaaDoor
open Go.RowKit Go.WideMaps
set_option linter.unusedSimpArgs false
set_option linter.unusedVariables false

theorem Rd.from_ {w : World} {B n c l : Nat} {A : Option Addr} {xs : List Value} (h : Rd w B 1 A n xs) (hc : n ≤ c) (hl : l ≤ n) : Rd w B 1 (slA A c l) (n - l) (xs.drop l) := by
  have hn : xs.length = n := by have := h.1; omega
  refine ⟨by rw [List.length_drop]; omega, fun hp => ?_⟩
  obtain ⟨b, o, rfl, hb, hcs⟩ := h.2 (by omega)
  unfold slA
  rw [if_neg (by omega)]
  refine ⟨b, o + l, by simp [Addr.add_mid], hb, fun j u hu => ?_⟩
  rw [List.getElem?_drop] at hu
  have := hcs _ _ hu
  rw [show o + l + j = o + (l + j) from by omega]
  exact this

/-! ### a map that is laid -/
theorem at_insert (ty : TypeId) (x y z : Operand) {P : Program} {ops : Array Oper} {rest : List Oper} {a : Act} {w : World} {Q : Exit → Act → World → Prop} {d : Option Tmp} {k : TypeId} {p : String} {f : Array Edge} {g : Option (Nat × Bool)} (h : wpList P ops Q (⟨d, .insert ty x y z, k, p, f, g⟩ :: rest) a w) : wpList P ops Q (⟨d, .insert ty x y z, k, p, f, g⟩ :: rest) a w := h
theorem wpList_insert_fresh {P : Program} {ops : Array Oper} {rest : List Oper} {o : Oper} {a : Act} {w w0 : World} {B : Nat} {Q : Exit → Act → World → Prop} {κ : Type} [DecidableEq κ] {kv : κ → Value} {K E : TypeId} {m : Nat} {L : List (κ × Value)} (hgd : o.guard = none) (t : TypeId) (x y z : Operand) (ho : o.op = .insert t x y z) (k : κ) (v : Value)
    (hm : a.eval x = .map (some m)) (hy : a.eval y = kv k) (hz : a.eval z = v) (h : MapR kv w m L) (he : KeyEnc P K kv) (ht : P.underlying t = some (.map K E)) (hb : Below B w0 w) (hB : B ≤ w.heap.size) (hmB : B ≤ m)
    (hK : ∀ w', MapR kv w' m (mput L k v) → Below B w0 w' → B ≤ w'.heap.size → wpList P ops Q rest (a.put o.dst undef) w') : wpList P ops Q (o :: rest) a w := by
  refine wpList_plain hgd fun K' hK' => ?_
  obtain ⟨w', hrun, h1, h2⟩ := h.update (P := P) (E := E) he ht k v
  unfold Oper.wp
  simp only [execOp, ho, hm, hy, hz, Sem.run_bind, hrun, Result.andThen_ok]
  simp [Result.andThen, Oper.upon]
  refine hK' _ _ (hK w' h1 (hb.grown h2.1 hB fun g hg => by injection hg with hg; omega) (by rw [h2.2]; exact hB))
def u8k (k : Fin 256) : Value := .int .u8 (k.val : Int)
theorem u8Enc : KeyEnc Tryd.prog 84 u8k where
  keyed := Go.Maps.int_keyed Tryd.underlying84
  reads a := ⟨_, Go.Maps.keyOf_int_mk Tryd.underlying84 (by
    have := a.isLt
    simp [Lit.wf, IntKind.min, IntKind.max, IntKind.signed, IntKind.bits]
    omega)⟩
  inj a b h := by
    simp only [u8k, Value.int.injEq, true_and] at h
    exact Fin.ext (by omega)
def formL : List (Fin 256 × Value) := [(1, .int .i64 1), (2, .int .i64 2), (3, .int .i64 3), (4, .int .i64 2), (5, .int .i64 1), (7, .int .i64 2)]
theorem formL_get {f : Nat} (hf : f ≤ 8) : (if false = true then Value.tuple #[(mget formL ⟨f, by omega⟩).getD (.int .i64 0), .bool (mget formL ⟨f, by omega⟩).isSome] else (mget formL ⟨f, by omega⟩).getD (.int .i64 0)) = .int .i64 (nregA f : Nat) := by
  have hc : f = 0 ∨ f = 1 ∨ f = 2 ∨ f = 3 ∨ f = 4 ∨ f = 5 ∨ f = 6 ∨ f = 7 ∨ f = 8 := by omega
  rcases hc with rfl | rfl | rfl | rfl | rfl | rfl | rfl | rfl | rfl <;> rfl

/-! ### instructions -/
def instrB (L : Lbs) (o f : Nat) (ws : List (List UInt8)) (nr : Nat) (rs : List UInt8) (at_ : Nat) : Except Int (List UInt8) :=
  match f with
  | 4 => if (valueA L (wd ws (1 + nr)) (-128) 127).2 ≠ 0 then .error (valueA L (wd ws (1 + nr)) (-128) 127).2 else .ok [UInt8.ofNat o, rs.getD 0 0, rs.getD 1 0, byteI (valueA L (wd ws (1 + nr)) (-128) 127).1]
  | 5 => if (wideA L o (wd ws (1 + nr)) at_).2 ≠ 0 then .error (wideA L o (wd ws (1 + nr)) at_).2 else .ok [UInt8.ofNat o, rs.getD 0 0, byteI (wideA L o (wd ws (1 + nr)) at_).1, byteI ((wideA L o (wd ws (1 + nr)) at_).1 / 256)]
  | 6 => if (wideA L o (wd ws (1 + nr)) at_).2 ≠ 0 then .error (wideA L o (wd ws (1 + nr)) at_).2 else .ok [UInt8.ofNat o, 0, byteI (wideA L o (wd ws (1 + nr)) at_).1, byteI ((wideA L o (wd ws (1 + nr)) at_).1 / 256)]
  | 7 => if (valueA L (wd ws (1 + nr)) 8 16).2 ≠ 0 then .error (valueA L (wd ws (1 + nr)) 8 16).2 else if (valueA L (wd ws (1 + nr)) 8 16).1 = 8 ∨ (valueA L (wd ws (1 + nr)) 8 16).1 = 16 then .ok [UInt8.ofNat o, rs.getD 0 0, rs.getD 1 0, byteI (valueA L (wd ws (1 + nr)) 8 16).1] else .error 28
  | 8 => if (valueA L (wd ws (1 + nr)) 0 255).2 ≠ 0 then .error (valueA L (wd ws (1 + nr)) 0 255).2 else .ok [UInt8.ofNat o, 0, byteI (valueA L (wd ws (1 + nr)) 0 255).1, 0]
  | _ => .ok [UInt8.ofNat o, rs.getD 0 0, rs.getD 1 0, rs.getD 2 0]
theorem instrA_eq {L : Lbs} {ws : List (List UInt8)} {at_ o f : Nat} (ho : opA (wd ws 0) = o) (hf : formA o = f) :
    instrA L ws at_ = if ws.length - 1 ≠ nargA f then .error 28 else match regsA ws (nregA f) 1 with | none => .error 30 | some rs => instrB L o f ws (nregA f) rs at_ := by
  unfold instrA
  rw [ho, hf]
  by_cases h : ws.length - 1 ≠ nargA f
  · rw [if_pos h, if_pos h]
  · rw [if_neg h, if_neg h]
    cases regsA ws (nregA f) 1 with
    | none => rfl
    | some rs => rfl
theorem ins_set (o : Nat) (rs : List UInt8) (v : Nat) {k : Nat} (hk3 : k < 3) (hrl : rs.length = k) (hv : (UInt8.ofNat v).toNat = v) :
    (insC o (rs.getD 0 0).toNat (rs.getD 1 0).toNat (rs.getD 2 0).toNat).setIfInBounds (1 + k) (.int .u8 (v : Int)) = insC o ((rs ++ [UInt8.ofNat v]).getD 0 0).toNat ((rs ++ [UInt8.ofNat v]).getD 1 0).toNat ((rs ++ [UInt8.ofNat v]).getD 2 0).toNat := by
  match k, hk3, rs, hrl with
  | 0, _, [], _ =>
    show _ = insC o (UInt8.ofNat v).toNat _ _
    rw [hv]; rfl
  | 1, _, [a], _ =>
    show _ = insC o _ (UInt8.ofNat v).toNat _
    rw [hv]; rfl
  | 2, _, [a, c], _ =>
    show _ = insC o _ _ (UInt8.ofNat v).toNat
    rw [hv]; rfl
theorem regA_lt {l : List UInt8} {k : Nat} (h : regA l = some k) : k < 16 := by
  cases l with
  | nil => cases h
  | cons c t =>
    rw [regA] at h
    split at h
    · cases hn : numIn t 0 15 with
      | none => rw [hn] at h; cases h
      | some n =>
        rw [hn] at h
        have := numIn_range hn
        simp at h; omega
    · cases h
theorem regs_lt : ∀ {ws : List (List UInt8)} {k i : Nat} {rs : List UInt8}, regsA ws k i = some rs → ∀ c ∈ rs, c.toNat < 16
  | ws, 0, i, rs, h, c, hc => by rw [regsA] at h; injection h with h; subst h; cases hc
  | ws, k + 1, i, rs, h, c, hc => by
    rw [regsA] at h
    cases hr : regA (wd ws i) with
    | none => rw [hr] at h; cases h
    | some r =>
      rw [hr] at h
      have h16 := regA_lt hr
      simp only [Option.map_eq_some_iff] at h
      obtain ⟨t, ht, rfl⟩ := h
      rcases List.mem_cons.1 hc with rfl | hc
      · simp; omega
      · exact regs_lt ht c hc
theorem regs_getD {ws : List (List UInt8)} {k i : Nat} {rs : List UInt8} (h : regsA ws k i = some rs) (j : Nat) : (rs.getD j 0).toNat < 16 := by
  rw [List.getD_eq_getElem?_getD]
  cases hj : rs[j]? with
  | none => decide
  | some c => exact regs_lt h c (List.mem_of_getElem? hj)
theorem nreg_3 (f : Nat) : nregA f ≤ 3 := by
  rcases Nat.lt_or_ge f 9 with h | h
  · have hc : f = 0 ∨ f = 1 ∨ f = 2 ∨ f = 3 ∨ f = 4 ∨ f = 5 ∨ f = 6 ∨ f = 7 ∨ f = 8 := by omega
    rcases hc with rfl | rfl | rfl | rfl | rfl | rfl | rfl | rfl | rfl <;> decide
  · unfold nregA; rw [List.getD_eq_getElem?_getD, List.getElem?_eq_none (by simpa using h)]; decide
theorem nreg_one {f : Nat} (h : 4 ≤ f) (h8 : f ≤ 8) : nargA f - nregA f = 1 := by
  have hc : f = 4 ∨ f = 5 ∨ f = 6 ∨ f = 7 ∨ f = 8 := by omega
  rcases hc with rfl | rfl | rfl | rfl | rfl <;> decide
theorem nreg_le (f : Nat) (h : f ≤ 8) : nregA f ≤ nargA f := by
  have hc : f = 0 ∨ f = 1 ∨ f = 2 ∨ f = 3 ∨ f = 4 ∨ f = 5 ∨ f = 6 ∨ f = 7 ∨ f = 8 := by omega
  rcases hc with rfl | rfl | rfl | rfl | rfl | rfl | rfl | rfl | rfl <;> decide
/-- what a line's instruction answers -/
def InsAns (r : Except Int (List UInt8)) (e : Ending) : Prop :=
  ∃ (o x y z : Nat) (er : Int), e = .returned (.tuple #[.agg (insC o x y z), .int .i64 er]) ∧ match r with
    | .error x => er = x ∧ x ≠ 0
    | .ok b => er = 0 ∧ (insC o x y z).toList = bvs b
set_option maxRecDepth 100000 in
set_option maxHeartbeats 8000000 in
theorem instr_ok {w : World} {b : Nat} {L : Lbs} (hL : LabsAt w b L) (hO : LbOk L) (ws : List (List UInt8)) (A : Option Addr) (cA : Nat) (hr : Rd w w.heap.size 1 A ws.length (svs ws)) (hcA : ws.length ≤ cA) (h0 : 0 < ws.length) (hl : ws.length ≤ 100000) (hsz : ∀ x ∈ ws, x.length ≤ maxLen) (at_ : Nat) (hat : at_ ≤ 1000000) (hop : opA (wd ws 0) ≠ 0) :
    Calls Tryd.prog 23 #[.pointer (some ⟨b, 0, none⟩), .slice A ws.length cA, .int .i64 (at_ : Int)] w fun e w' => InsAns (instrA L ws at_) e ∧ Below w.heap.size w w' := by
  obtain ⟨g, oo, hA, hg, hw⟩ := rd_words hr h0
  subst hA
  have w0 : w.cell? ⟨g, oo, none⟩ = some (.string ⟨(wd ws 0).toArray⟩) := hw 0 h0
  have i0 : (0 : Int) < ws.length := by omega
  have HL := hide hL
  have HO := hide hO
  have HR := hide hr
  have HSZ := hide hsz
  have HLen := hide hl
  have HCA := hide hcA
  clear hw hL hO hr hsz hl hcA
  go_enter Tryd.func23, Tryd.ntmps23
  go_wp2_with fail
  refine (named_ok ⟨(wd ws 0).toArray⟩ _).mono ?_
  rintro e w1 ⟨rfl, hb1⟩
  rw [sa_data]
  have hlt40 := opA_lt (wd ws 0)
  obtain ⟨o, ho⟩ : ∃ o, opA (wd ws 0) = o := ⟨_, rfl⟩
  rw [ho] at hop hlt40
  have HOP := hide ho
  rw [ho]
  have hb1' : Below w.heap.size w w1 := Below.then_ (below1 w (.cells (insC 0 0 0 0) 38)) (by simp) hb1
  have HR1 : Hid (Blk w1 w.heap.size 38 (insC 0 0 0 0)) := hide ((Blk.new w 38 (insC 0 0 0 0)).below hb1 (by simp))
  have hszr : w.heap.size < w1.heap.size := HR1.out.lt
  clear ho hb1
  go_wp2_with fail
  refine (of_ok o _).mono ?_
  rintro e w2 ⟨rfl, rfl⟩
  obtain ⟨f, hf⟩ : ∃ f, formA o = f := ⟨_, rfl⟩
  have hf8 : f ≤ 8 := by rw [← hf]; exact (op_facts1 o hlt40 (by omega)).2
  have HF := hide hf
  rw [hf, if_neg (by omega)]
  clear hf
  go_upto_region 4 with (fail)
  have hW0 := hide (show Below w.heap.size w (w2.alloc (.cells (insC o 0 0 0) 38)) from hb1'.alloc hb1'.size _)
  refine at_world (fun W => ∃ r p, r = w.heap.size ∧ p = w2.heap.size ∧ Below w.heap.size w W ∧ Blk W r 38 (insC 0 0 0 0) ∧ Blk W p 38 (insC o 0 0 0)) ⟨_, _, rfl, rfl, hW0.out, HR1.out.alloc _, Blk.new _ _ _⟩ (fun W hW => ?_)
  obtain ⟨r, p, hr, hp, hBW, hRW, hPW⟩ := hW
  rw [← hr, ← hp]
  have hrp : r ≠ p := by omega
  have HRP := hide (show w.heap.size ≤ r ∧ w.heap.size ≤ p ∧ r ≠ p from ⟨by omega, by have := hb1'.size; omega, hrp⟩)
  have HBW := hide hBW
  have HRW := hide hRW
  have HPW := hide hPW
  clear hr hp hBW hRW hPW hW0 HR1 hb1' hszr w0 hrp
  obtain ⟨na, hna⟩ : ∃ na, nargA f = na := ⟨_, rfl⟩
  obtain ⟨nr, hnr⟩ : ∃ nr, nregA f = nr := ⟨_, rfl⟩
  obtain ⟨n1, hn1⟩ : ∃ n1, ws.length - 1 = n1 := ⟨_, rfl⟩
  have HI : Hid (instrA L ws at_ = if n1 ≠ na then .error 28 else match regsA ws nr 1 with | none => .error 30 | some rs => instrB L o f ws nr rs at_) := hide (by rw [instrA_eq HOP.out HF.out, hna, hnr, hn1])
  have HNA := hide hna
  have HNR := hide hnr
  have HN1 := hide hn1
  clear hna hnr hn1
  have q1 : IntKind.i64.wrap ((ws.length : Int) - 1) = (n1 : Int) := by rw [IntWalk.i64_in _ (by have := HLen.out; omega)]; have := HN1.out; omega
  go_wp2_with fail
  refine (args_ok f hf8 _).mono ?_
  rintro e w3 ⟨rfl, rfl⟩
  rw [HNA.out]
  by_cases hne : n1 = na
  rotate_left
  · have t1 : ((n1 : Int) != (na : Int)) = true := by simp; omega
    have hv : Hid (instrA L ws at_ = .error 28) := hide (by rw [HI.out, if_pos hne])
    clear hne
    go_wp2_with (first | ((with_reducible refine at_load 38 (.tmp 12) ?_); refine wpList_load_blk rfl 38 (.tmp 12) rfl p _ _ _ (by rfl) HPW.out Tryd.underlying38 rfl (size_ins _ _ _ _) ?_) | ((with_reducible refine at_store 38 (.tmp 6) (.tmp 44) ?_); refine wpList_store_blk rfl 38 (.tmp 6) (.tmp 44) rfl r _ _ _ (by rfl) (by rfl) HRW.out (size_ins o 0 0 0) (by rfl) (ins_one o 0 0 0) (fun hB4 => ?_)) | ((with_reducible refine at_end ?_); refine bodyPost_ret (v := .tuple #[.agg (insC o 0 0 0), .int .i64 28]) (results_run2 rfl (ResV.row rfl hB4 Tryd.underlying38 rfl (size_ins _ _ _ _)) rfl) rfl ⟨⟨o, 0, 0, 0, 28, rfl, by rw [hv.out]; exact ⟨rfl, by decide⟩⟩, below_setRow HBW.out HRP.out.1 _⟩) | fail)
  have t1 : ((n1 : Int) != (na : Int)) = false := by simp; omega
  have HI2 : Hid (instrA L ws at_ = match regsA ws nr 1 with | none => .error 30 | some rs => instrB L o f ws nr rs at_) := hide (by rw [HI.out, if_neg (by simpa using hne)])
  have hnrn : nr ≤ n1 := by rw [hne, ← HNA.out, ← HNR.out]; exact nreg_le f hf8
  have HNE := hide hne
  clear hne HI
  -- the words behind the name
  obtain ⟨A1, hA1⟩ : ∃ A1, slA (some ⟨g, oo, none⟩) cA 1 = A1 := ⟨_, rfl⟩
  have hRd1 : Hid (Rd w w.heap.size 1 A1 n1 (svs (ws.drop 1))) := hide (by
    have := HR.out.from_ HCA.out (l := 1) (by omega)
    rw [hA1, HN1.out] at this
    have e : svs (ws.drop 1) = (svs ws).drop 1 := by simp [svs]
    rw [e]; exact this)
  have hsl1 : (Instr.sliceAt 25 (.slice (some ⟨g, oo, none⟩) ws.length cA) (some (.int .i64 1)) none none).run Tryd.prog w3 = .ok (.slice A1 n1 (cA - 1)) w3 := by
    have := run_slice_from (P := Tryd.prog) (w := w3) 25 9 (some ⟨g, oo, none⟩) ws.length cA 1 .i64 Tryd.underlying25 (by kernel_rfl) (by omega)
    rw [hA1, HN1.out] at this
    exact this
  clear hA1
  go_upto_region 8 with (first | ((with_reducible refine at_slice 25 (.tmp 45) (some (.const (.int .i64 1))) none ?_); refine wpList_run rfl _ (exec_slice 25 (.tmp 45) (some (.const (.int .i64 1))) none rfl hsl1) ?_) | fail)
  refine at_world (fun W => ∃ tb, tb = w3.heap.size ∧ Below w.heap.size w W ∧ Blk W r 38 (insC 0 0 0 0) ∧ Blk W p 38 (insC o 0 0 0) ∧ Blk W tb 116 #[.pointer (some ⟨p, 1, none⟩), .pointer (some ⟨p, 2, none⟩), .pointer (some ⟨p, 3, none⟩)]) ⟨_, rfl, HBW.out.alloc HBW.out.size _, HRW.out.alloc _, HPW.out.alloc _, Blk.new _ _ _⟩ (fun W2 hW => ?_)
  obtain ⟨tb, htb, hBW2, hRW2, hPW2, hTB2⟩ := hW
  rw [← htb]
  have htbp : tb ≠ p ∧ tb ≠ r ∧ w.heap.size ≤ tb := ⟨fun e => by have := HPW.out.lt; omega, fun e => by have := HRW.out.lt; omega, by have := HBW.out.size; omega⟩
  have HTBP := hide htbp
  have hMm := MapR.made W2 u8k
  have hbm := below1 W2 (.map #[] 0)
  have hBm : W2.heap.size ≤ (W2.alloc (.map #[] 0)).heap.size := hbm.size
  have hmm := @run_makeMap Tryd.prog
  have HBW2 := hide hBW2
  have HRW2 := hide hRW2
  have HPW2 := hide hPW2
  have HTB2 := hide hTB2
  clear htb hsl1 hBW2 hRW2 hPW2 hTB2 HBW HRW HPW htbp q1 t1
  go_upto_region 9 with (first | ((with_reducible refine at_insert 118 (.tmp 51) (.const (.int .u8 1)) (.const (.int .i64 1)) ?_); refine wpList_insert_fresh rfl _ _ _ _ rfl (1 : Fin 256) (.int .i64 1) rfl rfl rfl hMm u8Enc Tryd.underlying118 hbm hBm (Nat.le_refl _) (fun w' hMm hbm hBm => ?_)) | ((with_reducible refine at_insert 118 (.tmp 51) (.const (.int .u8 2)) (.const (.int .i64 2)) ?_); refine wpList_insert_fresh rfl _ _ _ _ rfl (2 : Fin 256) (.int .i64 2) rfl rfl rfl hMm u8Enc Tryd.underlying118 hbm hBm (Nat.le_refl _) (fun w' hMm hbm hBm => ?_)) | ((with_reducible refine at_insert 118 (.tmp 51) (.const (.int .u8 3)) (.const (.int .i64 3)) ?_); refine wpList_insert_fresh rfl _ _ _ _ rfl (3 : Fin 256) (.int .i64 3) rfl rfl rfl hMm u8Enc Tryd.underlying118 hbm hBm (Nat.le_refl _) (fun w' hMm hbm hBm => ?_)) | ((with_reducible refine at_insert 118 (.tmp 51) (.const (.int .u8 4)) (.const (.int .i64 2)) ?_); refine wpList_insert_fresh rfl _ _ _ _ rfl (4 : Fin 256) (.int .i64 2) rfl rfl rfl hMm u8Enc Tryd.underlying118 hbm hBm (Nat.le_refl _) (fun w' hMm hbm hBm => ?_)) | ((with_reducible refine at_insert 118 (.tmp 51) (.const (.int .u8 5)) (.const (.int .i64 1)) ?_); refine wpList_insert_fresh rfl _ _ _ _ rfl (5 : Fin 256) (.int .i64 1) rfl rfl rfl hMm u8Enc Tryd.underlying118 hbm hBm (Nat.le_refl _) (fun w' hMm hbm hBm => ?_)) | ((with_reducible refine at_insert 118 (.tmp 51) (.const (.int .u8 7)) (.const (.int .i64 2)) ?_); refine wpList_insert_fresh rfl _ _ _ _ rfl (7 : Fin 256) (.int .i64 2) rfl rfl rfl hMm u8Enc Tryd.underlying118 hbm hBm (Nat.le_refl _) (fun w' hMm hbm hBm => ?_)) | ((with_reducible refine at_look 118 (.tmp 52) (.tmp 53) false ?_); refine wpList_lookup_map rfl 118 (.tmp 52) (.tmp 53) false rfl (⟨f, by omega⟩ : Fin 256) rfl rfl hMm.is u8Enc Tryd.underlying118 (z := .int .i64 0) (by kernel_rfl) (.int .i64 (nregA f : Nat)) (formL_get hf8) ?_) | fail)
  rw [HNR.out]
  have HB3 := hide (Below.then_ HBW2.out HBW2.out.size hbm)
  have HR3 := hide (HRW2.out.below hbm HRW2.out.lt)
  have HP3 := hide (HPW2.out.below hbm HPW2.out.lt)
  have HT3 := hide (HTB2.out.below hbm HTB2.out.lt)
  clear hMm hbm hBm hmm HBW2 HRW2 HPW2 HTB2
  go_upto_region 10 with (fail)
  refine at_world (fun W => Below w.heap.size w W ∧ Blk W r 38 (insC 0 0 0 0) ∧ Blk W p 38 (insC o 0 0 0) ∧ Blk W tb 116 #[.pointer (some ⟨p, 1, none⟩), .pointer (some ⟨p, 2, none⟩), .pointer (some ⟨p, 3, none⟩)]) ⟨HB3.out, HR3.out, HP3.out, HT3.out⟩ (fun W3 hW => ?_)
  obtain ⟨hB3, hR3, hP3, hT3⟩ := hW
  have HB4 := hide hB3
  have HR4 := hide hR3
  have HP4 := hide hP3
  have HT4 := hide hT3
  clear hB3 hR3 hP3 hT3 HB3 HR3 HP3 HT3
  go_loopg [56] nr (fun gh x56 wr => ∃ (k : Nat) (rs : List UInt8), k ≤ nr ∧ gh = nr - k ∧ x56 = .int .i64 (k : Nat) ∧ Hid (rs.length = k) ∧ Hid (Below w.heap.size w wr ∧ Blk wr r 38 (insC 0 0 0 0)) ∧ Hid (Blk wr p 38 (insC o (rs.getD 0 0).toNat (rs.getD 1 0).toNat (rs.getD 2 0).toNat)) ∧ Hid (Blk wr tb 116 #[.pointer (some ⟨p, 1, none⟩), .pointer (some ⟨p, 2, none⟩), .pointer (some ⟨p, 3, none⟩)]) ∧ Hid (regsA ws nr 1 = (regsA ws (nr - k) (1 + k)).map (rs ++ ·)))
  case atStart => exact ⟨0, [], by omega, rfl, rfl, hide rfl, hide ⟨HB4.out, HR4.out⟩, HP4, HT4, hide (by simp)⟩
  case round =>
    obtain ⟨k, rs, hk, hgh, rfl, HRL, HBr, HPr, HTr, HRG⟩ := hrel
    have HGH := hide hgh
    clear hgh
    by_cases hkn : k < nr
    · have hkz : (k : Int) < (nr : Int) := by omega
      have t1 : decide ((k : Int) < (nr : Int)) = true := by simpa using hkz
      obtain ⟨b1, o1, hA1, hgb, hw⟩ := rd_words hRd1.out (by omega)
      subst hA1
      have hk1 : (k : Int) < (n1 : Int) := by omega
      have hwd : wd (ws.drop 1) k = wd ws (1 + k) := by simp [wd, List.getD_eq_getElem?_getD, Nat.add_comm]
      have wk : wr.cell? ⟨b1, o1 + k, none⟩ = some (.string ⟨(wd ws (1 + k)).toArray⟩) := by
        rw [← hwd]; exact (HBr.out.1.cell (p := ⟨b1, o1 + k, none⟩) hgb).trans (hw k (by omega))
      have hgr : b1 < wr.heap.size := Nat.lt_of_lt_of_le hgb HBr.out.1.size
      have hreg : Hid (regsA ws (nr - k) (1 + k) = match regA (wd ws (1 + k)) with | none => none | some x => (regsA ws (nr - (k + 1)) (1 + (k + 1))).map (UInt8.ofNat x :: ·)) := hide (by
        have e : nr - k = (nr - (k + 1)) + 1 := by omega
        rw [e, regsA]
        cases regA (wd ws (1 + k)) <;> rfl)
      have hk3 : k < 3 := by
        have h3 : nr ≤ 3 := by rw [← HNR.out]; exact nreg_3 f
        omega
      clear hw hwd
      go_wp2_with fail
      refine (register_ok ⟨(wd ws (1 + k)).toArray⟩ _).mono ?_
      rintro e w5 ⟨⟨n, bb, rfl, hb1, hb2⟩, rfl⟩
      rw [sa_data] at hb1 hb2
      cases bb
      · have hnone := hb2 rfl
        have hv : Hid (instrA L ws at_ = .error 30) := hide (by rw [HI2.out, HRG.out, hreg.out, hnone]; rfl)
        clear hb1 hb2 hnone hreg
        go_wp2_with (first | ((with_reducible refine at_load 38 (.tmp 12) ?_); refine wpList_load_blk rfl 38 (.tmp 12) rfl p _ _ _ (by rfl) HPr.out Tryd.underlying38 rfl (size_ins _ _ _ _) ?_) | ((with_reducible refine at_store 38 (.tmp 6) (.tmp 69) ?_); refine wpList_store_blk rfl 38 (.tmp 6) (.tmp 69) rfl r _ _ _ (by rfl) (by rfl) HBr.out.2 (size_ins o (rs.getD 0 0).toNat (rs.getD 1 0).toNat (rs.getD 2 0).toNat) (by rfl) (ins_one o (rs.getD 0 0).toNat (rs.getD 1 0).toNat (rs.getD 2 0).toNat) (fun hB4 => ?_)) | ((with_reducible refine at_end ?_); refine bodyPost_ret (v := .tuple #[.agg (insC o (rs.getD 0 0).toNat (rs.getD 1 0).toNat (rs.getD 2 0).toNat), .int .i64 30]) (results_run2 rfl (ResV.row rfl hB4 Tryd.underlying38 rfl (size_ins _ _ _ _)) rfl) rfl ⟨⟨o, _, _, _, 30, rfl, by rw [hv.out]; exact ⟨rfl, by decide⟩⟩, below_setRow HBr.out.1 HRP.out.1 _⟩) | fail)
      · obtain ⟨v, hv16, rfl, hreg2⟩ := hb1 rfl
        have hstep : Hid (regsA ws nr 1 = (regsA ws (nr - (k + 1)) (1 + (k + 1))).map ((rs ++ [UInt8.ofNat v]) ++ ·)) := hide (by
          rw [HRG.out, hreg.out, hreg2]
          show ((regsA ws (nr - (k + 1)) (1 + (k + 1))).map (UInt8.ofNat v :: ·)).map (rs ++ ·) = _
          rw [Option.map_map]
          congr 1
          funext x
          simp)
        have hrl := HRL.out
        have hv256 : (UInt8.ofNat v).toNat = v := by simp; omega
        have ct := HTr.out.cell k
        have cp := HPr.out.cell (1 + k)
        have fp := HPr.out.frozen (1 + k)
        have hset := HPr.out.set_ (1 + k) (.int .u8 (v : Int))
        have htl := HTr.out.lt
        have hpl := HPr.out.lt
        have hset2 : Hid (Blk (w5.setCell ⟨p, 1 + k, none⟩ (.int .u8 (v : Int))) p 38 (insC o ((rs ++ [UInt8.ofNat v]).getD 0 0).toNat ((rs ++ [UInt8.ofNat v]).getD 1 0).toNat ((rs ++ [UInt8.ofNat v]).getD 2 0).toNat)) := by
          rw [ins_set o rs v hk3 hrl hv256] at hset
          exact hide hset
        have HT5 := hide (HTr.out.far (p := ⟨p, 1 + k, none⟩) HTBP.out.1 (.int .u8 (v : Int)))
        have HR5 := hide (HBr.out.2.far (p := ⟨p, 1 + k, none⟩) HRP.out.2.2 (.int .u8 (v : Int)))
        have HB5 := hide (HBr.out.1.setCell (p := ⟨p, 1 + k, none⟩) HRP.out.2.1 (.int .u8 (v : Int)))
        have ct' : w5.cell? ⟨tb, k, none⟩ = some (.pointer (some ⟨p, 1 + k, none⟩)) := by
          rw [ct]
          match k, hk3 with
          | 0, _ => rfl
          | 1, _ => rfl
          | 2, _ => rfl
        have cp' : ∃ u, w5.cell? ⟨p, 1 + k, none⟩ = some u := by
          rw [cp]
          match k, hk3 with
          | 0, _ => exact ⟨_, rfl⟩
          | 1, _ => exact ⟨_, rfl⟩
          | 2, _ => exact ⟨_, rfl⟩
        obtain ⟨u, cpu⟩ := cp'
        have hk3z : (k : Int) < 3 := by omega
        have HRL2 : Hid ((rs ++ [UInt8.ofNat v]).length = k + 1) := hide (by simp [hrl])
        clear hb1 hb2 hreg hreg2 ct cp hset hrl
        go_wp2
        go_roundg (nr - (k + 1))
        case measure => have := HGH.out; omega
        case rel => exact ⟨k + 1, rs ++ [UInt8.ofNat v], by omega, rfl, by go_num, HRL2, hide ⟨HB5.out, HR5.out⟩, hset2, HT5, hstep⟩
    · have hkr : k = nr := by omega
      have hrs : Hid (regsA ws nr 1 = some rs) := hide (by rw [HRG.out, hkr, Nat.sub_self, regsA]; simp)
      have t1 : decide ((k : Int) < (nr : Int)) = false := by simp; omega
      have t1' : ¬ (k : Int) < (nr : Int) := by omega
      have HKR := hide hkr
      clear hkr hkn hk
      have HOB : Hid ((insC o (rs.getD 0 0).toNat (rs.getD 1 0).toNat (rs.getD 2 0).toNat).toList = bvs [UInt8.ofNat o, rs.getD 0 0, rs.getD 1 0, rs.getD 2 0]) := hide (by
        have : (UInt8.ofNat o).toNat = o := by simp; omega
        simp only [bvs, bv, List.map_cons, List.map_nil, this])
      obtain ⟨A2, hA2⟩ : ∃ A2, slA A1 (cA - 1) nr = A2 := ⟨_, rfl⟩
      have hRd2 : Hid (Rd w w.heap.size 1 A2 (n1 - nr) (svs (ws.drop (1 + nr)))) := hide (by
        have := hRd1.out.from_ (c := cA - 1) (l := nr) (by have := HCA.out; have := HN1.out; omega) hnrn
        rw [hA2] at this
        have e : svs (ws.drop (1 + nr)) = (svs (ws.drop 1)).drop nr := by unfold svs; rw [List.map_drop, List.map_drop, List.drop_drop]
        rw [e]; exact this)
      have hsl2 : (Instr.sliceAt 25 (.slice A1 n1 (cA - 1)) (some (.int .i64 (nr : Int))) none none).run Tryd.prog wr = .ok (.slice A2 (n1 - nr) (cA - 1 - nr)) wr := by
        have := run_slice_from (P := Tryd.prog) (w := wr) 25 9 A1 n1 (cA - 1) nr .i64 Tryd.underlying25 (by kernel_rfl) hnrn
        rw [hA2] at this
        exact this
      clear hA2
      go_upto_region 18 with (first | ((with_reducible refine at_slice 25 (.tmp 77) (some (.tmp 78)) none ?_); refine wpList_run rfl _ (exec_slice 25 (.tmp 77) (some (.tmp 78)) none rfl hsl2) ?_) | fail)
      clear hsl2 t1 t1'
      have hfc : f = 0 ∨ f = 1 ∨ f = 2 ∨ f = 3 ∨ f = 4 ∨ f = 5 ∨ f = 6 ∨ f = 7 ∨ f = 8 := by omega
      by_cases hf3 : f ≤ 3
      · have hfc3 : f = 0 ∨ f = 1 ∨ f = 2 ∨ f = 3 := by omega
        clear hfc hf8 hf3
        rcases hfc3 with rfl | rfl | rfl | rfl
        · -- form 0
          have hv : Hid (instrA L ws at_ = .ok [UInt8.ofNat o, rs.getD 0 0, rs.getD 1 0, rs.getD 2 0]) := hide (by rw [HI2.out, hrs.out]; rfl)
          go_wp2_with (first | ((with_reducible refine at_load 38 (.tmp 12) ?_); refine wpList_load_blk rfl 38 (.tmp 12) rfl p _ _ _ (by rfl) HPr.out Tryd.underlying38 rfl (size_ins _ _ _ _) ?_) | ((with_reducible refine at_store 38 (.tmp 6) (.tmp 142) ?_); refine wpList_store_blk rfl 38 (.tmp 6) (.tmp 142) rfl r _ _ _ (by rfl) (by rfl) HBr.out.2 (size_ins o (rs.getD 0 0).toNat (rs.getD 1 0).toNat (rs.getD 2 0).toNat) (by rfl) (ins_one o (rs.getD 0 0).toNat (rs.getD 1 0).toNat (rs.getD 2 0).toNat) (fun hB4 => ?_)) | ((with_reducible refine at_end ?_); refine bodyPost_ret (v := .tuple #[.agg (insC o (rs.getD 0 0).toNat (rs.getD 1 0).toNat (rs.getD 2 0).toNat), .int .i64 0]) (results_run2 rfl (ResV.row rfl hB4 Tryd.underlying38 rfl (size_ins _ _ _ _)) rfl) rfl ⟨⟨o, _, _, _, 0, rfl, by rw [hv.out]; exact ⟨rfl, HOB.out⟩⟩, below_setRow HBr.out.1 HRP.out.1 _⟩) | fail)
        · -- form 1
          have hv : Hid (instrA L ws at_ = .ok [UInt8.ofNat o, rs.getD 0 0, rs.getD 1 0, rs.getD 2 0]) := hide (by rw [HI2.out, hrs.out]; rfl)
          go_wp2_with (first | ((with_reducible refine at_load 38 (.tmp 12) ?_); refine wpList_load_blk rfl 38 (.tmp 12) rfl p _ _ _ (by rfl) HPr.out Tryd.underlying38 rfl (size_ins _ _ _ _) ?_) | ((with_reducible refine at_store 38 (.tmp 6) (.tmp 142) ?_); refine wpList_store_blk rfl 38 (.tmp 6) (.tmp 142) rfl r _ _ _ (by rfl) (by rfl) HBr.out.2 (size_ins o (rs.getD 0 0).toNat (rs.getD 1 0).toNat (rs.getD 2 0).toNat) (by rfl) (ins_one o (rs.getD 0 0).toNat (rs.getD 1 0).toNat (rs.getD 2 0).toNat) (fun hB4 => ?_)) | ((with_reducible refine at_end ?_); refine bodyPost_ret (v := .tuple #[.agg (insC o (rs.getD 0 0).toNat (rs.getD 1 0).toNat (rs.getD 2 0).toNat), .int .i64 0]) (results_run2 rfl (ResV.row rfl hB4 Tryd.underlying38 rfl (size_ins _ _ _ _)) rfl) rfl ⟨⟨o, _, _, _, 0, rfl, by rw [hv.out]; exact ⟨rfl, HOB.out⟩⟩, below_setRow HBr.out.1 HRP.out.1 _⟩) | fail)
        · -- form 2
          have hv : Hid (instrA L ws at_ = .ok [UInt8.ofNat o, rs.getD 0 0, rs.getD 1 0, rs.getD 2 0]) := hide (by rw [HI2.out, hrs.out]; rfl)
          go_wp2_with (first | ((with_reducible refine at_load 38 (.tmp 12) ?_); refine wpList_load_blk rfl 38 (.tmp 12) rfl p _ _ _ (by rfl) HPr.out Tryd.underlying38 rfl (size_ins _ _ _ _) ?_) | ((with_reducible refine at_store 38 (.tmp 6) (.tmp 142) ?_); refine wpList_store_blk rfl 38 (.tmp 6) (.tmp 142) rfl r _ _ _ (by rfl) (by rfl) HBr.out.2 (size_ins o (rs.getD 0 0).toNat (rs.getD 1 0).toNat (rs.getD 2 0).toNat) (by rfl) (ins_one o (rs.getD 0 0).toNat (rs.getD 1 0).toNat (rs.getD 2 0).toNat) (fun hB4 => ?_)) | ((with_reducible refine at_end ?_); refine bodyPost_ret (v := .tuple #[.agg (insC o (rs.getD 0 0).toNat (rs.getD 1 0).toNat (rs.getD 2 0).toNat), .int .i64 0]) (results_run2 rfl (ResV.row rfl hB4 Tryd.underlying38 rfl (size_ins _ _ _ _)) rfl) rfl ⟨⟨o, _, _, _, 0, rfl, by rw [hv.out]; exact ⟨rfl, HOB.out⟩⟩, below_setRow HBr.out.1 HRP.out.1 _⟩) | fail)
        · -- form 3
          have hv : Hid (instrA L ws at_ = .ok [UInt8.ofNat o, rs.getD 0 0, rs.getD 1 0, rs.getD 2 0]) := hide (by rw [HI2.out, hrs.out]; rfl)
          go_wp2_with (first | ((with_reducible refine at_load 38 (.tmp 12) ?_); refine wpList_load_blk rfl 38 (.tmp 12) rfl p _ _ _ (by rfl) HPr.out Tryd.underlying38 rfl (size_ins _ _ _ _) ?_) | ((with_reducible refine at_store 38 (.tmp 6) (.tmp 142) ?_); refine wpList_store_blk rfl 38 (.tmp 6) (.tmp 142) rfl r _ _ _ (by rfl) (by rfl) HBr.out.2 (size_ins o (rs.getD 0 0).toNat (rs.getD 1 0).toNat (rs.getD 2 0).toNat) (by rfl) (ins_one o (rs.getD 0 0).toNat (rs.getD 1 0).toNat (rs.getD 2 0).toNat) (fun hB4 => ?_)) | ((with_reducible refine at_end ?_); refine bodyPost_ret (v := .tuple #[.agg (insC o (rs.getD 0 0).toNat (rs.getD 1 0).toNat (rs.getD 2 0).toNat), .int .i64 0]) (results_run2 rfl (ResV.row rfl hB4 Tryd.underlying38 rfl (size_ins _ _ _ _)) rfl) rfl ⟨⟨o, _, _, _, 0, rfl, by rw [hv.out]; exact ⟨rfl, HOB.out⟩⟩, below_setRow HBr.out.1 HRP.out.1 _⟩) | fail)
      -- a word behind the registers
      have h1 : n1 - nr = 1 := by rw [HNE.out, ← HNA.out, ← HNR.out]; exact nreg_one (by omega) hf8
      obtain ⟨b2, o2, hA2, hg2, hw2⟩ := rd_words hRd2.out (by omega)
      subst hA2
      have hwd : wd (ws.drop (1 + nr)) 0 = wd ws (1 + nr) := by simp [wd, List.getD_eq_getElem?_getD]
      have w2c : wr.cell? ⟨b2, o2, none⟩ = some (.string ⟨(wd ws (1 + nr)).toArray⟩) := by
        rw [← hwd]; exact (HBr.out.1.cell (p := ⟨b2, o2, none⟩) hg2).trans (hw2 0 (by omega))
      have hg2r : b2 < wr.heap.size := Nat.lt_of_lt_of_le hg2 HBr.out.1.size
      have hmem : wd ws (1 + nr) ∈ ws := by
        have hl1 : 1 + nr < ws.length := by have := HN1.out; omega
        unfold wd; rw [List.getD_eq_getElem?_getD, List.getElem?_eq_getElem hl1]; exact List.getElem_mem _
      have hszj : (⟨(wd ws (1 + nr)).toArray⟩ : ByteArray).size ≤ maxLen := by rw [sa_size]; exact HSZ.out _ hmem
      have hLr := hide (HL.out.blk HBr.out.1 (Nat.le_refl _))
      rw [h1]
      clear h1 hw2 hwd hmem
      have hf48 : f = 4 ∨ f = 5 ∨ f = 6 ∨ f = 7 ∨ f = 8 := by omega
      clear hfc hf3 hf8
      rcases hf48 with rfl | rfl | rfl | rfl | rfl
      · -- form 4
        have hvr := valueA_range HO.out (s := wd ws (1 + nr)) (lo := -128) (hi := 127) (by decide) (by decide)
        obtain ⟨n, er, hne⟩ : ∃ n er, valueA L (wd ws (1 + nr)) (-128) 127 = (n, er) := ⟨_, _, rfl⟩
        rw [hne] at hvr
        have HNE2 := hide hne
        go_wp2_with fail
        refine (value_ok hLr.out HO.out ⟨(wd ws (1 + nr)).toArray⟩ hszj (-128) 127).mono ?_
        rintro e w5 ⟨rfl, rfl⟩
        rw [sa_data, hne]
        clear hne
        obtain ⟨v, hv⟩ : ∃ v : Nat, (v : Int) = n % 256 := ⟨(n % 256).toNat, by omega⟩
        have hv256 : v < 256 := by omega
        have u8 : IntKind.u8.wrap n = (v : Int) := by rw [IntKind.wrap_u8']; exact hv.symm
        have HBV : Hid ((UInt8.ofNat v).toNat = v ∧ byteI n = UInt8.ofNat v) := hide ⟨by simp; omega, by unfold byteI; congr 1; omega⟩
        have HANS : Hid (InsAns (instrA L ws at_) (.returned (.tuple #[.agg (insC o (rs.getD 0 0).toNat (rs.getD 1 0).toNat v), .int .i64 er]))) := hide (by
          have hI : instrA L ws at_ = if er ≠ 0 then .error er else .ok [UInt8.ofNat o, rs.getD 0 0, rs.getD 1 0, byteI n] := by
            rw [HI2.out, hrs.out]
            show instrB L o 4 ws nr rs at_ = _
            unfold instrB
            rw [HNE2.out]
            rfl
          rw [hI]
          refine ⟨o, (rs.getD 0 0).toNat, (rs.getD 1 0).toNat, v, er, rfl, ?_⟩
          by_cases he : er = 0
          · rw [if_neg (by simp [he])]
            refine ⟨he, ?_⟩
            have ho' : (UInt8.ofNat o).toNat = o := by simp; omega
            simp only [bvs, bv, List.map_cons, List.map_nil, ho', HBV.out.1, HBV.out.2]
            try rfl
          · rw [if_pos he]
            exact ⟨rfl, he⟩)
        have c3 := HPr.out.cell 3
        have f3 := HPr.out.frozen 3
        have hpl := HPr.out.lt
        have HP5 : Hid (Blk (w5.setCell ⟨p, 3, none⟩ (.int .u8 (v : Int))) p 38 (insC o (rs.getD 0 0).toNat (rs.getD 1 0).toNat v)) := hide (HPr.out.set_ 3 (.int .u8 (v : Int)))
        have HR5 := hide (HBr.out.2.far (p := ⟨p, 3, none⟩) HRP.out.2.2 (.int .u8 (v : Int)))
        have HB5 := hide (HBr.out.1.setCell (p := ⟨p, 3, none⟩) HRP.out.2.1 (.int .u8 (v : Int)))
        clear hv hv256 hvr w2c hLr hszj hg2r
        go_wp2_with (first | ((with_reducible refine at_load 38 (.tmp 12) ?_); refine wpList_load_blk rfl 38 (.tmp 12) rfl p _ _ _ (by rfl) HP5.out Tryd.underlying38 rfl (size_ins _ _ _ _) ?_) | ((with_reducible refine at_store 38 (.tmp 6) (.tmp 94) ?_); refine wpList_store_blk rfl 38 (.tmp 6) (.tmp 94) rfl r _ _ _ (by rfl) (by rfl) HR5.out (size_ins o (rs.getD 0 0).toNat (rs.getD 1 0).toNat v) (by rfl) (ins_one o (rs.getD 0 0).toNat (rs.getD 1 0).toNat v) (fun hB4 => ?_)) | ((with_reducible refine at_end ?_); refine bodyPost_ret (v := .tuple #[.agg (insC o (rs.getD 0 0).toNat (rs.getD 1 0).toNat v), .int .i64 er]) (results_run2 rfl (ResV.row rfl hB4 Tryd.underlying38 rfl (size_ins _ _ _ _)) rfl) rfl ⟨HANS.out, below_setRow HB5.out HRP.out.1 _⟩) | fail)
      · -- form 5
        go_upto_region 35 with (fail)
        have HWC := hide w2c
        refine wp_region_ord [0, 1, 2, 3, 4, 5, 6, 7, 8, 9, 10] [0, 0, 0, 0, 0, 0, 2, 0, 0, 2, 0] (fun W => Blk W p 38 (insC o (rs.getD 0 0).toNat (rs.getD 1 0).toNat (rs.getD 2 0).toNat) ∧ W.cell? ⟨b2, o2, none⟩ = some (.string ⟨(wd ws (1 + nr)).toArray⟩)) (by kernel_rfl) (by kernel_rfl) ⟨HPr.out.drew, HWC.out⟩ ?_
        iterate 1 (refine wpOrd_q (v := ?_) (by rfl) (fun W hW => ?_) ?_; rotate_left; (focus (go_simp; try with_reducible rfl)); try simp only [Act.put, List.setIfInBounds_toArray, List.set_cons_zero, List.set_cons_succ])
        refine wpOrd_q (v := .agg (insC o (rs.getD 0 0).toNat (rs.getD 1 0).toNat (rs.getD 2 0).toNat)) (by rfl) (fun W hW => exec_load_blk 38 (.tmp 12) rfl p _ _ _ rfl hW.1 Tryd.underlying38 rfl (size_ins _ _ _ _)) ?_
        try simp only [Act.put, List.setIfInBounds_toArray, List.set_cons_zero, List.set_cons_succ]
        iterate 4 (refine wpOrd_q (v := ?_) (by rfl) (fun W hW => ?_) ?_; rotate_left; (focus ((obtain ⟨hW1, hW2⟩ := hW; go_simp); try with_reducible rfl)); try simp only [Act.put, List.setIfInBounds_toArray, List.set_cons_zero, List.set_cons_succ])
        refine wpOrd_b (by rfl) (fun KK hKK => ?_)
        go_simp
        have hLd : LabsAt wr.drew b L := hLr.out
        refine (wide16_ok hLd HO.out o (rs.getD 0 0).toNat (rs.getD 1 0).toNat (rs.getD 2 0).toNat ⟨(wd ws (1 + nr)).toArray⟩ hszj at_ hat).mono ?_
        rintro e w6 ⟨⟨y, z, er, rfl, her, hyz⟩, hb6⟩
        refine hKK (fun _ => True) _ _ trivial ?_
        clear hKK KK
        try simp only [Act.put, List.setIfInBounds_toArray, List.set_cons_zero, List.set_cons_succ]
        rw [sa_data] at her hyz
        have HANS : Hid (InsAns (instrA L ws at_) (.returned (.tuple #[.agg (insC o (rs.getD 0 0).toNat y z), .int .i64 er]))) := hide (by
          have hI : instrA L ws at_ = if er ≠ 0 then .error er else .ok [UInt8.ofNat o, rs.getD 0 0, byteI (wideA L o (wd ws (1 + nr)) at_).1, byteI ((wideA L o (wd ws (1 + nr)) at_).1 / 256)] := by
            rw [HI2.out, hrs.out, her]
            rfl
          rw [hI]
          refine ⟨o, (rs.getD 0 0).toNat, y, z, er, rfl, ?_⟩
          by_cases he : er = 0
          · rw [if_neg (by simp [he])]
            refine ⟨he, ?_⟩
            obtain ⟨hy, hz⟩ := hyz he
            have ho' : (UInt8.ofNat o).toNat = o := by simp; omega
            have e1 : (byteI (wideA L o (wd ws (1 + nr)) at_).1).toNat = y := by unfold byteI; rw [hy]; simp; omega
            have e2 : (byteI ((wideA L o (wd ws (1 + nr)) at_).1 / 256)).toNat = z := by unfold byteI; rw [hz]; simp; omega
            simp only [bvs, bv, List.map_cons, List.map_nil, ho', e1, e2]
            try rfl
          · rw [if_pos he]
            exact ⟨rfl, he⟩)
        have HR6 := hide ((HBr.out.2.drew).below hb6 HBr.out.2.lt)
        have HB6 := hide (Below.then_ HBr.out.1.drew HBr.out.1.size hb6)
        clear her hyz hb6
        iterate 2 (refine wpOrd_q (v := ?_) (by rfl) (fun W hW => ?_) ?_; rotate_left; (focus (go_simp; try with_reducible rfl)); try simp only [Act.put, List.setIfInBounds_toArray, List.set_cons_zero, List.set_cons_succ])
        refine wpOrd_b (by rfl) (fun KK hKK => ?_)
        refine wp_store_blk 38 (.tmp 6) (.tmp 140) rfl r 38 _ (insC o (rs.getD 0 0).toNat y z) (by rfl) (by rfl) HR6.out (size_ins _ _ _ _) (by rfl) (ins_one _ _ _ _) (fun hB4 => ?_)
        refine hKK (fun _ => True) _ _ trivial ?_
        clear hKK KK
        try simp only [Act.put, List.setIfInBounds_toArray, List.set_cons_zero, List.set_cons_succ]
        iterate 1 (refine wpOrd_q (v := ?_) (by rfl) (fun W hW => ?_) ?_; rotate_left; (focus (go_simp; try with_reducible rfl)); try simp only [Act.put, List.setIfInBounds_toArray, List.set_cons_zero, List.set_cons_succ])
        refine wpOrd_nil ?_
        go_wp2_with (first | ((with_reducible refine at_end ?_); refine bodyPost_ret (v := .tuple #[.agg (insC o (rs.getD 0 0).toNat y z), .int .i64 er]) (results_run2 rfl (ResV.row rfl hB4 Tryd.underlying38 rfl (size_ins _ _ _ _)) rfl) rfl ⟨HANS.out, below_setRow HB6.out HRP.out.1 _⟩) | fail)
      · -- form 6, no register
        have HRS0 : Hid (rs.getD 0 0 = 0 ∧ True) := hide ⟨by have h1 := HRL.out; have h2 := HKR.out; rw [← HNR.out] at h2; have h3 : rs = [] := List.eq_nil_of_length_eq_zero (by rw [h1, h2]; rfl); rw [h3]; rfl, trivial⟩
        go_upto_region 35 with (fail)
        have HWC := hide w2c
        refine wp_region_ord [0, 1, 2, 3, 4, 5, 6, 7, 8, 9, 10] [0, 0, 0, 0, 0, 0, 2, 0, 0, 2, 0] (fun W => Blk W p 38 (insC o (rs.getD 0 0).toNat (rs.getD 1 0).toNat (rs.getD 2 0).toNat) ∧ W.cell? ⟨b2, o2, none⟩ = some (.string ⟨(wd ws (1 + nr)).toArray⟩)) (by kernel_rfl) (by kernel_rfl) ⟨HPr.out.drew, HWC.out⟩ ?_
        iterate 1 (refine wpOrd_q (v := ?_) (by rfl) (fun W hW => ?_) ?_; rotate_left; (focus (go_simp; try with_reducible rfl)); try simp only [Act.put, List.setIfInBounds_toArray, List.set_cons_zero, List.set_cons_succ])
        refine wpOrd_q (v := .agg (insC o (rs.getD 0 0).toNat (rs.getD 1 0).toNat (rs.getD 2 0).toNat)) (by rfl) (fun W hW => exec_load_blk 38 (.tmp 12) rfl p _ _ _ rfl hW.1 Tryd.underlying38 rfl (size_ins _ _ _ _)) ?_
        try simp only [Act.put, List.setIfInBounds_toArray, List.set_cons_zero, List.set_cons_succ]
        iterate 4 (refine wpOrd_q (v := ?_) (by rfl) (fun W hW => ?_) ?_; rotate_left; (focus ((obtain ⟨hW1, hW2⟩ := hW; go_simp); try with_reducible rfl)); try simp only [Act.put, List.setIfInBounds_toArray, List.set_cons_zero, List.set_cons_succ])
        refine wpOrd_b (by rfl) (fun KK hKK => ?_)
        go_simp
        have hLd : LabsAt wr.drew b L := hLr.out
        refine (wide16_ok hLd HO.out o (rs.getD 0 0).toNat (rs.getD 1 0).toNat (rs.getD 2 0).toNat ⟨(wd ws (1 + nr)).toArray⟩ hszj at_ hat).mono ?_
        rintro e w6 ⟨⟨y, z, er, rfl, her, hyz⟩, hb6⟩
        refine hKK (fun _ => True) _ _ trivial ?_
        clear hKK KK
        try simp only [Act.put, List.setIfInBounds_toArray, List.set_cons_zero, List.set_cons_succ]
        rw [sa_data] at her hyz
        have HANS : Hid (InsAns (instrA L ws at_) (.returned (.tuple #[.agg (insC o (rs.getD 0 0).toNat y z), .int .i64 er]))) := hide (by
          have hI : instrA L ws at_ = if er ≠ 0 then .error er else .ok [UInt8.ofNat o, 0, byteI (wideA L o (wd ws (1 + nr)) at_).1, byteI ((wideA L o (wd ws (1 + nr)) at_).1 / 256)] := by
            rw [HI2.out, hrs.out, her]
            rfl
          rw [hI]
          refine ⟨o, (rs.getD 0 0).toNat, y, z, er, rfl, ?_⟩
          by_cases he : er = 0
          · rw [if_neg (by simp [he])]
            refine ⟨he, ?_⟩
            obtain ⟨hy, hz⟩ := hyz he
            have ho' : (UInt8.ofNat o).toNat = o := by simp; omega
            have e1 : (byteI (wideA L o (wd ws (1 + nr)) at_).1).toNat = y := by unfold byteI; rw [hy]; simp; omega
            have e2 : (byteI ((wideA L o (wd ws (1 + nr)) at_).1 / 256)).toNat = z := by unfold byteI; rw [hz]; simp; omega
            simp only [bvs, bv, List.map_cons, List.map_nil, ho', e1, e2, HRS0.out.1]
            try rfl
          · rw [if_pos he]
            exact ⟨rfl, he⟩)
        have HR6 := hide ((HBr.out.2.drew).below hb6 HBr.out.2.lt)
        have HB6 := hide (Below.then_ HBr.out.1.drew HBr.out.1.size hb6)
        clear her hyz hb6
        iterate 2 (refine wpOrd_q (v := ?_) (by rfl) (fun W hW => ?_) ?_; rotate_left; (focus (go_simp; try with_reducible rfl)); try simp only [Act.put, List.setIfInBounds_toArray, List.set_cons_zero, List.set_cons_succ])
        refine wpOrd_b (by rfl) (fun KK hKK => ?_)
        refine wp_store_blk 38 (.tmp 6) (.tmp 140) rfl r 38 _ (insC o (rs.getD 0 0).toNat y z) (by rfl) (by rfl) HR6.out (size_ins _ _ _ _) (by rfl) (ins_one _ _ _ _) (fun hB4 => ?_)
        refine hKK (fun _ => True) _ _ trivial ?_
        clear hKK KK
        try simp only [Act.put, List.setIfInBounds_toArray, List.set_cons_zero, List.set_cons_succ]
        iterate 1 (refine wpOrd_q (v := ?_) (by rfl) (fun W hW => ?_) ?_; rotate_left; (focus (go_simp; try with_reducible rfl)); try simp only [Act.put, List.setIfInBounds_toArray, List.set_cons_zero, List.set_cons_succ])
        refine wpOrd_nil ?_
        go_wp2_with (first | ((with_reducible refine at_end ?_); refine bodyPost_ret (v := .tuple #[.agg (insC o (rs.getD 0 0).toNat y z), .int .i64 er]) (results_run2 rfl (ResV.row rfl hB4 Tryd.underlying38 rfl (size_ins _ _ _ _)) rfl) rfl ⟨HANS.out, below_setRow HB6.out HRP.out.1 _⟩) | fail)
      · -- form 7
        have hvr := valueA_range HO.out (s := wd ws (1 + nr)) (lo := 8) (hi := 16) (by decide) (by decide)
        obtain ⟨n, er, hne⟩ : ∃ n er, valueA L (wd ws (1 + nr)) 8 16 = (n, er) := ⟨_, _, rfl⟩
        rw [hne] at hvr
        have HNE2 := hide hne
        go_wp2_with fail
        refine (value_ok hLr.out HO.out ⟨(wd ws (1 + nr)).toArray⟩ hszj 8 16).mono ?_
        rintro e w5 ⟨rfl, rfl⟩
        rw [sa_data, hne]
        clear hne
        obtain ⟨v, hv⟩ : ∃ v : Nat, (v : Int) = n % 256 := ⟨(n % 256).toNat, by omega⟩
        have hv256 : v < 256 := by omega
        have u8 : IntKind.u8.wrap n = (v : Int) := by rw [IntKind.wrap_u8']; exact hv.symm
        have HBV : Hid ((UInt8.ofNat v).toNat = v ∧ byteI n = UInt8.ofNat v) := hide ⟨by simp; omega, by unfold byteI; congr 1; omega⟩
        have c3 := HPr.out.cell 3
        have f3 := HPr.out.frozen 3
        have hpl := HPr.out.lt
        have HP5 : Hid (Blk (w5.setCell ⟨p, 3, none⟩ (.int .u8 (v : Int))) p 38 (insC o (rs.getD 0 0).toNat (rs.getD 1 0).toNat v)) := hide (HPr.out.set_ 3 (.int .u8 (v : Int)))
        have HR5 := hide (HBr.out.2.far (p := ⟨p, 3, none⟩) HRP.out.2.2 (.int .u8 (v : Int)))
        have HB5 := hide (HBr.out.1.setCell (p := ⟨p, 3, none⟩) HRP.out.2.1 (.int .u8 (v : Int)))
        have hI : Hid (instrA L ws at_ = if er ≠ 0 then .error er else if n = 8 ∨ n = 16 then .ok [UInt8.ofNat o, rs.getD 0 0, rs.getD 1 0, byteI n] else .error 28) := hide (by
          rw [HI2.out, hrs.out]
          show instrB L o 7 ws nr rs at_ = _
          unfold instrB
          rw [HNE2.out]
          rfl)
        by_cases he : er = 0
        rotate_left
        · have HANS : Hid (InsAns (instrA L ws at_) (.returned (.tuple #[.agg (insC o (rs.getD 0 0).toNat (rs.getD 1 0).toNat v), .int .i64 er]))) := hide (by
            rw [hI.out, if_pos he]
            exact ⟨o, (rs.getD 0 0).toNat, (rs.getD 1 0).toNat, v, er, rfl, rfl, he⟩)
          have t5 : (er == 0) = false := by simpa using he
          clear hv hv256 hvr w2c hLr hszj hg2r he
          go_wp2_with (first | ((with_reducible refine at_load 38 (.tmp 12) ?_); refine wpList_load_blk rfl 38 (.tmp 12) rfl p _ _ _ (by rfl) HP5.out Tryd.underlying38 rfl (size_ins _ _ _ _) ?_) | ((with_reducible refine at_store 38 (.tmp 6) (.tmp 113) ?_); refine wpList_store_blk rfl 38 (.tmp 6) (.tmp 113) rfl r _ _ _ (by rfl) (by rfl) HR5.out (size_ins o (rs.getD 0 0).toNat (rs.getD 1 0).toNat v) (by rfl) (ins_one o (rs.getD 0 0).toNat (rs.getD 1 0).toNat v) (fun hB4 => ?_)) | ((with_reducible refine at_end ?_); refine bodyPost_ret (v := .tuple #[.agg (insC o (rs.getD 0 0).toNat (rs.getD 1 0).toNat v), .int .i64 er]) (results_run2 rfl (ResV.row rfl hB4 Tryd.underlying38 rfl (size_ins _ _ _ _)) rfl) rfl ⟨HANS.out, below_setRow HB5.out HRP.out.1 _⟩) | fail)
        · subst he
          have hn := hvr.2.2 rfl
          obtain ⟨ck, hck⟩ : ∃ ck, checkA o (rs.getD 0 0).toNat (rs.getD 1 0).toNat v = ck := ⟨_, rfl⟩
          have HANS : Hid (InsAns (instrA L ws at_) (.returned (.tuple #[.agg (insC o (rs.getD 0 0).toNat (rs.getD 1 0).toNat v), .int .i64 ck]))) := hide (by
            have hl0 : (rs.getD 0 0).toNat < 16 := regs_getD hrs.out 0
            have hl1 : (rs.getD 1 0).toNat < 16 := regs_getD hrs.out 1
            have hck2 : ck = if n = 8 ∨ n = 16 then 0 else 28 := by
              rw [← hck]
              unfold checkA
              rw [HF.out, if_neg (by decide)]
              have hd0 : decide ((rs.getD 0 0).toNat < 16) = true := decide_eq_true hl0
              have hd1 : decide ((rs.getD 1 0).toNat < 16) = true := decide_eq_true hl1
              have hnv : n = (v : Int) := by omega
              simp only [rightA, hd0, hd1, Bool.true_and, Bool.or_eq_true, decide_eq_true_eq]
              by_cases hq : n = 8 ∨ n = 16
              · rw [if_pos hq, if_pos (by omega)]
              · rw [if_neg hq, if_neg (by omega)]
            rw [hI.out, if_neg (by simp), hck2]
            by_cases hq : n = 8 ∨ n = 16
            · rw [if_pos hq, if_pos hq]
              refine ⟨o, (rs.getD 0 0).toNat, (rs.getD 1 0).toNat, v, 0, rfl, rfl, ?_⟩
              have ho' : (UInt8.ofNat o).toNat = o := by simp; omega
              simp only [bvs, bv, List.map_cons, List.map_nil, ho', HBV.out.1, HBV.out.2]
            · rw [if_neg hq, if_neg hq]
              exact ⟨o, (rs.getD 0 0).toNat, (rs.getD 1 0).toNat, v, 28, rfl, rfl, by decide⟩)
          have HCK := hide hck
          clear hv hv256 hvr w2c hLr hszj hg2r hn hck
          go_wp2_with (first | ((with_reducible refine at_load 38 (.tmp 12) ?_); refine wpList_load_blk rfl 38 (.tmp 12) rfl p _ _ _ (by rfl) HP5.out Tryd.underlying38 rfl (size_ins _ _ _ _) ?_) | fail)
          refine (check_ok o (rs.getD 0 0).toNat (rs.getD 1 0).toNat v _).mono ?_
          rintro e w6 ⟨rfl, hb6⟩
          rw [HCK.out]
          have HP6 := hide (HP5.out.below hb6 HP5.out.lt)
          have HR6 := hide (HR5.out.below hb6 HR5.out.lt)
          have HB6 := hide (Below.then_ HB5.out HB5.out.size hb6)
          clear hb6
          go_wp2_with (first | ((with_reducible refine at_load 38 (.tmp 12) ?_); refine wpList_load_blk rfl 38 (.tmp 12) rfl p _ _ _ (by rfl) HP6.out Tryd.underlying38 rfl (size_ins _ _ _ _) ?_) | ((with_reducible refine at_store 38 (.tmp 6) (.tmp 113) ?_); refine wpList_store_blk rfl 38 (.tmp 6) (.tmp 113) rfl r _ _ _ (by rfl) (by rfl) HR6.out (size_ins o (rs.getD 0 0).toNat (rs.getD 1 0).toNat v) (by rfl) (ins_one o (rs.getD 0 0).toNat (rs.getD 1 0).toNat v) (fun hB4 => ?_)) | ((with_reducible refine at_end ?_); refine bodyPost_ret (v := .tuple #[.agg (insC o (rs.getD 0 0).toNat (rs.getD 1 0).toNat v), .int .i64 ck]) (results_run2 rfl (ResV.row rfl hB4 Tryd.underlying38 rfl (size_ins _ _ _ _)) rfl) rfl ⟨HANS.out, below_setRow HB6.out HRP.out.1 _⟩) | fail)
      · -- form 8
        have HRS0 : Hid (rs.getD 0 0 = 0 ∧ rs.getD 2 0 = 0) := hide ⟨by have h1 := HRL.out; have h2 := HKR.out; rw [← HNR.out] at h2; have h3 : rs = [] := List.eq_nil_of_length_eq_zero (by rw [h1, h2]; rfl); rw [h3]; rfl, by have h1 := HRL.out; have h2 := HKR.out; rw [← HNR.out] at h2; have h3 : rs = [] := List.eq_nil_of_length_eq_zero (by rw [h1, h2]; rfl); rw [h3]; rfl⟩
        have hvr := valueA_range HO.out (s := wd ws (1 + nr)) (lo := 0) (hi := 255) (by decide) (by decide)
        obtain ⟨n, er, hne⟩ : ∃ n er, valueA L (wd ws (1 + nr)) 0 255 = (n, er) := ⟨_, _, rfl⟩
        rw [hne] at hvr
        have HNE2 := hide hne
        go_wp2_with fail
        refine (value_ok hLr.out HO.out ⟨(wd ws (1 + nr)).toArray⟩ hszj 0 255).mono ?_
        rintro e w5 ⟨rfl, rfl⟩
        rw [sa_data, hne]
        clear hne
        obtain ⟨v, hv⟩ : ∃ v : Nat, (v : Int) = n % 256 := ⟨(n % 256).toNat, by omega⟩
        have hv256 : v < 256 := by omega
        have u8 : IntKind.u8.wrap n = (v : Int) := by rw [IntKind.wrap_u8']; exact hv.symm
        have HBV : Hid ((UInt8.ofNat v).toNat = v ∧ byteI n = UInt8.ofNat v) := hide ⟨by simp; omega, by unfold byteI; congr 1; omega⟩
        have HANS : Hid (InsAns (instrA L ws at_) (.returned (.tuple #[.agg (insC o (rs.getD 0 0).toNat v (rs.getD 2 0).toNat), .int .i64 er]))) := hide (by
          have hI : instrA L ws at_ = if er ≠ 0 then .error er else .ok [UInt8.ofNat o, 0, byteI n, 0] := by
            rw [HI2.out, hrs.out]
            show instrB L o 8 ws nr rs at_ = _
            unfold instrB
            rw [HNE2.out]
            rfl
          rw [hI]
          refine ⟨o, (rs.getD 0 0).toNat, v, (rs.getD 2 0).toNat, er, rfl, ?_⟩
          by_cases he : er = 0
          · rw [if_neg (by simp [he])]
            refine ⟨he, ?_⟩
            have ho' : (UInt8.ofNat o).toNat = o := by simp; omega
            simp only [bvs, bv, List.map_cons, List.map_nil, ho', HBV.out.1, HBV.out.2, HRS0.out.1, HRS0.out.2]
            try rfl
          · rw [if_pos he]
            exact ⟨rfl, he⟩)
        have c3 := HPr.out.cell 2
        have f3 := HPr.out.frozen 2
        have hpl := HPr.out.lt
        have HP5 : Hid (Blk (w5.setCell ⟨p, 2, none⟩ (.int .u8 (v : Int))) p 38 (insC o (rs.getD 0 0).toNat v (rs.getD 2 0).toNat)) := hide (HPr.out.set_ 2 (.int .u8 (v : Int)))
        have HR5 := hide (HBr.out.2.far (p := ⟨p, 2, none⟩) HRP.out.2.2 (.int .u8 (v : Int)))
        have HB5 := hide (HBr.out.1.setCell (p := ⟨p, 2, none⟩) HRP.out.2.1 (.int .u8 (v : Int)))
        clear hv hv256 hvr w2c hLr hszj hg2r
        go_wp2_with (first | ((with_reducible refine at_load 38 (.tmp 12) ?_); refine wpList_load_blk rfl 38 (.tmp 12) rfl p _ _ _ (by rfl) HP5.out Tryd.underlying38 rfl (size_ins _ _ _ _) ?_) | ((with_reducible refine at_store 38 (.tmp 6) (.tmp 128) ?_); refine wpList_store_blk rfl 38 (.tmp 6) (.tmp 128) rfl r _ _ _ (by rfl) (by rfl) HR5.out (size_ins o (rs.getD 0 0).toNat v (rs.getD 2 0).toNat) (by rfl) (ins_one o (rs.getD 0 0).toNat v (rs.getD 2 0).toNat) (fun hB4 => ?_)) | ((with_reducible refine at_end ?_); refine bodyPost_ret (v := .tuple #[.agg (insC o (rs.getD 0 0).toNat v (rs.getD 2 0).toNat), .int .i64 er]) (results_run2 rfl (ResV.row rfl hB4 Tryd.underlying38 rfl (size_ins _ _ _ _)) rfl) rfl ⟨HANS.out, below_setRow HB5.out HRP.out.1 _⟩) | fail)
end Go.Proofs.YtmhlokehdjnldaaDoor

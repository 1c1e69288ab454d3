/- Configurations as texts: what is printed is read again. No walk. -/
import Derived.Test.YtniboffmdkeacaaDoorConfTx3
import Derived.Test.YtniboffmdkeacaaDoorConfSz
namespace Go.Proofs.YtniboffmdkeacaaDoor
open Go.RowKit
set_option linter.unusedSimpArgs false
set_option linter.unusedVariables false

/-! ### words, lines -/
/-- a byte of a word -/
def plainB (b : UInt8) : Bool := decide (b ≠ 35) && !(Lib.isSp b) && decide (b ≠ 10) && decide (b.toNat < 128)
def wordB (l : List UInt8) : Bool := !l.isEmpty && l.all plainB
def joinW : List (List UInt8) → List UInt8
  | [] => []
  | [w] => w
  | w :: v :: ws => w ++ 32 :: joinW (v :: ws)
theorem wordsGo_word : ∀ (l cur t : List UInt8), l.all plainB = true → wordsGo cur (l ++ t) = wordsGo (cur ++ l) t
  | [], cur, t, _ => by simp
  | b :: l, cur, t, h => by
    simp only [List.all_cons, Bool.and_eq_true] at h
    obtain ⟨hb, hl⟩ := h
    simp only [plainB, Bool.and_eq_true, decide_eq_true_eq, Bool.not_eq_true'] at hb
    rw [List.cons_append, wordsGo_more cur (l ++ t) hb.1.1.1 hb.1.1.2, wordsGo_word l _ t hl]
    simp
theorem words_join : ∀ ws : List (List UInt8), (∀ w ∈ ws, wordB w = true) → wordsGo [] (joinW ws) = ws
  | [], _ => by rw [joinW, wordsGo_nil]; rfl
  | [w], h => by
    have hw := h w (by simp)
    simp only [wordB, Bool.and_eq_true, Bool.not_eq_true', List.isEmpty_eq_false_iff] at hw
    have := wordsGo_word w [] [] hw.2
    rw [List.append_nil, List.nil_append] at this
    rw [joinW, this, wordsGo_nil, if_neg hw.1]
  | w :: v :: ws, h => by
    have hw := h w (by simp)
    simp only [wordB, Bool.and_eq_true, Bool.not_eq_true', List.isEmpty_eq_false_iff] at hw
    rw [joinW, wordsGo_word w [] _ hw.2, List.nil_append, wordsGo_sp w _ (by decide) (by decide), if_neg hw.1, words_join (v :: ws) (fun x hx => h x (by simp [hx]))]
theorem linesGo_line : ∀ (l cur t : List UInt8), (∀ b ∈ l, b ≠ 10) → linesGo cur (l ++ 10 :: t) = (cur ++ l) :: linesGo [] t
  | [], cur, t, _ => by simp [linesGo]
  | b :: l, cur, t, h => by
    rw [List.cons_append, linesGo, if_neg (h b (by simp)), linesGo_line l _ t (fun x hx => h x (by simp [hx]))]
    simp
theorem join_no10 : ∀ ws : List (List UInt8), (∀ w ∈ ws, wordB w = true) → ∀ b ∈ joinW ws, b ≠ 10 ∧ b.toNat < 128
  | [], _ => by simp [joinW]
  | [w], h => fun b hb => by
    have hw := h w (by simp)
    simp only [wordB, Bool.and_eq_true, List.all_eq_true] at hw
    have := hw.2 b hb
    simp only [plainB, Bool.and_eq_true, decide_eq_true_eq] at this
    exact ⟨this.1.2, this.2⟩
  | w :: v :: ws, h => fun b hb => by
    rw [joinW, List.mem_append, List.mem_cons] at hb
    rcases hb with hb | rfl | hb
    · have hw := h w (by simp)
      simp only [wordB, Bool.and_eq_true, List.all_eq_true] at hw
      have := hw.2 b hb
      simp only [plainB, Bool.and_eq_true, decide_eq_true_eq] at this
      exact ⟨this.1.2, this.2⟩
    · exact ⟨by decide, by decide⟩
    · exact join_no10 (v :: ws) (fun x hx => h x (by simp [hx])) b hb

/-! ### a Size's labels -/
theorem itoa_word (n : Nat) (h : n < 100) : wordB (itoaL n) = true :=
  (by decide +kernel : ∀ n, n < 100 → wordB (itoaL n) = true) n h
theorem cnt_itoa (n : Nat) (h : n < 100) : cntP (itoaL n) = some n :=
  (by decide +kernel : ∀ n, n < 100 → cntP (itoaL n) = some n) n h
theorem sz_lab (i : Nat) : labP (labT (szLev i).toNat (szCat i).toNat) = (some (szLev i, szCat i), 27) ∧ wordB (labT (szLev i).toNat (szCat i).toNat) = true := by
  rcases i with _ | _ | _ | _ | i <;> simp only [szLev, szCat] <;> decide +kernel
theorem sz_word (i : Nat) : wordB (szName i) = true := by
  rcases i with _ | _ | _ | _ | i <;> simp only [szName] <;> decide +kernel
/-! ### one line -/
def wordsR (R : List RegV) (r : RegV) : List (List UInt8) :=
  [labelW, r.name, labT r.lev.toNat r.cats.toNat, wd keyW 0, itoaL r.blocks.toNat, wd keyW 1, itoaL r.nodes.toNat, wd keyW 2, itoaL r.frames.toNat, wd keyW 3, itoaL r.procs.toNat, wd keyW 4, itoaL r.opens.toNat, clearW, nameAt R r.clear.toNat]
def wordsM (R : List RegV) (m : MarkV) : List (List UInt8) := [trustW, nameAt R m.1.toNat, itoaL m.2.toNat]
theorem lineT_join (R : List RegV) (r : RegV) : lineT R r = joinW (wordsR R r) ++ [10] := by
  simp [lineT, headT, endT, numsT, valsR, wordsR, joinW, labelW, clearW]
theorem markT_join (R : List RegV) (m : MarkV) : markT R m = joinW (wordsM R m) ++ [10] := by
  simp [markT, wordsM, joinW, trustW]
/-- a label that is read as it is printed -/
structure Reads (R : List RegV) (r : RegV) : Prop where
  ok : OkT R.length r
  nm : wordB r.name = true
  lab : labP (labT r.lev.toNat r.cats.toNat) = (some (r.lev, r.cats), 27)
  labw : wordB (labT r.lev.toNat r.cats.toNat) = true
theorem nameAt_word {R : List RegV} (h : ∀ r ∈ R, Reads R r) {i : Nat} (hi : i < R.length) : wordB (nameAt R i) = true := by
  unfold nameAt
  rw [List.getElem?_eq_getElem hi]
  exact (h _ (List.getElem_mem hi)).nm
theorem wordsR_word {R : List RegV} (h : ∀ r ∈ R, Reads R r) {r : RegV} (hr : Reads R r) : ∀ w ∈ wordsR R r, wordB w = true := by
  have ho := hr.ok
  have hc : r.clear.toNat < R.length := by have := ho.c0; have := ho.c1; omega
  intro w hw
  simp only [wordsR, List.mem_cons, List.not_mem_nil, or_false] at hw
  rcases hw with rfl | rfl | rfl | rfl | rfl | rfl | rfl | rfl | rfl | rfl | rfl | rfl | rfl | rfl | rfl
  · decide +kernel
  · exact hr.nm
  · exact hr.labw
  · decide +kernel
  · exact itoa_word _ (by have := ho.b0; have := ho.b1; omega)
  · decide +kernel
  · exact itoa_word _ (by have := ho.n0; have := ho.n1; omega)
  · decide +kernel
  · exact itoa_word _ (by have := ho.f0; have := ho.f1; omega)
  · decide +kernel
  · exact itoa_word _ (by have := ho.p0; have := ho.p1; omega)
  · decide +kernel
  · exact itoa_word _ (by have := ho.o0; have := ho.o1; omega)
  · decide +kernel
  · exact nameAt_word h hc
theorem wordsM_word {R : List RegV} (h : ∀ r ∈ R, Reads R r) {m : MarkV} (hm : m.1.toNat < R.length ∧ m.2.toNat < 100) : ∀ w ∈ wordsM R m, wordB w = true := by
  intro w hw
  simp only [wordsM, List.mem_cons, List.not_mem_nil, or_false] at hw
  rcases hw with rfl | rfl | rfl
  · decide +kernel
  · exact nameAt_word h hm.1
  · exact itoa_word _ hm.2
theorem regP_words {R : List RegV} {r : RegV} (hr : Reads R r) : regP (wordsR R r) = (some ({ r with clear := 0 }, nameAt R r.clear.toNat), 0) := by
  have ho := hr.ok
  have c0 := cnt_itoa r.blocks.toNat (by have := ho.b0; have := ho.b1; omega)
  have c1 := cnt_itoa r.nodes.toNat (by have := ho.n0; have := ho.n1; omega)
  have c2 := cnt_itoa r.frames.toNat (by have := ho.f0; have := ho.f1; omega)
  have c3 := cnt_itoa r.procs.toNat (by have := ho.p0; have := ho.p1; omega)
  have c4 := cnt_itoa r.opens.toNat (by have := ho.o0; have := ho.o1; omega)
  have e0 := Int.toNat_of_nonneg ho.b0
  have e1 := Int.toNat_of_nonneg ho.n0
  have e2 := Int.toNat_of_nonneg ho.f0
  have e3 := Int.toNat_of_nonneg ho.p0
  have e4 := Int.toNat_of_nonneg ho.o0
  have n0 : numAt (wordsR R r) 0 = some r.blocks.toNat := by unfold numAt; exact (if_pos (by rfl)).trans c0
  have n1 : numAt (wordsR R r) 1 = some r.nodes.toNat := by unfold numAt; exact (if_pos (by rfl)).trans c1
  have n2 : numAt (wordsR R r) 2 = some r.frames.toNat := by unfold numAt; exact (if_pos (by rfl)).trans c2
  have n3 : numAt (wordsR R r) 3 = some r.procs.toNat := by unfold numAt; exact (if_pos (by rfl)).trans c3
  have n4 : numAt (wordsR R r) 4 = some r.opens.toNat := by unfold numAt; exact (if_pos (by rfl)).trans c4
  have hl : labP (wd (wordsR R r) 2) = (some (r.lev, r.cats), 27) := hr.lab
  rw [regP, if_neg (by simp [wordsR, wd]), hl, n0, n1, n2, n3, n4]
  simp only [e0, e1, e2, e3, e4]
  rfl
theorem lineP_reg {R : List RegV} (h : ∀ r ∈ R, Reads R r) {r : RegV} (hr : Reads R r) (st : PSt) (n : Nat) :
    lineP st n (fieldsP (joinW (wordsR R r))) = (some { st with regs := st.regs ++ [{ r with clear := 0 }], clears := st.clears ++ [nameAt R r.clear.toNat] }, 0) := by
  rw [fields_go, words_join _ (wordsR_word h hr), lineP, if_neg (by simp [wordsR]), if_pos (show wd (wordsR R r) 0 = labelW from rfl), regP_words hr]
theorem lineP_mark {R : List RegV} (h : ∀ r ∈ R, Reads R r) {m : MarkV} (hm : m.1.toNat < R.length ∧ m.2.toNat < 100) (st : PSt) (n : Nat) :
    lineP st n (fieldsP (joinW (wordsM R m))) = (some { st with trust := st.trust ++ [(nameAt R m.1.toNat, itoaL m.2.toNat)], at_ := st.at_ ++ [n] }, 0) := by
  rw [fields_go, words_join _ (wordsM_word h hm), lineP, if_neg (by simp [wordsM]), if_neg (by show ¬ trustW = labelW; decide), if_pos ⟨rfl, rfl⟩]
  rfl
/-! ### all lines -/
theorem lines_regs {R : List RegV} (h : ∀ r ∈ R, Reads R r) (t : List UInt8) : ∀ l : List RegV, (∀ r ∈ l, Reads R r) → linesGo [] (linesT R l ++ t) = (l.map fun r => joinW (wordsR R r)) ++ linesGo [] t
  | [], _ => rfl
  | r :: l, hl => by
    rw [linesT, lineT_join, List.append_assoc, List.append_assoc, List.singleton_append, linesGo_line _ _ _ (fun b hb => (join_no10 _ (wordsR_word h (hl r (by simp))) b hb).1), lines_regs h t l (fun x hx => hl x (by simp [hx]))]
    rfl
theorem lines_marks {R : List RegV} (h : ∀ r ∈ R, Reads R r) : ∀ l : List MarkV, (∀ m ∈ l, m.1.toNat < R.length ∧ m.2.toNat < 100) → linesGo [] (marksT R l) = (l.map fun m => joinW (wordsM R m)) ++ [[]]
  | [], _ => rfl
  | m :: l, hl => by
    rw [marksT, markT_join, List.append_assoc, List.singleton_append, linesGo_line _ _ _ (fun b hb => (join_no10 _ (wordsM_word h (hl m (by simp))) b hb).1), lines_marks h l (fun x hx => hl x (by simp [hx]))]
    rfl
theorem linesP_regs {R : List RegV} (h : ∀ r ∈ R, Reads R r) (rest : List (List UInt8)) : ∀ (l : List RegV) (st : PSt) (i : Nat), (∀ r ∈ l, Reads R r) →
    linesP st i ((l.map fun r => joinW (wordsR R r)) ++ rest) = linesP { st with regs := st.regs ++ l.map (fun r => { r with clear := 0 }), clears := st.clears ++ l.map (fun r => nameAt R r.clear.toNat) } (i + l.length) rest
  | [], st, i, _ => by simp
  | r :: l, st, i, hl => by
    rw [List.map_cons, List.cons_append, linesP, lineP_reg h (hl r (by simp))]
    dsimp only
    rw [linesP_regs h rest l _ _ (fun x hx => hl x (by simp [hx]))]
    simp [Nat.add_comm, Nat.add_left_comm]
theorem linesP_marks {R : List RegV} (h : ∀ r ∈ R, Reads R r) (rest : List (List UInt8)) : ∀ (l : List MarkV) (st : PSt) (i : Nat), (∀ m ∈ l, m.1.toNat < R.length ∧ m.2.toNat < 100) →
    ∃ ns : List Nat, ns.length = l.length ∧ linesP st i ((l.map fun m => joinW (wordsM R m)) ++ rest) = linesP { st with trust := st.trust ++ l.map (fun m => (nameAt R m.1.toNat, itoaL m.2.toNat)), at_ := st.at_ ++ ns } (i + l.length) rest
  | [], st, i, _ => ⟨[], rfl, by simp⟩
  | m :: l, st, i, hl => by
    obtain ⟨ns, hn, e⟩ := linesP_marks h rest l { st with trust := st.trust ++ [(nameAt R m.1.toNat, itoaL m.2.toNat)], at_ := st.at_ ++ [i + 1] } (i + 1) (fun x hx => hl x (by simp [hx]))
    refine ⟨(i + 1) :: ns, by simp [hn], ?_⟩
    rw [List.map_cons, List.cons_append, linesP, lineP_mark h (hl m (by simp))]
    dsimp only
    rw [e]
    simp [Nat.add_comm, Nat.add_left_comm]
theorem place_name {R R' : List RegV} (hn : R'.map (·.name) = R.map (·.name)) (hd : (R.map (·.name)).Nodup) {i : Nat} (hi : i < R.length) : placeP R' (nameAt R i) = some i := by
  have hl : R'.length = R.length := by simpa using congrArg List.length hn
  have hat : ∀ j (hj : j < R'.length), R'[j].name = nameAt R j := fun j hj => by
    have h1 : (R'.map (·.name))[j]? = (R.map (·.name))[j]? := by rw [hn]
    rw [List.getElem?_map, List.getElem?_map, List.getElem?_eq_getElem hj, List.getElem?_eq_getElem (by omega)] at h1
    rw [nameAt, List.getElem?_eq_getElem (by omega)]
    simpa using h1
  rw [placeP, List.findIdx?_eq_some_iff_getElem]
  refine ⟨by omega, by simpa using hat i (by omega), fun j hj => ?_⟩
  simp only [decide_eq_true_eq]
  intro e
  rw [hat j (by omega), nameAt, nameAt, List.getElem?_eq_getElem (show j < R.length by omega), List.getElem?_eq_getElem hi] at e
  have := (List.getElem_inj (xs := R.map (·.name)) (i := j) (j := i) (h₀ := by simp; omega) (h₁ := by simpa using hi) hd).1 (by simpa using e)
  omega
theorem clearsP_all {R R' : List RegV} (hn : R'.map (·.name) = R.map (·.name)) (hd : (R.map (·.name)).Nodup) : ∀ l : List RegV, (∀ r ∈ l, 0 ≤ r.clear ∧ r.clear < R.length) →
    clearsP R' (l.map fun r => { r with clear := 0 }) (l.map fun r => nameAt R r.clear.toNat) = some l
  | [], _ => rfl
  | r :: l, hl => by
    obtain ⟨h0, h1⟩ := hl r (by simp)
    rw [List.map_cons, List.map_cons, clearsP, place_name hn hd (by omega), clearsP_all hn hd l (fun x hx => hl x (by simp [hx]))]
    have := Int.toNat_of_nonneg h0
    simp [this]
theorem marksP_all {R : List RegV} (hd : (R.map (·.name)).Nodup) : ∀ (l : List MarkV) (ns : List Nat) (K : List MarkV), ns.length = l.length → (∀ m ∈ l, m.1.toNat < R.length ∧ m.2.toNat < 100) →
    marksP R K (l.map fun m => (nameAt R m.1.toNat, itoaL m.2.toNat)) ns = (some (K ++ l), 0, 0)
  | [], ns, K, hn, _ => by
    obtain rfl : ns = [] := List.length_eq_zero_iff.1 (by simpa using hn)
    simp [marksP]
  | m :: l, [], K, hn, _ => by simp at hn
  | m :: l, n :: ns, K, hn, hl => by
    obtain ⟨h0, h1⟩ := hl m (by simp)
    rw [List.map_cons, marksP, place_name rfl hd h0]
    dsimp only
    rw [cnt_itoa _ h1]
    dsimp only
    rw [marksP_all hd l ns _ (by simpa using hn) (fun x hx => hl x (by simp [hx]))]
    simp
theorem parse_text {R : List RegV} {K : List MarkV} (h : ∀ r ∈ R, Reads R r) (hd : (R.map (·.name)).Nodup) (hK : ∀ m ∈ K, m.1.toNat < R.length ∧ m.2.toNat < 100) (hl : R.length ≤ 8) (hkl : K.length ≤ 100) :
    parseP ⟨(textT R K).toArray⟩ = (some (R, K), 0, 0) := by
  have hT : ∀ r ∈ R, OkT R.length r := fun r hr => (h r hr).ok
  have l1 := linesT_len hT R hT
  have l2 := marksT_len hT K
  have hs : ¬ 65536 < (⟨(textT R K).toArray⟩ : ByteArray).size := by rw [zs, textT, List.length_append]; omega
  have hlines : linesOf ⟨(textT R K).toArray⟩ = (R.map fun r => joinW (wordsR R r)) ++ ((K.map fun m => joinW (wordsM R m)) ++ [[]]) := by
    rw [linesOf_go, zl, textT, lines_regs h _ R h, lines_marks h K hK]
  obtain ⟨ns, hns, e⟩ := linesP_marks h [[]] K ⟨[] ++ R.map (fun r => { r with clear := 0 }), [] ++ R.map (fun r => nameAt R r.clear.toNat), [], []⟩ (0 + R.length) hK
  rw [parseP, if_neg hs, hlines, linesP_regs h _ R _ _ h, e]
  have e0 : ∀ st : PSt, ∀ i, linesP st i [[]] = (some st, 0, 0) := fun st i => rfl
  rw [e0]
  dsimp only
  simp only [List.nil_append]
  rw [clearsP_all (by simp [List.map_map, Function.comp]) hd R (fun r hr => ⟨(hT r hr).c0, (hT r hr).c1⟩)]
  dsimp only
  rw [marksP_all hd K ns [] hns hK]
  rfl
/-! ### a Size's -/
theorem sz_reads (m : UInt8) (H : List UInt8) : ∀ r ∈ szRegs m H, Reads (szRegs m H) r := by
  intro r hr
  obtain ⟨i, hi⟩ := List.mem_iff_getElem?.1 hr
  have hl := szRegs_length m H
  have hiM : i < szMany m := by rw [← hl]; exact (List.getElem?_eq_some_iff.1 hi).1
  rw [szRegs_get m H hiM] at hi
  cases hi
  have h2 := szMany_ge m
  have h5 := szMany_le m
  have hc : szClear (szMany m) i < szMany m := by unfold szClear; split <;> (try split) <;> (try split) <;> omega
  obtain ⟨q1, q2⟩ := sz_lab i
  refine ⟨⟨?_, ?_, ?_, ?_, ?_, ?_, ?_, ?_, ?_, ?_, ?_, ?_, ?_, ?_, ?_⟩, sz_word i, q1, q2⟩
  · rcases i with _ | _ | _ | _ | i <;> simp [szReg, szName]
  · rcases i with _ | _ | _ | _ | i <;> simp [szReg, szLev]
  · rcases i with _ | _ | _ | _ | i <;> simp [szReg, szCat, okC']
  all_goals simp only [szReg, hl]; omega
theorem sz_names (m : UInt8) (H : List UInt8) : ((szRegs m H).map (·.name)).Nodup := by
  have h5 := szMany_le m
  have h2 := szMany_ge m
  have e : (szRegs m H).map (·.name) = (List.range (szMany m)).map szName := by simp [szRegs, szReg, Function.comp]
  rw [e]
  have : ∀ n : Fin 6, ((List.range n.val).map szName).Nodup := by decide +kernel
  exact this ⟨szMany m, by omega⟩
theorem text_ascii {R : List RegV} {K : List MarkV} (h : ∀ r ∈ R, Reads R r) (hK : ∀ m ∈ K, m.1.toNat < R.length ∧ m.2.toNat < 100) : ∀ b ∈ textT R K, b.toNat < 128 := by
  have h1 : ∀ l : List RegV, (∀ r ∈ l, Reads R r) → ∀ b ∈ linesT R l, b.toNat < 128 := by
    intro l
    induction l with
    | nil => intro _ b hb; simp [linesT] at hb
    | cons r l ih =>
      intro hl b hb
      rw [linesT, lineT_join, List.mem_append, List.mem_append] at hb
      rcases hb with (hb | hb) | hb
      · exact (join_no10 _ (wordsR_word h (hl r (by simp))) b hb).2
      · simp at hb; subst hb; decide
      · exact ih (fun x hx => hl x (by simp [hx])) b hb
  have h2 : ∀ l : List MarkV, (∀ m ∈ l, m.1.toNat < R.length ∧ m.2.toNat < 100) → ∀ b ∈ marksT R l, b.toNat < 128 := by
    intro l
    induction l with
    | nil => intro _ b hb; simp [marksT] at hb
    | cons r l ih =>
      intro hl b hb
      rw [marksT, markT_join, List.mem_append, List.mem_append] at hb
      rcases hb with (hb | hb) | hb
      · exact (join_no10 _ (wordsM_word h (hl r (by simp))) b hb).2
      · simp at hb; subst hb; decide
      · exact ih (fun x hx => hl x (by simp [hx])) b hb
  intro b hb
  rw [textT, List.mem_append] at hb
  exact hb.elim (h1 R h b) (h2 K hK b)
theorem text_len {R : List RegV} {K : List MarkV} (h : ∀ r ∈ R, Reads R r) (hl : R.length ≤ 8) (hkl : K.length ≤ 100) : (textT R K).length ≤ 3600 := by
  have hT : ∀ r ∈ R, OkT R.length r := fun r hr => (h r hr).ok
  have l1 := linesT_len hT R hT
  have l2 := marksT_len hT K
  rw [textT, List.length_append]; omega
end Go.Proofs.YtniboffmdkeacaaDoor

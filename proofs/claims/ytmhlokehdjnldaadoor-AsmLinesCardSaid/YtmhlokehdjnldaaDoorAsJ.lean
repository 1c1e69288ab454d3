/- Programs' texts, in lists: jumps over many instructions; texts as long as may be. No program in sight. -/
import Derived.Test.YtmhlokehdjnldaaDoorAsT
namespace Go.Proofs.YtmhlokehdjnldaaDoor
open Go.RowKit
set_option linter.unusedSimpArgs false
set_option linter.unusedVariables false

/-! ### jumps -/
def movL : List UInt8 := [109, 111, 118, 32, 114, 49, 32, 114, 50]
def jmpL : List UInt8 := [106, 109, 112, 32, 104, 101, 114, 101]
def hereW : List UInt8 := [104, 101, 114, 101]
def hereL : List UInt8 := [104, 101, 114, 101, 58, 32]
def retL : List UInt8 := [104, 101, 114, 101, 58, 32, 114, 101, 116]
def movs (n : Nat) : List UInt8 := (List.replicate n [1, 1, 2, 0]).flatten
theorem movs_len (n : Nat) : (movs n).length = 4 * n := by
  induction n with
  | zero => rfl
  | succ n ih => simp [movs, List.replicate_succ] at ih ⊢; omega
def movW : List (List UInt8) := [[109, 111, 118], [114, 49], [114, 50]]
def jmpW : List (List UInt8) := [[106, 109, 112], hereW]
def retW : List (List UInt8) := [[114, 101, 116]]
theorem movL_words : wordsA movL = movW := by decide +kernel
theorem jmpL_words : wordsA jmpL = jmpW := by decide +kernel
theorem retL_words : wordsA retL = (hereW ++ [58]) :: retW := by decide +kernel
theorem hereL_words : wordsA hereL = [hereW ++ [58]] := by decide +kernel
theorem hereMov_words : wordsA (hereL ++ movL) = (hereW ++ [58]) :: movW := by decide +kernel
def lnsR (i : Nat) (ws : List (List UInt8)) : Nat → List Ln
  | 0 => []
  | n + 1 => ⟨i, ws⟩ :: lnsR (i + 1) ws n
theorem mov_meas : measA movW = .ok (4, none) := by rfl
theorem jmp_meas : measA jmpW = .ok (4, none) := by rfl
theorem ret_meas : measA retW = .ok (4, none) := by rfl
theorem line_mov (st : Src) (i : Nat) (hs : st.size + 4 ≤ 2048) : lineA st i movL = .ok ⟨st.lines ++ [⟨i, movW⟩], st.labels, st.extra, st.size + 4⟩ :=
  lineA_plain movL_words (by decide) (by decide) mov_meas hs
theorem line_jmp (st : Src) (i : Nat) (hs : st.size + 4 ≤ 2048) : lineA st i jmpL = .ok ⟨st.lines ++ [⟨i, jmpW⟩], st.labels, st.extra, st.size + 4⟩ :=
  lineA_plain jmpL_words (by decide) (by decide) jmp_meas hs
theorem here_strip (size : Nat) (ws : List (List UInt8)) (h : (wd ws 0).getLast? ≠ some 58) : stripA size [] ((hereW ++ [58]) :: ws) = .ok ([(hereW, size)], ws) := by
  rw [stripA, if_pos (by decide), if_neg (by decide), if_neg (by decide)]
  refine stripA_none ?_
  rintro w t rfl
  exact h
theorem line_here (st : Src) (i : Nat) (l : List UInt8) (ws : List (List UInt8)) (hl : st.labels = []) (hw : wordsA l = (hereW ++ [58]) :: ws) (h0 : ws ≠ []) (hp : (wd ws 0).getLast? ≠ some 58) (hm : measA ws = .ok (4, none)) (hs : st.size + 4 ≤ 2048) :
    lineA st i l = .ok ⟨st.lines ++ [⟨i, ws⟩], [(hereW, st.size)], st.extra, st.size + 4⟩ := by
  unfold lineA
  rw [hw, hl, here_strip _ _ hp]
  simp only [hm]
  rw [if_neg h0, if_neg (by omega)]
  rfl
theorem line_hereL (st : Src) (i : Nat) (hl : st.labels = []) : lineA st i hereL = .ok ⟨st.lines, [(hereW, st.size)], st.extra, st.size⟩ := by
  unfold lineA
  rw [hereL_words, hl, here_strip _ [] (by decide)]
  simp only
  rw [if_pos trivial]
theorem readA_movs : ∀ (n i : Nat) (st : Src) (t : List (List UInt8)), st.size + 4 * n ≤ 2048 →
    readA st i (List.replicate n movL ++ t) = readA ⟨st.lines ++ lnsR (i + 1) movW n, st.labels, st.extra, st.size + 4 * n⟩ (i + n) t
  | 0, i, st, t, _ => by simp [lnsR]
  | n + 1, i, st, t, h => by
    rw [List.replicate_succ, List.cons_append, readA, line_mov st _ (by omega)]
    simp only
    rw [readA_movs n (i + 1) _ t (by simp only; omega)]
    simp only [lnsR, List.append_assoc, List.singleton_append]
    congr 1
    · congr 1; omega
    · omega
theorem code_mov (L : Lbs) (at_ : Nat) : codeLn L movW at_ = .ok [1, 1, 2, 0] := by
  have h1 : regsA movW (nregA (formA 1)) 1 = some [1, 2] := by decide +kernel
  have h2 : opA (wd movW 0) = 1 := by decide +kernel
  unfold codeLn instrA
  rw [h2]
  rw [if_neg (by decide), if_neg (by decide), if_neg (by decide), if_neg (by decide), if_neg (by decide)]
  rw [h1]
  rfl
theorem code_ret (L : Lbs) (at_ : Nat) : codeLn L retW at_ = .ok [34, 0, 0, 0] := by
  have h1 : regsA retW (nregA (formA 34)) 1 = some [] := rfl
  have h2 : opA (wd retW 0) = 34 := by decide +kernel
  unfold codeLn instrA
  rw [h2]
  rw [if_neg (by decide), if_neg (by decide), if_neg (by decide), if_neg (by decide), if_neg (by decide)]
  rw [h1]
  rfl
theorem code_jmp {to at_ : Nat} {d : Int} (h : (to : Int) - at_ - 4 = 4 * d) : codeLn [(hereW, to)] jmpW at_ = .ok [30, 0, byteI d, byteI (d / 256)] := by
  have h1 : regsA jmpW (nregA (formA 30)) 1 = some [] := rfl
  have h2 : opA (wd jmpW 0) = 30 := by decide +kernel
  have h3 : wideA [(hereW, to)] 30 hereW at_ = (d, 0) := by
    unfold wideA
    rw [show mget [(hereW, to)] hereW = some to by simp [mget]]
    simp only
    rw [if_pos (by decide), if_pos (by omega)]
    congr 1
    omega
  unfold codeLn instrA
  rw [h2]
  rw [if_neg (by decide), if_neg (by decide), if_neg (by decide), if_neg (by decide), if_neg (by decide)]
  rw [h1]
  change (if (wideA [(hereW, to)] 30 hereW at_).2 ≠ 0 then (Except.error (wideA [(hereW, to)] 30 hereW at_).2 : Except Int (List UInt8)) else Except.ok [30, 0, byteI (wideA [(hereW, to)] 30 hereW at_).1, byteI ((wideA [(hereW, to)] 30 hereW at_).1 / 256)]) = _
  rw [h3]
  rfl
theorem codeA_movs (L : Lbs) : ∀ (n i : Nat) (c : List UInt8) (t : List Ln), codeA L c (lnsR i movW n ++ t) = codeA L (c ++ movs n) t
  | 0, i, c, t => by simp [lnsR, movs]
  | n + 1, i, c, t => by
    rw [lnsR, List.cons_append, codeA, code_mov]
    simp only
    rw [codeA_movs L n _ _ t]
    simp [movs, List.replicate_succ]
/-- the text of a jump ahead -/
def aheadT (n m : Nat) : List UInt8 := endL (List.replicate n movL) ++ (jmpL ++ [10]) ++ endL (List.replicate m movL) ++ (retL ++ [10])
/-- the text of a jump back -/
def backT (n m : Nat) : List UInt8 := hereL ++ endL (List.replicate n movL) ++ [10] ++ (jmpL ++ [10]) ++ endL (List.replicate m movL)
theorem no10_movL : ∀ c ∈ movL, c ≠ 10 := by decide
theorem lines_movs (n : Nat) (t : List UInt8) : linesGo [] (endL (List.replicate n movL) ++ t) = List.replicate n movL ++ linesGo [] t :=
  lines_end _ t fun l hl => by rw [(List.mem_replicate.1 hl).2]; exact no10_movL
theorem endL_movs (n : Nat) : (endL (List.replicate n movL)).length = 10 * n := by
  induction n with
  | zero => rfl
  | succ n ih => rw [List.replicate_succ, endL_cons]; simp only [List.length_append, List.length_cons, ih]; simp [movL]; omega
theorem ahead_lines (n m : Nat) : linesGo [] (aheadT n m) = List.replicate n movL ++ (jmpL :: (List.replicate m movL ++ [retL, []])) := by
  unfold aheadT
  rw [List.append_assoc, List.append_assoc, lines_movs, List.append_assoc, List.singleton_append, lines_one _ _ _ (by decide), List.nil_append, lines_movs, lines_one _ _ _ (by decide), List.nil_append]
  rfl
theorem back_lines0 (m : Nat) : linesGo [] (backT 0 m) = hereL :: jmpL :: (List.replicate m movL ++ [[]]) := by
  have : backT 0 m = hereL ++ 10 :: (jmpL ++ 10 :: (endL (List.replicate m movL) ++ [])) := by simp [backT, endL]
  rw [this, lines_one _ _ _ (by decide), lines_one _ _ _ (by decide), lines_movs]
  rfl
theorem back_lines1 (n m : Nat) : linesGo [] (backT (n + 1) m) = (hereL ++ movL) :: (List.replicate n movL ++ ([] :: jmpL :: (List.replicate m movL ++ [[]]))) := by
  have : backT (n + 1) m = (hereL ++ movL) ++ 10 :: (endL (List.replicate n movL) ++ ([] ++ 10 :: (jmpL ++ 10 :: (endL (List.replicate m movL) ++ [])))) := by
    simp [backT, endL, List.replicate_succ]
  rw [this, lines_one _ _ _ (by decide), lines_movs, lines_one _ _ _ (by decide), lines_one _ _ _ (by decide), lines_movs]
  rfl
theorem readA_one (st st' : Src) (i : Nat) (l : List UInt8) (t : List (List UInt8)) (h : lineA st (i + 1) l = .ok st') : readA st i (l :: t) = readA st' (i + 1) t := by
  rw [readA, h]
theorem codeA_one (L : Lbs) (c b : List UInt8) (i : Nat) (ws : List (List UInt8)) (t : List Ln) (h : codeLn L ws c.length = .ok b) : codeA L c (⟨i, ws⟩ :: t) = codeA L (c ++ b) t := by
  rw [codeA]; simp only [h]
theorem blank_line (st : Src) (i : Nat) : lineA st i [] = .ok st := lineA_blank (by decide)
theorem ahead_ok {n m : Nat} (hn : n < 100) (hm : m < 100) : ∃ t, asmA (aheadT n m) = .ok (0, movs n ++ [30, 0, byteI m, byteI ((m : Int) / 256)] ++ t) := by
  refine ⟨movs m ++ [34, 0, 0, 0], ?_⟩
  have hlen : (aheadT n m).length ≤ 65536 := by
    simp only [aheadT, List.length_append, endL_movs]; simp [jmpL, retL]; omega
  unfold asmA
  rw [if_neg (by omega), ahead_lines, readA_movs n 0 _ _ (by simp only; omega), readA_one _ _ _ _ _ (line_jmp _ _ (by simp only; omega)), readA_movs m _ _ _ (by simp only; omega),
    readA_one _ _ _ _ _ (line_here _ _ retL retW rfl retL_words (by decide) (by decide) ret_meas (by simp only; omega)), readA_one _ _ _ _ _ (blank_line _ _), readA]
  simp only [List.nil_append, Nat.zero_add, List.append_assoc, List.singleton_append, List.cons_append]
  rw [codeA_movs, codeA_one _ _ _ _ _ _ (code_jmp (d := m) (by rw [List.nil_append, movs_len]; omega)), codeA_movs, codeA_one _ _ _ _ _ _ (code_ret _ _), codeA]
  simp only [List.nil_append, List.append_assoc]
  rw [if_pos]
  · rfl
  · simp only [fitsA, List.length_append, movs_len, List.length_cons, List.length_nil, Bool.and_eq_true, decide_eq_true_eq]
    omega
theorem back_ok {n m : Nat} (hn : n < 100) (hm : m < 100) : ∃ t, asmA (backT n m) = .ok (0, movs n ++ [30, 0, byteI (-(n : Int) - 1), byteI ((-(n : Int) - 1) / 256)] ++ t) := by
  refine ⟨movs m, ?_⟩
  have hlen : (backT n m).length ≤ 65536 := by
    simp only [backT, List.length_append, endL_movs]; simp [jmpL, hereL]; omega
  unfold asmA
  rw [if_neg (by omega)]
  have hfin : ∀ x : List UInt8, x.length = 4 * n + 4 * m + 4 → fitsA 0 x.length = true := fun x hx => by
    simp only [fitsA, Bool.and_eq_true, decide_eq_true_eq]; omega
  cases n with
  | zero =>
    rw [back_lines0, readA_one _ _ _ _ _ (line_hereL _ _ rfl), readA_one _ _ _ _ _ (line_jmp _ _ (by simp only; omega)), readA_movs m _ _ _ (by simp only; omega), readA_one _ _ _ _ _ (blank_line _ _), readA]
    simp only [List.nil_append, Nat.zero_add, List.append_assoc, List.singleton_append, List.cons_append]
    rw [codeA_one _ _ _ _ _ _ (code_jmp (d := -1) (by simp)), ← List.append_nil (lnsR _ movW m), codeA_movs, codeA]
    simp only [List.nil_append, List.append_assoc]
    rw [if_pos]
    · rfl
    · exact hfin _ (by simp only [List.length_append, movs_len, List.length_cons, List.length_nil]; omega)
  | succ n =>
    rw [back_lines1, readA_one _ _ _ _ _ (line_here _ _ (hereL ++ movL) movW rfl hereMov_words (by decide) (by decide) mov_meas (by simp only; omega)), readA_movs n _ _ _ (by simp only; omega), readA_one _ _ _ _ _ (blank_line _ _),
      readA_one _ _ _ _ _ (line_jmp _ _ (by simp only; omega)), readA_movs m _ _ _ (by simp only; omega), readA_one _ _ _ _ _ (blank_line _ _), readA]
    simp only [List.nil_append, Nat.zero_add, List.append_assoc, List.singleton_append, List.cons_append]
    rw [codeA_one _ _ _ _ _ _ (code_mov _ _), codeA_movs, codeA_one _ _ _ _ _ _ (code_jmp (d := -((n + 1 : Nat) : Int) - 1) (by simp only [List.length_append, movs_len, List.nil_append, List.length_cons, List.length_nil]; omega)), ← List.append_nil (lnsR _ movW m), codeA_movs, codeA]
    have hcons : ([] ++ [1, 1, 2, 0] ++ movs n : List UInt8) = movs (n + 1) := by simp [movs, List.replicate_succ]
    rw [hcons]
    simp only [List.nil_append, List.append_assoc]
    rw [if_pos]
    · rfl
    · exact hfin _ (by simp only [List.length_append, movs_len, List.length_cons, List.length_nil]; omega)

/-! ### long texts -/
theorem lines_blank : ∀ n : Nat, linesGo [] (List.replicate n 10) = List.replicate (n + 1) []
  | 0 => rfl
  | n + 1 => by rw [List.replicate_succ, linesGo, if_pos rfl, lines_blank n]; rfl
theorem readA_blank (st : Src) : ∀ n i : Nat, readA st i (List.replicate n []) = .ok st
  | 0, i => rfl
  | n + 1, i => by rw [List.replicate_succ, readA_one _ _ _ _ _ (blank_line _ _), readA_blank st n]
theorem asmA_blank (n : Nat) : asmA (List.replicate n 10) = if 65536 < n then .error (0, 8) else .error (0, 19) := by
  unfold asmA
  rw [List.length_replicate]
  by_cases h : 65536 < n
  · rw [if_pos h, if_pos h]
  · rw [if_neg h, if_neg h, lines_blank, readA_blank]
    rfl
/-- the text of so many sevens -/
def sevens : Nat → List UInt8
  | 0 => []
  | k + 1 => sevens k ++ ((if k % 64 = 0 then 10 :: wByte else []) ++ [32, 55])
def sevenW : List UInt8 := [55]
def rowW (k : Nat) : List (List UInt8) := wByte :: List.replicate k sevenW
theorem row_ok (k : Nat) : (⟨rowW k, none, List.replicate k 7⟩ : Pl).Ok := by
  have := byteP_ok (b := List.replicate k 7)
  have e : byteP (List.replicate k 7) = ⟨rowW k, none, List.replicate k 7⟩ := by
    unfold byteP rowW
    rw [List.map_replicate]
    have : itoaN (7 : UInt8).toNat = sevenW := by rw [itoaN_lt (by decide)]; rfl
    rw [this]
  rw [e] at this
  exact this
theorem join_row : ∀ k : Nat, joinW (rowW (k + 1)) = joinW (rowW k) ++ [32, 55]
  | 0 => rfl
  | k + 1 => by
    have hj : ∀ (k : Nat) (w : List UInt8), joinW (w :: List.replicate (k + 1) sevenW) = joinW (w :: List.replicate k sevenW) ++ [32, 55] := by
      intro k
      induction k with
      | zero => intro w; simp [joinW, List.replicate_succ, sevenW]
      | succ k ih =>
        intro w
        rw [List.replicate_succ, joinW]
        rw [ih sevenW, List.replicate_succ, joinW]
        simp
    exact hj (k + 1) wByte
/-- full rows, and one that is begun -/
def sevenL (q r : Nat) : List UInt8 := (List.replicate q (10 :: joinW (rowW 64))).flatten ++ (if r = 0 then [] else 10 :: joinW (rowW r))
theorem sevens_rows : ∀ k : Nat, sevens k = sevenL (k / 64) (k % 64)
  | 0 => rfl
  | k + 1 => by
    rw [sevens, sevens_rows k]
    unfold sevenL
    by_cases h0 : k % 64 = 0
    · have e1 : (k + 1) / 64 = k / 64 := by omega
      have e2 : (k + 1) % 64 = 1 := by omega
      rw [e1, e2, h0]
      simp [rowW, joinW, sevenW]
    · rw [if_neg h0, if_neg h0]
      by_cases h63 : k % 64 = 63
      · have e1 : (k + 1) / 64 = k / 64 + 1 := by omega
        have e2 : (k + 1) % 64 = 0 := by omega
        rw [e1, e2, h63, if_pos rfl, List.append_nil, List.replicate_succ', List.flatten_append, join_row 63]
        simp
      · have e1 : (k + 1) / 64 = k / 64 := by omega
        have e2 : (k + 1) % 64 = k % 64 + 1 := by omega
        rw [e1, e2, if_neg (by omega), join_row (k % 64)]
        simp
def rowP (k : Nat) : Pl := ⟨rowW k, none, List.replicate k 7⟩
theorem row_no10 (k : Nat) : ∀ c ∈ joinW (rowW k), c ≠ 10 := join_no10 _ (row_ok k).plain
theorem lines_rows : ∀ (q : Nat) (cur : List UInt8) (r : Nat), (∀ c ∈ cur, c ≠ 10) → 0 < r →
    linesGo [] (cur ++ sevenL q r) = cur :: (List.replicate q (joinW (rowW 64)) ++ [joinW (rowW r)])
  | 0, cur, r, h, hr => by
    have : cur ++ sevenL 0 r = cur ++ 10 :: joinW (rowW r) := by simp [sevenL]; omega
    rw [this, lines_one _ _ _ h, lines_last _ _ (row_no10 r)]
    rfl
  | q + 1, cur, r, h, hr => by
    have : cur ++ sevenL (q + 1) r = cur ++ 10 :: (joinW (rowW 64) ++ sevenL q r) := by simp [sevenL, List.replicate_succ]
    rw [this, lines_one _ _ _ h, lines_rows q _ r (row_no10 64) hr]
    rfl
theorem lines_rows0 : ∀ (q : Nat) (cur : List UInt8), (∀ c ∈ cur, c ≠ 10) → linesGo [] (cur ++ sevenL q 0) = cur :: List.replicate q (joinW (rowW 64))
  | 0, cur, h => by
    have : cur ++ sevenL 0 0 = cur := by simp [sevenL]
    rw [this, lines_last _ _ h]
    rfl
  | q + 1, cur, h => by
    have : cur ++ sevenL (q + 1) 0 = cur ++ 10 :: (joinW (rowW 64) ++ sevenL q 0) := by simp [sevenL, List.replicate_succ]
    rw [this, lines_one _ _ _ h, lines_rows0 q _ (row_no10 64)]
    rfl
theorem bOf_rows (q : Nat) : (bOf (List.replicate q (rowP 64))).length = 64 * q := by
  induction q with
  | zero => rfl
  | succ q ih => rw [List.replicate_succ, bOf_cons, List.length_append, ih]; simp [rowP]; omega
theorem exOf_rows : ∀ (l : List Pl) (e : Nat), (∀ p ∈ l, p.ex = none) → exOf e l = e
  | [], e, _ => rfl
  | p :: t, e, h => by rw [exOf, h p (by simp)]; exact exOf_rows t _ fun q hq => h q (by simp [hq])
theorem join_row_len (k : Nat) : (joinW (rowW k)).length = 4 + 2 * k := by
  induction k with
  | zero => rfl
  | succ k ih => rw [join_row, List.length_append, ih]; simp; omega
theorem sevenL_len (q r : Nat) (hq : q ≤ 32) (hr : r ≤ 64) : (sevenL q r).length ≤ 65536 := by
  have h1 : ∀ q : Nat, ((List.replicate q (10 :: joinW (rowW 64))).flatten).length = 133 * q := by
    intro q
    induction q with
    | zero => rfl
    | succ q ih => rw [List.replicate_succ, List.flatten_cons, List.length_append, ih, List.length_cons, join_row_len]; omega
  unfold sevenL
  rw [List.length_append, h1]
  split
  · simp; omega
  · rw [List.length_cons, join_row_len]; omega
theorem rows_map (q : Nat) : List.replicate q (joinW (rowW 64)) = (List.replicate q (rowP 64)).map fun p => joinW p.ws := by rw [List.map_replicate]; rfl
/-- one byte too many -/
theorem sevens_more {q k : Nat} (hq : 64 * q = 2048) (hk : k / 64 = q) (hr : 0 < k % 64) :
    (match readA ⟨[], [], 0, 0⟩ 0 (linesGo [] (sevenL (k / 64) (k % 64))) with
      | .error e => Except.error e
      | .ok st => match codeA st.labels [] st.lines with
        | .error e => .error e
        | .ok c => if fitsA st.extra c.length then .ok (st.extra, c) else .error (0, 19)) = .error (1 + (k + 63) / 64, 11) := by
  have hst : readA ⟨[], [], 0, 0⟩ 0 ([] :: []) = .ok ⟨[], [], 0, 0⟩ := blank_tail _ _
  have hok : ∀ p ∈ List.replicate q (rowP 64), p.Ok := fun p hp => by rw [(List.mem_replicate.1 hp).2]; exact row_ok 64
  rw [hk]
  have hl := lines_rows q [] (k % 64) (by simp) hr
  rw [List.nil_append, rows_map] at hl
  rw [hl, show ([] : List UInt8) :: ((List.replicate q (rowP 64)).map (fun p => joinW p.ws) ++ [joinW (rowW (k % 64))]) = ([[]] ++ (List.replicate q (rowP 64)).map (fun p => joinW p.ws)) ++ [joinW (rowW (k % 64))] from rfl]
  obtain ⟨st, h3, hsz⟩ : ∃ st, readA ⟨[], [], 0, 0⟩ 0 ([[]] ++ (List.replicate q (rowP 64)).map fun p => joinW p.ws) = .ok st ∧ st.size = 2048 := by
    refine ⟨_, by rw [readA_app hst, readA_pls _ _ _ hok (by rw [bOf_rows]; simp only; omega)], ?_⟩
    simp only
    rw [bOf_rows]; omega
  rw [readA_app h3, readA]
  have hwr := row_ok (k % 64)
  have hline : ∀ i : Nat, lineA st i (joinW (rowW (k % 64))) = .error 11 := fun i => by
    have hs := stripA_none (size := st.size) (L := st.labels) (ws := rowW (k % 64)) (by rintro w t hw; have := hwr.head; simp only at this; rw [hw] at this; exact this)
    have hm := hwr.meas
    simp only [List.length_replicate] at hm
    unfold lineA
    rw [words_join _ hwr.plain, hs]
    simp only
    rw [if_neg hwr.ne, hm]
    simp only
    rw [if_pos (by omega)]
  rw [hline]
  simp only [List.length_append, List.length_map, List.length_replicate, List.length_singleton]
  congr 2
  omega
/-- as many bytes as may be, and one more -/
theorem asmA_sevens {k : Nat} (h1 : 2030 ≤ k) (h2 : k < 2070) :
    (k ≤ 2048 → ∃ c, asmA (sevens k) = .ok (0, c) ∧ c.length = k) ∧ (2048 < k → asmA (sevens k) = .error (1 + (k + 63) / 64, 11)) := by
  have hst : readA ⟨[], [], 0, 0⟩ 0 ([] :: []) = .ok ⟨[], [], 0, 0⟩ := blank_tail _ _
  have hok : ∀ p ∈ List.replicate (k / 64) (rowP 64), p.Ok := fun p hp => by rw [(List.mem_replicate.1 hp).2]; exact row_ok 64
  rw [sevens_rows]
  unfold asmA
  rw [if_neg (by have := sevenL_len (k / 64) (k % 64) (by omega) (by omega); omega)]
  refine ⟨fun hk => ?_, fun hk => ?_⟩
  · -- all of it fits
    obtain ⟨P, hP, hb, hl, hx⟩ : ∃ P : List Pl, (∀ p ∈ P, p.Ok) ∧ (bOf P).length = k ∧ linesGo [] (sevenL (k / 64) (k % 64)) = [] :: P.map (fun p => joinW p.ws) ∧ ∀ p ∈ P, p.ex = none := by
      by_cases h0 : k % 64 = 0
      · refine ⟨List.replicate (k / 64) (rowP 64), hok, by rw [bOf_rows]; omega, ?_, fun p hp => by rw [(List.mem_replicate.1 hp).2]; rfl⟩
        have := lines_rows0 (k / 64) [] (by simp)
        rw [List.nil_append, rows_map] at this
        rw [h0]; exact this
      · refine ⟨List.replicate (k / 64) (rowP 64) ++ [rowP (k % 64)], ?_, by rw [bOf_app, List.length_append, bOf_rows]; simp [bOf, rowP]; omega, ?_, ?_⟩
        · intro p hp
          rcases List.mem_append.1 hp with hp | hp
          · exact hok p hp
          · rw [List.mem_singleton] at hp; subst hp; exact row_ok _
        · have := lines_rows (k / 64) [] (k % 64) (by simp) (by omega)
          rw [List.nil_append, rows_map] at this
          rw [this, List.map_append]; rfl
        · intro p hp
          rcases List.mem_append.1 hp with hp | hp
          · rw [(List.mem_replicate.1 hp).2]; rfl
          · rw [List.mem_singleton] at hp; subst hp; rfl
    refine ⟨bOf P, ?_, hb⟩
    rw [hl, show ([] : List UInt8) :: P.map (fun p => joinW p.ws) = [[]] ++ P.map (fun p => joinW p.ws) from rfl, readA_app hst, readA_pls P _ _ hP (by simp only; omega)]
    simp only [List.nil_append]
    rw [codeA_pls P _ _ hP]
    simp only [List.nil_append]
    rw [exOf_rows P 0 hx, if_pos]
    simp only [fitsA, Bool.and_eq_true, decide_eq_true_eq]
    omega
  · -- one too many
    exact sevens_more (q := 32) (by omega) (by omega) (by omega)
end Go.Proofs.YtmhlokehdjnldaaDoor

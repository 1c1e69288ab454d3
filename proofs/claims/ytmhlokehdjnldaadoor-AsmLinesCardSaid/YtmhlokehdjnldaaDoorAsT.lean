/- Programs' texts, in lists: how a program is printed, and that its text is read as that program. No program in sight. -/
import Derived.Test.YtmhlokehdjnldaaDoorAsP
namespace Go.Proofs.YtmhlokehdjnldaaDoor
open Go.RowKit
set_option linter.unusedSimpArgs false
set_option linter.unusedVariables false

/-! ### numbers, printed -/
def itoaN (n : Nat) : List UInt8 := if n < 10 then [UInt8.ofNat (48 + n)] else itoaN (n / 10) ++ [UInt8.ofNat (48 + n % 10)]
termination_by n
decreasing_by omega
def itoaI (n : Int) : List UInt8 := if n < 0 then 45 :: itoaN (-n).toNat else itoaN n.toNat
theorem itoaN_lt {n : Nat} (h : n < 10) : itoaN n = [UInt8.ofNat (48 + n)] := by rw [itoaN, if_pos h]
theorem itoaN_ge {n : Nat} (h : ¬ n < 10) : itoaN n = itoaN (n / 10) ++ [UInt8.ofNat (48 + n % 10)] := by rw [itoaN, if_neg h]
theorem dig_of {n : Nat} (h : n < 10) : digB (UInt8.ofNat (48 + n)) = true ∧ dv (UInt8.ofNat (48 + n)) = n := by
  have e : (UInt8.ofNat (48 + n)).toNat = 48 + n := by simp; omega
  rw [digB_le, dv, e]; omega
theorem itoaN_dig (n : Nat) : ∀ c ∈ itoaN n, digB c = true := by
  induction n using Nat.strongRecOn with
  | ind n ih =>
    by_cases h : n < 10
    · rw [itoaN_lt h]; intro c hc; rw [List.mem_singleton] at hc; subst hc; exact (dig_of h).1
    · rw [itoaN_ge h]
      intro c hc
      rcases List.mem_append.1 hc with hc | hc
      · exact ih (n / 10) (by omega) c hc
      · rw [List.mem_singleton] at hc; subst hc; exact (dig_of (by omega)).1
theorem itoaN_val (n : Nat) : valP (itoaN n) = n := by
  induction n using Nat.strongRecOn with
  | ind n ih =>
    by_cases h : n < 10
    · rw [itoaN_lt h]; show 0 * 10 + dv _ = n; rw [(dig_of h).2]; omega
    · rw [itoaN_ge h, valP_snoc, ih (n / 10) (by omega), (dig_of (by omega)).2]; omega
theorem itoaN_ne (n : Nat) : itoaN n ≠ [] := by
  by_cases h : n < 10
  · rw [itoaN_lt h]; simp
  · rw [itoaN_ge h]; simp
theorem itoaN_len {n : Nat} : ∀ {k : Nat}, n < 10 ^ (k + 1) → (itoaN n).length ≤ k + 1 := by
  induction n using Nat.strongRecOn with
  | ind n ih =>
    intro k hk
    by_cases h : n < 10
    · rw [itoaN_lt h]; simp
    · rw [itoaN_ge h, List.length_append, List.length_singleton]
      cases k with
      | zero => simp at hk; omega
      | succ k =>
        have := ih (n / 10) (by omega) (k := k) (by rw [Nat.pow_succ] at hk; omega)
        omega
theorem itoaN_head (n : Nat) (h0 : n ≠ 0) : (itoaN n)[0]? ≠ some 48 := by
  induction n using Nat.strongRecOn with
  | ind n ih =>
    by_cases h : n < 10
    · rw [itoaN_lt h]
      intro e
      simp at e
      have := congrArg UInt8.toNat e
      simp at this; omega
    · rw [itoaN_ge h]
      have hl : 0 < (itoaN (n / 10)).length := List.length_pos_iff.2 (itoaN_ne _)
      rw [List.getElem?_append_left hl]
      exact ih (n / 10) (by omega) (by omega)
theorem natA_itoa {n : Nat} (h : n < 1000000) : natA (itoaN n) = some n := by
  unfold natA
  have hl := itoaN_len (n := n) (k := 5) (by omega)
  have hp : 0 < (itoaN n).length := List.length_pos_iff.2 (itoaN_ne _)
  rw [if_neg, if_pos, itoaN_val]
  · exact List.all_eq_true.2 (itoaN_dig n)
  · rintro (h1 | h1 | ⟨h1, h2⟩)
    · omega
    · omega
    · by_cases h0 : n = 0
      · subst h0; rw [itoaN_lt (by omega)] at h1; simp at h1
      · exact itoaN_head n h0 h2
theorem itoaN_first (n : Nat) : ∃ c t, itoaN n = c :: t ∧ digB c = true := by
  cases h : itoaN n with
  | nil => exact absurd h (itoaN_ne n)
  | cons c t => exact ⟨c, t, rfl, itoaN_dig n c (by rw [h]; simp)⟩
theorem numA_itoa {n : Int} (h1 : -1000000 < n) (h2 : n < 1000000) : numA (itoaI n) = some n := by
  unfold itoaI
  by_cases h : n < 0
  · rw [if_pos h]
    rw [numA, if_pos rfl, if_neg, natA_itoa (by omega)]
    · simp; omega
    · intro e
      have := itoaN_val (-n).toNat
      rw [e] at this
      have h3 : valP [48] = 0 := by decide
      omega
  · rw [if_neg h]
    obtain ⟨c, t, e, hc⟩ := itoaN_first n.toNat
    have hc' := digB_le.1 hc
    have := natA_itoa (n := n.toNat) (by omega)
    rw [e] at this ⊢
    rw [numA, if_neg (fun e => by subst e; simp at hc'), this]
    simp; omega
theorem numIn_itoa {n lo hi : Int} (h1 : -1000000 < n) (h2 : n < 1000000) (h3 : lo ≤ n) (h4 : n ≤ hi) : numIn (itoaI n) lo hi = some n := by
  unfold numIn; rw [numA_itoa h1 h2]; simp [h3, h4]
theorem itoaI_nat (n : Nat) : itoaI (n : Int) = itoaN n := by unfold itoaI; rw [if_neg (by omega)]; simp
theorem itoaI_word (n : Int) : wordA (itoaI n) = false := by
  unfold wordA itoaI
  by_cases h : n < 0
  · rw [if_pos h]; simp [lowB]
  · rw [if_neg h]
    obtain ⟨c, t, e, hc⟩ := itoaN_first n.toNat
    have hc' := digB_le.1 hc
    have : lowB c = false := by
      cases hx : lowB c with
      | false => rfl
      | true => have := lowB_le.1 hx; omega
    rw [e]; simp [this]
theorem valueA_itoa {n lo hi : Int} (h1 : -1000000 < n) (h2 : n < 1000000) (h3 : lo ≤ n) (h4 : n ≤ hi) : valueA [] (itoaI n) lo hi = (n, 0) := by
  unfold valueA
  simp [mget, itoaI_word, numIn_itoa h1 h2 h3 h4]
def regT (n : Nat) : List UInt8 := 114 :: itoaN n
theorem regA_regT {n : Nat} (h : n < 16) : regA (regT n) = some n := by
  unfold regT
  rw [regA, if_pos rfl, ← itoaI_nat, numIn_itoa (by omega) (by omega) (by omega) (by omega)]
  simp

/-! ### words and lines, put together -/
def plainW (w : List UInt8) : Prop := w ≠ [] ∧ ∀ c ∈ w, c ≠ 35 ∧ Lib.isSp c = false
def joinW : List (List UInt8) → List UInt8
  | [] => []
  | [w] => w
  | w :: v :: t => w ++ 32 :: joinW (v :: t)
theorem words_word : ∀ (w cur t : List UInt8), (∀ c ∈ w, c ≠ 35 ∧ Lib.isSp c = false) → wordsGo cur (w ++ t) = wordsGo (cur ++ w) t
  | [], cur, t, _ => by simp
  | c :: w, cur, t, h => by
    have hc := h c (by simp)
    rw [List.cons_append, wordsGo_more cur _ hc.1 hc.2, words_word w (cur ++ [c]) t fun d hd => h d (by simp [hd])]
    simp
theorem words_join : ∀ (ws : List (List UInt8)), (∀ w ∈ ws, plainW w) → wordsA (joinW ws) = ws
  | [], _ => by simp [wordsA, joinW, wordsGo_nil]
  | [w], h => by
    obtain ⟨h1, h2⟩ := h w (by simp)
    have := words_word w [] [] h2
    rw [List.append_nil] at this
    show wordsGo [] w = _
    rw [this, wordsGo_nil]
    simp [h1]
  | w :: v :: t, h => by
    obtain ⟨h1, h2⟩ := h w (by simp)
    have ih := words_join (v :: t) fun x hx => h x (by simp [hx])
    show wordsGo [] (w ++ 32 :: joinW (v :: t)) = _
    rw [words_word w [] _ h2, wordsGo_sp _ _ (by decide) (by decide), List.nil_append, if_neg h1]
    congr 1
theorem lines_one : ∀ (l cur t : List UInt8), (∀ c ∈ l, c ≠ 10) → linesGo cur (l ++ 10 :: t) = (cur ++ l) :: linesGo [] t
  | [], cur, t, _ => by simp [linesGo]
  | c :: l, cur, t, h => by
    rw [List.cons_append, linesGo, if_neg (h c (by simp)), lines_one l _ t fun d hd => h d (by simp [hd])]
    simp
theorem lines_last : ∀ (l cur : List UInt8), (∀ c ∈ l, c ≠ 10) → linesGo cur l = [cur ++ l]
  | [], cur, _ => by simp [linesGo]
  | c :: l, cur, h => by
    rw [linesGo, if_neg (h c (by simp)), lines_last l _ fun d hd => h d (by simp [hd])]
    simp
/-- lines, each with its end -/
def endL (ls : List (List UInt8)) : List UInt8 := ls.flatMap (· ++ [10])
theorem lines_end : ∀ (ls : List (List UInt8)) (t : List UInt8), (∀ l ∈ ls, ∀ c ∈ l, c ≠ 10) → linesGo [] (endL ls ++ t) = ls ++ linesGo [] t
  | [], t, _ => rfl
  | l :: ls, t, h => by
    have ih := lines_end ls t fun x hx => h x (by simp [hx])
    show linesGo [] (endL (l :: ls) ++ t) = _
    rw [show endL (l :: ls) ++ t = l ++ 10 :: (endL ls ++ t) by simp [endL], lines_one l [] _ (h l (by simp)), ih]
    rfl
theorem isSp_10 {c : UInt8} (h : Lib.isSp c = false) : c ≠ 10 := by rintro rfl; exact absurd h (by decide)
theorem join_no10 : ∀ (ws : List (List UInt8)), (∀ w ∈ ws, plainW w) → ∀ c ∈ joinW ws, c ≠ 10
  | [], _, c, hc => by simp [joinW] at hc
  | [w], h, c, hc => isSp_10 ((h w (by simp)).2 c hc).2
  | w :: v :: t, h, c, hc => by
    rw [joinW, List.mem_append, List.mem_cons] at hc
    rcases hc with hc | rfl | hc
    · exact isSp_10 ((h w (by simp)).2 c hc).2
    · decide
    · exact join_no10 (v :: t) (fun x hx => h x (by simp [hx])) c hc

/-! ### reading lines without places -/
theorem stripA_none {size : Nat} {L : Lbs} {ws : List (List UInt8)} (h : ∀ w t, ws = w :: t → w.getLast? ≠ some 58) : stripA size L ws = .ok (L, ws) := by
  cases ws with
  | nil => rfl
  | cons w t => rw [stripA, if_neg (h w t rfl)]
theorem lineA_blank {st : Src} {i : Nat} {l : List UInt8} (h : wordsA l = []) : lineA st i l = .ok st := by
  unfold lineA; rw [h]; simp [stripA]
theorem lineA_plain {st : Src} {i : Nat} {l : List UInt8} {ws : List (List UInt8)} {n : Nat} {ex : Option Nat} (h : wordsA l = ws) (h0 : ws ≠ []) (hp : (wd ws 0).getLast? ≠ some 58) (hm : measA ws = .ok (n, ex)) (hs : st.size + n ≤ 2048) :
    lineA st i l = .ok { lines := st.lines ++ [⟨i, ws⟩], labels := st.labels, extra := ex.getD st.extra, size := st.size + n } := by
  unfold lineA
  rw [h, stripA_none (by rintro w t rfl; exact hp)]
  simp only [hm]
  rw [if_neg h0, if_neg (by omega)]
theorem readA_app {st st' : Src} : ∀ {i : Nat} {a b : List (List UInt8)}, readA st i a = .ok st' → readA st i (a ++ b) = readA st' (i + a.length) b := by
  intro i a
  induction a generalizing st i with
  | nil => intro b h; injection h with h; subst h; rfl
  | cons l a ih =>
    intro b h
    rw [readA] at h
    rw [List.cons_append, readA]
    cases hl : lineA st (i + 1) l with
    | error e => rw [hl] at h; cases h
    | ok s2 =>
      rw [hl] at h
      simp only at h ⊢
      rw [ih h]
      congr 1
      simp; omega
/-- What a line without a place says: its words, its bytes, and whether it speaks of pages. -/
structure Pl where
  ws : List (List UInt8)
  ex : Option Nat
  b : List UInt8
structure Pl.Ok (p : Pl) : Prop where
  ne : p.ws ≠ []
  plain : ∀ w ∈ p.ws, plainW w
  head : (wd p.ws 0).getLast? ≠ some 58
  meas : measA p.ws = .ok (p.b.length, p.ex)
  code : ∀ at_, codeLn [] p.ws at_ = .ok p.b
def lnsOf : Nat → List Pl → List Ln
  | _, [] => []
  | i, p :: t => ⟨i, p.ws⟩ :: lnsOf (i + 1) t
def bOf (l : List Pl) : List UInt8 := l.flatMap (·.b)
def exOf : Nat → List Pl → Nat
  | e, [] => e
  | e, p :: t => exOf (p.ex.getD e) t
theorem bOf_cons (p : Pl) (t : List Pl) : bOf (p :: t) = p.b ++ bOf t := rfl
theorem readA_pls : ∀ (l : List Pl) (i : Nat) (st : Src), (∀ p ∈ l, p.Ok) → st.size + (bOf l).length ≤ 2048 →
    readA st i (l.map fun p => joinW p.ws) = .ok ⟨st.lines ++ lnsOf (i + 1) l, st.labels, exOf st.extra l, st.size + (bOf l).length⟩
  | [], i, st, _, _ => by simp [readA, lnsOf, exOf, bOf]
  | p :: t, i, st, h, hs => by
    have hp := h p (by simp)
    rw [bOf_cons, List.length_append] at hs
    rw [List.map_cons, readA, lineA_plain (words_join p.ws hp.plain) hp.ne hp.head hp.meas (by omega)]
    simp only
    rw [readA_pls t (i + 1) _ (fun q hq => h q (by simp [hq])) (by simp only; omega)]
    simp only [lnsOf, exOf, bOf_cons, List.length_append, List.append_assoc, List.singleton_append, Nat.add_assoc]
theorem codeA_pls : ∀ (l : List Pl) (i : Nat) (c : List UInt8), (∀ p ∈ l, p.Ok) → codeA [] c (lnsOf i l) = .ok (c ++ bOf l)
  | [], i, c, _ => by simp [codeA, lnsOf, bOf]
  | p :: t, i, c, h => by
    have hp := h p (by simp)
    rw [lnsOf, codeA, hp.code]
    simp only
    rw [codeA_pls t _ _ fun q hq => h q (by simp [hq]), bOf_cons, List.append_assoc]
theorem blank_tail (st : Src) (i : Nat) : readA st i [[]] = .ok st := by
  rw [readA, lineA_blank (by simp [wordsA, wordsGo_nil])]
  rfl
/-- plain lines, each with its end: what they are as a program -/
theorem asmA_pls (l : List Pl) (h : ∀ p ∈ l, p.Ok) (hs : (bOf l).length ≤ 2048) (ht : (endL (l.map fun p => joinW p.ws)).length ≤ 65536) :
    asmA (endL (l.map fun p => joinW p.ws)) = if fitsA (exOf 0 l) (bOf l).length then .ok (exOf 0 l, bOf l) else .error (0, 19) := by
  unfold asmA
  rw [if_neg (by omega)]
  have hl : linesGo [] (endL (l.map fun p => joinW p.ws)) = (l.map fun p => joinW p.ws) ++ [[]] := by
    have := lines_end (l.map fun p => joinW p.ws) [] (by
      intro x hx
      obtain ⟨p, hp, rfl⟩ := List.mem_map.1 hx
      exact join_no10 _ (h p hp).plain)
    rw [List.append_nil] at this
    rw [this]; rfl
  rw [hl, readA_app (readA_pls l 0 ⟨[], [], 0, 0⟩ h (by simpa using hs)), blank_tail]
  simp only [List.nil_append]
  rw [codeA_pls l _ _ h]
  simp only [List.nil_append, Nat.zero_add]
/-- one plain line alone -/
theorem asmA_one (p : Pl) (h : p.Ok) (hs : p.b.length ≤ 2048) (ht : (joinW p.ws).length ≤ 65536) :
    asmA (joinW p.ws) = if fitsA (p.ex.getD 0) p.b.length then .ok (p.ex.getD 0, p.b) else .error (0, 19) := by
  unfold asmA
  rw [if_neg (by omega), lines_last _ [] (join_no10 _ h.plain), List.nil_append]
  have := readA_pls [p] 0 ⟨[], [], 0, 0⟩ (by simpa using h) (by simpa [bOf] using hs)
  rw [List.map_cons, List.map_nil] at this
  rw [this]
  simp only [List.nil_append]
  rw [codeA_pls [p] _ _ (by simpa using h)]
  simp [exOf, bOf]

/-! ### instructions, printed -/
def nearI (z : Nat) : Int := if 127 < z then (z : Int) - 256 else z
def wideN (y z : Nat) : Nat := y + 256 * z
def wordsT (o x y z : Nat) : List (List UInt8) :=
  opNames.getD o [] :: match formA o with
    | 1 => [regT x]
    | 2 => [regT x, regT y]
    | 3 => [regT x, regT y, regT z]
    | 4 => [regT x, regT y, itoaI (nearI z)]
    | 5 => [regT x, itoaI (wideN y z)]
    | 6 => [itoaI (wideN y z)]
    | 7 => [regT x, regT y, itoaI z]
    | 8 => [itoaI y]
    | _ => []
def lineT (o x y z : Nat) : List UInt8 := joinW (wordsT o x y z)
def bT (o x y z : Nat) : List UInt8 := [UInt8.ofNat o, UInt8.ofNat x, UInt8.ofNat y, UInt8.ofNat z]
theorem formA_lt (o : Nat) (h : formA o ≠ 9) : 1 ≤ o ∧ o < 40 := by
  rcases Nat.lt_or_ge o 40 with ho | ho
  · refine ⟨?_, ho⟩
    rcases o with _ | o
    · exact absurd rfl h
    · omega
  · exfalso
    apply h
    unfold formA
    rw [List.getD_eq_getElem?_getD, List.getElem?_eq_none (by simpa using ho)]
    rfl
theorem op_facts1 : ∀ o, o < 40 → 1 ≤ o → opA (opNames.getD o []) = o ∧ formA o ≤ 8 := by decide +kernel
theorem op_facts2 : ∀ o, o < 40 → 1 ≤ o → opNames.getD o [] ≠ wExtra ∧ opNames.getD o [] ≠ wByte ∧ opNames.getD o [] ≠ wWord ∧ opNames.getD o [] ≠ wText := by decide +kernel
theorem op_facts3 : ∀ o, o < 40 → 1 ≤ o → (opNames.getD o []).getLast? ≠ some 58 ∧ (opNames.getD o []) ≠ [] ∧ (opNames.getD o []).length ≤ 4 := by decide +kernel
theorem op_facts4 : ∀ o, o < 40 → (opNames.getD o []).all (fun c => decide (c ≠ 35) && !(Lib.isSp c)) = true := by decide +kernel
theorem plain_name {o : Nat} (h1 : o < 40) (h2 : 1 ≤ o) : plainW (opNames.getD o []) := by
  have h4 := op_facts4 o h1
  refine ⟨(op_facts3 o h1 h2).2.1, fun c hc => ?_⟩
  have := List.all_eq_true.1 h4 c hc
  simpa using this
theorem dig_plain {c : UInt8} (h : digB c = true) : c ≠ 35 ∧ Lib.isSp c = false := by
  have hd := digB_le.1 h
  have : ∀ n : Nat, n < 256 → 48 ≤ n → n ≤ 57 → UInt8.ofNat n ≠ 35 ∧ Lib.isSp (UInt8.ofNat n) = false := by decide +kernel
  have h2 := this c.toNat (by omega) hd.1 hd.2
  simpa using h2
theorem plain_itoaN (n : Nat) : plainW (itoaN n) := ⟨itoaN_ne n, fun c hc => dig_plain (itoaN_dig n c hc)⟩
theorem plain_itoaI (n : Int) : plainW (itoaI n) := by
  unfold itoaI
  split
  · refine ⟨by simp, fun c hc => ?_⟩
    rcases List.mem_cons.1 hc with rfl | hc
    · decide
    · exact dig_plain (itoaN_dig _ c hc)
  · exact plain_itoaN _
theorem plain_regT (n : Nat) : plainW (regT n) := by
  refine ⟨by simp [regT], fun c hc => ?_⟩
  rcases List.mem_cons.1 hc with rfl | hc
  · decide
  · exact dig_plain (itoaN_dig _ c hc)
theorem byteI_nat {n : Nat} (h : n < 256) : byteI (n : Int) = UInt8.ofNat n := by
  unfold byteI; congr 1; omega
theorem byteI_near {z : Nat} (h : z < 256) : byteI (nearI z) = UInt8.ofNat z := by
  unfold byteI nearI; congr 1; split <;> omega
theorem byteI_wide0 {y z : Nat} (h : y < 256) (h2 : z < 256) : byteI ((wideN y z : Nat) : Int) = UInt8.ofNat y := by
  unfold byteI wideN; congr 1; omega
theorem byteI_wide1 {y z : Nat} (h : y < 256) (h2 : z < 256) : byteI (((wideN y z : Nat) : Int) / 256) = UInt8.ofNat z := by
  unfold byteI wideN; congr 1; omega
theorem wideA_nil (o : Nat) (s : List UInt8) (at_ : Nat) : wideA [] o s at_ = valueA [] s (-32768) 65535 := rfl
theorem form_cases (o : Nat) (h : formA o ≤ 8) : formA o = 0 ∨ formA o = 1 ∨ formA o = 2 ∨ formA o = 3 ∨ formA o = 4 ∨ formA o = 5 ∨ formA o = 6 ∨ formA o = 7 ∨ formA o = 8 := by omega
/-- an instruction that is right, as a line: read again it is that instruction -/
theorem line_ok {o x y z : Nat} (hx : x < 256) (hy : y < 256) (hz : z < 256) (h : checkA o x y z = 0) : (⟨wordsT o x y z, none, bT o x y z⟩ : Pl).Ok := by
  have h9 : formA o ≠ 9 := by intro e; unfold checkA at h; rw [if_pos e] at h; cases h
  obtain ⟨h1, h2⟩ := formA_lt o h9
  obtain ⟨q1, q2⟩ := op_facts1 o h2 h1
  obtain ⟨q3, q4, q5, q6⟩ := op_facts2 o h2 h1
  obtain ⟨q7, q8, q9⟩ := op_facts3 o h2 h1
  have hc : rightA (formA o) x y z = true := by
    unfold checkA at h
    rw [if_neg h9] at h
    by_cases e : rightA (formA o) x y z = true
    · exact e
    · rw [if_neg e] at h; cases h
  have hw0 : wd (wordsT o x y z) 0 = opNames.getD o [] := rfl
  have hm : measA (wordsT o x y z) = .ok (4, none) := by
    unfold measA
    rw [hw0, if_neg q3, if_neg q4, if_neg q5, if_neg q6, q1, if_neg (by omega)]
  refine ⟨by simp [wordsT], ?_, by rw [hw0]; exact q7, hm, fun at_ => ?_⟩
  · intro w hw
    rcases List.mem_cons.1 hw with rfl | hw
    · exact plain_name h2 h1
    · rcases form_cases o q2 with e | e | e | e | e | e | e | e | e <;> rw [e] at hw <;> simp at hw
      · subst hw; exact plain_regT _
      · rcases hw with rfl | rfl <;> exact plain_regT _
      · rcases hw with rfl | rfl | rfl <;> exact plain_regT _
      · rcases hw with rfl | rfl | rfl
        · exact plain_regT _
        · exact plain_regT _
        · exact plain_itoaI _
      · rcases hw with rfl | rfl
        · exact plain_regT _
        · exact plain_itoaI _
      · subst hw; exact plain_itoaI _
      · rcases hw with rfl | rfl | rfl
        · exact plain_regT _
        · exact plain_regT _
        · exact plain_itoaI _
      · subst hw; exact plain_itoaI _
  · show codeLn [] (wordsT o x y z) at_ = .ok (bT o x y z)
    unfold codeLn
    rw [hw0, if_neg q3, if_neg q4, if_neg q5, if_neg q6]
    unfold instrA
    rw [hw0, q1]
    rcases form_cases o q2 with e | e | e | e | e | e | e | e | e <;> rw [e] at hc ⊢ <;> simp only [rightA, Bool.and_eq_true, Bool.or_eq_true, decide_eq_true_eq] at hc <;>
      simp only [wordsT, e, nargA, nregA, List.getD_cons_zero, List.getD_cons_succ, List.length_cons, List.length_nil, Nat.add_sub_cancel, Nat.zero_add, regsA, wd, bT, wideA_nil, ne_eq, not_true_eq_false, if_false, Nat.reduceAdd, Nat.reduceSub, Nat.reduceEqDiff]
    · obtain ⟨rfl, rfl, rfl⟩ := hc; rfl
    · obtain ⟨a, rfl, rfl⟩ := hc
      rw [regA_regT a]; rfl
    · obtain ⟨⟨a, b⟩, rfl⟩ := hc
      rw [regA_regT a, regA_regT b]; rfl
    · obtain ⟨⟨a, b⟩, c⟩ := hc
      rw [regA_regT a, regA_regT b, regA_regT c]; rfl
    · obtain ⟨a, b⟩ := hc
      have hn : -128 ≤ nearI z ∧ nearI z ≤ 127 := by unfold nearI; split <;> omega
      rw [regA_regT a, regA_regT b, valueA_itoa (by omega) (by omega) hn.1 hn.2]
      simp [byteI_near hz]
    · have hw : wideN y z ≤ 65535 := by unfold wideN; omega
      rw [regA_regT hc, valueA_itoa (by omega) (by omega) (by omega) (by omega)]
      simp [byteI_wide0 hy hz, byteI_wide1 hy hz]
    · subst hc
      have hw : wideN y z ≤ 65535 := by unfold wideN; omega
      rw [valueA_itoa (by omega) (by omega) (by omega) (by omega)]
      simp [byteI_wide0 hy hz, byteI_wide1 hy hz]
    · obtain ⟨⟨a, b⟩, c⟩ := hc
      rw [regA_regT a, regA_regT b, valueA_itoa (by omega) (by omega) (by omega) (by omega)]
      have : (z : Int) = 8 ∨ (z : Int) = 16 := by omega
      simp [byteI_nat hz, this]
    · obtain ⟨rfl, rfl⟩ := hc
      rw [valueA_itoa (by omega) (by omega) (by omega) (by omega)]
      simp [byteI_nat hy]
theorem itoaN_256 {n : Nat} (h : n < 256) : (itoaN n).length ≤ 3 := itoaN_len (k := 2) (by omega)
theorem regT_256 {n : Nat} (h : n < 256) : (regT n).length ≤ 4 := by have := itoaN_256 h; simp [regT]; omega
theorem itoaI_len {n : Int} (h1 : -128 ≤ n) (h2 : n ≤ 65535) : (itoaI n).length ≤ 5 := by
  unfold itoaI
  split
  · have := itoaN_len (n := (-n).toNat) (k := 2) (by omega)
    simp; omega
  · exact itoaN_len (n := n.toNat) (k := 4) (by omega)
theorem line_len {o x y z : Nat} (hx : x < 256) (hy : y < 256) (hz : z < 256) (h : o < 40) : (lineT o x y z).length ≤ 20 := by
  have h0 : (opNames.getD o []).length ≤ 4 := by
    rcases o with _ | o
    · decide
    · exact (op_facts3 (o + 1) h (by omega)).2.2
  have a1 := regT_256 hx
  have a2 := regT_256 hy
  have a3 := regT_256 hz
  have a4 : (itoaI (nearI z)).length ≤ 5 := itoaI_len (by unfold nearI; split <;> omega) (by unfold nearI; split <;> omega)
  have a5 : (itoaI (wideN y z)).length ≤ 5 := itoaI_len (by omega) (by unfold wideN; omega)
  have a6 : (itoaI z).length ≤ 5 := itoaI_len (by omega) (by omega)
  have a7 : (itoaI y).length ≤ 5 := itoaI_len (by omega) (by omega)
  unfold lineT wordsT
  split <;> simp only [joinW, List.length_append, List.length_cons] <;> omega

/-! ### programs, printed -/
/-- a line of bytes -/
def byteP (b : List UInt8) : Pl := ⟨wByte :: b.map (fun c => itoaN c.toNat), none, b⟩
/-- what four bytes are as a line -/
def fourP (a b c d : UInt8) : Pl := if checkA a.toNat b.toNat c.toNat d.toNat = 0 then ⟨wordsT a.toNat b.toNat c.toNat d.toNat, none, [a, b, c, d]⟩ else byteP [a, b, c, d]
def plsOf : List UInt8 → List Pl
  | a :: b :: c :: d :: t => fourP a b c d :: plsOf t
  | [] => []
  | l => [byteP l]
def extraP (e : Nat) : List Pl := if 0 < e then [⟨[wExtra, itoaN e], some e, []⟩] else []
def textA (e : Nat) (code : List UInt8) : List UInt8 := endL ((extraP e ++ plsOf code).map fun p => joinW p.ws)
theorem dataA_bytes : ∀ b : List UInt8, dataA [] 1 (b.map fun c => itoaN c.toNat) = .ok b
  | [] => rfl
  | c :: b => by
    have hc : c.toNat < 256 := by have := c.toNat_lt; omega
    have hv : valueA [] (itoaN c.toNat) (-128) 255 = ((c.toNat : Int), 0) := by rw [← itoaI_nat]; exact valueA_itoa (by omega) (by omega) (by omega) (by omega)
    rw [List.map_cons, dataA, dataA_bytes b]
    simp only [Nat.reduceEqDiff, if_false, hv]
    simp [bytesA, byteI_nat hc]
theorem byteP_ok {b : List UInt8} : (byteP b).Ok := by
  refine ⟨by simp [byteP], ?_, (by decide : wByte.getLast? ≠ some 58), ?_, fun at_ => ?_⟩
  · intro w hw
    rcases List.mem_cons.1 hw with rfl | hw
    · exact ⟨by decide, by decide⟩
    · obtain ⟨c, _, rfl⟩ := List.mem_map.1 hw
      exact plain_itoaN _
  · show measA (wByte :: b.map fun c => itoaN c.toNat) = _
    unfold measA
    rw [show wd (wByte :: b.map fun c => itoaN c.toNat) 0 = wByte from rfl, if_neg (by decide), if_pos rfl]
    simp [byteP]
  · show codeLn [] (wByte :: b.map fun c => itoaN c.toNat) at_ = _
    unfold codeLn
    rw [show wd (wByte :: b.map fun c => itoaN c.toNat) 0 = wByte from rfl, if_neg (by decide), if_pos rfl]
    exact dataA_bytes b
theorem fourP_ok (a b c d : UInt8) : (fourP a b c d).Ok := by
  unfold fourP
  split
  · rename_i h
    have ha := a.toNat_lt; have hb := b.toNat_lt; have hc := c.toNat_lt; have hd := d.toNat_lt
    have := line_ok (o := a.toNat) (by omega) (by omega) (by omega) h
    have e : bT a.toNat b.toNat c.toNat d.toNat = [a, b, c, d] := by simp [bT]
    rw [e] at this
    exact this
  · exact byteP_ok
theorem fourP_b (a b c d : UInt8) : (fourP a b c d).b = [a, b, c, d] ∧ (fourP a b c d).ex = none := by
  unfold fourP; split <;> exact ⟨rfl, rfl⟩
theorem plsOf_ok : ∀ l : List UInt8, (∀ p ∈ plsOf l, p.Ok) ∧ bOf (plsOf l) = l ∧ ∀ e, exOf e (plsOf l) = e
  | a :: b :: c :: d :: t => by
    obtain ⟨h1, h2, h3⟩ := plsOf_ok t
    obtain ⟨f1, f2⟩ := fourP_b a b c d
    refine ⟨fun p hp => ?_, ?_, fun e => ?_⟩
    · rcases List.mem_cons.1 hp with rfl | hp
      · exact fourP_ok a b c d
      · exact h1 p hp
    · rw [plsOf, bOf_cons, f1, h2]; rfl
    · rw [plsOf, exOf, f2]; exact h3 e
  | [] => ⟨by simp [plsOf], rfl, fun e => rfl⟩
  | [a] => ⟨by simp only [plsOf, List.mem_singleton, forall_eq]; exact byteP_ok, rfl, fun e => rfl⟩
  | [a, b] => ⟨by simp only [plsOf, List.mem_singleton, forall_eq]; exact byteP_ok, rfl, fun e => rfl⟩
  | [a, b, c] => ⟨by simp only [plsOf, List.mem_singleton, forall_eq]; exact byteP_ok, rfl, fun e => rfl⟩
theorem extraP_ok {e : Nat} (h : e ≤ 32) : (∀ p ∈ extraP e, p.Ok) ∧ bOf (extraP e) = [] ∧ exOf 0 (extraP e) = e := by
  unfold extraP
  split
  · refine ⟨fun p hp => ?_, rfl, rfl⟩
    rw [List.mem_singleton] at hp
    subst hp
    have hn : numIn (itoaN e) 0 32 = some (e : Int) := by rw [← itoaI_nat]; exact numIn_itoa (by omega) (by omega) (by omega) (by omega)
    refine ⟨by simp, ?_, (by decide : wExtra.getLast? ≠ some 58), ?_, fun at_ => ?_⟩
    · intro w hw
      simp at hw
      rcases hw with rfl | rfl
      · exact ⟨by decide, by decide⟩
      · exact plain_itoaN _
    · show measA [wExtra, itoaN e] = _
      unfold measA
      rw [show wd [wExtra, itoaN e] 0 = wExtra from rfl, if_pos rfl, show [wExtra, itoaN e].length = 2 from rfl, if_pos rfl, show wd [wExtra, itoaN e] 1 = itoaN e from rfl, hn]
      simp
    · show codeLn [] [wExtra, itoaN e] at_ = _
      unfold codeLn
      rw [show wd [wExtra, itoaN e] 0 = wExtra from rfl, if_pos rfl]
  · exact ⟨by simp, rfl, by simp [exOf]; omega⟩
theorem exOf_app : ∀ (a b : List Pl) (e : Nat), exOf e (a ++ b) = exOf (exOf e a) b
  | [], b, e => rfl
  | p :: a, b, e => exOf_app a b _
theorem bOf_app (a b : List Pl) : bOf (a ++ b) = bOf a ++ bOf b := by simp [bOf]
theorem byte_len {b : List UInt8} (h : b.length ≤ 4) : (joinW (byteP b).ws).length ≤ 20 := by
  have hl : ∀ c : UInt8, (itoaN c.toNat).length ≤ 3 := fun c => itoaN_256 (by have := c.toNat_lt; omega)
  match b, h with
  | [], _ => decide
  | [a], _ => have ha := hl a; simp [byteP, joinW, wByte]; omega
  | [a, b], _ => have ha := hl a; have hb := hl b; simp [byteP, joinW, wByte]; omega
  | [a, b, c], _ => have ha := hl a; have hb := hl b; have hc := hl c; simp [byteP, joinW, wByte]; omega
  | [a, b, c, d], _ => have ha := hl a; have hb := hl b; have hc := hl c; have hd := hl d; simp [byteP, joinW, wByte]; omega
theorem four_len (a b c d : UInt8) : (joinW (fourP a b c d).ws).length ≤ 20 := by
  have ha := a.toNat_lt; have hb := b.toNat_lt; have hc := c.toNat_lt; have hd := d.toNat_lt
  unfold fourP
  split
  · rename_i h
    have h9 : formA a.toNat ≠ 9 := by intro e; unfold checkA at h; rw [if_pos e] at h; cases h
    exact line_len (by omega) (by omega) (by omega) (formA_lt _ h9).2
  · exact byte_len (by simp)
theorem endL_cons (l : List UInt8) (ls : List (List UInt8)) : endL (l :: ls) = l ++ 10 :: endL ls := by simp [endL]
theorem endL_app (a b : List (List UInt8)) : endL (a ++ b) = endL a ++ endL b := by simp [endL]
theorem pls_len : ∀ l : List UInt8, (endL ((plsOf l).map fun p => joinW p.ws)).length ≤ 21 * (l.length + 1)
  | a :: b :: c :: d :: t => by
    have h1 := pls_len t
    have h2 := four_len a b c d
    rw [plsOf, List.map_cons, endL_cons]
    simp only [List.length_append, List.length_cons] at h1 ⊢
    omega
  | [] => by simp [plsOf, endL]
  | [a] => by have := byte_len (b := [a]) (by simp); simp [plsOf, endL]; omega
  | [a, b] => by have := byte_len (b := [a, b]) (by simp); simp [plsOf, endL]; omega
  | [a, b, c] => by have := byte_len (b := [a, b, c]) (by simp); simp [plsOf, endL]; omega
theorem text_len {e : Nat} (he : e ≤ 32) (code : List UInt8) : (textA e code).length ≤ 21 * (code.length + 1) + 10 := by
  have h1 := pls_len code
  have h2 : (endL ((extraP e).map fun p => joinW p.ws)).length ≤ 10 := by
    unfold extraP
    split
    · have := itoaN_len (n := e) (k := 1) (by omega)
      simp [endL, joinW, wExtra]; omega
    · simp [endL]
  unfold textA
  rw [List.map_append, endL_app, List.length_append]
  omega
/-- a program's text is that program -/
theorem asmA_text {e : Nat} (he : e ≤ 32) {code : List UInt8} (hc : code.length ≤ 2048) :
    asmA (textA e code) = if fitsA e code.length then .ok (e, code) else .error (0, 19) := by
  obtain ⟨a1, a2, a3⟩ := extraP_ok he
  obtain ⟨b1, b2, b3⟩ := plsOf_ok code
  have hl := text_len he code
  have hlen : (endL ((extraP e ++ plsOf code).map fun p => joinW p.ws)).length ≤ 65536 := by
    have : (endL ((extraP e ++ plsOf code).map fun p => joinW p.ws)).length = (textA e code).length := rfl
    omega
  have := asmA_pls (extraP e ++ plsOf code) (fun p hp => by rcases List.mem_append.1 hp with h | h; exact a1 p h; exact b1 p h) (by rw [bOf_app, a2, b2]; simpa using hc) hlen
  rw [exOf_app, a3, b3, bOf_app, a2, b2, List.nil_append] at this
  exact this
end Go.Proofs.YtmhlokehdjnldaaDoor

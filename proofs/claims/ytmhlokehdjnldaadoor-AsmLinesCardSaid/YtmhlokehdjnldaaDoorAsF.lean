/- Programs' texts: the document's names and forms (garrisonref16.Names, in, Form). -/
import Derived.Test.YtmhlokehdjnldaaDoorAsE
namespace Go.Proofs.YtmhlokehdjnldaaDoor
open Go.RowKit Go.WideMaps
set_option linter.unusedSimpArgs false
set_option linter.unusedVariables false

/-- is a text one of others, with blanks between? -/
def inGo (s cur : List UInt8) : List UInt8 → Bool
  | [] => decide (cur = s)
  | c :: t => if c = 32 then (decide (cur = s) || inGo s [] t) else inGo s (cur ++ [c]) t
/-- the piece from f up to i -/
def pc (T : List UInt8) (f i : Nat) : List UInt8 := (T.drop f).take (i - f)
theorem pc_self (T : List UInt8) (f : Nat) : pc T f f = [] := by unfold pc; rw [Nat.sub_self]; rfl
theorem pc_snoc {T : List UInt8} {f i : Nat} {c : UInt8} (h : f ≤ i) (hc : T[i]? = some c) : pc T f (i + 1) = pc T f i ++ [c] := by
  unfold pc
  rw [show i + 1 - f = (i - f) + 1 by omega, List.take_add_one, List.getElem?_drop, show f + (i - f) = i by omega, hc]
  rfl
theorem ext_pc {t : ByteArray} {f i : Nat} (s : ByteArray) : ((t.extract f i).toList == s.toList) = decide (pc t.data.toList f i = s.data.toList) := by
  rw [Lib.toList_data, Lib.toList_data, Lib.extract_data]
  unfold pc
  by_cases h : (t.data.toList.drop f).take (i - f) = s.data.toList
  · rw [h]; simp
  · rw [decide_eq_false h]; simpa using h
theorem inGo_at {S T cur : List UInt8} {i : Nat} {c : UInt8} (hc : T[i]? = some c) : inGo S cur (T.drop i) = if c = 32 then (decide (cur = S) || inGo S [] (T.drop (i + 1))) else inGo S (cur ++ [c]) (T.drop (i + 1)) := by
  obtain ⟨hl, rfl⟩ := List.getElem?_eq_some_iff.1 hc
  rw [List.drop_eq_getElem_cons hl]
  rfl
set_option maxRecDepth 100000 in
set_option maxHeartbeats 4000000 in
theorem in_ok (s t : ByteArray) (ht : t.size ≤ 1000) (w : World) : Calls Tryd.prog 63 #[.string s, .string t] w fun e w' => e = .returned (.bool (inGo s.data.toList [] t.data.toList)) ∧ w' = w := by
  obtain ⟨R, hR⟩ : ∃ R, inGo s.data.toList [] t.data.toList = R := ⟨_, rfl⟩
  have HR := hide hR
  rw [hR]
  clear hR
  go_enter Tryd.func63, Tryd.ntmps63
  go_wp2_with fail
  go_loopg [5, 6] (t.size + 1) (fun g x5 x6 wr => wr = w ∧ ∃ f i : Nat, i ≤ t.size + 1 ∧ f ≤ i ∧ g = t.size + 1 - i ∧ x5 = .int .i64 (f : Nat) ∧ x6 = .int .i64 (i : Nat) ∧ Hid (R = if i ≤ t.size then inGo s.data.toList (pc t.data.toList f i) (t.data.toList.drop i) else false))
  case atStart => exact ⟨rfl, 0, 0, by omega, by omega, rfl, rfl, rfl, hide (by rw [if_pos (Nat.zero_le _), pc_self, List.drop_zero]; exact HR.out.symm)⟩
  case round =>
    obtain ⟨rfl, f, i, hi, hf, hg, rfl, rfl, HI⟩ := hrel
    rcases Nat.lt_trichotomy i t.size with h | h | h
    · have hit : (i : Int) ≤ (t.size : Int) := by omega
      have hit2 : decide ((i : Int) ≤ (t.size : Int)) = true := by simp; omega
      have hiz : (i : Int) < (t.size : Int) := by omega
      have hie : decide ((i : Int) = (t.size : Int)) = false := by simp; omega
      have hie2 : ((i : Int) == (t.size : Int)) = false := by simp; omega
      have hb := hide (get_byte t i h)
      have hA : Hid (R = if t[i] = 32 then (decide (pc t.data.toList f i = s.data.toList) || inGo s.data.toList [] (t.data.toList.drop (i + 1))) else inGo s.data.toList (pc t.data.toList f i ++ [t[i]]) (t.data.toList.drop (i + 1))) := hide (by
        have := HI.out
        rw [if_pos (by omega), inGo_at hb.out] at this
        exact this)
      clear HI
      have e1 : IntKind.i64.wrap ((i : Int) + 1) = ((i + 1 : Nat) : Int) := by rw [IntWalk.i64_in _ (by omega)]; omega
      by_cases h32 : t[i] = 32
      · have hc32 : decide (((t[i].toNat : Nat) : Int) = 32) = true := by rw [h32]; rfl
        have hc32b : (((t[i].toNat : Nat) : Int) == 32) = true := by rw [h32]; rfl
        have he := ext_pc (t := t) (f := f) (i := i) s
        by_cases hq : pc t.data.toList f i = s.data.toList
        · have HRT : Hid (R = true) := hide (by rw [hA.out, if_pos h32, decide_eq_true hq]; rfl)
          rw [decide_eq_true hq] at he
          clear hA hq h32 hb
          go_wp2
          go_returns
          exact ⟨by rw [HRT.out]; rfl, rfl⟩
        · have HRT : Hid (R = if i + 1 ≤ t.size then inGo s.data.toList (pc t.data.toList (i + 1) (i + 1)) (t.data.toList.drop (i + 1)) else false) := hide (by rw [hA.out, if_pos h32, decide_eq_false hq, if_pos (by omega), pc_self]; rfl)
          rw [decide_eq_false hq] at he
          clear hA hq h32 hb
          go_wp2
          go_roundg (t.size + 1 - (i + 1))
          case measure => omega
          case rel => exact ⟨rfl, i + 1, i + 1, by omega, by omega, rfl, by go_num, by go_num, HRT⟩
      · have hc32 : decide (((t[i].toNat : Nat) : Int) = 32) = false := by
          have : t[i].toNat ≠ 32 := fun e => h32 (UInt8.toNat_inj.1 e)
          simp; omega
        have hc32b : (((t[i].toNat : Nat) : Int) == 32) = false := by
          have : t[i].toNat ≠ 32 := fun e => h32 (UInt8.toNat_inj.1 e)
          simp; omega
        have HRT : Hid (R = if i + 1 ≤ t.size then inGo s.data.toList (pc t.data.toList f (i + 1)) (t.data.toList.drop (i + 1)) else false) := hide (by rw [hA.out, if_neg h32, if_pos (by omega), pc_snoc hf hb.out])
        clear hA h32 hb
        go_wp2
        go_roundg (t.size + 1 - (i + 1))
        case measure => omega
        case rel => exact ⟨rfl, f, i + 1, by omega, by omega, rfl, rfl, by go_num, HRT⟩
    · have hit : (i : Int) ≤ (t.size : Int) := by omega
      have hit2 : decide ((i : Int) ≤ (t.size : Int)) = true := by simp; omega
      have hie : decide ((i : Int) = (t.size : Int)) = true := by simp; omega
      have hie2 : ((i : Int) == (t.size : Int)) = true := by simp; omega
      have hfi : f ≤ t.size := by omega
      have he := ext_pc (t := t) (f := f) (i := i) s
      have hA : Hid (R = decide (pc t.data.toList f i = s.data.toList)) := hide (by
        have := HI.out
        rw [if_pos (by omega), List.drop_eq_nil_of_le (by rw [← sz]; omega)] at this
        exact this)
      have e1 : IntKind.i64.wrap ((i : Int) + 1) = ((i + 1 : Nat) : Int) := by rw [IntWalk.i64_in _ (by omega)]; omega
      by_cases hq : pc t.data.toList f i = s.data.toList
      · have HRT : Hid (R = true) := hide (by rw [hA.out, decide_eq_true hq])
        rw [decide_eq_true hq] at he
        clear hA hq HI h
        go_wp2
        go_returns
        exact ⟨by rw [HRT.out]; rfl, rfl⟩
      · have HRT : Hid (R = if i + 1 ≤ t.size then inGo s.data.toList (pc t.data.toList (i + 1) (i + 1)) (t.data.toList.drop (i + 1)) else false) := hide (by rw [hA.out, decide_eq_false hq, if_neg (by omega)])
        have HII := hide h
        rw [decide_eq_false hq] at he
        clear hA hq HI h
        go_wp2
        go_roundg (t.size + 1 - (i + 1))
        case measure => have := HII.out; omega
        case rel => have := HII.out; exact ⟨rfl, i + 1, i + 1, by omega, by omega, rfl, by go_num, by go_num, HRT⟩
    · have hit : ¬ (i : Int) ≤ (t.size : Int) := by omega
      have hit2 : decide ((i : Int) ≤ (t.size : Int)) = false := by simp; omega
      have HRT : Hid (R = false) := hide (by rw [HI.out, if_neg (by omega)])
      clear HI
      go_wp2
      go_returns
      exact ⟨by rw [HRT.out]; rfl, rfl⟩
/-! ### names and forms -/
set_option maxRecDepth 100000 in
set_option maxHeartbeats 4000000 in
theorem names_ok (w : World) : Calls Tryd.prog 41 #[] w fun e w' => ∃ g, e = .returned (.slice (some ⟨g, 0, none⟩) 40 40) ∧ w.heap.size ≤ g ∧ g < w'.heap.size ∧ (∀ o, o < 40 → w'.cell? ⟨g, o, none⟩ = some (.string (str (opNames.getD o [])))) ∧ Below w.heap.size w w' := by
  go_enter Tryd.func41, Tryd.ntmps41
  go_wp2
  go_returns
  refine ⟨w.heap.size, rfl, Nat.le_refl _, by simp, fun o ho => ?_, below1 _ _⟩
  refine (cell_last (cs := nameV) (t := 9) ?_ rfl).trans (nameV_get ho)
  exact congrArg (fun c => w.alloc (Obj.cells c 9)) (by kernel_rfl)
def in2 : List UInt8 := [109, 111, 118, 32, 99, 108, 122, 32, 112, 111, 112]
def in4 : List UInt8 := [97, 100, 100, 105, 32, 108, 98, 32, 108, 98, 115, 32, 108, 104, 32, 108, 104, 115, 32, 108, 119, 32, 115, 98, 32, 115, 104, 32, 115, 119]
def in5 : List UInt8 := [108, 100, 105, 32, 108, 100, 115, 32, 108, 117, 105, 32, 106, 122, 32, 106, 110, 122]
def in6 : List UInt8 := [106, 109, 112, 32, 99, 97, 108, 108]
/-- a form, as the document has it -/
def formR (s : List UInt8) : Nat :=
  if s = [114, 101, 116] then 0 else if s = [106, 114] then 1 else if inGo s [] in2 = true then 2 else if inGo s [] in4 = true then 4 else if inGo s [] in5 = true then 5 else if inGo s [] in6 = true then 6
  else if s = [101, 120, 116] then 7 else if s = [115, 121, 115] then 8 else 3
theorem formR_ok : ∀ o, o < 40 → 1 ≤ o → formR (opNames.getD o []) = formA o := by decide +kernel
theorem formA_none {o : Nat} (h : ¬ (1 ≤ o ∧ o < 40)) : formA o = 9 := by
  by_cases h9 : formA o = 9
  · exact h9
  · exact absurd (formA_lt o h9) h
def formV (o : Nat) : Int := if formA o = 9 then -1 else (formA o : Int)
set_option maxRecDepth 100000 in
set_option maxHeartbeats 4000000 in
theorem form_ok (o : Nat) (w : World) : Calls Tryd.prog 40 #[.int .i64 (o : Int)] w fun e w' => e = .returned (.int .i64 (formV o)) ∧ Below w.heap.size w w' := by
  obtain ⟨F, hF⟩ : ∃ F, formV o = F := ⟨_, rfl⟩
  have HF := hide hF
  rw [hF]
  clear hF
  by_cases h1 : 1 ≤ o ∧ o < 40
  rotate_left
  · have HF9 : Hid (F = -1) := hide (by rw [← HF.out]; unfold formV; rw [if_pos (formA_none h1)])
    go_enter Tryd.func40, Tryd.ntmps40
    by_cases h0 : o < 1
    · have t1 : decide ((o : Int) < 1) = true := by simp; omega
      clear h0 h1
      go_wp2
      go_returns
      exact ⟨by rw [HF9.out]; rfl, by first | exact Below.refl _ _ | exact (Below.refl _ _).drew⟩
    · have t1 : decide ((o : Int) < 1) = false := by simp; omega
      have t2 : decide ((39 : Int) < (o : Int)) = true := by simp; omega
      clear h0 h1
      go_wp2
      go_returns
      exact ⟨by rw [HF9.out]; rfl, by first | exact Below.refl _ _ | exact (Below.refl _ _).drew⟩
  obtain ⟨nm, hnm⟩ : ∃ nm, opNames.getD o [] = nm := ⟨_, rfl⟩
  have HFR : Hid (F = (formR nm : Int)) := hide (by
    rw [← HF.out, ← hnm, formR_ok o h1.2 h1.1]
    unfold formV
    rw [if_neg (by have := (op_facts1 o h1.2 h1.1).2; omega)])
  obtain ⟨X, hX⟩ : ∃ X, str nm = X := ⟨_, rfl⟩
  have HX : Hid (X.data.toList = nm) := hide (by rw [← hX]; simp [str])
  have t1 : decide ((o : Int) < 1) = false := by simp; omega
  have t2 : decide ((39 : Int) < (o : Int)) = false := by simp; omega
  have o40 : (o : Int) < 40 := by omega
  have o40n : o < 40 := h1.2
  go_enter Tryd.func40, Tryd.ntmps40
  go_wp2_with fail
  refine (names_ok _).mono ?_
  rintro e w1 ⟨g, rfl, -, hg, hc, hb1⟩
  have jc := hc o o40n
  rw [hnm, hX] at jc
  have HB1 := hide hb1
  have eqs : ∀ l : List UInt8, (X.toList == l) = decide (nm = l) := fun l => by
    rw [Lib.toList_data, HX.out]
    by_cases h : nm = l
    · rw [h]; simp
    · rw [decide_eq_false h]; simpa using h
  have EQS := hide eqs
  unfold formR at HFR
  clear hc hb1 hX hnm h1 HF eqs o40n
  by_cases q0 : nm = [114, 101, 116]
  · have e0 := EQS.out [114, 101, 116]
    rw [decide_eq_true q0] at e0
    rw [if_pos q0] at HFR
    clear q0
    go_wp2
    go_returns
    exact ⟨by rw [HFR.out]; rfl, HB1.out⟩
  have e0 := EQS.out [114, 101, 116]
  rw [decide_eq_false q0] at e0
  rw [if_neg q0] at HFR
  clear q0
  by_cases q1 : nm = [106, 114]
  · have e1 := EQS.out [106, 114]
    rw [decide_eq_true q1] at e1
    rw [if_pos q1] at HFR
    clear q1
    go_wp2
    go_returns
    exact ⟨by rw [HFR.out]; rfl, HB1.out⟩
  have e1 := EQS.out [106, 114]
  rw [decide_eq_false q1] at e1
  rw [if_neg q1] at HFR
  clear q1
  go_wp2_with fail
  refine (in_ok X ⟨#[109, 111, 118, 32, 99, 108, 122, 32, 112, 111, 112]⟩ (by decide) _).mono ?_
  rintro e w_ ⟨rfl, rfl⟩
  rw [HX.out, show (⟨#[109, 111, 118, 32, 99, 108, 122, 32, 112, 111, 112]⟩ : ByteArray).data.toList = in2 from rfl]
  by_cases q : inGo nm [] in2 = true
  · rw [if_pos q] at HFR
    rw [q]
    clear q
    go_wp2
    go_returns
    exact ⟨by rw [HFR.out]; rfl, HB1.out⟩
  rw [if_neg q] at HFR
  have q' : inGo nm [] in2 = false := by simpa using q
  rw [q']
  clear q q'
  go_wp2_with fail
  refine (in_ok X ⟨#[97, 100, 100, 105, 32, 108, 98, 32, 108, 98, 115, 32, 108, 104, 32, 108, 104, 115, 32, 108, 119, 32, 115, 98, 32, 115, 104, 32, 115, 119]⟩ (by decide) _).mono ?_
  rintro e w_ ⟨rfl, rfl⟩
  rw [HX.out, show (⟨#[97, 100, 100, 105, 32, 108, 98, 32, 108, 98, 115, 32, 108, 104, 32, 108, 104, 115, 32, 108, 119, 32, 115, 98, 32, 115, 104, 32, 115, 119]⟩ : ByteArray).data.toList = in4 from rfl]
  by_cases q : inGo nm [] in4 = true
  · rw [if_pos q] at HFR
    rw [q]
    clear q
    go_wp2
    go_returns
    exact ⟨by rw [HFR.out]; rfl, HB1.out⟩
  rw [if_neg q] at HFR
  have q' : inGo nm [] in4 = false := by simpa using q
  rw [q']
  clear q q'
  go_wp2_with fail
  refine (in_ok X ⟨#[108, 100, 105, 32, 108, 100, 115, 32, 108, 117, 105, 32, 106, 122, 32, 106, 110, 122]⟩ (by decide) _).mono ?_
  rintro e w_ ⟨rfl, rfl⟩
  rw [HX.out, show (⟨#[108, 100, 105, 32, 108, 100, 115, 32, 108, 117, 105, 32, 106, 122, 32, 106, 110, 122]⟩ : ByteArray).data.toList = in5 from rfl]
  by_cases q : inGo nm [] in5 = true
  · rw [if_pos q] at HFR
    rw [q]
    clear q
    go_wp2
    go_returns
    exact ⟨by rw [HFR.out]; rfl, HB1.out⟩
  rw [if_neg q] at HFR
  have q' : inGo nm [] in5 = false := by simpa using q
  rw [q']
  clear q q'
  go_wp2_with fail
  refine (in_ok X ⟨#[106, 109, 112, 32, 99, 97, 108, 108]⟩ (by decide) _).mono ?_
  rintro e w_ ⟨rfl, rfl⟩
  rw [HX.out, show (⟨#[106, 109, 112, 32, 99, 97, 108, 108]⟩ : ByteArray).data.toList = in6 from rfl]
  by_cases q : inGo nm [] in6 = true
  · rw [if_pos q] at HFR
    rw [q]
    clear q
    go_wp2
    go_returns
    exact ⟨by rw [HFR.out]; rfl, HB1.out⟩
  rw [if_neg q] at HFR
  have q' : inGo nm [] in6 = false := by simpa using q
  rw [q']
  clear q q'
  by_cases q : nm = [101, 120, 116]
  · have e7 := EQS.out [101, 120, 116]
    rw [decide_eq_true q] at e7
    rw [if_pos q] at HFR
    clear q
    go_wp2
    go_returns
    exact ⟨by rw [HFR.out]; rfl, HB1.out⟩
  have e7 := EQS.out [101, 120, 116]
  rw [decide_eq_false q] at e7
  rw [if_neg q] at HFR
  clear q
  by_cases q : nm = [115, 121, 115]
  · have e8 := EQS.out [115, 121, 115]
    rw [decide_eq_true q] at e8
    rw [if_pos q] at HFR
    clear q
    go_wp2
    go_returns
    exact ⟨by rw [HFR.out]; rfl, HB1.out⟩
  have e8 := EQS.out [115, 121, 115]
  rw [decide_eq_false q] at e8
  rw [if_neg q] at HFR
  clear q
  go_wp2
  go_returns
  exact ⟨by rw [HFR.out]; rfl, HB1.out⟩
end Go.Proofs.YtmhlokehdjnldaaDoor

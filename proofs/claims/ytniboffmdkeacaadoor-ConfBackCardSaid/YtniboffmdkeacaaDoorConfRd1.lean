/- The document's answer for texts: the walks of its small functions. -/
import Derived.Test.YtniboffmdkeacaaDoorConfRdP
import Derived.Test.YtniboffmdkeacaaDoorConfReg
import Derived.Test.YtniboffmdkeacaaDoorConfPar
import Derived.Deep.Cut
import Derived.Deep.CutRange
namespace Go.Proofs.YtniboffmdkeacaaDoor
open Go.RowKit Go.WideMaps
set_option linter.unusedSimpArgs false
set_option linter.unusedVariables false

/-! ### numbers -/
def cntR (l : List UInt8) : Int := match cntP l with | some n => (n : Int) | none => -1
theorem cntR_none {l : List UInt8} (h : cntP l = none) : cntR l = -1 := by simp [cntR, h]
theorem cntR_some {l : List UInt8} {n : Nat} (h : cntP l = some n) : cntR l = n := by simp [cntR, h]
set_option maxRecDepth 100000 in
set_option maxHeartbeats 2000000 in
theorem count_ref (s : ByteArray) (w : World) :
    Calls Tryd.prog 43 #[.string s] w fun e w' => e = .returned (.int .i64 (cntR s.data.toList)) ∧ Below w.heap.size w w' := by
  have B0 := Below.refl w.heap.size w
  go_enter Tryd.func43, Tryd.ntmps43
  by_cases h1 : s.size < 1
  · have hc : Hid (cntR s.data.toList = -1) := by rw [sz] at h1; exact hide (cntR_none (if_pos (.inl h1)))
    have t1 : decide ((s.size : Int) < 1) = true := by simp; omega
    go_wp2
    go_returns
    exact ⟨by rw [hc.out]; rfl, B0⟩
  by_cases h4 : 4 < s.size
  · have hc : Hid (cntR s.data.toList = -1) := by rw [sz] at h4; exact hide (cntR_none (if_pos (.inr (.inl h4))))
    have t1 : decide ((s.size : Int) < 1) = false := by simp; omega
    have t4 : decide ((4 : Int) < (s.size : Int)) = true := by simp; omega
    go_wp2
    go_returns
    exact ⟨by rw [hc.out]; rfl, B0⟩
  have t1 : decide ((s.size : Int) < 1) = false := by simp; omega
  have t4 : decide ((4 : Int) < (s.size : Int)) = false := by simp; omega
  have h0s : 0 < s.size := by omega
  have hb0 := get_byte s 0 h0s
  by_cases h48 : 1 < s.size ∧ s[0] = 48
  · have hc : Hid (cntR s.data.toList = -1) := by
      have := h48.1
      rw [sz] at this
      exact hide (cntR_none (if_pos (.inr (.inr ⟨this, by rw [hb0, h48.2]⟩))))
    have t2 : decide ((1 : Int) < (s.size : Int)) = true := by simp; omega
    have hsz : (0 : Int) < s.size := by omega
    have t3 : ((s[0].toNat : Int) == 48) = true := by rw [h48.2]; rfl
    clear hb0 h48
    go_wp2
    go_returns
    exact ⟨by rw [hc.out]; rfl, B0⟩
  have hc : Hid (cntP s.data.toList = if s.data.toList.all digB then some (valP s.data.toList) else none) := by
    have e := sz s
    refine if_neg fun h => ?_
    rcases h with h | h | h
    · omega
    · omega
    · rw [hb0] at h
      exact h48 ⟨by omega, by simpa using h.2⟩
  have hsz : (0 : Int) < s.size := by omega
  have hone : (decide ((1 : Int) < (s.size : Int)) = false ∧ True) ∨ (decide ((1 : Int) < (s.size : Int)) = true ∧ ((s[0].toNat : Int) == 48) = false) := by
    by_cases h : 1 < s.size
    · refine .inr ⟨by simp; omega, ?_⟩
      have : s[0].toNat ≠ 48 := fun h' => h48 ⟨h, UInt8.toNat_inj.1 h'⟩
      simp; omega
    · exact .inl ⟨by simp; omega, trivial⟩
  clear hb0 h48
  have hs4 : s.size ≤ 4 := by omega
  rcases hone with ⟨o1, o2⟩ | ⟨o1, o2⟩ <;>
  ( go_wp2
    go_loopg [3, 4] s.size (fun g x3 x4 wr => wr = w ∧ ∃ k : Nat, k ≤ s.size ∧ g = s.size - k ∧ x3 = .int .i64 (valP (s.data.toList.take k) : Nat) ∧ x4 = .int .i64 (k : Nat) ∧ Hid (∀ j, j < k → ∀ c, s.data.toList[j]? = some c → digB c = true))
    case atStart => exact ⟨rfl, 0, by omega, rfl, rfl, rfl, hide fun j hj => absurd hj (Nat.not_lt_zero _)⟩
    case round =>
      obtain ⟨rfl, k, hk, hg, rfl, rfl, hA⟩ := hrel
      have hv : valP (s.data.toList.take k) ≤ 9999 := by
        have h := valP_lt (l := s.data.toList.take k) fun c hc => by
          obtain ⟨j, hj, e⟩ := List.mem_iff_getElem.1 hc
          have hj' : j < k := by rw [List.length_take] at hj; omega
          refine hA.out j hj' c ?_
          rw [← e, List.getElem_take]
          exact List.getElem?_eq_getElem _
        have h2 : 10 ^ (s.data.toList.take k).length ≤ 10 ^ 4 := Nat.pow_le_pow_right (by omega) (by rw [List.length_take, ← sz]; omega)
        omega
      by_cases hks : k < s.size
      · have hkz : (k : Int) < s.size := by omega
        have hb := get_byte s k hks
        by_cases hd : digB s[k] = true
        · have hd' := digB_le.1 hd
          have a1 : decide (((s[k].toNat : Nat) : Int) < 48) = false := by simp; omega
          have a2 : decide ((57 : Int) < ((s[k].toNat : Nat) : Int)) = false := by simp; omega
          have hnx : valP (s.data.toList.take (k + 1)) = valP (s.data.toList.take k) * 10 + (s[k].toNat - 48) := by
            rw [List.take_add_one, hb, Option.toList_some, valP_snoc]; rfl
          have HB := hide hb
          have HN := hide hnx
          have HD := hide hd
          clear hb hd hnx
          generalize valP (s.data.toList.take k) = n at hv HN
          go_wp2
          go_roundg (s.size - (k + 1))
          case measure => omega
          case rel =>
            refine ⟨rfl, k + 1, by omega, rfl, by rw [HN.out]; congr 1; omega, by go_num, hide fun j hj c hc => ?_⟩
            rcases Nat.lt_succ_iff_lt_or_eq.1 hj with h | rfl
            · exact hA.out j h c hc
            · rw [HB.out] at hc
              injection hc with hc
              rw [← hc]
              exact HD.out
        · have hc2 : Hid (cntR s.data.toList = -1) := by
            have := not_all hb (by simpa using hd)
            exact hide (cntR_none (by rw [hc.out, this]; rfl))
          by_cases hlo : s[k].toNat < 48
          · have a1 : decide (((s[k].toNat : Nat) : Int) < 48) = true := by simp; omega
            clear hb hd
            generalize valP (s.data.toList.take k) = n at hv
            go_wp2
            go_returns
            exact ⟨by rw [hc2.out]; rfl, B0⟩
          · have a1 : decide (((s[k].toNat : Nat) : Int) < 48) = false := by simp; omega
            have a2 : decide ((57 : Int) < ((s[k].toNat : Nat) : Int)) = true := by
              have := mt digB_le.2 hd
              simp; omega
            clear hb hd
            generalize valP (s.data.toList.take k) = n at hv
            go_wp2
            go_returns
            exact ⟨by rw [hc2.out]; rfl, B0⟩
      · obtain rfl : k = s.size := by omega
        have hc2 : Hid (cntR s.data.toList = valP (s.data.toList.take s.size)) := by
          have := all_upto (p := digB) (l := s.data.toList) fun j hj c hc => hA.out j (by rw [sz s]; exact hj) c hc
          exact hide (cntR_some (by rw [hc.out, this, sz, List.take_length]; rfl))
        generalize valP (s.data.toList.take s.size) = n at hv hc2
        go_wp2
        go_returns
        exact ⟨by rw [hc2.out]; rfl, B0⟩)

/-! ### labels by name -/
def placeR (R : List RegV) (nm : List UInt8) : Int := match placeP R nm with | some n => (n : Int) | none => -1
section
variable {A : Option Addr} {cA : Nat} {R : List RegV} {w : World}
theorem placeP_at {R : List RegV} {nm : List UInt8} {k : Nat} {r : RegV} (h : R[k]? = some r) (hn : r.name = nm) (hb : ∀ j, j < k → ∀ q, R[j]? = some q → q.name ≠ nm) : placeP R nm = some k := by
  unfold placeP
  rw [List.findIdx?_eq_some_iff_getElem]
  have hk := (List.getElem?_eq_some_iff.1 h).1
  have he := (List.getElem?_eq_some_iff.1 h).2
  refine ⟨hk, by simp [he, hn], fun j hj => ?_⟩
  have := hb j hj _ (List.getElem?_eq_getElem (by omega))
  simpa using this
theorem placeP_no {R : List RegV} {nm : List UInt8} (hb : ∀ j, j < R.length → ∀ q, R[j]? = some q → q.name ≠ nm) : placeP R nm = none := by
  unfold placeP
  rw [List.findIdx?_eq_none_iff]
  intro x hx
  obtain ⟨j, hj, rfl⟩ := List.mem_iff_getElem.1 hx
  simpa using hb j hj _ (List.getElem?_eq_getElem hj)
set_option maxRecDepth 100000 in
set_option maxHeartbeats 1000000 in
theorem place_ref (nm : List UInt8) (hr : Rd w w.heap.size 9 A R.length (rcellsOf R)) (hn : R.length ≤ 60000) :
    Calls Tryd.prog 44 #[.slice A R.length cA, .string ⟨nm.toArray⟩] w fun e w' => e = .returned (.int .i64 (placeR R nm)) ∧ Below w.heap.size w w' := by
  have B0 := hide (Below.refl w.heap.size w)
  go_enter Tryd.func44, Tryd.ntmps44
  go_wp2_with fail
  go_loopg [5] R.length (fun g x5 wr => wr = w ∧ ∃ k : Nat, k ≤ R.length ∧ g = R.length - k ∧ x5 = .int .i64 (k : Int) ∧ Hid (∀ j, j < k → ∀ q, R[j]? = some q → q.name ≠ nm))
  case atStart => exact ⟨rfl, 0, Nat.zero_le _, rfl, rfl, hide fun j hj => absurd hj (Nat.not_lt_zero _)⟩
  case round =>
    obtain ⟨rfl, k, hk, hg, rfl, hA⟩ := hrel
    rcases Nat.lt_or_ge k R.length with hkR | hkR
    · have hkz : (k : Int) < R.length := by omega
      obtain ⟨r, hrk⟩ : ∃ r, R[k]? = some r := ⟨_, List.getElem?_eq_getElem hkR⟩
      obtain ⟨b, o, rfl, hb, hcl⟩ := rd_reg hr hrk
      have y0 := hcl 0 _ rfl
      simp only [← Nat.add_assoc, Nat.add_zero] at y0
      have HRK := hide hrk
      clear hrk hcl
      by_cases hnm : r.name = nm
      · have HP := hide (show placeR R nm = k by rw [placeR, placeP_at HRK.out hnm hA.out])
        have t1 : (r.name == nm) = true := beq_iff_eq.2 hnm
        clear hnm
        go_wp2
        go_returns
        exact ⟨by rw [HP.out]; rfl, B0.out⟩
      · have t1 : (r.name == nm) = false := beq_eq_false_iff_ne.2 hnm
        have HN := hide hnm
        go_wp2
        go_roundg (R.length - (k + 1))
        case measure => omega
        case rel =>
          refine ⟨rfl, k + 1, by omega, rfl, by go_num, hide fun j hj q hq => ?_⟩
          rcases Nat.lt_succ_iff_lt_or_eq.1 hj with h | rfl
          · exact hA.out j h q hq
          · rw [HRK.out] at hq
            injection hq with hq
            rw [← hq]
            exact HN.out
    · obtain rfl : k = R.length := by omega
      have HP := hide (show placeR R nm = -1 by rw [placeR, placeP_no hA.out])
      go_wp2
      go_returns
      exact ⟨by rw [HP.out]; rfl, B0.out⟩
end

/-! ### lines -/
theorem go_take (l : List UInt8) (f i : Nat) (h : f ≤ i) {c : UInt8} (hc : l[i]? = some c) : (l.drop f).take (i - f) ++ [c] = (l.drop f).take (i + 1 - f) := by
  rw [show i + 1 - f = (i - f) + 1 by omega, List.take_add_one, List.getElem?_drop, show f + (i - f) = i by omega, hc]
  rfl
set_option maxRecDepth 100000 in
set_option maxHeartbeats 2000000 in
theorem lines_ref (s : ByteArray) (w : World) (hs : s.size ≤ 59000) :
    Calls Tryd.prog 40 #[.string s] w fun e w' => ∃ A c, e = .returned (.slice A (linesOf s).length c) ∧ Below w.heap.size w w' ∧ w'.ownsRow w.heap.size 9 1 (.slice A (linesOf s).length c) (linesOf s).length (svs (linesOf s)) := by
  obtain ⟨i0, hi0, i1, i2, i3⟩ := info_parts info_str
  rw [linesOf_go]
  go_enter Tryd.func40, Tryd.ntmps40
  go_wp2_with fail
  go_loopg [3, 4, 5] s.size (fun g x3 x4 x5 wr => ∃ (i f : Nat) (out : List (List UInt8)) (A : Option Addr) (c : Nat), i ≤ s.size ∧ f ≤ i ∧ out.length ≤ i ∧ g = s.size - i ∧ x3 = .slice A out.length c ∧ x4 = .int .i64 (f : Int) ∧ x5 = .int .i64 (i : Int) ∧ Below w.heap.size w wr ∧
    wr.ownsRow w.heap.size 9 1 (.slice A out.length c) out.length (svs out) ∧ Hid (linesGo [] s.data.toList = out ++ linesGo ((s.data.toList.drop f).take (i - f)) (s.data.toList.drop i)))
  case atStart => exact ⟨0, 0, [], none, 0, Nat.zero_le _, Nat.le_refl _, Nat.zero_le _, rfl, rfl, rfl, rfl, Below.refl _ _, World.ownsRow_nil _ _ _ _, hide (by simp)⟩
  case round =>
    obtain ⟨i, f, out, A, c, hi, hf, hol, hg, rfl, rfl, rfl, hbr, o1, hL⟩ := hrel
    have BR := hide hbr
    have O1 := hide o1
    have hBW := hbr.size
    have ho6 : out.length ≤ 1000000 := by omega
    clear hbr o1
    have hfz : (f : Int) ≤ i := by omega
    have hiz2 : (i : Int) ≤ s.size := by omega
    rcases Nat.lt_or_ge i s.size with his | his
    · have hiz : (i : Int) < s.size := by omega
      have hb := hide (get_byte s i his)
      have hdr := hide (show s.data.toList.drop i = s[i] :: s.data.toList.drop (i + 1) from by rw [List.drop_eq_getElem_cons (by rw [← sz]; exact his)]; rfl)
      by_cases h10 : s[i] = 10
      · have t1 : ((s[i].toNat : Int) == 10) = true := by rw [h10]; rfl
        have HL := hide (show linesGo [] s.data.toList = (out ++ [(s.data.toList.drop f).take (i - f)]) ++ linesGo ((s.data.toList.drop (i + 1)).take (i + 1 - (i + 1))) (s.data.toList.drop (i + 1)) by
          rw [hL.out, hdr.out, linesGo, if_pos h10]; simp)
        clear hL h10
        go_wp2_with (at_builtin; refine wpList_append_one rfl (.tmp 16) (.tmp 21) 60 rfl w.heap.size 9 i0 (.string ByteArray.empty) 1 16 Tryd.underlying60 hi0 i1 i2 i3 rfl (by decide) A c out.length (svs out) [.string (s.extract f i)] wr rfl O1.out rfl rfl rfl (by simp [Value.oneCell']) ho6 (by decide) hBW ?_; intro A' c' w9 hown hg3 hb3 hat)
        go_roundg (s.size - (i + 1))
        case measure => omega
        case rel => exact ⟨i + 1, i + 1, out ++ [(s.data.toList.drop f).take (i - f)], A', c', by omega, Nat.le_refl _, by simp; omega, rfl, by simp, by go_num, by go_num, BR.out.trans hb3, by rw [svs_snoc, ← Lib.extract_eq, List.length_append]; exact hown, HL⟩
      · have t1 : ((s[i].toNat : Int) == 10) = false := beq_eq_false_iff_ne.2 fun h => h10 (UInt8.toNat_inj.1 (by have : (10 : UInt8).toNat = 10 := rfl; omega))
        have HL := hide (show linesGo [] s.data.toList = out ++ linesGo ((s.data.toList.drop f).take (i + 1 - f)) (s.data.toList.drop (i + 1)) by
          rw [hL.out, hdr.out, linesGo, if_neg h10, go_take _ _ _ hf hb.out])
        clear hL h10
        go_wp2
        go_roundg (s.size - (i + 1))
        case measure => omega
        case rel => exact ⟨i + 1, f, out, A, c, by omega, by omega, by omega, rfl, rfl, rfl, by go_num, BR.out, O1.out, HL⟩
    · obtain rfl : i = s.size := by omega
      have HL := hide (show linesGo [] s.data.toList = out ++ [(s.data.toList.drop f).take (s.size - f)] by
        have e : s.data.toList.drop s.size = [] := List.drop_of_length_le (by rw [← sz]; exact Nat.le_refl _)
        rw [hL.out, e, linesGo])
      clear hL
      go_wp2_with (at_builtin; refine wpList_append_one rfl (.tmp 25) (.tmp 29) 60 rfl w.heap.size 9 i0 (.string ByteArray.empty) 1 16 Tryd.underlying60 hi0 i1 i2 i3 rfl (by decide) A c out.length (svs out) [.string (s.extract f s.size)] wr rfl O1.out rfl rfl rfl (by simp [Value.oneCell']) ho6 (by decide) hBW ?_; intro A' c' w9 hown hg3 hb3 hat)
      go_returns
      refine ⟨A', c', ?_, BR.out.trans hb3, ?_⟩
      · rw [HL.out, List.length_append]; rfl
      · rw [HL.out, svs_snoc, ← Lib.extract_eq, List.length_append]; exact hown

/-! ### words -/
/-- how far words has come -/
def WdSt (l : List UInt8) (i : Nat) (fr : Int) (out : List (List UInt8)) : Prop :=
  (fr = -1 ∧ fieldsP l = out ++ wordsGo [] (l.drop i)) ∨ ∃ f : Nat, f < i ∧ fr = f ∧ fieldsP l = out ++ wordsGo ((l.drop f).take (i - f)) (l.drop i)
theorem words_end {s : ByteArray} {i : Nat} {fr : Int} {out : List (List UInt8)} (h : WdSt s.data.toList i fr out) (he : i = s.size ∨ ∃ h : i < s.size, s[i].toNat = 35) :
    fieldsP s.data.toList = if fr = -1 then out else out ++ [(s.data.toList.drop fr.toNat).take (i - fr.toNat)] := by
  have hlc : s.data.toList.length = s.size := (sz s).symm
  have key : ∀ cur, wordsGo cur (s.data.toList.drop i) = if cur = [] then [] else [cur] := fun cur => by
    rcases he with rfl | ⟨his, h35⟩
    · rw [List.drop_of_length_le (by omega), wordsGo_nil]
    · have : s[i] = 35 := UInt8.toNat_inj.1 h35
      rw [show s.data.toList.drop i = 35 :: s.data.toList.drop (i + 1) from by rw [List.drop_eq_getElem_cons (by omega), ← this]; rfl, wordsGo_end]
  have hi : i ≤ s.size := by
    rcases he with rfl | ⟨his, _⟩
    · exact Nat.le_refl _
    · omega
  rcases h with ⟨rfl, h⟩ | ⟨f, hf, rfl, h⟩
  · rw [h, key, if_pos rfl, if_pos rfl, List.append_nil]
  · rw [h, key, if_neg (fun h => by
      have := congrArg List.length h
      simp only [List.length_take, List.length_drop, List.length_nil] at this
      omega), if_neg (by omega)]
    rfl
theorem isSp_iff {c : UInt8} : Lib.isSp c = true ↔ c.toNat = 32 ∨ c.toNat = 9 ∨ c.toNat = 10 ∨ c.toNat = 11 ∨ c.toNat = 12 ∨ c.toNat = 13 := by
  simp only [Lib.isSp, Bool.or_eq_true, beq_iff_eq, ← UInt8.toNat_inj]
  simp
  omega
set_option maxRecDepth 100000 in
set_option maxHeartbeats 4000000 in
theorem words_ref (s : ByteArray) (w : World) (hs : s.size ≤ 59000) :
    Calls Tryd.prog 41 #[.string s] w fun e w' => ∃ A c, e = .returned (.slice A (fieldsP s.data.toList).length c) ∧ Below w.heap.size w w' ∧ w'.ownsRow w.heap.size 9 1 (.slice A (fieldsP s.data.toList).length c) (fieldsP s.data.toList).length (svs (fieldsP s.data.toList)) := by
  obtain ⟨i0, hi0, i1, i2, i3⟩ := info_parts info_str
  go_enter Tryd.func41, Tryd.ntmps41
  go_wp2_with fail
  go_loopg [3, 4, 5] (s.size + 1) (fun g x3 x4 x5 wr => ∃ (i : Nat) (fr : Int) (out : List (List UInt8)) (A : Option Addr) (c : Nat), i ≤ s.size ∧ out.length ≤ i ∧ g = s.size + 1 - i ∧ x3 = .slice A out.length c ∧ x4 = .int .i64 fr ∧ x5 = .int .i64 (i : Int) ∧ Below w.heap.size w wr ∧
    wr.ownsRow w.heap.size 9 1 (.slice A out.length c) out.length (svs out) ∧ Hid (WdSt s.data.toList i fr out))
  case atStart => exact ⟨0, -1, [], none, 0, Nat.zero_le _, Nat.zero_le _, rfl, rfl, rfl, rfl, Below.refl _ _, World.ownsRow_nil _ _ _ _, hide (.inl ⟨rfl, rfl⟩)⟩
  case round =>
    obtain ⟨i, fr, out, A, c, hi, hol, hg, rfl, rfl, rfl, hbr, o1, hW⟩ := hrel
    have BR := hide hbr
    have O1 := hide o1
    have hBW := hbr.size
    have ho6 : out.length ≤ 1000000 := by omega
    clear hbr o1
    have hiz2 : (i : Int) ≤ s.size := by omega
    by_cases hend : i = s.size ∨ ∃ h : i < s.size, s[i].toNat = 35
    · have hfin : Hid (fieldsP s.data.toList = if fr = -1 then out else out ++ [(s.data.toList.drop fr.toNat).take (i - fr.toNat)]) := hide (words_end hW.out hend)
      rcases hW.out with ⟨hfr, _⟩ | ⟨f, hf, hfr, _⟩
      · subst hfr
        have HF := hide (show fieldsP s.data.toList = out by rw [hfin.out, if_pos rfl])
        clear hW hfin
        rcases hend with rfl | ⟨his, h35⟩
        · go_wp2
          go_returns
          exact ⟨A, c, by rw [HF.out]; rfl, BR.out, by rw [HF.out]; exact O1.out⟩
        · have hiz : (i : Int) < s.size := by omega
          have t0 : ((i : Int) == (s.size : Int)) = false := beq_eq_false_iff_ne.2 (by omega)
          have t1 : ((s[i].toNat : Int) == 35) = true := by simp; omega
          clear h35
          go_wp2
          go_returns
          exact ⟨A, c, by rw [HF.out]; rfl, BR.out, by rw [HF.out]; exact O1.out⟩
      · subst hfr
        have hfz : (0 : Int) ≤ f := by omega
        have hfi : (f : Int) ≤ i := by omega
        have HF := hide (show fieldsP s.data.toList = out ++ [(s.data.toList.drop f).take (i - f)] by rw [hfin.out, if_neg (by omega)]; rfl)
        clear hW hfin
        rcases hend with rfl | ⟨his, h35⟩
        · go_wp2_with (at_builtin; refine wpList_append_one rfl (.tmp 68) (.tmp 73) 60 rfl w.heap.size 9 i0 (.string ByteArray.empty) 1 16 Tryd.underlying60 hi0 i1 i2 i3 rfl (by decide) A c out.length (svs out) [.string (s.extract f s.size)] wr rfl O1.out rfl rfl rfl (by simp [Value.oneCell']) ho6 (by decide) hBW ?_; intro A' c' w9 hown hg3 hb3 hat)
          go_returns
          refine ⟨A', c', ?_, BR.out.trans hb3, ?_⟩
          · rw [HF.out, List.length_append]; rfl
          · rw [HF.out, svs_snoc, ← Lib.extract_eq, List.length_append]; exact hown
        · have hiz : (i : Int) < s.size := by omega
          have t0 : ((i : Int) == (s.size : Int)) = false := beq_eq_false_iff_ne.2 (by omega)
          have t1 : ((s[i].toNat : Int) == 35) = true := by simp; omega
          clear h35
          go_wp2_with (at_builtin; refine wpList_append_one rfl (.tmp 68) (.tmp 73) 60 rfl w.heap.size 9 i0 (.string ByteArray.empty) 1 16 Tryd.underlying60 hi0 i1 i2 i3 rfl (by decide) A c out.length (svs out) [.string (s.extract f i)] wr rfl O1.out rfl rfl rfl (by simp [Value.oneCell']) ho6 (by decide) hBW ?_; intro A' c' w9 hown hg3 hb3 hat)
          go_returns
          refine ⟨A', c', ?_, BR.out.trans hb3, ?_⟩
          · rw [HF.out, List.length_append]; rfl
          · rw [HF.out, svs_snoc, ← Lib.extract_eq, List.length_append]; exact hown
    · have his : i < s.size := by
        rcases Nat.lt_or_ge i s.size with h | h
        · exact h
        · exact absurd (.inl (by omega)) hend
      have h35 : ¬ s[i].toNat = 35 := fun h => hend (.inr ⟨his, h⟩)
      have hiz : (i : Int) < s.size := by omega
      have t0 : ((i : Int) == (s.size : Int)) = false := beq_eq_false_iff_ne.2 (by omega)
      have t1 : ((s[i].toNat : Int) == 35) = false := beq_eq_false_iff_ne.2 (by omega)
      clear hend
      go_upto_region 7 with (fail)
      go_cut [7] from 24 to 61 (fun x7 wd => x7 = .bool (Lib.isSp s[i]) ∧ wd = wr)
      case first =>
        by_cases q1 : s[i].toNat = 32
        · have u1 : ((s[i].toNat : Int) == 32) = true := by simp; omega
          have hsp := hide (isSp_iff.2 (.inl q1))
          clear q1
          go_wp2
          go_meet
          case rel => exact ⟨by rw [hsp.out], rfl⟩
        have u1 : ((s[i].toNat : Int) == 32) = false := beq_eq_false_iff_ne.2 (by omega)
        by_cases q2 : s[i].toNat = 9
        · have u2 : ((s[i].toNat : Int) == 9) = true := by simp; omega
          have hsp := hide (isSp_iff.2 (.inr (.inl q2)))
          clear q2
          go_wp2
          go_meet
          case rel => exact ⟨by rw [hsp.out], rfl⟩
        have u2 : ((s[i].toNat : Int) == 9) = false := beq_eq_false_iff_ne.2 (by omega)
        by_cases q3 : s[i].toNat = 10
        · have u3 : ((s[i].toNat : Int) == 10) = true := by simp; omega
          have hsp := hide (isSp_iff.2 (.inr (.inr (.inl q3))))
          clear q3
          go_wp2
          go_meet
          case rel => exact ⟨by rw [hsp.out], rfl⟩
        have u3 : ((s[i].toNat : Int) == 10) = false := beq_eq_false_iff_ne.2 (by omega)
        by_cases q4 : s[i].toNat = 11
        · have u4 : ((s[i].toNat : Int) == 11) = true := by simp; omega
          have hsp := hide (isSp_iff.2 (.inr (.inr (.inr (.inl q4)))))
          clear q4
          go_wp2
          go_meet
          case rel => exact ⟨by rw [hsp.out], rfl⟩
        have u4 : ((s[i].toNat : Int) == 11) = false := beq_eq_false_iff_ne.2 (by omega)
        by_cases q5 : s[i].toNat = 12
        · have u5 : ((s[i].toNat : Int) == 12) = true := by simp; omega
          have hsp := hide (isSp_iff.2 (.inr (.inr (.inr (.inr (.inl q5))))))
          clear q5
          go_wp2
          go_meet
          case rel => exact ⟨by rw [hsp.out], rfl⟩
        have u5 : ((s[i].toNat : Int) == 12) = false := beq_eq_false_iff_ne.2 (by omega)
        by_cases q6 : s[i].toNat = 13
        · have u6 : ((s[i].toNat : Int) == 13) = true := by simp; omega
          have hsp := hide (isSp_iff.2 (.inr (.inr (.inr (.inr (.inr q6))))))
          clear q6
          go_wp2
          go_meet
          case rel => exact ⟨by rw [hsp.out], rfl⟩
        have u6 : ((s[i].toNat : Int) == 13) = false := beq_eq_false_iff_ne.2 (by omega)
        have hsp := hide (show Lib.isSp s[i] = false by
          rw [Bool.eq_false_iff]
          intro h
          have := isSp_iff.1 h
          omega)
        go_wp2
        go_meet
        case rel => exact ⟨by rw [hsp.out], rfl⟩
      case rest =>
        obtain ⟨rfl, rfl⟩ := hcut
        have hdr := hide (show s.data.toList.drop i = s[i] :: s.data.toList.drop (i + 1) from by rw [List.drop_eq_getElem_cons (by rw [← sz]; exact his)]; rfl)
        have hb := hide (get_byte s i his)
        have h35' : s[i] ≠ 35 := fun h => h35 (by rw [h]; rfl)
        have H35 := hide h35'
        clear h35'
        cases hsp : Lib.isSp s[i] with
        | true =>
          rcases hW.out with ⟨hfr, hW2⟩ | ⟨f, hf, hfr, hW2⟩
          · subst hfr
            have HW := hide (show WdSt s.data.toList (i + 1) (-1) out from .inl ⟨rfl, by rw [hW2, hdr.out, wordsGo_sp _ _ H35.out hsp, if_pos rfl]⟩)
            clear hW hW2 hsp
            go_wp2
            go_roundg (s.size + 1 - (i + 1))
            case measure => omega
            case rel => exact ⟨i + 1, -1, out, A, c, by omega, by omega, rfl, rfl, rfl, by go_num, BR.out, O1.out, HW⟩
          · subst hfr
            have hfz : (0 : Int) ≤ f := by omega
            have hfi : (f : Int) ≤ i := by omega
            have hlc : s.data.toList.length = s.size := (sz s).symm
            have HW := hide (show WdSt s.data.toList (i + 1) (-1) (out ++ [(s.data.toList.drop f).take (i - f)]) from .inl ⟨rfl, by
              rw [hW2, hdr.out, wordsGo_sp _ _ H35.out hsp, if_neg (fun h => by
                have := congrArg List.length h
                simp only [List.length_take, List.length_drop, List.length_nil] at this
                omega)]
              simp⟩)
            clear hW hW2 hsp hlc
            go_wp2_with (at_builtin; refine wpList_append_one rfl (.tmp 68) (.tmp 73) 60 rfl w.heap.size 9 i0 (.string ByteArray.empty) 1 16 Tryd.underlying60 hi0 i1 i2 i3 rfl (by decide) A c out.length (svs out) [.string (s.extract f i)] wc rfl O1.out rfl rfl rfl (by simp [Value.oneCell']) ho6 (by decide) hBW ?_; intro A' c' w9 hown hg3 hb3 hat)
            go_roundg (s.size + 1 - (i + 1))
            case measure => omega
            case rel => exact ⟨i + 1, -1, out ++ [(s.data.toList.drop f).take (i - f)], A', c', by omega, by simp; omega, rfl, by simp, rfl, by go_num, BR.out.trans hb3, by rw [svs_snoc, ← Lib.extract_eq, List.length_append]; exact hown, HW⟩
        | false =>
          rcases hW.out with ⟨hfr, hW2⟩ | ⟨f, hf, hfr, hW2⟩
          · subst hfr
            have HW := hide (show WdSt s.data.toList (i + 1) (i : Int) out from .inr ⟨i, by omega, rfl, by
              rw [hW2, hdr.out, wordsGo_more _ _ H35.out hsp, List.nil_append, show i + 1 - i = 1 by omega]
              rfl⟩)
            clear hW hW2 hsp
            go_wp2
            go_roundg (s.size + 1 - (i + 1))
            case measure => omega
            case rel => exact ⟨i + 1, i, out, A, c, by omega, by omega, rfl, rfl, rfl, by go_num, BR.out, O1.out, HW⟩
          · subst hfr
            have hfz : (0 : Int) ≤ f := by omega
            have hfz2 : ¬ (f : Int) < 0 := by omega
            have HW := hide (show WdSt s.data.toList (i + 1) (f : Int) out from .inr ⟨f, by omega, rfl, by
              rw [hW2, hdr.out, wordsGo_more _ _ H35.out hsp, go_take _ _ _ (by omega) hb.out]⟩)
            clear hW hW2 hsp
            go_wp2
            go_roundg (s.size + 1 - (i + 1))
            case measure => omega
            case rel => exact ⟨i + 1, f, out, A, c, by omega, by omega, rfl, rfl, rfl, by go_num, BR.out, O1.out, HW⟩
end Go.Proofs.YtniboffmdkeacaaDoor

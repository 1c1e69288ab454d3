/- Programs' texts: the walks of the small functions on words. -/
import Derived.Test.YtmhlokehdjnldaaDoorAsOps
import Derived.Test.YtmhlokehdjnldaaDoorShelf
import Derived.WalkSmall
import Derived.Laws.Tables
namespace Go.Proofs.YtmhlokehdjnldaaDoor
open Go.RowKit Go.WideMaps
set_option linter.unusedSimpArgs false
set_option linter.unusedVariables false

/-! ### strings.CutPrefix, of one byte -/
theorem str_back (s : ByteArray) : str s.data.toList = s := by simp [str]
def hasC (c : UInt8) : List UInt8 → Bool
  | [] => false
  | x :: _ => x == c
theorem ext_one {s : ByteArray} (c : UInt8) : ((s.extract 0 1).toList == [c]) = hasC c s.data.toList := by
  rw [Lib.toList_data]
  obtain ⟨⟨l⟩⟩ := s
  cases l with
  | nil => simp [ByteArray.extract, ByteArray.copySlice, hasC]
  | cons a t => simp [ByteArray.extract, ByteArray.copySlice, hasC]
theorem ext_from {s : ByteArray} (h : 1 ≤ s.size) : s.extract 1 s.size = str s.data.toList.tail := by
  obtain ⟨⟨l⟩⟩ := s
  cases l with
  | nil => simp [ByteArray.size] at h
  | cons a t => simp [ByteArray.extract, ByteArray.copySlice, str, ByteArray.size]
def cutC (c : UInt8) : List UInt8 → List UInt8 × Bool
  | [] => ([], false)
  | x :: t => if x = c then (t, true) else (x :: t, false)
theorem hasC_cut (c : UInt8) (l : List UInt8) : hasC c l = (cutC c l).2 := by
  cases l with
  | nil => rfl
  | cons x t => unfold hasC cutC; by_cases h : x = c <;> simp [h]
theorem cutC_no {c : UInt8} {s : ByteArray} (h : (cutC c s.data.toList).2 = false) : str (cutC c s.data.toList).1 = s := by
  cases hd : s.data.toList with
  | nil => rw [cutC, ← hd, str_back]
  | cons x t =>
    rw [hd, cutC] at h
    by_cases hx : x = c
    · rw [if_pos hx] at h; cases h
    · rw [cutC, if_neg hx, ← hd, str_back]
theorem cutC_yes {c : UInt8} {s : ByteArray} (h : (cutC c s.data.toList).2 = true) : 1 ≤ s.size ∧ s.extract 1 s.size = str (cutC c s.data.toList).1 := by
  have hz := sz s
  cases hd : s.data.toList with
  | nil => rw [hd] at h; cases h
  | cons x t =>
    have h1 : 1 ≤ s.size := by rw [hz, hd]; simp
    refine ⟨h1, ?_⟩
    rw [ext_from h1, hd]
    rw [hd, cutC] at h
    by_cases hx : x = c
    · rw [cutC, if_pos hx]; rfl
    · rw [if_neg hx] at h; cases h
set_option maxRecDepth 100000 in
theorem hasprefix_ok (s : ByteArray) (c : UInt8) (w : World) :
    Calls Tryd.prog 92 #[.string s, .string (str [c])] w fun e w' => e = .returned (.bool (cutC c s.data.toList).2) ∧ w' = w := by
  go_enter Tryd.func92, Tryd.ntmps92
  have hz := sz s
  have hp : (str [c]).size = 1 := rfl
  have he : Hid (((s.extract 0 1).toList == [c]) = (cutC c s.data.toList).2) := hide ((ext_one c).trans (hasC_cut c _))
  have he0 : Hid (s.size = 0 → (cutC c s.data.toList).2 = false) := hide (fun h0 => by
      rw [List.length_eq_zero_iff.1 (by omega : s.data.toList.length = 0)]; rfl)
  have HPD : Hid ((str [c]).toList = [c]) := hide (by rw [Lib.toList_data, str_data])
  clear hz
  generalize hpp : str [c] = p at hp HPD
  clear hpp
  go_wp2
  · rename_i h1
    go_returns
    refine ⟨?_, rfl⟩
    show Ending.returned (.bool ((s.extract 0 1).toList == p.toList)) = _
    rw [HPD.out, he.out]
  · rename_i h1
    have hn : Hid (s.size = 0) := hide (by omega)
    go_returns
    exact ⟨by rw [he0.out hn.out]; rfl, rfl⟩
set_option maxRecDepth 100000 in
theorem cutprefix0_ok (s : ByteArray) (c : UInt8) (w : World) :
    Calls Tryd.prog 82 #[.string s, .string (str [c])] w fun e w' => e = .returned (.tuple #[.string (str (cutC c s.data.toList).1), .bool (cutC c s.data.toList).2]) ∧ w' = w := by
  go_enter Tryd.func82, Tryd.ntmps82
  go_wp2_with fail
  refine (hasprefix_ok s c _).mono ?_
  rintro e w' ⟨rfl, rfl⟩
  have hp : (str [c]).size = 1 := rfl
  obtain ⟨b, hb⟩ : ∃ b, (cutC c s.data.toList).2 = b := ⟨_, rfl⟩
  have HB := hide hb
  rw [hb]
  clear hb
  cases b
  · go_wp2
    go_returns
    exact ⟨by rw [HB.out, cutC_no HB.out]; rfl, rfl⟩
  · have hl := hide (cutC_yes HB.out)
    generalize hpp : str [c] = p at hp
    clear hpp
    have hps : p.size ≤ s.size := by have := hl.out.1; omega
    go_wp2
    go_returns
    refine ⟨?_, rfl⟩
    rw [HB.out, ← hl.out.2]
    rfl
set_option maxRecDepth 100000 in
theorem cutprefix_ok (s : ByteArray) (c : UInt8) (w : World) :
    Calls Tryd.prog 73 #[.string s, .string (str [c])] w fun e w' => e = .returned (.tuple #[.string (str (cutC c s.data.toList).1), .bool (cutC c s.data.toList).2]) ∧ w' = w := by
  go_enter Tryd.func73, Tryd.ntmps73
  go_wp2_with fail
  refine (cutprefix0_ok s c _).mono ?_
  rintro e w' ⟨rfl, rfl⟩
  go_wp2
  go_returns
  exact ⟨rfl, rfl⟩

/-! ### names of places -/
theorem wordA_of {s : ByteArray} (h1 : 1 ≤ s.size) (h2 : s.size ≤ 16) (h3 : lowB s[0] = true) : wordA s.data.toList = s.data.toList.all lodB := by
  have hz := sz s
  have hb := get_byte s 0 h1
  unfold wordA
  rw [List.head?_eq_getElem?, hb]
  simp only [Option.any_some, h3, Bool.and_true]
  have a1 : decide (1 ≤ s.data.toList.length) = true := decide_eq_true (by omega)
  have a2 : decide (s.data.toList.length ≤ 16) = true := decide_eq_true (by omega)
  rw [a1, a2]; simp
theorem wordA_len {s : ByteArray} (h : s.size < 1 ∨ 16 < s.size) : wordA s.data.toList = false := by
  have hz := sz s
  unfold wordA
  rcases h with h | h
  · have : decide (1 ≤ s.data.toList.length) = false := decide_eq_false (by omega)
    rw [this]; simp
  · have : decide (s.data.toList.length ≤ 16) = false := decide_eq_false (by omega)
    rw [this]; simp
theorem wordA_low {s : ByteArray} (h1 : 1 ≤ s.size) (h3 : lowB s[0] = false) : wordA s.data.toList = false := by
  have hb := get_byte s 0 h1
  unfold wordA
  rw [List.head?_eq_getElem?, hb]
  simp [h3]
set_option maxRecDepth 100000 in
set_option maxHeartbeats 2000000 in
theorem word_ok (s : ByteArray) (w : World) :
    Calls Tryd.prog 51 #[.string s] w fun e w' => e = .returned (.bool (wordA s.data.toList)) ∧ w' = w := by
  go_enter Tryd.func51, Tryd.ntmps51
  by_cases h1 : s.size < 1
  · have hc : Hid (wordA s.data.toList = false) := hide (wordA_len (.inl h1))
    have t1 : decide ((s.size : Int) < 1) = true := by simp; omega
    go_wp2
    go_returns
    exact ⟨by rw [hc.out]; rfl, rfl⟩
  have t1 : decide ((s.size : Int) < 1) = false := by simp; omega
  by_cases h4 : 16 < s.size
  · have hc : Hid (wordA s.data.toList = false) := hide (wordA_len (.inr h4))
    have t4 : decide ((16 : Int) < (s.size : Int)) = true := by simp; omega
    go_wp2
    go_returns
    exact ⟨by rw [hc.out]; rfl, rfl⟩
  have t4 : decide ((16 : Int) < (s.size : Int)) = false := by simp; omega
  have h0s : 0 < s.size := by omega
  have hsz : (0 : Int) < s.size := by omega
  by_cases hl : lowB s[0] = true
  rotate_left
  · have hl' : lowB s[0] = false := by simpa using hl
    have hc : Hid (wordA s.data.toList = false) := hide (wordA_low h0s hl')
    by_cases hlo : s[0].toNat < 97
    · have a1 : decide (((s[0].toNat : Nat) : Int) < 97) = true := by simp; omega
      clear hl hl'
      go_wp2
      go_returns
      exact ⟨by rw [hc.out]; rfl, rfl⟩
    · have a1 : decide (((s[0].toNat : Nat) : Int) < 97) = false := by simp; omega
      have a2 : decide ((122 : Int) < ((s[0].toNat : Nat) : Int)) = true := by
        have := mt lowB_le.2 hl
        simp; omega
      clear hl hl'
      go_wp2
      go_returns
      exact ⟨by rw [hc.out]; rfl, rfl⟩
  have hl' := lowB_le.1 hl
  have a1 : decide (((s[0].toNat : Nat) : Int) < 97) = false := by simp; omega
  have a2 : decide ((122 : Int) < ((s[0].toNat : Nat) : Int)) = false := by simp; omega
  have hc : Hid (wordA s.data.toList = s.data.toList.all lodB) := hide (wordA_of (by omega) (by omega) hl)
  clear hl hl'
  go_wp2
  go_loopg [25] s.size (fun g x25 wr => wr = w ∧ ∃ k : Nat, k ≤ s.size ∧ g = s.size - k ∧ x25 = .int .i64 (k : Nat) ∧ Hid (∀ j, j < k → ∀ c, s.data.toList[j]? = some c → lodB c = true))
  case atStart => exact ⟨rfl, 0, by omega, rfl, rfl, hide fun j hj => absurd hj (Nat.not_lt_zero _)⟩
  case round =>
    obtain ⟨rfl, k, hk, hg, rfl, hA⟩ := hrel
    clear a1 a2
    by_cases hks : k < s.size
    · have hkz : (k : Int) < s.size := by omega
      have hb := hide (get_byte s k hks)
      have next : lodB s[k] = true → Hid (∀ j, j < k + 1 → ∀ c, s.data.toList[j]? = some c → lodB c = true) := fun hd => hide fun j hj c hc => by
        rcases Nat.lt_succ_iff_lt_or_eq.1 hj with h | rfl
        · exact hA.out j h c hc
        · rw [hb.out] at hc; injection hc with hc; rw [← hc]; exact hd
      by_cases hlo : lowB s[k] = true
      · have hN := next (by simp [lodB, hlo])
        have hl' := lowB_le.1 hlo
        have a1 : decide ((97 : Int) ≤ ((s[k].toNat : Nat) : Int)) = true := by simp; omega
        have a2 : decide (((s[k].toNat : Nat) : Int) ≤ 122) = true := by simp; omega
        clear next hlo hl'
        go_wp2
        go_roundg (s.size - (k + 1))
        case measure => omega
        case rel => exact ⟨rfl, k + 1, by omega, rfl, by go_num, hN⟩
      have hnl := mt lowB_le.2 hlo
      have hpick : (decide ((97 : Int) ≤ ((s[k].toNat : Nat) : Int)) = false ∧ True) ∨ (decide ((97 : Int) ≤ ((s[k].toNat : Nat) : Int)) = true ∧ decide (((s[k].toNat : Nat) : Int) ≤ 122) = false) := by
        by_cases h : 97 ≤ s[k].toNat
        · exact .inr ⟨by simp; omega, by simp; omega⟩
        · exact .inl ⟨by simp; omega, trivial⟩
      by_cases hd : digB s[k] = true
      · have hN := next (by simp [lodB, hd])
        have hd' := digB_le.1 hd
        have b1 : decide ((48 : Int) ≤ ((s[k].toNat : Nat) : Int)) = true := by simp; omega
        have b2 : decide (((s[k].toNat : Nat) : Int) ≤ 57) = true := by simp; omega
        clear next hlo hnl hd hd'
        rcases hpick with ⟨p1, p2⟩ | ⟨p1, p2⟩ <;>
        ( go_wp2
          go_roundg (s.size - (k + 1))
          case measure => omega
          case rel => exact ⟨rfl, k + 1, by omega, rfl, by go_num, hN⟩)
      · have hnd := mt digB_le.2 hd
        have hc2 : Hid (wordA s.data.toList = false) := hide (by
          rw [hc.out]
          exact not_all hb.out (by simp [lodB, hlo, hd]))
        have hpick2 : (decide ((48 : Int) ≤ ((s[k].toNat : Nat) : Int)) = false ∧ True) ∨ (decide ((48 : Int) ≤ ((s[k].toNat : Nat) : Int)) = true ∧ decide (((s[k].toNat : Nat) : Int) ≤ 57) = false) := by
          by_cases h : 48 ≤ s[k].toNat
          · exact .inr ⟨by simp; omega, by simp; omega⟩
          · exact .inl ⟨by simp; omega, trivial⟩
        clear next hlo hnl hd hnd
        rcases hpick with ⟨p1, p2⟩ | ⟨p1, p2⟩ <;> rcases hpick2 with ⟨q1, q2⟩ | ⟨q1, q2⟩ <;>
        ( go_wp2
          go_returns
          exact ⟨by rw [hc2.out]; rfl, rfl⟩)
    · have hkz : decide ((k : Int) < s.size) = false := by simp; omega
      have hc2 : Hid (wordA s.data.toList = true) := hide (by
        rw [hc.out]
        exact all_upto (p := lodB) (l := s.data.toList) fun j hj c hc => hA.out j (by rw [← sz] at hj; omega) c hc)
      go_wp2
      go_returns
      exact ⟨by rw [hc2.out]; rfl, rfl⟩

/-! ### numbers -/
/-- a number's digits, behind its sign -/
def numT (neg : Bool) (t : List UInt8) (lo hi : Int) : Option Int :=
  if neg = true ∧ t = [48] then none else (natA t).bind fun n => if lo ≤ (if neg then -(n : Int) else n) ∧ (if neg then -(n : Int) else n) ≤ hi then some (if neg then -(n : Int) else n) else none
theorem numIn_cut (l : List UInt8) (lo hi : Int) : numIn l lo hi = numT (cutC 45 l).2 (cutC 45 l).1 lo hi := by
  unfold numIn numT
  cases l with
  | nil => simp [numA, cutC, natA]
  | cons c t =>
    by_cases h : c = 45
    · simp only [numA, cutC, if_pos h]
      by_cases h2 : t = [48]
      · simp [h2]
      · simp only [if_neg h2]
        rw [if_neg (by simp [h2])]
        cases natA t <;> simp
    · simp only [numA, cutC, if_neg h]
      simp only [Bool.false_eq_true, false_and, if_false]
      cases natA (c :: t) <;> simp
/-- what a number's walk answers -/
def NumAns (l : List UInt8) (lo hi : Int) (e : Ending) : Prop :=
  ∃ (n : Int) (b : Bool), e = .returned (.tuple #[.int .i64 n, .bool b]) ∧ -1000000 < n ∧ n < 1000000 ∧ numIn l lo hi = if b then some n else none
set_option maxRecDepth 100000 in
set_option maxHeartbeats 4000000 in
theorem number_ok (s : ByteArray) (lo hi : Int) (w : World) :
    Calls Tryd.prog 72 #[.string s, .int .i64 lo, .int .i64 hi] w fun e w' => NumAns s.data.toList lo hi e ∧ w' = w := by
  go_enter Tryd.func72, Tryd.ntmps72
  have HC := hide (numIn_cut s.data.toList lo hi)
  go_wp2_with fail
  refine (cutprefix_ok s 45 _).mono ?_
  rintro e w' ⟨rfl, rfl⟩
  obtain ⟨neg, hneg⟩ : ∃ neg, (cutC 45 s.data.toList).2 = neg := ⟨_, rfl⟩
  have HS : Hid (neg = false → str (cutC 45 s.data.toList).1 = s) := hide (fun h => cutC_no (by rw [hneg, h]))
  rw [hneg] at HC ⊢
  have HT : Hid ((str (cutC 45 s.data.toList).1).data.toList = (cutC 45 s.data.toList).1) := hide rfl
  have HC2 : Hid (numIn s.data.toList lo hi = numT neg (str (cutC 45 s.data.toList).1).data.toList lo hi) := HC
  clear hneg HC HT
  generalize str (cutC 45 s.data.toList).1 = t at HS HC2
  obtain ⟨sg, hsg⟩ : ∃ sg : Int, sg = if neg then -1 else 1 := ⟨_, rfl⟩
  have HSG := hide hsg
  clear hsg
  go_upto_if 18 with (fail)
  go_cut [0, 8] from 19 to 20 (fun x0 x8 wc => x0 = .string t ∧ x8 = .int .i64 sg ∧ wc = w')
  case first =>
    cases neg
    · go_wp2
      go_meet
      case rel => exact ⟨congrArg Value.string (HS.out (by simp)).symm, congrArg (Value.int .i64) (by rw [HSG.out]; rfl), rfl⟩
    · go_wp2
      go_meet
      case rel => exact ⟨rfl, by rw [HSG.out]; rfl, rfl⟩
  case rest =>
    obtain ⟨rfl, rfl, rfl⟩ := hcut
    have bad : numT neg t.data.toList lo hi = none → Hid (numIn s.data.toList lo hi = none) := fun h => hide (HC2.out.trans h)
    by_cases h1 : t.size < 1
    · have hr := bad (by rw [sz] at h1; unfold numT; rw [show natA t.data.toList = none from if_pos (.inl h1)]; simp)
      have t1 : decide ((t.size : Int) < 1) = true := by simp; omega
      clear bad
      go_wp2
      go_returns
      exact ⟨⟨0, false, rfl, by decide, by decide, hr.out⟩, rfl⟩
    by_cases h4 : 6 < t.size
    · have hr := bad (by rw [sz] at h4; unfold numT; rw [show natA t.data.toList = none from if_pos (.inr (.inl h4))]; simp)
      have t1 : decide ((t.size : Int) < 1) = false := by simp; omega
      have t4 : decide ((6 : Int) < (t.size : Int)) = true := by simp; omega
      clear bad
      go_wp2
      go_returns
      exact ⟨⟨0, false, rfl, by decide, by decide, hr.out⟩, rfl⟩
    have t1 : decide ((t.size : Int) < 1) = false := by simp; omega
    have t4 : decide ((6 : Int) < (t.size : Int)) = false := by simp; omega
    have h0s : 0 < t.size := by omega
    have hb0 := get_byte t 0 h0s
    have hsz : (0 : Int) < t.size := by omega
    by_cases h48 : 1 < t.size ∧ t[0] = 48
    · have hr := bad (by
        have := h48.1
        rw [sz] at this
        unfold numT
        rw [show natA t.data.toList = none from if_pos (.inr (.inr ⟨this, by rw [hb0, h48.2]⟩))]; simp)
      have t2 : decide ((1 : Int) < (t.size : Int)) = true := by simp; omega
      have t3 : ((t[0].toNat : Int) == 48) = true := by rw [h48.2]; rfl
      clear hb0 h48 bad
      go_wp2
      go_returns
      exact ⟨⟨0, false, rfl, by decide, by decide, hr.out⟩, rfl⟩
    have hN : Hid (natA t.data.toList = if t.data.toList.all digB then some (valP t.data.toList) else none) := by
      have e := sz t
      refine hide (if_neg fun h => ?_)
      rcases h with h | h | h
      · omega
      · omega
      · rw [hb0] at h
        exact h48 ⟨by omega, by simpa using h.2⟩
    have hone : (decide ((1 : Int) < (t.size : Int)) = false ∧ True) ∨ (decide ((1 : Int) < (t.size : Int)) = true ∧ ((t[0].toNat : Int) == 48) = false) := by
      by_cases h : 1 < t.size
      · refine .inr ⟨by simp; omega, ?_⟩
        have : t[0].toNat ≠ 48 := fun h' => h48 ⟨h, UInt8.toNat_inj.1 h'⟩
        simp; omega
      · exact .inl ⟨by simp; omega, trivial⟩
    clear hb0 h48
    have hs6 : t.size ≤ 6 := by omega
    by_cases hz : neg = true ∧ t.data.toList = [48]
    · have hr := bad (by unfold numT; rw [if_pos hz])
      have t5 : (t.toList == [48]) = true := by rw [Lib.toList_data, hz.2]; rfl
      have t6 : decide (sg < 0) = true := by rw [HSG.out, hz.1]; rfl
      clear bad hz
      rcases hone with ⟨o1, o2⟩ | ⟨o1, o2⟩ <;>
      ( go_wp2
        go_returns
        exact ⟨⟨0, false, rfl, by decide, by decide, hr.out⟩, rfl⟩)
    have hsgn : (decide (sg < 0) = false ∧ True) ∨ (decide (sg < 0) = true ∧ (t.toList == [48]) = false) := by
      cases neg with
      | false => exact .inl ⟨by rw [HSG.out]; rfl, trivial⟩
      | true =>
        refine .inr ⟨by rw [HSG.out]; rfl, ?_⟩
        rw [Lib.toList_data]
        cases h : t.data.toList == [48] with
        | false => rfl
        | true => exact absurd ⟨rfl, by simpa using h⟩ hz
    have hfin : Hid (numIn s.data.toList lo hi = (natA t.data.toList).bind fun n => if lo ≤ (n : Int) * sg ∧ (n : Int) * sg ≤ hi then some ((n : Int) * sg) else none) := hide (by
      rw [HC2.out]
      unfold numT
      rw [if_neg hz, HSG.out]
      congr 1
      funext n
      cases neg <;> simp)
    have hsg1 : sg = 1 ∨ sg = -1 := by rw [HSG.out]; cases neg <;> simp
    have HSG1 := hide hsg1
    clear hz bad hsg1
    rcases hone with ⟨o1, o2⟩ | ⟨o1, o2⟩ <;> rcases hsgn with ⟨g1, g2⟩ | ⟨g1, g2⟩ <;>
    ( go_wp2
      go_loopg [11, 48] t.size (fun g x11 x48 wr => wr = wc ∧ ∃ k : Nat, k ≤ t.size ∧ g = t.size - k ∧ x11 = .int .i64 (valP (t.data.toList.take k) : Nat) ∧ x48 = .int .i64 (k : Nat) ∧ Hid (∀ j, j < k → ∀ c, t.data.toList[j]? = some c → digB c = true))
      case atStart => exact ⟨rfl, 0, by omega, rfl, rfl, rfl, hide fun j hj => absurd hj (Nat.not_lt_zero _)⟩
      case round =>
        obtain ⟨rfl, k, hk, hg, rfl, rfl, hA⟩ := hrel
        have hv : valP (t.data.toList.take k) ≤ 999999 := by
          have h := valP_lt (l := t.data.toList.take k) fun c hc => by
            obtain ⟨j, hj, e⟩ := List.mem_iff_getElem.1 hc
            have hj' : j < k := by rw [List.length_take] at hj; omega
            refine hA.out j hj' c ?_
            rw [← e, List.getElem_take]
            exact List.getElem?_eq_getElem _
          have h2 : 10 ^ (t.data.toList.take k).length ≤ 10 ^ 6 := Nat.pow_le_pow_right (by omega) (by rw [List.length_take, ← sz]; omega)
          omega
        clear o1 o2 g1 g2
        by_cases hks : k < t.size
        · have hkz : (k : Int) < t.size := by omega
          have hb := get_byte t k hks
          by_cases hd : digB t[k] = true
          · have hd' := digB_le.1 hd
            have a1 : decide (((t[k].toNat : Nat) : Int) < 48) = false := by simp; omega
            have a2 : decide ((57 : Int) < ((t[k].toNat : Nat) : Int)) = false := by simp; omega
            have hnx : valP (t.data.toList.take (k + 1)) = valP (t.data.toList.take k) * 10 + (t[k].toNat - 48) := by
              rw [List.take_add_one, hb, Option.toList_some, valP_snoc]; rfl
            have HB := hide hb
            have HN := hide hnx
            have HD := hide hd
            clear hb hd hnx
            generalize valP (t.data.toList.take k) = n at hv HN
            go_wp2
            go_roundg (t.size - (k + 1))
            case measure => omega
            case rel =>
              refine ⟨rfl, k + 1, by omega, rfl, by rw [HN.out]; go_num, by go_num, hide fun j hj c hc => ?_⟩
              rcases Nat.lt_succ_iff_lt_or_eq.1 hj with h | rfl
              · exact hA.out j h c hc
              · rw [HB.out] at hc
                injection hc with hc
                rw [← hc]
                exact HD.out
          · have hr : Hid (numIn s.data.toList lo hi = none) := hide (by
              rw [hfin.out, hN.out, not_all hb (by simpa using hd)]; rfl)
            by_cases hlo : t[k].toNat < 48
            · have a1 : decide (((t[k].toNat : Nat) : Int) < 48) = true := by simp; omega
              clear hb hd
              generalize valP (t.data.toList.take k) = n at hv
              go_wp2
              go_returns
              exact ⟨⟨0, false, rfl, by decide, by decide, hr.out⟩, rfl⟩
            · have a1 : decide (((t[k].toNat : Nat) : Int) < 48) = false := by simp; omega
              have a2 : decide ((57 : Int) < ((t[k].toNat : Nat) : Int)) = true := by
                have := mt digB_le.2 hd
                simp; omega
              clear hb hd
              generalize valP (t.data.toList.take k) = n at hv
              go_wp2
              go_returns
              exact ⟨⟨0, false, rfl, by decide, by decide, hr.out⟩, rfl⟩
        · obtain rfl : k = t.size := by omega
          have hr : Hid (numIn s.data.toList lo hi = if lo ≤ ((valP (t.data.toList.take t.size) : Nat) : Int) * sg ∧ ((valP (t.data.toList.take t.size) : Nat) : Int) * sg ≤ hi then some (((valP (t.data.toList.take t.size) : Nat) : Int) * sg) else none) := hide (by
            have := all_upto (p := digB) (l := t.data.toList) fun j hj c hc => hA.out j (by rw [sz t]; exact hj) c hc
            rw [hfin.out, hN.out, this, sz, List.take_length]; rfl)
          have hkz : decide ((t.size : Int) < t.size) = false := by simp
          generalize valP (t.data.toList.take t.size) = n at hv hr
          obtain ⟨m, hm⟩ : ∃ m : Int, (n : Int) * sg = m := ⟨_, rfl⟩
          have hmb : -1000000 < m ∧ m < 1000000 := by rcases HSG1.out with h | h <;> rw [h] at hm <;> omega
          have hw : IntKind.i64.wrap ((n : Int) * sg) = m := by rw [hm]; exact IntWalk.i64_in _ (by omega)
          rw [hm] at hr
          have HMB := hide hmb
          clear hm hmb
          by_cases q1 : lo ≤ m
          · have r1 : decide (lo ≤ m) = true := by simpa using q1
            by_cases q2 : m ≤ hi
            · have r2 : decide (m ≤ hi) = true := by simpa using q2
              have hr2 : Hid (numIn s.data.toList lo hi = some m) := hide (by rw [hr.out, if_pos ⟨q1, q2⟩])
              clear q1 q2 hr
              go_wp2
              go_returns
              exact ⟨⟨m, true, rfl, HMB.out.1, HMB.out.2, hr2.out⟩, rfl⟩
            · have r2 : decide (m ≤ hi) = false := by simpa using q2
              have hr2 : Hid (numIn s.data.toList lo hi = none) := hide (by rw [hr.out, if_neg (fun h => q2 h.2)])
              clear q1 q2 hr
              go_wp2
              go_returns
              exact ⟨⟨m, false, rfl, HMB.out.1, HMB.out.2, hr2.out⟩, rfl⟩
          · have r1 : decide (lo ≤ m) = false := by simpa using q1
            have hr2 : Hid (numIn s.data.toList lo hi = none) := hide (by rw [hr.out, if_neg (fun h => q1 h.1)])
            clear q1 hr
            go_wp2
            go_returns
            exact ⟨⟨m, false, rfl, HMB.out.1, HMB.out.2, hr2.out⟩, rfl⟩)

/-! ### registers -/
theorem numIn_range {l : List UInt8} {lo hi n : Int} (h : numIn l lo hi = some n) : lo ≤ n ∧ n ≤ hi := by
  unfold numIn at h
  cases hn : numA l with
  | none => rw [hn] at h; cases h
  | some m =>
    rw [hn] at h
    simp only [Option.bind_some] at h
    split at h
    · injection h with h; subst h; assumption
    · cases h
def RegAns (l : List UInt8) (e : Ending) : Prop := ∃ (n : Int) (b : Bool), e = .returned (.tuple #[.int .u8 n, .bool b]) ∧ (b = true → ∃ k : Nat, k < 16 ∧ n = (k : Int) ∧ regA l = some k) ∧ (b = false → regA l = none)
theorem regA_cut (l : List UInt8) : regA l = if (cutC 114 l).2 = true then (numIn (cutC 114 l).1 0 15).map Int.toNat else none := by
  cases l with
  | nil => rfl
  | cons c t =>
    by_cases h : c = 114
    · simp [regA, cutC, h]
    · simp [regA, cutC, h]
set_option maxRecDepth 100000 in
set_option maxHeartbeats 4000000 in
theorem register_ok (s : ByteArray) (w : World) :
    Calls Tryd.prog 57 #[.string s] w fun e w' => RegAns s.data.toList e ∧ w' = w := by
  go_enter Tryd.func57, Tryd.ntmps57
  have HC := hide (regA_cut s.data.toList)
  go_wp2_with fail
  refine (cutprefix_ok s 114 _).mono ?_
  rintro e w' ⟨rfl, rfl⟩
  go_wp2_with fail
  refine (number_ok (str (cutC 114 s.data.toList).1) 0 15 _).mono ?_
  rintro e w2 ⟨⟨n, b, rfl, hn1, hn2, hn⟩, rfl⟩
  obtain ⟨is, his⟩ : ∃ is, (cutC 114 s.data.toList).2 = is := ⟨_, rfl⟩
  rw [str_data] at hn
  have hc := HC.out
  rw [his, hn] at hc
  rw [his]
  have hn0 := hide hn
  clear his hn HC
  have hfin : (is && b) = true → ∃ k : Nat, k < 16 ∧ IntKind.u8.wrap n = (k : Int) ∧ regA s.data.toList = some k := fun h => by
    simp only [Bool.and_eq_true] at h
    obtain ⟨rfl, rfl⟩ := h
    rw [if_pos rfl, if_pos rfl] at hc
    obtain ⟨q1, q2⟩ := numIn_range (hn0.out.trans (by rw [if_pos rfl]))
    refine ⟨n.toNat, by omega, by rw [IntKind.wrap_u8']; omega, by rw [hc]; rfl⟩
  have hfin2 : (is && b) = false → regA s.data.toList = none := fun h => by
    rw [hc]
    cases is
    · rfl
    · cases b
      · rfl
      · cases h
  have F1 := hide hfin
  have F2 := hide hfin2
  clear hfin hfin2 hc
  cases is
  · go_wp2
    go_returns
    exact ⟨⟨_, false, rfl, (fun h => by cases h), fun _ => F2.out rfl⟩, rfl⟩
  · go_wp2
    go_returns
    exact ⟨⟨_, b, rfl, (fun h => F1.out (by simpa using h)), fun h => F2.out (by simpa using h)⟩, rfl⟩
end Go.Proofs.YtmhlokehdjnldaaDoor

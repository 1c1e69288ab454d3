/- Configurations' texts: numbers and labels, read. -/
import Derived.Test.YtniboffmdkeacaaDoorConfNew
import Derived.Deep.LoopGhost
import Derived.Deep.Draws
import Derived.BigQuiet
import Derived.Lib.Strings
namespace Go.Proofs.YtniboffmdkeacaaDoor
open Go.RowKit Go.WideMaps
set_option linter.unusedSimpArgs false
set_option linter.unusedVariables false

def digB (c : UInt8) : Bool := 48 ≤ c && c ≤ 57
def dv (c : UInt8) : Nat := c.toNat - 48
/-- label.number -/
def numP : List UInt8 → Option (Nat × List UInt8)
  | [] => none
  | [a] => if digB a then some (dv a, []) else none
  | a :: b :: t => if digB a then (if digB b then (if a = 48 then none else some (10 * dv a + dv b, t)) else some (dv a, b :: t)) else none
theorem digB_le {c : UInt8} : digB c = true ↔ 48 ≤ c.toNat ∧ c.toNat ≤ 57 := by simp [digB, UInt8.le_iff_toNat_le]
theorem numP_none_0 {l : List UInt8} (h : ∀ a, l[0]? = some a → digB a = false) : numP l = none := by
  match l with
  | [] => rfl
  | [a] => simp [numP, h a rfl]
  | a :: b :: t => simp [numP, h a rfl]
theorem numP_one {l : List UInt8} {a : UInt8} (h0 : l[0]? = some a) (ha : digB a = true) (h : ∀ b, l[1]? = some b → digB b = false) : numP l = some (dv a, l.drop 1) := by
  match l with
  | [] => cases h0
  | [x] => simp at h0; subst h0; simp [numP, ha]
  | x :: b :: t => simp at h0; subst h0; simp [numP, ha, h b rfl]
theorem numP_two {l : List UInt8} {a b : UInt8} (h0 : l[0]? = some a) (ha : digB a = true) (h1 : l[1]? = some b) (hb : digB b = true) : numP l = if a = 48 then none else some (10 * dv a + dv b, l.drop 2) := by
  match l with
  | [] => cases h0
  | [x] => cases h1
  | x :: y :: t => simp at h0 h1; subst h0; subst h1; simp [numP, ha, hb]
theorem numP_lt {l t : List UInt8} {n : Nat} (h : numP l = some (n, t)) : t.length < l.length ∧ n ≤ 99 := by
  match l with
  | [] => cases h
  | [a] =>
    simp only [numP] at h
    split at h
    · rename_i ha
      have := digB_le.1 ha
      injection h with h
      injection h with h1 h2
      subst h1 h2
      simp [dv]; omega
    · cases h
  | a :: b :: t =>
    simp only [numP] at h
    split at h
    · rename_i ha
      have := digB_le.1 ha
      split at h
      · rename_i hb
        have := digB_le.1 hb
        split at h
        · cases h
        · injection h with h
          injection h with h1 h2
          subst h1 h2
          simp [dv]; omega
      · injection h with h
        injection h with h1 h2
        subst h1 h2
        simp [dv]; omega
    · cases h

/-- what label.number has read behind k bytes -/
def NumAt (l : List UInt8) : Nat → Nat → Prop
  | 0, n => n = 0
  | 1, n => ∃ a, l[0]? = some a ∧ digB a = true ∧ n = dv a
  | 2, n => ∃ a b, l[0]? = some a ∧ digB a = true ∧ l[1]? = some b ∧ digB b = true ∧ n = 10 * dv a + dv b
  | _, _ => False
theorem NumAt.le {l : List UInt8} {k n : Nat} (h : NumAt l k n) : n ≤ 99 ∧ k ≤ 2 ∧ k ≤ l.length := by
  match k with
  | 0 => cases h; simp
  | 1 =>
    obtain ⟨a, h0, ha, rfl⟩ := h
    have := digB_le.1 ha
    have := (List.getElem?_eq_some_iff.1 h0).1
    unfold dv; omega
  | 2 =>
    obtain ⟨a, b, h0, ha, h1, hb, rfl⟩ := h
    have := digB_le.1 ha
    have := digB_le.1 hb
    have := (List.getElem?_eq_some_iff.1 h1).1
    unfold dv; omega
  | k + 3 => cases h
theorem NumAt.next {l : List UInt8} {k n : Nat} {c : UInt8} (h : NumAt l k n) (hk : k < 2) (hc : l[k]? = some c) (hd : digB c = true) : NumAt l (k + 1) (n * 10 + (c.toNat - 48)) := by
  match k with
  | 0 => cases h; exact ⟨c, hc, hd, by unfold dv; omega⟩
  | 1 => obtain ⟨a, h0, ha, rfl⟩ := h; exact ⟨a, c, h0, ha, hc, hd, by unfold dv; omega⟩
  | k + 2 => omega
/-- where label.number stops -/
theorem NumAt.stop {l : List UInt8} {k n : Nat} (h : NumAt l k n) (hs : k = 2 ∨ ∀ c, l[k]? = some c → digB c = false) :
    numP l = if k = 0 ∨ k = 2 ∧ l[0]? = some 48 then none else some (n, l.drop k) := by
  match k with
  | 0 => 
    cases h
    rw [if_pos (.inl rfl)]
    exact numP_none_0 (by rcases hs with hs | hs; omega; exact hs)
  | 1 =>
    obtain ⟨a, h0, ha, rfl⟩ := h
    rw [if_neg (by simp)]
    exact numP_one h0 ha (by rcases hs with hs | hs; omega; exact hs)
  | 2 =>
    obtain ⟨a, b, h0, ha, h1, hb, rfl⟩ := h
    rw [numP_two h0 ha h1 hb, h0]
    simp
  | k + 3 => cases h

def numAns (s : ByteArray) (r : Option (Nat × List UInt8)) : Ending :=
  match r with
  | none => .returned (.tuple #[.int .i64 0, .string s, .bool false])
  | some (n, t) => .returned (.tuple #[.int .i64 (n : Int), .string ⟨t.toArray⟩, .bool true])

set_option maxRecDepth 100000 in
set_option maxHeartbeats 2000000 in
theorem number_ok (s : ByteArray) (w : World) (hs : s.size < 4294967281) :
    Calls Tryd.prog 73 #[.string s] w fun e w' => e = numAns s (numP s.data.toList) ∧ Below w.heap.size w w' := by
  go_enter Tryd.func73, Tryd.ntmps73
  go_wp2
  go_loopg [5, 6] 2 (fun g x5 x6 wr => wr = w ∧ ∃ k n, g = 2 - k ∧ x5 = .int .i64 (n : Nat) ∧ x6 = .int .i64 (k : Nat) ∧ Hid (NumAt s.data.toList k n))
  case atStart => exact ⟨rfl, 0, 0, rfl, rfl, rfl, hide rfl⟩
  case round =>
    obtain ⟨rfl, k, n, hg, rfl, rfl, hA⟩ := hrel
    obtain ⟨hn9, hk2, hkl⟩ := hA.out.le
    rw [← sz] at hkl
    by_cases hgo : k < 2 ∧ ∃ h : k < s.size, digB s[k] = true
    · obtain ⟨hkk, hks, hd⟩ := hgo
      have hkz : (k : Int) < s.size := by omega
      have hk2z : (k : Int) < 2 := by omega
      have hd' := digB_le.1 hd
      have a1 : decide ((48 : Int) ≤ ((s[k].toNat : Nat) : Int)) = true := by simp; omega
      have a2 : decide (((s[k].toNat : Nat) : Int) ≤ 57) = true := by simp; omega
      have hb := hide (get_byte s k hks)
      have HD := hide hd
      clear hd
      go_wp2
      go_roundg (2 - (k + 1))
      case measure => omega
      case rel => exact ⟨rfl, k + 1, n * 10 + (s[k].toNat - 48), rfl, by go_num, by go_num, hide (hA.out.next hkk hb.out HD.out)⟩
    · have hst := hA.out.stop (by
        by_cases h2 : k = 2
        · exact .inl h2
        · refine .inr fun c hc => ?_
          have hlt := (List.getElem?_eq_some_iff.1 hc).1
          rw [← sz] at hlt
          rw [get_byte s k hlt] at hc
          injection hc with hc
          subst hc
          cases hd : digB s[k]
          · rfl
          · exact absurd ⟨by omega, hlt, hd⟩ hgo)
      have B0 := Below.refl wr.heap.size wr
      by_cases h2 : k = 2
      · subst h2
        have h0s : 0 < s.size := by omega
        have hb := get_byte s 0 h0s
        have hsz : (0 : Int) < s.size := by omega
        have h2s : (2 : Int) ≤ s.size := by omega
        rw [hb] at hst
        by_cases h48 : s[0] = 48
        · rw [if_pos (by simp [h48])] at hst
          have t1 : ((s[0].toNat : Int) == 48) = true := by rw [h48]; rfl
          have HST := hide hst
          clear hst hA hb hgo h48
          go_wp2 <;> (go_returns; exact ⟨by rw [HST.out]; rfl, B0⟩)
        · have t1 : ((s[0].toNat : Int) == 48) = false := by
            have : s[0].toNat ≠ 48 := fun h => h48 (UInt8.toNat_inj.1 h)
            simp; omega
          rw [if_neg (by simp [h48])] at hst
          have HST := hide hst
          clear hst hA hb hgo
          have hx : (⟨(s.data.toList.drop 2).toArray⟩ : ByteArray) = s.extract 2 s.size := by
            rw [← Lib.mk_data (s.extract 2 s.size), Lib.extract_data, List.take_of_length_le (by rw [List.length_drop, ← sz]; exact Nat.le_refl _)]
          go_wp2 <;> (go_quiet (fail); go_wp2; go_returns; exact ⟨by rw [HST.out, numAns, hx]; rfl, below_drewN B0 _⟩)
      · have hk1 : k < 2 := by omega
        by_cases hk0 : k = 0
        · subst hk0
          rw [if_pos (by simp)] at hst
          have HST := hide hst
          clear hst hA
          by_cases hks : 0 < s.size
          · have hsz : (0 : Int) < s.size := by omega
            have hd : digB s[0] = false := by
              cases hd : digB s[0]
              · rfl
              · exact absurd ⟨by omega, hks, hd⟩ hgo
            by_cases hlo : s[0].toNat < 48
            · have a1 : decide ((48 : Int) ≤ ((s[0].toNat : Nat) : Int)) = false := by simp; omega
              clear hd hgo
              go_wp2
              go_returns
              exact ⟨by rw [HST.out]; rfl, B0⟩
            · have a1 : decide ((48 : Int) ≤ ((s[0].toNat : Nat) : Int)) = true := by simp; omega
              have a2 : decide (((s[0].toNat : Nat) : Int) ≤ 57) = false := by
                have := mt digB_le.2 (by rw [hd]; exact Bool.false_ne_true)
                simp; omega
              clear hd hgo
              go_wp2
              go_returns
              exact ⟨by rw [HST.out]; rfl, B0⟩
          · have hsz : s.size = 0 := by omega
            clear hgo
            go_wp2
            go_returns
            exact ⟨by rw [HST.out]; rfl, B0⟩
        · obtain rfl : k = 1 := by omega
          rw [if_neg (by simp)] at hst
          have HST := hide hst
          clear hst hA
          have h1s : (1 : Int) ≤ s.size := by omega
          have hx : (⟨(s.data.toList.drop 1).toArray⟩ : ByteArray) = s.extract 1 s.size := by
            rw [← Lib.mk_data (s.extract 1 s.size), Lib.extract_data, List.take_of_length_le (by rw [List.length_drop, ← sz]; exact Nat.le_refl _)]
          by_cases hks : 1 < s.size
          · have hsz : (1 : Int) < s.size := by omega
            have hd : digB s[1] = false := by
              cases hd : digB s[1]
              · rfl
              · exact absurd ⟨by omega, hks, hd⟩ hgo
            by_cases hlo : s[1].toNat < 48
            · have a1 : decide ((48 : Int) ≤ ((s[1].toNat : Nat) : Int)) = false := by simp; omega
              clear hd hgo
              go_wp2
              go_quiet (fail)
              go_wp2
              go_returns
              exact ⟨by rw [HST.out, numAns, hx]; rfl, below_drewN B0 _⟩
            · have a1 : decide ((48 : Int) ≤ ((s[1].toNat : Nat) : Int)) = true := by simp; omega
              have a2 : decide (((s[1].toNat : Nat) : Int) ≤ 57) = false := by
                have := mt digB_le.2 (by rw [hd]; exact Bool.false_ne_true)
                simp; omega
              clear hd hgo
              go_wp2
              go_quiet (fail)
              go_wp2
              go_returns
              exact ⟨by rw [HST.out, numAns, hx]; rfl, below_drewN B0 _⟩
          · have hsz : decide ((1 : Int) < s.size) = false := by simp; omega
            clear hgo
            go_wp2
            go_quiet (fail)
            go_wp2
            go_returns
            exact ⟨by rw [HST.out, numAns, hx]; rfl, below_drewN B0 _⟩

/-- a number's value -/
def valP (l : List UInt8) : Nat := l.foldl (fun n c => n * 10 + dv c) 0
theorem valP_snoc (l : List UInt8) (c : UInt8) : valP (l ++ [c]) = valP l * 10 + dv c := by simp [valP, List.foldl_append]
/-- conf.count -/
def cntP (l : List UInt8) : Option Nat :=
  if l.length < 1 ∨ 4 < l.length ∨ (1 < l.length ∧ l[0]? = some 48) then none else if l.all digB then some (valP l) else none
theorem valP_lt {l : List UInt8} (h : ∀ c ∈ l, digB c = true) : valP l < 10 ^ l.length := by
  obtain ⟨m, hm⟩ : ∃ m, m = l.length := ⟨_, rfl⟩
  induction m generalizing l with
  | zero => obtain rfl := List.length_eq_zero_iff.1 hm.symm; simp [valP]
  | succ m ih =>
    have e := List.dropLast_concat_getLast (l := l) (by intro h0; rw [h0] at hm; cases hm)
    generalize l.dropLast = k at e
    generalize l.getLast _ = c at e
    subst e
    simp only [List.length_append, List.length_singleton] at hm ⊢
    have h1 := ih (l := k) (fun x hx => h x (by simp [hx])) (by omega)
    have h2 := digB_le.1 (h c (by simp))
    rw [valP_snoc, Nat.pow_succ]
    unfold dv
    omega

set_option maxRecDepth 100000 in
set_option maxHeartbeats 2000000 in
theorem count_ok (s : ByteArray) (w : World) :
    Calls Tryd.prog 39 #[.string s] w fun e w' => e = .returned (.tuple #[.int .i64 (((cntP s.data.toList).getD 0 : Nat) : Int), .bool (cntP s.data.toList).isSome]) ∧ Below w.heap.size w w' := by
  have B0 := Below.refl w.heap.size w
  go_enter Tryd.func39, Tryd.ntmps39
  by_cases h1 : s.size < 1
  · have hc : Hid (cntP s.data.toList = none) := by rw [sz] at h1; exact if_pos (.inl h1)
    have t1 : decide ((s.size : Int) < 1) = true := by simp; omega
    go_wp2
    go_returns
    exact ⟨by rw [hc.out]; rfl, B0⟩
  by_cases h4 : 4 < s.size
  · have hc : Hid (cntP s.data.toList = none) := by rw [sz] at h4; exact if_pos (.inr (.inl h4))
    have t1 : decide ((s.size : Int) < 1) = false := by simp; omega
    have t4 : decide ((4 : Int) < (s.size : Int)) = true := by simp; omega
    go_wp2
    go_returns
    exact ⟨by rw [hc.out]; rfl, B0⟩
  have t1 : decide ((s.size : Int) < 1) = false := by simp; omega
  have t4 : decide ((4 : Int) < (s.size : Int)) = false := by simp; omega
  have h0s : 0 < s.size := by omega
  have hb0 := get_byte s 0 h0s
  by_cases h48 : 1 < s.size ∧ s[0] = 48
  · have hc : Hid (cntP s.data.toList = none) := by
      have := h48.1
      rw [sz] at this
      exact if_pos (.inr (.inr ⟨this, by rw [hb0, h48.2]⟩))
    have t2 : decide ((1 : Int) < (s.size : Int)) = true := by simp; omega
    have hsz : (0 : Int) < s.size := by omega
    have t3 : ((s[0].toNat : Int) == 48) = true := by rw [h48.2]; rfl
    clear hb0 h48
    go_wp2
    go_returns
    exact ⟨by rw [hc.out]; rfl, B0⟩
  have hc : Hid (cntP s.data.toList = if s.data.toList.all digB then some (valP s.data.toList) else none) := by
    have e := sz s
    refine if_neg fun h => ?_
    rcases h with h | h | h
    · omega
    · omega
    · rw [hb0] at h
      exact h48 ⟨by omega, by simpa using h.2⟩
  have hsz : (0 : Int) < s.size := by omega
  have hone : (decide ((1 : Int) < (s.size : Int)) = false ∧ True) ∨ (decide ((1 : Int) < (s.size : Int)) = true ∧ ((s[0].toNat : Int) == 48) = false) := by
    by_cases h : 1 < s.size
    · refine .inr ⟨by simp; omega, ?_⟩
      have : s[0].toNat ≠ 48 := fun h' => h48 ⟨h, UInt8.toNat_inj.1 h'⟩
      simp; omega
    · exact .inl ⟨by simp; omega, trivial⟩
  clear hb0 h48
  have hs4 : s.size ≤ 4 := by omega
  rcases hone with ⟨o1, o2⟩ | ⟨o1, o2⟩ <;>
  ( go_wp2
    go_loopg [4, 5, 26] s.size (fun g x4 x5 x26 wr => wr = w ∧ ∃ k : Nat, k ≤ s.size ∧ g = s.size - k ∧ x4 = .int .i64 (valP (s.data.toList.take k) : Nat) ∧ x26 = .int .i64 (k : Nat) ∧ Hid (∀ j, j < k → ∀ c, s.data.toList[j]? = some c → digB c = true))
    case atStart => exact ⟨rfl, 0, by omega, rfl, rfl, rfl, hide fun j hj => absurd hj (Nat.not_lt_zero _)⟩
    case round =>
      obtain ⟨rfl, k, hk, hg, rfl, rfl, hA⟩ := hrel
      have hv : valP (s.data.toList.take k) ≤ 9999 := by
        have h := valP_lt (l := s.data.toList.take k) fun c hc => by
          obtain ⟨j, hj, e⟩ := List.mem_iff_getElem.1 hc
          have hj' : j < k := by rw [List.length_take] at hj; omega
          refine hA.out j hj' c ?_
          rw [← e, List.getElem_take]
          exact List.getElem?_eq_getElem _
        have h2 : 10 ^ (s.data.toList.take k).length ≤ 10 ^ 4 := Nat.pow_le_pow_right (by omega) (by rw [List.length_take, ← sz]; omega)
        omega
      by_cases hks : k < s.size
      · have hkz : (k : Int) < s.size := by omega
        have hb := get_byte s k hks
        by_cases hd : digB s[k] = true
        · have hd' := digB_le.1 hd
          have a1 : decide (((s[k].toNat : Nat) : Int) < 48) = false := by simp; omega
          have a2 : decide ((57 : Int) < ((s[k].toNat : Nat) : Int)) = false := by simp; omega
          have hnx : valP (s.data.toList.take (k + 1)) = valP (s.data.toList.take k) * 10 + (s[k].toNat - 48) := by
            rw [List.take_add_one, hb, Option.toList_some, valP_snoc]; rfl
          have HB := hide hb
          have HN := hide hnx
          have HD := hide hd
          clear hb hd hnx
          generalize valP (s.data.toList.take k) = n at hv HN
          go_wp2
          go_roundg (s.size - (k + 1))
          case measure => omega
          case rel =>
            refine ⟨rfl, k + 1, by omega, rfl, by rw [HN.out]; go_num, by go_num, hide fun j hj c hc => ?_⟩
            rcases Nat.lt_succ_iff_lt_or_eq.1 hj with h | rfl
            · exact hA.out j h c hc
            · rw [HB.out] at hc
              injection hc with hc
              rw [← hc]
              exact HD.out
        · have hc2 : Hid (cntP s.data.toList = none) := by
            have := not_all hb (by simpa using hd)
            rw [hc.out, this]; rfl
          by_cases hlo : s[k].toNat < 48
          · have a1 : decide (((s[k].toNat : Nat) : Int) < 48) = true := by simp; omega
            clear hb hd
            generalize valP (s.data.toList.take k) = n at hv
            go_wp2
            go_returns
            exact ⟨by rw [hc2.out]; rfl, B0⟩
          · have a1 : decide (((s[k].toNat : Nat) : Int) < 48) = false := by simp; omega
            have a2 : decide ((57 : Int) < ((s[k].toNat : Nat) : Int)) = true := by
              have := mt digB_le.2 hd
              simp; omega
            clear hb hd
            generalize valP (s.data.toList.take k) = n at hv
            go_wp2
            go_returns
            exact ⟨by rw [hc2.out]; rfl, B0⟩
      · obtain rfl : k = s.size := by omega
        have hc2 : Hid (cntP s.data.toList = some (valP (s.data.toList.take s.size))) := by
          have := all_upto (p := digB) (l := s.data.toList) fun j hj c hc => hA.out j (by rw [sz s]; exact hj) c hc
          rw [hc.out, this, sz, List.take_length]; rfl
        generalize valP (s.data.toList.take s.size) = n at hv hc2
        go_wp2
        go_returns
        exact ⟨by rw [hc2.out]; rfl, B0⟩)
end Go.Proofs.YtniboffmdkeacaaDoor

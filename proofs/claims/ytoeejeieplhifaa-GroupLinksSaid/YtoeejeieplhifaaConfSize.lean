/- Configurations in small numbers: labels of a size are right. No program in sight. -/
import Derived.Test.YtoeejeieplhifaaConfGr
namespace Go.Proofs.Ytoeejeieplhifaa
open Go.RowKit
set_option linter.unusedSimpArgs false
set_option linter.unusedVariables false

def szName : Nat → List UInt8
  | 0 => [108, 111, 119]
  | 1 => [114, 101, 100]
  | 2 => [98, 108, 117, 101]
  | 3 => [116, 111, 112]
  | _ => [104, 105, 103, 104]
def szLev : Nat → UInt8
  | 0 => 0
  | 1 => 1
  | 2 => 1
  | 3 => 2
  | _ => 9
def szCat : Nat → UInt16
  | 0 => 0
  | 1 => 1
  | 2 => 2
  | 3 => 3
  | _ => 7
def szClear (many i : Nat) : Nat := if many = 2 then 1 else if many = 3 then (if i = 0 then 1 else i) else many - 1
def szReg (many : Nat) (H : List UInt8) (i : Nat) : RegV :=
  ⟨szName i, szLev i, szCat i, 8 + ((H.getD (5 * i) 0).toNat : Int) % 60, 8 + 2 * (((H.getD (5 * i + 1) 0).toNat : Int) % 12), 4 + ((H.getD (5 * i + 2) 0).toNat : Int) % 40,
    1 + ((H.getD (5 * i + 3) 0).toNat : Int) % 6, 2 + ((H.getD (5 * i + 4) 0).toNat : Int) % 14, (szClear many i : Nat)⟩
def szMany (m : UInt8) : Nat := 2 + m.toNat % 4
def szRegs (m : UInt8) (H : List UInt8) : List RegV := (List.range (szMany m)).map (szReg (szMany m) H)

theorem sz_name (i : Nat) : nameB (szName i) = true := by
  rcases i with _ | _ | _ | _ | i <;> simp only [szName] <;> decide +kernel
theorem inB_of {n a b : Int} (h1 : a ≤ n) (h2 : n ≤ b) : inB n a b = true := by simp [inB, h1, h2]
theorem sz_right (many : Nat) (H : List UInt8) (i : Nat) (h : i < many) (h2 : 2 ≤ many) : rightB (szReg many H i) many = true := by
  have hl : decide ((szReg many H i).lev ≤ 15) = true := by
    show decide (szLev i ≤ 15) = true
    rcases i with _ | _ | _ | _ | i <;> rfl
  have hc : szClear many i < many := by unfold szClear; split <;> (try split) <;> (try split) <;> omega
  have b1 : inB (szReg many H i).blocks 4 512 = true := inB_of (by simp only [szReg]; omega) (by simp only [szReg]; omega)
  have b2 : inB (szReg many H i).nodes 4 128 = true := inB_of (by simp only [szReg]; omega) (by simp only [szReg]; omega)
  have b3 : decide ((szReg many H i).nodes % 2 = 0) = true := decide_eq_true (by show (8 + 2 * (((H.getD (5 * i + 1) 0).toNat : Int) % 12)) % 2 = 0; omega)
  have b4 : inB (szReg many H i).frames 1 256 = true := inB_of (by simp only [szReg]; omega) (by simp only [szReg]; omega)
  have b5 : inB (szReg many H i).procs 1 16 = true := inB_of (by simp only [szReg]; omega) (by simp only [szReg]; omega)
  have b6 : inB (szReg many H i).opens 1 32 = true := inB_of (by simp only [szReg]; omega) (by simp only [szReg]; omega)
  have b7 : inB (szReg many H i).clear 0 ((many : Int) - 1) = true := inB_of (by simp only [szReg]; omega) (by simp only [szReg]; omega)
  rw [rightB, soundB, hl, b1, b2, b3, b4, b5, b6, b7]
  rfl
theorem addE_zero {old : List RegV} {r : RegV} {many : Int} (h1 : nameB r.name = true) (h2 : rightB r many = true) (h3 : r.name ∉ old.map (·.name)) (h4 : (r.lev, r.cats) ∉ old.map (fun x => (x.lev, x.cats))) : addE old r many = 0 := by
  unfold addE
  rw [if_neg (by simp [h1]), if_neg (by simp [h2]), if_neg h3, if_neg h4]
theorem sz_apart {i j : Nat} (hi : i < 5) (hj : j < i) : szName i ≠ szName j ∧ (szLev i, szCat i) ≠ (szLev j, szCat j) := by
  have : ∀ i : Fin 5, ∀ j : Fin 5, j.val < i.val → szName i.val ≠ szName j.val ∧ (szLev i.val, szCat i.val) ≠ (szLev j.val, szCat j.val) := by decide +kernel
  exact this ⟨i, hi⟩ ⟨j, by omega⟩ hj
theorem sz_adds (many : Nat) (H : List UInt8) (h2 : 2 ≤ many) (h5 : many ≤ 5) : ∀ (d k : Nat), k + d = many → addsE ((List.range k).map (szReg many H)) ((List.range' k d).map (szReg many H)) many = 0
  | 0, k, _ => by simp [addsE]
  | d + 1, k, hk => by
    rw [List.range'_succ, List.map_cons, addsE]
    have e : addE ((List.range k).map (szReg many H)) (szReg many H k) many = 0 := by
      refine addE_zero (sz_name k) (sz_right many H k (by omega) h2) ?_ ?_
      · simp only [List.map_map, List.mem_map, List.mem_range, Function.comp, not_exists, not_and]
        exact fun j hj e => (sz_apart (by omega) hj).1 e.symm
      · simp only [List.map_map, List.mem_map, List.mem_range, Function.comp, not_exists, not_and]
        exact fun j hj e => (sz_apart (by omega) hj).2 e.symm
    rw [if_pos e]
    have := sz_adds many H h2 h5 d (k + 1) (by omega)
    rw [List.range_succ, List.map_append] at this
    exact this
theorem szMany_ge (m : UInt8) : 2 ≤ szMany m := by unfold szMany; omega
theorem szMany_le (m : UInt8) : szMany m ≤ 5 := by unfold szMany; omega
theorem szRegs_length (m : UInt8) (H : List UInt8) : (szRegs m H).length = szMany m := by simp [szRegs]
theorem szRegs_get (m : UInt8) (H : List UInt8) {i : Nat} (h : i < szMany m) : (szRegs m H)[i]? = some (szReg (szMany m) H i) := by
  simp [szRegs, List.getElem?_map, List.getElem?_range h]
theorem sz_leq {many i : Nat} (h2 : 2 ≤ many) (h5 : many ≤ 5) (hi : i < many) : lleB (szLev i) (szCat i) (szLev (szClear many i)) (szCat (szClear many i)) = true := by
  have : ∀ many : Fin 6, ∀ i : Fin 5, 2 ≤ many.val → i.val < many.val → lleB (szLev i.val) (szCat i.val) (szLev (szClear many.val i.val)) (szCat (szClear many.val i.val)) = true := by decide +kernel
  exact this ⟨many, by omega⟩ ⟨i, by omega⟩ h2 hi
theorem sz_clear_lt {many i : Nat} (h2 : 2 ≤ many) (hi : i < many) : szClear many i < many := by unfold szClear; split <;> (try split) <;> (try split) <;> omega
theorem reg_at (l : List RegV) (i : Nat) : regAt l (i : Int) = l[i]? := by simp [regAt]
theorem clearsE_zero {l : List RegV} : ∀ {k : Nat} {rest : List RegV}, (∀ j r, rest[j]? = some r → leqAt l ((k + j : Nat) : Int) r.clear = true) → clearsE l k rest = 0
  | _, [], _ => rfl
  | k, r :: rest, h => by
    have h0 := h 0 r rfl
    simp only [Nat.add_zero] at h0
    rw [clearsE, if_pos h0]
    exact clearsE_zero fun j x hx => by
      have := h (j + 1) x (by simpa using hx)
      rw [show k + 1 + j = k + (j + 1) from by omega]
      exact this
theorem marksE_zero {l : List RegV} : ∀ {ms old : List MarkV}, (∀ m ∈ ms, markB l m = true) → (old ++ ms).Nodup → marksE l old ms = 0
  | [], _, _, _ => rfl
  | m :: rest, old, h, hn => by
    have hm : m ∉ old := fun hc => by
      rw [List.nodup_append] at hn
      exact hn.2.2 m hc m (by simp) rfl
    rw [marksE, if_neg (by simp [h m (by simp)]), if_neg hm]
    exact marksE_zero (fun x hx => h x (by simp [hx])) (by simpa using hn)
theorem sz_ok (m : UInt8) (H : List UInt8) (ms : List MarkV) (h1 : ∀ x ∈ ms, x.1.toNat < szMany m ∧ 1 ≤ x.2.toNat ∧ x.2.toNat ≤ 8) (hn : ms.Nodup) : newE (szRegs m H) ms = 0 := by
  have h2 := szMany_ge m
  have h5 := szMany_le m
  have hl := szRegs_length m H
  have ha : addsE [] (szRegs m H) ((szRegs m H).length : Int) = 0 := by
    rw [hl, szRegs, List.range_eq_range']
    exact sz_adds (szMany m) H h2 h5 (szMany m) 0 (by omega)
  have hc : clearsE (szRegs m H) 0 (szRegs m H) = 0 := clearsE_zero fun j r hr => by
    have hj : j < szMany m := by rw [← hl]; exact (List.getElem?_eq_some_iff.1 hr).1
    rw [szRegs_get m H hj] at hr
    injection hr with hr
    subst hr
    have hk := sz_clear_lt h2 hj
    have e1 : regAt (szRegs m H) ((0 + j : Nat) : Int) = some (szReg (szMany m) H j) := by rw [Nat.zero_add, reg_at]; exact szRegs_get m H hj
    have e2 : regAt (szRegs m H) (szReg (szMany m) H j).clear = some (szReg (szMany m) H (szClear (szMany m) j)) := by
      show regAt (szRegs m H) ((szClear (szMany m) j : Nat) : Int) = _
      rw [reg_at]
      exact szRegs_get m H hk
    simp only [leqAt, e1, e2]
    exact sz_leq h2 h5 hj
  have hm : marksE (szRegs m H) [] ms = 0 := marksE_zero (fun x hx => by
    obtain ⟨q1, q2, q3⟩ := h1 x hx
    simp only [markB, szRegs_get m H q1, szReg, Bool.and_eq_true, decide_eq_true_eq]
    omega) (by simpa using hn)
  have h0 := szRegs_get m H (i := 0) (by omega)
  generalize szRegs m H = R at hl ha hc hm h0 ⊢
  cases R with
  | nil => simp at hl; omega
  | cons r rest =>
    simp only [List.getElem?_cons_zero, Option.some.injEq] at h0
    simp only [newE]
    rw [if_neg (by omega), if_neg (fun h => h ha), if_neg (by rw [h0]; simp [szReg, szLev, szCat]), if_neg (fun h => h hc), hm]

end Go.Proofs.Ytoeejeieplhifaa

/- DirMany: many entries, dropped from the end, or from the beginning: a directory is no longer than its last one: for every input the law returns true, and its arguments read as they did. -/
import Derived.Test.YthmkgohfeahdhaaGreatMD1
import Derived.Test.YthmkgohfeahdhaaGreatMD2
import Derived.Test.YthmkgohfeahdhaaGreatMD3
import Derived.Test.YthmkgohfeahdhaaGreatMD4
import Derived.Test.YthmkgohfeahdhaaGreatMD5
import Derived.Test.YthmkgohfeahdhaaGreatMD6
import Derived.Test.YthmkgohfeahdhaaGreatMD7
import Derived.Test.YthmkgohfeahdhaaGreatMD8
import Derived.Test.YthmkgohfeahdhaaGreatMD9
import Derived.Test.YthmkgohfeahdhaaGreatMD10
import Derived.Test.YthmkgohfeahdhaaGreatRows
import Derived.WalkKit
import Derived.ProofKit
import Derived.OpenShut
import Derived.ShutString
import Derived.ChangeOld
import Derived.Below
import Derived.Lib.SmallJoins
namespace Go.Proofs.YthmkgohfeahdhaaGreat
open Go.RowKit
set_option linter.unusedSimpArgs false
set_option linter.unusedVariables false

section
variable {P : Program} {ops : Array Oper} {Q : Exit → Act → World → Prop} {a : Act} {w : World} {rest : List Oper}
theorem at_conv (t1 t2 : TypeId) (x : Operand) {d : Option Tmp} {k : TypeId} {p : String} {f : Array Edge} {g : Option (Nat × Bool)} (h : wpList P ops Q (⟨d, .convert t1 t2 x, k, p, f, g⟩ :: rest) a w) : wpList P ops Q (⟨d, .convert t1 t2 x, k, p, f, g⟩ :: rest) a w := h
end
def manyN (i : Nat) : ByteArray := ⟨#[UInt8.ofNat (97 + i % 26), UInt8.ofNat (97 + i / 26)]⟩
def entM (i : Nat) : EntV := ⟨manyN i, UInt16.ofNat (i + 4)⟩
def manyL (k : Nat) : List EntV := (List.range k).map entM
theorem manyN_list (i : Nat) : (manyN i).data.toList = [UInt8.ofNat (97 + i % 26), UInt8.ofNat (97 + i / 26)] := rfl
theorem manyN_err (i : Nat) (h : i < 100) : nameErr (manyN i).data.toList = 0 := by
  rw [manyN_list]
  have h1 : i % 26 < 26 := Nat.mod_lt _ (by omega)
  have h2 : i / 26 < 4 := by omega
  generalize i % 26 = a at *
  generalize i / 26 = b at *
  clear h
  revert a b
  decide +kernel
theorem manyN_inj {i j : Nat} (hi : i < 100) (hj : j < 100) (h : manyN i = manyN j) : i = j := by
  have h0 : (manyN i).data.toList = (manyN j).data.toList := by rw [h]
  rw [manyN_list, manyN_list] at h0
  simp only [List.cons.injEq, and_true] at h0
  have h1 := congrArg UInt8.toNat h0.1
  have h2 := congrArg UInt8.toNat h0.2
  simp only [UInt8.toNat_ofNat'] at h1 h2
  omega
theorem entM_num (i : Nat) (h : i < 100) : (entM i).num.toNat = i + 4 := by
  show (UInt16.ofNat (i + 4)).toNat = i + 4
  rw [UInt16.toNat_ofNat', Nat.mod_eq_of_lt (by omega)]
theorem entM_ne (i : Nat) (h : i < 100) : (entM i).num ≠ 0 := fun h0 => by
  have := entM_num i h
  rw [h0] at this
  have h1 : (0 : UInt16).toNat = 0 := rfl
  omega
theorem manyL_len (k : Nat) : (manyL k).length = k := by simp [manyL]
theorem manyL_get {k j : Nat} (h : j < k) : (manyL k)[j]? = some (entM j) := by
  simp [manyL, h]
theorem manyL_next (k : Nat) : manyL (k + 1) = manyL k ++ [entM k] := by simp [manyL, List.range_succ]
theorem manyL_no {k : Nat} (h : k < 100) : ∀ e ∈ manyL k, named (manyN k) e = false := fun e he => by
  obtain ⟨j, hj, rfl⟩ := List.mem_map.1 he
  have hjk := List.mem_range.1 hj
  unfold named
  rw [decide_eq_false_iff_not]
  rintro ⟨-, h2⟩
  have := manyN_inj (by omega) h h2
  omega
theorem manyL_add {k : Nat} (h : k < 100) : addAt (manyL k) = k ∧ addL (manyL k) (entM k) = manyL (k + 1) := by
  have h1 : addAt (manyL k) = k := by
    refine addAt_eq (fun i hi e he => ?_) (.inl (manyL_len k).symm)
    rw [manyL_get hi] at he
    cases he
    exact entM_ne i (by omega)
  refine ⟨h1, ?_⟩
  unfold addL
  rw [h1, manyL_len, if_neg (by omega), manyL_next]
/-- the places, the first ones being empty -/
def fwdL (m i : Nat) : List EntV := if i < m then (List.range m).map fun j => if j < i then EntV.zero else entM j else []
def stL (back : Bool) (m i : Nat) : List EntV := if back then manyL (m - i) else fwdL m i
def stK (back : Bool) (m i : Nat) : Nat := if back then m - 1 - i else i
theorem fwdL_get {m i j : Nat} (hi : i < m) (hj : j < m) : (fwdL m i)[j]? = some (if j < i then EntV.zero else entM j) := by
  unfold fwdL
  rw [if_pos hi]
  simp [hj]
theorem fwdL_len {m i : Nat} (hi : i < m) : (fwdL m i).length = m := by
  unfold fwdL
  rw [if_pos hi]
  simp
theorem stL_start (back : Bool) (m : Nat) : stL back m 0 = manyL m := by
  unfold stL
  cases back
  · show fwdL m 0 = manyL m
    unfold fwdL
    split
    · simp [manyL]
    · have : m = 0 := by omega
      subst this
      rfl
  · simp
theorem trimN_zero {l : List EntV} : ∀ k, (∀ j, j < k → ∃ e, l[j]? = some e ∧ e.num = 0) → trimN l k = 0
  | 0, _ => rfl
  | k + 1, h => by
    obtain ⟨e, he, h0⟩ := h k (by omega)
    rw [trimN_step he h0]
    exact trimN_zero k fun j hj => h j (by omega)
theorem named_entM {i : Nat} (h : i < 100) : named (manyN i) (entM i) = true := by
  unfold named
  rw [decide_eq_true_eq]
  exact ⟨entM_ne i h, rfl⟩
theorem not_named {i j : Nat} (hi : i < 100) (hj : j < 100) (h : i ≠ j) : named (manyN i) (entM j) = false := by
  unfold named
  rw [decide_eq_false_iff_not]
  rintro ⟨-, h2⟩
  exact h (manyN_inj hi hj h2.symm)
/-- what is dropped is there -/
theorem st_at {back : Bool} {m i : Nat} (hi : i < m) (hm : m ≤ 100) : (stL back m i)[stK back m i]? = some (entM (stK back m i)) ∧ (∀ j, j < stK back m i → ∀ x, (stL back m i)[j]? = some x → named (manyN (stK back m i)) x = false) ∧ stK back m i < 100 := by
  cases back
  · refine ⟨?_, fun j hj x hx => ?_, by show i < 100; omega⟩
    · show (fwdL m i)[i]? = some (entM i)
      rw [fwdL_get hi hi, if_neg (by omega)]
    · have hj : j < i := hj
      have hx : (fwdL m i)[j]? = some x := hx
      rw [fwdL_get hi (by omega), if_pos hj] at hx
      cases hx
      rfl
  · refine ⟨?_, fun j hj x hx => ?_, by show m - 1 - i < 100; omega⟩
    · show (manyL (m - i))[m - 1 - i]? = some (entM (m - 1 - i))
      exact manyL_get (by omega)
    · have hj : j < m - 1 - i := hj
      have hx : (manyL (m - i))[j]? = some x := hx
      rw [manyL_get (by omega)] at hx
      cases hx
      exact not_named (show m - 1 - i < 100 by omega) (by omega) (by omega)
theorem st_drop {back : Bool} {m i : Nat} (hi : i < m) (hm : m ≤ 100) : dropL (stL back m i) (stK back m i) = stL back m (i + 1) := by
  cases back
  · show dropL (fwdL m i) i = fwdL m (i + 1)
    have hget : ∀ j, j < m → ((fwdL m i).set i EntV.zero)[j]? = some (if j < i + 1 then EntV.zero else entM j) := fun j hj => by
      by_cases h : j = i
      · subst h
        rw [List.getElem?_set_self (by rw [fwdL_len hi]; exact hj), if_pos (by omega)]
      · rw [List.getElem?_set_ne (fun e => h e.symm), fwdL_get hi hj]
        by_cases h2 : j < i
        · rw [if_pos h2, if_pos (by omega)]
        · rw [if_neg h2, if_neg (by omega)]
    unfold dropL dropEnd
    rw [fwdL_len hi]
    by_cases hl : i + 1 < m
    · have h1 : trimN ((fwdL m i).set i EntV.zero) m = m := by
        obtain ⟨p, rfl⟩ : ∃ p, m = p + 1 := ⟨m - 1, by omega⟩
        exact trimN_stop (hget p (by omega)) (by rw [if_neg (by omega)]; exact entM_ne p (by omega))
      rw [h1, if_neg (by omega)]
      apply List.ext_getElem?
      intro j
      by_cases hj : j < m
      · rw [hget j hj, fwdL_get hl hj]
      · rw [List.getElem?_eq_none (by rw [List.length_set, fwdL_len hi]; omega), List.getElem?_eq_none (by rw [fwdL_len hl]; omega)]
    · have h1 : trimN ((fwdL m i).set i EntV.zero) m = 0 := trimN_zero m fun j hj => ⟨_, hget j hj, by rw [if_pos (by omega)]; rfl⟩
      rw [h1, if_pos (Nat.zero_le _), List.take_zero]
      unfold fwdL
      rw [if_neg hl]
  · show dropL (manyL (m - i)) (m - 1 - i) = manyL (m - (i + 1))
    obtain ⟨p, hp⟩ : ∃ p, m - i = p + 1 := ⟨m - i - 1, by omega⟩
    rw [hp, show m - 1 - i = p from by omega, show m - (i + 1) = p from by omega]
    have hz : ((manyL (p + 1)).set p EntV.zero)[p]? = some EntV.zero := List.getElem?_set_self (by rw [manyL_len]; omega)
    have h1 : dropEnd (manyL (p + 1)) p = p := by
      unfold dropEnd
      rw [manyL_len, trimN_step hz rfl]
      cases p with
      | zero => rfl
      | succ q =>
        refine trimN_stop (e := entM q) ?_ (entM_ne q (by omega))
        rw [List.getElem?_set_ne (by omega)]
        exact manyL_get (by omega)
    unfold dropL
    rw [h1, if_pos (Nat.le_refl _), manyL_next, List.take_left' (manyL_len p)]
theorem st_len {back : Bool} {m i : Nat} (hi : i < m) : (stL back m (i + 1)).length = if back then m - 1 - i else if 0 < m - 1 - i then m else 0 := by
  cases back
  · show (fwdL m (i + 1)).length = if 0 < m - 1 - i then m else 0
    by_cases h : i + 1 < m
    · rw [fwdL_len h, if_pos (by omega)]
    · rw [if_neg (by omega)]
      unfold fwdL
      rw [if_neg h]
      rfl
  · show (manyL (m - (i + 1))).length = m - 1 - i
    rw [manyL_len]; omega
theorem live_manyL {k : Nat} (h : k ≤ 100) : live (manyL k) = manyL k := by
  unfold live
  rw [List.filter_eq_self]
  intro e he
  obtain ⟨j, hj, rfl⟩ := List.mem_map.1 he
  have := List.mem_range.1 hj
  simpa using entM_ne j (by omega)
/-- what is looked for is listed -/
theorem st_live {back : Bool} {m i : Nat} (hi : i < m) (hm : m ≤ 100) : ∃ K' : Nat, (live (stL back m i))[K']? = some (entM (stK back m i)) ∧ (∀ j, j < K' → ∀ x : EntV, (live (stL back m i))[j]? = some x → x.name ≠ manyN (stK back m i)) ∧ (live (stL back m i)).length ≤ 1024 := by
  have hlen : (stL back m i).length ≤ 100 := by
    cases back
    · show (fwdL m i).length ≤ 100
      rw [fwdL_len hi]; exact hm
    · show (manyL (m - i)).length ≤ 100
      rw [manyL_len]; omega
  have hll : (live (stL back m i)).length ≤ 1024 := by
    have := List.length_filter_le (fun e : EntV => decide (e.num ≠ 0)) (stL back m i)
    unfold live
    omega
  cases back
  · refine ⟨0, ?_, fun j hj => absurd hj (Nat.not_lt_zero _), hll⟩
    show (live (fwdL m i))[0]? = some (entM i)
    have e : fwdL m i = List.replicate i EntV.zero ++ (List.range (m - i)).map fun j => entM (i + j) := by
      apply List.ext_getElem?
      intro j
      by_cases hj : j < m
      · rw [fwdL_get hi hj]
        by_cases h2 : j < i
        · rw [if_pos h2, List.getElem?_append_left (by simpa using h2)]
          simp [h2]
        · rw [if_neg h2, List.getElem?_append_right (by simp; omega)]
          simp
          rw [List.getElem?_range (by omega)]
          simp
          congr 1
          omega
      · rw [List.getElem?_eq_none (by rw [fwdL_len hi]; omega), List.getElem?_eq_none (by simp; omega)]
    rw [e]
    unfold live
    rw [List.filter_append, List.filter_eq_nil_iff.2 (by intro x hx; rw [List.eq_of_mem_replicate hx]; decide), List.nil_append]
    obtain ⟨p, hp⟩ : ∃ p, m - i = p + 1 := ⟨m - i - 1, by omega⟩
    rw [hp, List.range_succ_eq_map, List.map_cons, List.filter_cons, if_pos (by simpa using entM_ne i (by omega))]
    rfl
  · have e : live (stL true m i) = manyL (m - i) := live_manyL (by omega)
    rw [e] at hll ⊢
    refine ⟨m - 1 - i, manyL_get (by omega), fun j hj x hx => ?_, hll⟩
    rw [manyL_get (by omega)] at hx
    cases hx
    intro h2
    have := manyN_inj (by omega) (show m - 1 - i < 100 by omega) h2
    omega
set_option maxRecDepth 100000 in
set_option maxHeartbeats 1000000 in
theorem manyname_ok (w : World) (k : Nat) (hk : k < 100) :
    Calls Tryz.prog 52 #[.int .i64 (k : Int)] w fun e w' => e = .returned (.string (manyN k)) ∧ Below w.heap.size w w' := by
  have m1 : ((k : Int)).tmod 26 = ((k % 26 : Nat) : Int) := by rw [Int.tmod_eq_emod_of_nonneg (by omega)]; rfl
  have m2 : ((k : Int)).tdiv 26 = ((k / 26 : Nat) : Int) := by rw [Int.tdiv_eq_ediv_of_nonneg (by omega)]; rfl
  obtain ⟨a, ha⟩ : ∃ a, k % 26 = a := ⟨_, rfl⟩
  obtain ⟨b, hb⟩ : ∃ b, k / 26 = b := ⟨_, rfl⟩
  rw [ha] at m1
  rw [hb] at m2
  have c1 : IntKind.u8.wrap (a : Int) = (a : Int) := by rw [IntKind.wrap_u8]; omega
  have c2 : IntKind.u8.wrap (b : Int) = (b : Int) := by rw [IntKind.wrap_u8]; omega
  obtain ⟨x, hx⟩ : ∃ x : UInt8, x = UInt8.ofNat (97 + a) := ⟨_, rfl⟩
  obtain ⟨y, hy⟩ : ∃ y : UInt8, y = UInt8.ofNat (97 + b) := ⟨_, rfl⟩
  have d1 : IntKind.u8.wrap (97 + (a : Int)) = (x.toNat : Int) := by rw [hx, UInt8.toNat_ofNat', IntKind.wrap_u8]; omega
  have d2 : IntKind.u8.wrap (97 + (b : Int)) = (y.toNat : Int) := by rw [hy, UInt8.toNat_ofNat', IntKind.wrap_u8]; omega
  have hn : manyN k = ⟨#[x, y]⟩ := by unfold manyN; rw [ha, hb, hx, hy]
  have d3 : IntKind.i64.wrap (b : Int) = (b : Int) := IntWalk.i64_in _ (by omega)
  have HN := hide hn
  clear hn ha hb hx hy
  have hrd : Rd (w.alloc (.cells #[.int .u8 (x.toNat : Int), .int .u8 (y.toNat : Int)] 5)) (w.alloc (.cells #[.int .u8 (x.toNat : Int), .int .u8 (y.toNat : Int)] 5)).heap.size 1 (some ⟨w.heap.size, 0, none⟩) 2 (bvs [x, y]) := Rd.of_bytes (t := 5) (Blk.new w _ _) rfl
  have HRD := hide hrd
  clear hrd
  go_enter Tryz.func52, Tryz.ntmps52
  go_wp2_with (first | ((with_reducible refine at_conv 24 9 (.tmp 11) ?_); refine wpList_run rfl _ (exec_str 24 9 5 (.tmp 11) rfl (some ⟨w.heap.size, 0, none⟩) 2 2 [x, y] _ (by rfl) Tryz.underlying24 Tryz.underlying5 Tryz.underlying9 HRD.out) ?_) | fail)
  go_returns
  exact ⟨by rw [HN.out]; rfl, (Below.refl _ _).alloc (Nat.le_refl _) _⟩
end Go.Proofs.YthmkgohfeahdhaaGreat
namespace Go.Proofs.YthmkgohfeahdhaaGreat
open Go.RowKit
set_option linter.unusedSimpArgs false
set_option linter.unusedVariables false

theorem nkeys_many {k : Nat} (h : k ≤ 100) : nkeys (blks (16 * k)) ≤ 26 := by
  have h1 : blks (16 * k) ≤ 25 := by unfold blks; omega
  have h2 := nkeys_mono h1
  have h3 : nkeys 25 = 26 := rfl
  omega
set_option maxRecDepth 100000 in
set_option maxHeartbeats 8000000 in
theorem dmany_all (w : World) (n0b : Nat) (back : Bool) (hnb : n0b < 256) :
    Calls Tryz.prog 8 #[.int .u8 (n0b : Int), .bool back] w fun e w' => e = .returned (.bool true) ∧ Below w.heap.size w w' := by
  obtain ⟨M, hM⟩ : ∃ M : Nat, n0b % 100 = M := ⟨_, rfl⟩
  have mm : ((n0b : Int)).tmod 100 = (M : Int) := by rw [Int.tmod_eq_emod_of_nonneg (by omega)]; omega
  have mw : IntKind.i64.wrap (M : Int) = (M : Int) := IntWalk.i64_in _ (by omega)
  have HM := hide (show M < 100 by omega)
  clear hM hnb
  have HBT := hide (show ∀ W, (Instr.build 26 #[(1, .agg #[.int .u8 59, .int .u8 0, .int .u8 0, .int .u8 0, .int .u8 0, .int .u8 10, .int .u8 0, .int .u8 0, .int .u8 0, .int .u8 0, .int .u8 0, .int .u8 0, .int .u8 0, .int .u8 0, .int .u8 0, .int .u8 0, .int .u8 0, .int .u8 0, .int .u8 0, .int .u8 0, .int .u8 0, .int .u8 0, .int .u8 0, .int .u8 0, .int .u8 0])]).run Tryz.prog W = .ok (.agg (szCells 0 (twoH 59) none 0 0)) W from fun W => build_two W 59)
  go_enter Tryz.func8, Tryz.ntmps8
  go_wp2_with fail
  refine (awake9_ok w).mono ?_
  rintro e w1 ⟨rfl, hb1⟩
  have HB1 := hide hb1
  clear hb1
  go_wp2_with (first | ((with_reducible refine at_build 22 #[(0, .const (.int .u8 59))] ?_); refine wpList_run rfl _ (exec_build 22 #[(0, .const (.int .u8 59))] rfl #[(0, .int .u8 59)] (by simp only [List.map_toArray, List.map_cons, List.map_nil]; rfl) _ (build_five _ _)) ?_) | ((with_reducible refine at_build 22 #[(0, .const (.int .u8 10))] ?_); refine wpList_run rfl _ (exec_build 22 #[(0, .const (.int .u8 10))] rfl #[(0, .int .u8 10)] (by simp only [List.map_toArray, List.map_cons, List.map_nil]; rfl) _ (build_five _ _)) ?_) | ((with_reducible refine at_build 23 #[(0, .tmp 27), (1, .tmp 28)] ?_); refine wpList_run rfl _ (exec_build 23 #[(0, .tmp 27), (1, .tmp 28)] rfl #[(0, .agg #[.int .u8 59, .int .u8 0, .int .u8 0, .int .u8 0, .int .u8 0]), (1, .agg #[.int .u8 10, .int .u8 0, .int .u8 0, .int .u8 0, .int .u8 0])] (by simp only [List.map_toArray, List.map_cons, List.map_nil]; rfl) _ (build_fives _ _ _)) ?_) | ((with_reducible refine at_build 26 #[(1, .tmp 29)] ?_); refine wpList_run rfl _ (exec_build 26 #[(1, .tmp 29)] rfl #[(1, .agg #[.int .u8 59, .int .u8 0, .int .u8 0, .int .u8 0, .int .u8 0, .int .u8 10, .int .u8 0, .int .u8 0, .int .u8 0, .int .u8 0, .int .u8 0, .int .u8 0, .int .u8 0, .int .u8 0, .int .u8 0, .int .u8 0, .int .u8 0, .int .u8 0, .int .u8 0, .int .u8 0, .int .u8 0, .int .u8 0, .int .u8 0, .int .u8 0, .int .u8 0])] (by simp only [List.map_toArray, List.map_cons, List.map_nil]; rfl) _ (HBT.out _)) ?_) | fail)
  refine (two_conf w1 59).mono ?_
  rintro e w2 ⟨cc, K, tb, nb, lb, B1, B2, B3, d1, d2, d3, rfl, hb2, hin⟩
  have hb12 : Below w.heap.size w w2 := HB1.out.trans (hb2.mono HB1.out.size)
  obtain ⟨n0, hF⟩ := cf_facts hin.ok (by rw [two_len]; omega)
  obtain ⟨v, u, hv, hu, hval, hgo, hub, hun⟩ := two_geo hF two59
  have hfr := fresh_all (w := w2) hin hF (by rw [two_len]; omega)
  have HC := hide (And.intro hin (And.intro hv (And.intro hu (And.intro hval hb12))))
  have HGO := hide (And.intro hgo (And.intro hub hun))
  have HFR := hide hfr
  have HN := hide (And.intro hF.ge hF.le)
  clear hin hv hu hval hgo hub hun hfr hb12 hF hb2 HBT HB1
  go_wp2_with fail
  refine HFR.out.mono ?_
  rintro e w3 ⟨i, D, rfl, hx, hDn, hall, hown, hll, hb3⟩
  have his := hall 0 v HC.out.2.1
  rw [HC.out.2.2.1] at his
  have HL3 := hide hx.log
  have HDR := hide (show i.dd < w3.heap.size ∧ i.rr < w3.heap.size ∧ w2.heap.size ≤ i.dd ∧ w2.heap.size ≤ i.rr from ⟨hx.log.disk.dlt, hx.log.disk.row.lt, hown _ (.inr (.inr (.inl rfl))), hown _ (.inr (.inr (.inr rfl)))⟩)
  have HB23 := hide hb3
  have HI3 : Hid (D.length = n0 ∧ Sto.Is ⟨D, [], 0⟩ u GS.fresh ∧ GS.fresh.Ok) := hide ⟨hDn, his, GS.fresh_ok⟩
  have hop := fun (W : World) (hW : Below w2.heap.size w2 W) (tt : Nat) => gopen_yes (tt := tt) (HC.out.1.below hW) HC.out.2.1 (by rw [HC.out.2.2.1]; exact HC.out.2.2.2.1)
  rw [HC.out.2.2.1, show ((0 : Nat) : Int) = 0 from rfl] at hop
  have HOP := hide hop
  have HD3 := hide (show DirN GS.fresh u 1 (manyL 0) fun _ => 0 from fresh_dir u _)
  clear hb3 hx hown his hall hll hDn HFR hop
  go_upto_block 0 with (fail)
  go_cut [11, 12, 13, 14] from 42 to 68 (fun x11 x12 x13 x14 wc => ∃ (Dk : List BlkV) (G : GS) (κ : Nat → Nat), Hid (Tch w3.heap.size (fun x => x = i.dd ∨ x = i.rr) w3 wc) ∧ Hid (LogAt wc i.ll i.dd i.rr Dk) ∧ Hid (Dk.length = n0 ∧ Sto.Is ⟨Dk, [], 0⟩ u G ∧ G.Ok) ∧ Hid (DirN G u 1 (manyL M) κ))
  case first =>
    go_wp2_with fail
    go_loopg [11, 12, 13, 14, 42] M (fun gh x11 x12 x13 x14 x42 wr => ∃ (k : Nat) (Dk : List BlkV) (G : GS) (κ : Nat → Nat), k ≤ M ∧ gh = M - k ∧ x42 = .int .i64 (k : Int) ∧ Hid (Tch w3.heap.size (fun x => x = i.dd ∨ x = i.rr) w3 wr) ∧ Hid (LogAt wr i.ll i.dd i.rr Dk) ∧ Hid (Dk.length = n0 ∧ Sto.Is ⟨Dk, [], 0⟩ u G ∧ G.Ok) ∧ Hid (DirN G u 1 (manyL k) κ) ∧ Hid (G.cnt 67 = nkeys (blks (16 * k))))
    case atStart => exact ⟨0, D, GS.fresh, fun _ => 0, Nat.zero_le _, rfl, rfl, hide (Tch.refl _ _ _), HL3, HI3, HD3, hide (by rw [fresh_cnt]; rfl)⟩
    case round =>
      clear HL3 HI3 HD3
      obtain ⟨k, Dk, G, κ, hk, hgh, rfl, HT, HL, HI, HD, HCN⟩ := hrel
      have HGH := hide hgh
      clear hgh
      have HD32 := hide (show 32 ≤ Dk.length from by rw [HI.out.1]; exact HN.out.1)
      have HBr : Hid (Below w2.heap.size w2 wr) := hide (HB23.out.trans ((HT.out.mono HB23.out.size (S' := fun _ => False) (fun k hk h => by
        have := HDR.out
        rcases h with h | h <;> omega)).below fun _ _ h => h))
      have hM100 := HM.out
      rcases Nat.lt_or_ge k M with hkl | hkl
      rotate_left
      · have t1 : decide ((k : Int) < (M : Int)) = false := by simp; omega
        have t1' : ¬ (k : Int) < (M : Int) := by omega
        have HDM : Hid (DirN G u 1 (manyL M) κ) := hide (by have h0 := HD.out; rw [show k = M by omega] at h0; exact h0)
        clear hkl hk hM100
        go_wp2
        go_meet
        case rel => exact ⟨Dk, G, κ, HT, HL, HI, HDM⟩
      · have t1 : decide ((k : Int) < (M : Int)) = true := by simp; omega
        have t1' : (k : Int) < (M : Int) := by omega
        have e64 : IntKind.i64.wrap ((k : Int) + 1) = (k : Int) + 1 := IntWalk.i64_in _ (by omega)
        have e4 : IntKind.i64.wrap ((k : Int) + 4) = (k : Int) + 4 := IntWalk.i64_in _ (by omega)
        have hk100 : k < 100 := by omega
        have hev : ((entM k).num.toNat : Int) = (k : Int) + 4 := by rw [entM_num k hk100]; omega
        have e5 : IntKind.u16.wrap ((k : Int) + 4) = (k : Int) + 4 := by rw [IntKind.wrap_u16]; omega
        have HKM := hide (And.intro hk100 (And.intro hkl hev))
        clear hk hkl hM100 hk100 hev
        have hbeg := begin_ok HL.out HD32.out
        have HBEG := hide hbeg
        clear hbeg
        go_wp2_with fail
        refine HBEG.out.mono ?_
        rintro e w11 ⟨tt, mq, rfl, htt, hmq, hxa, hba⟩
        obtain ⟨ii, hii⟩ : ∃ ii : Ids, Ids.mk tt mq i.ll i.dd i.rr = ii := ⟨_, rfl⟩
        have htt' : tt = ii.tt := by rw [← hii]
        rw [hii] at hxa
        subst htt'
        have HXA := hide hxa
        have HBA := hide hba
        have HII := hide (And.intro hii (And.intro htt hmq))
        have HOL := hide (show ∀ k, k < w3.heap.size → ii.own k → k = i.dd ∨ k = i.rr from by
          have h0 := HT.out.size
          rintro k hk (e | e | e | e)
          · omega
          · rw [← hii] at e; simp only at e; omega
          · rw [← hii] at e; exact .inl e
          · rw [← hii] at e; exact .inr e)
        clear hii htt hmq hxa hba HBEG
        go_wp2_with fail
        refine (HOP.out w11 (HBr.out.trans (HBA.out.mono HBr.out.size)) ii.tt).mono ?_
        rintro e w12 ⟨g2, rfl, -, hGb, hbb⟩
        have hug : u.Ok Dk.length := by rw [HI.out.1]; exact HGO.out.1
        have HAB : Hid (GAt w12 ii ⟨Dk, [], 0⟩ g2 u 0 G) := hide ⟨HXA.out.below hbb, hGb, hug, HI.out.2.1, HI.out.2.2⟩
        have HBB := hide (HBA.out.trans (hbb.mono HBA.out.size))
        have HTB : Hid (Tch w3.heap.size (fun x => x = i.dd ∨ x = i.rr) w3 w12) := hide (HT.out.trans ((Tch.of_below HBB.out).mono HT.out.size fun _ _ h => h))
        clear hug hGb hbb HXA HBA

        go_wp2_with fail
        refine (manyname_ok w12 k HKM.out.1).mono ?_
        rintro e w13 ⟨rfl, hb13⟩
        have HA13 := hide (HAB.out.below hb13)
        have HT13 := hide (HTB.out.trans ((Tch.of_below hb13).mono HTB.out.size fun _ _ h => h))
        have hda := dadd_ok (num := 1) (nm := manyN k) (v := (entM k).num) (K0 := []) HA13.out (fun x hx => absurd hx (by simp)) (by simp) (by omega) (by rw [HGO.out.2.2]; omega) (by rw [HGO.out.2.1]; omega) HD.out (manyN_err k HKM.out.1) (entM_ne k HKM.out.1) (manyL_no HKM.out.1) (by rw [(manyL_add HKM.out.1).1]; have := HKM.out.1; omega)
        rw [show (⟨manyN k, (entM k).num⟩ : EntV) = entM k from rfl, (manyL_add HKM.out.1).2, HKM.out.2.2, show ((1 : Nat) : Int) = 1 from rfl] at hda
        have HDA := hide hda
        clear hda hb13 HAB HTB
        go_wp2_with fail
        refine HDA.out.mono ?_
        rintro e w14 (⟨rfl, hful⟩ | ⟨rfl, s', G', κ', T, ha, hst, ht⟩)
        · exfalso
          have h1 := hful.1
          rw [HGO.out.2.1, HCN.out, manyL_len, manyL_len] at h1
          have h2 := nkeys_many (k := k + 1) (by have := HKM.out.1; omega)
          omega
        have hcn : G'.cnt 67 = nkeys (blks (16 * (k + 1))) := by
          have h1 := hst.cnt
          rw [HGO.out.2.1, HCN.out, manyL_len, manyL_len] at h1
          omega
        have hcom := commit_ok ha.tx hst.stay.bad
        have HCOM := hide hcom
        have HA14 := hide ha
        have HST := hide hst
        have HCN' := hide hcn
        have HT14 := hide (HT13.out.trans (ht.mono HT13.out.size HOL.out))
        clear hcom ha hst ht hcn HDA HA13 HT13
        go_wp2_with fail
        refine HCOM.out.mono ?_
        rintro e w15 ⟨lp, rfl, hp, hx15, ht15⟩
        have HT15 := hide (HT14.out.trans (ht15.mono HT14.out.size HOL.out))
        have HL15 : Hid (LogAt w15 i.ll i.dd i.rr (commitD s' lp)) := hide (hx15.log.ids HII.out.1)
        have hun : u.Ok n0 := HGO.out.1
        have HI15 : Hid ((commitD s' lp).length = n0 ∧ Sto.Is ⟨commitD s' lp, [], 0⟩ u G' ∧ G'.Ok) := hide ⟨by rw [commit_len, HST.out.stay.D]; exact HI.out.1, is_commit HA14.out.is hun HA14.out.tx.ok hp, HA14.out.gok⟩
        have HD15 := hide HST.out.dir
        clear hp hx15 ht15 hun HCOM HA14 HT14
        go_wp2_with fail
        go_roundg (M - (k + 1))
        case rel => exact ⟨k + 1, _, G', κ', by have := HKM.out.2.1; omega, rfl, by first | rfl | go_num, HT15, HL15, HI15, HD15, HCN'⟩
        case measure => have := HGH.out; have := HKM.out.2.1; omega
  case rest =>
    clear HL3 HI3 HD3 mm mw D
    obtain ⟨Dk, G, κ, HT, HL, HI, HD⟩ := hcut
    have HD0 : Hid (DirN G u 1 (stL back M 0) κ) := hide (by rw [stL_start]; exact HD.out)
    clear HD
    cases back with
    | false =>
      go_wp2_with fail
      go_loopg [15, 16, 17, 18, 19, 20, 21, 22, 23, 24, 70] M (fun gh x15 x16 x17 x18 x19 x20 x21 x22 x23 x24 x70 wr => ∃ (k : Nat) (Dk : List BlkV) (G : GS) (κ : Nat → Nat), k ≤ M ∧ gh = M - k ∧ x70 = .int .i64 (k : Int) ∧ Hid (Tch w3.heap.size (fun x => x = i.dd ∨ x = i.rr) w3 wr) ∧ Hid (LogAt wr i.ll i.dd i.rr Dk) ∧ Hid (Dk.length = n0 ∧ Sto.Is ⟨Dk, [], 0⟩ u G ∧ G.Ok) ∧ Hid (DirN G u 1 (stL false M k) κ))
      case atStart => exact ⟨0, Dk, G, κ, Nat.zero_le _, rfl, rfl, HT, HL, HI, HD0⟩
      case round =>
        clear HT HL HI HD0 Dk G κ
        obtain ⟨k, Dk, G, κ, hk, hgh, rfl, HT, HL, HI, HD⟩ := hrel
        have HGH := hide hgh
        clear hgh
        have HD32 := hide (show 32 ≤ Dk.length from by rw [HI.out.1]; exact HN.out.1)
        have HBr : Hid (Below w2.heap.size w2 wr) := hide (HB23.out.trans ((HT.out.mono HB23.out.size (S' := fun _ => False) (fun k hk h => by
          have := HDR.out
          rcases h with h | h <;> omega)).below fun _ _ h => h))
        have hM100 := HM.out
        rcases Nat.lt_or_ge k M with hkl | hkl
        rotate_left
        · have t1 : decide ((k : Int) < (M : Int)) = false := by simp; omega
          have t1' : ¬ (k : Int) < (M : Int) := by omega
          clear hkl hk hM100
          go_wp2
          go_returns
          exact ⟨rfl, HC.out.2.2.2.2.trans (HBr.out.mono HC.out.2.2.2.2.size)⟩
        · have t1 : decide ((k : Int) < (M : Int)) = true := by simp; omega
          have t1' : (k : Int) < (M : Int) := by omega
          have hst : stK false M k = k := rfl
          have p1 : IntKind.i64.wrap ((M : Int) - 1) = (M : Int) - 1 := IntWalk.i64_in _ (by omega)
          have hkp : k < 100 := by omega

          obtain ⟨hg1, hg2, -⟩ := st_at (back := false) hkl (by omega)
          obtain ⟨K', hl1, hl2, hl3⟩ := st_live (back := false) hkl (by omega)
          have hdl := st_drop (back := false) hkl (by omega)
          rw [hst] at hg1 hg2 hl1 hl2 hdl
          have e4 : IntKind.i64.wrap ((k : Int) + 4) = (k : Int) + 4 := IntWalk.i64_in _ (by omega)
          have hev : ((entM k).num.toNat : Int) = (k : Int) + 4 := by rw [entM_num k hkp]; omega
          have HG := hide (And.intro hg1 (And.intro hg2 hdl))
          have HLV := hide (And.intro hl1 (And.intro hl2 hl3))
          have HEV := hide hev
          have HKM := hide (And.intro hkp hkl)
    
          clear hg1 hg2 hl1 hl2 hl3 hdl hev hkp hkl hk hM100 hst 
          have hbeg := begin_ok HL.out HD32.out
          have HBEG := hide hbeg
          clear hbeg
          go_wp2_with fail
          refine HBEG.out.mono ?_
          rintro e w11 ⟨tt, mq, rfl, htt, hmq, hxa, hba⟩
          obtain ⟨ii, hii⟩ : ∃ ii : Ids, Ids.mk tt mq i.ll i.dd i.rr = ii := ⟨_, rfl⟩
          have htt' : tt = ii.tt := by rw [← hii]
          rw [hii] at hxa
          subst htt'
          have HXA := hide hxa
          have HBA := hide hba
          have HII := hide (And.intro hii (And.intro htt hmq))
          have HOL := hide (show ∀ k, k < w3.heap.size → ii.own k → k = i.dd ∨ k = i.rr from by
            have h0 := HT.out.size
            rintro k hk (e | e | e | e)
            · omega
            · rw [← hii] at e; simp only at e; omega
            · rw [← hii] at e; exact .inl e
            · rw [← hii] at e; exact .inr e)
          clear hii htt hmq hxa hba HBEG
          go_wp2_with fail
          refine (HOP.out w11 (HBr.out.trans (HBA.out.mono HBr.out.size)) ii.tt).mono ?_
          rintro e w12 ⟨g2, rfl, -, hGb, hbb⟩
          have hug : u.Ok Dk.length := by rw [HI.out.1]; exact HGO.out.1
          have HAB : Hid (GAt w12 ii ⟨Dk, [], 0⟩ g2 u 0 G) := hide ⟨HXA.out.below hbb, hGb, hug, HI.out.2.1, HI.out.2.2⟩
          have HBB := hide (HBA.out.trans (hbb.mono HBA.out.size))
          have HTB : Hid (Tch w3.heap.size (fun x => x = i.dd ∨ x = i.rr) w3 w12) := hide (HT.out.trans ((Tch.of_below HBB.out).mono HT.out.size fun _ _ h => h))
          clear hug hGb hbb HXA HBA

          go_wp2_with fail
          refine (manyname_ok w12 k HKM.out.1).mono ?_
          rintro e w13 ⟨rfl, hb13⟩
          have HA13 := hide (HAB.out.below hb13)
          have HT13 := hide (HTB.out.trans ((Tch.of_below hb13).mono HTB.out.size fun _ _ h => h))
          have hfi := dfind_at (num := 1) (nm := manyN k) HLV.out.1 rfl HA13.out (dlists HD.out (by omega) (by rw [HGO.out.2.2]; omega)) HLV.out.2.2 HLV.out.2.1
          rw [HEV.out, show ((1 : Nat) : Int) = 1 from rfl] at hfi
          have HFI := hide hfi
          clear hfi hb13 HAB HTB
          go_wp2_with fail
          refine HFI.out.mono ?_
          rintro e w14 ⟨rfl, ha14, ht14⟩
          have HA14 := hide ha14
          have HT14 := hide (HT13.out.trans (ht14.mono HT13.out.size HOL.out))
          clear ha14 ht14 HFI HA13 HT13
          go_wp2_with fail
          refine (manyname_ok w14 k HKM.out.1).mono ?_
          rintro e w16 ⟨rfl, hb16⟩
          have HA16 := hide (HA14.out.below hb16)
          have HT16 := hide (HT14.out.trans ((Tch.of_below hb16).mono HT14.out.size fun _ _ h => h))
          have hdr := ddrop_ok (num := 1) (nm := manyN k) (K0 := []) HA16.out (fun x hx => absurd hx (by simp)) (by simp) (by omega) (by rw [HGO.out.2.2]; omega) (by rw [HGO.out.2.1]; omega) HD.out HG.out.1 (named_entM HKM.out.1) HG.out.2.1
          rw [HG.out.2.2, show ((1 : Nat) : Int) = 1 from rfl] at hdr
          have HDR2 := hide hdr
          clear hdr hb16 HA14 HT14
          go_wp2_with fail
          refine HDR2.out.mono ?_
          rintro e w17 ⟨rfl, s', G', κ', T, ha, hst, ht⟩
          have hcom := commit_ok ha.tx hst.stay.bad
          have HCOM := hide hcom
          have HA17 := hide ha
          have HST := hide hst
          have HT17 := hide (HT16.out.trans (ht.mono HT16.out.size HOL.out))
          clear hcom ha hst ht HDR2 HA16 HT16
          go_wp2_with fail
          refine HCOM.out.mono ?_
          rintro e w15 ⟨lp, rfl, hp, hx15, ht15⟩
          have HT15 := hide (HT17.out.trans (ht15.mono HT17.out.size HOL.out))
          have HL15 : Hid (LogAt w15 i.ll i.dd i.rr (commitD s' lp)) := hide (hx15.log.ids HII.out.1)
          have hun : u.Ok n0 := HGO.out.1
          have HI15 : Hid ((commitD s' lp).length = n0 ∧ Sto.Is ⟨commitD s' lp, [], 0⟩ u G' ∧ G'.Ok) := hide ⟨by rw [commit_len, HST.out.stay.D]; exact HI.out.1, is_commit HA17.out.is hun HA17.out.tx.ok hp, HA17.out.gok⟩
          have HD15 := hide HST.out.dir
          have HB15 : Hid (Below w2.heap.size w2 w15) := hide (HB23.out.trans ((HT15.out.mono HB23.out.size (S' := fun _ => False) (fun k hk h => by
            have := HDR.out
            rcases h with h | h <;> omega)).below fun _ _ h => h))
          clear hp hx15 ht15 hun HCOM HA17 HT17 HD32 HII HOL t1 t1' e4
          generalize commitD s' lp = D9 at *
          have HD32 := hide (show 32 ≤ D9.length from by rw [HI15.out.1]; exact HN.out.1)
          have hbeg := begin_ok HL15.out HD32.out
          have HBEG := hide hbeg
          clear hbeg
          go_wp2_with fail
          refine HBEG.out.mono ?_
          rintro e w18 ⟨tt, mq, rfl, htt, hmq, hxa, hba⟩
          obtain ⟨ii, hii⟩ : ∃ ii : Ids, Ids.mk tt mq i.ll i.dd i.rr = ii := ⟨_, rfl⟩
          have htt' : tt = ii.tt := by rw [← hii]
          rw [hii] at hxa
          subst htt'
          have HXA := hide hxa
          have HBA := hide hba
          have HII := hide (And.intro hii (And.intro htt hmq))
          have HOL := hide (show ∀ k, k < w3.heap.size → ii.own k → k = i.dd ∨ k = i.rr from by
            have h0 := HT15.out.size
            rintro k hk (e | e | e | e)
            · omega
            · rw [← hii] at e; simp only at e; omega
            · rw [← hii] at e; exact .inl e
            · rw [← hii] at e; exact .inr e)
          clear hii htt hmq hxa hba HBEG
          go_wp2_with fail
          refine (HOP.out w18 (HB15.out.trans (HBA.out.mono HB15.out.size)) ii.tt).mono ?_
          rintro e w19 ⟨g3, rfl, -, hGb, hbb⟩
          have hug : u.Ok D9.length := by rw [HI15.out.1]; exact HGO.out.1
          have HAB : Hid (GAt w19 ii ⟨D9, [], 0⟩ g3 u 0 G') := hide ⟨HXA.out.below hbb, hGb, hug, HI15.out.2.1, HI15.out.2.2⟩
          have HBB := hide (HBA.out.trans (hbb.mono HBA.out.size))
          have HTB : Hid (Tch w3.heap.size (fun x => x = i.dd ∨ x = i.rr) w3 w19) := hide (HT15.out.trans ((Tch.of_below HBB.out).mono HT15.out.size fun _ _ h => h))
          clear hug hGb hbb HXA HBA

          have hnd := gs_node' (num := 1) HAB.out (by omega) (by rw [HGO.out.2.2]; omega)
          have hdir : (G'.nd 1).dir.length = 6 := HAB.out.gok.dir 1
          obtain ⟨n1, hn1⟩ : ∃ n1, G'.nd 1 = n1 := ⟨_, rfl⟩
          rw [hn1, show ((1 : Nat) : Int) = 1 from rfl] at hnd
          rw [hn1] at hdir
          have HND := hide hnd
          have HN1 := hide hn1
          have HDI := hide hdir
          clear hnd hn1 hdir
          go_wp2_with fail
          refine HND.out.mono ?_
          rintro e w20 ⟨rfl, ha20, ht20⟩
          have HT20' := hide (HTB.out.trans (ht20.mono HTB.out.size HOL.out))
          have HL20' : Hid (LogAt w20 i.ll i.dd i.rr D9) := hide (ha20.tx.log.ids HII.out.1)
          clear ha20 ht20 HND HAB HTB HBB
          go_upto_region 28 with (first | ((with_reducible refine at_alloc 130 ?_); refine wpList_alloc_as rfl 130 rfl _ (zero_node _) ?_) | ((with_reducible refine at_store 130 (.tmp 22) (.tmp 126) ?_); refine wpList_store_blk rfl 130 (.tmp 22) (.tmp 126) rfl w20.heap.size _ _ _ (by rfl) (by rfl) (Blk.new _ _ _) (size_nodeOf HDI.out) (by rw [List.size_toArray, List.size_toArray, NodeV.cells_length HDI.out]; rfl) (NodeV.cells_one _) (fun _ => ?_)) | fail)
          refine at_world (fun W => ∃ q, q = w20.heap.size ∧ Below w20.heap.size w20 W ∧ Blk W q 130 n1.cells.toArray) ⟨_, rfl, below_setRow ((Below.refl _ _).alloc (Nat.le_refl _) _) (Nat.le_refl _) _, (Blk.new _ _ _).setRow_same _⟩ (fun w21 h21 => ?_)
          obtain ⟨nq, hnq, hb21, hQ21⟩ := h21
          rw [← hnq]
          have HT20 := hide (HT20'.out.trans ((Tch.of_below hb21).mono HT20'.out.size fun _ _ h => h))
          have HL20 := hide (HL20'.out.below hb21)
          have c3 := (hQ21.cell 3).trans (node_cells_at n1).2.2.2
          have nl := hQ21.lt
          clear hnq hb21 hQ21 HT20' HL20'
          by_cases hw : 0 < M - 1 - k
          · have hszv : n1.size.toNat = 16 * M := by rw [← HN1.out, HD15.out.size, st_len HKM.out.2, if_neg (by decide), if_pos (by omega)]
            rw [hszv] at c3
            obtain ⟨y, hy⟩ : ∃ y : Nat, 16 * M = y := ⟨_, rfl⟩
            rw [hy] at c3
            have hM100 := HM.out
            have hkM := HKM.out.2
            obtain ⟨q, hq⟩ : ∃ q : Nat, M - 1 - k = q := ⟨_, rfl⟩
            have s1 : IntKind.i64.wrap (y : Int) = (y : Int) := IntWalk.i64_in _ (by omega)
            have s3 : IntKind.i64.wrap (16 * (M : Int)) = (y : Int) := by rw [IntWalk.i64_in _ (by omega)]; omega
            have p1 : IntKind.i64.wrap ((M : Int) - 1) = (M : Int) - 1 := IntWalk.i64_in _ (by omega)
            have p2 : IntKind.i64.wrap ((M : Int) - 1 - (k : Int)) = (q : Int) := by rw [IntWalk.i64_in _ (by omega)]; omega
            have e64 : IntKind.i64.wrap ((k : Int) + 1) = (k : Int) + 1 := IntWalk.i64_in _ (by omega)
            have s4 : decide ((0 : Int) < (q : Int)) = true := by simp; omega
            have s4' : (0 : Int) < (q : Int) := by omega
            clear hszv hy hM100 hkM hq hw
            go_wp2_with fail
            go_roundg (M - (k + 1))
            case rel => exact ⟨k + 1, _, G', κ', by have := HKM.out.2; omega, rfl, by first | rfl | go_num, HT20, HL20, HI15, HD15⟩
            case measure => have := HGH.out; have := HKM.out.2; omega
          · have hszv : n1.size.toNat = 16 * 0 := by rw [← HN1.out, HD15.out.size, st_len HKM.out.2, if_neg (by decide), if_neg (by omega)]
            rw [hszv] at c3
            obtain ⟨y, hy⟩ : ∃ y : Nat, 16 * 0 = y := ⟨_, rfl⟩
            rw [hy] at c3
            have hM100 := HM.out
            have hkM := HKM.out.2
            obtain ⟨q, hq⟩ : ∃ q : Nat, M - 1 - k = q := ⟨_, rfl⟩
            have s1 : IntKind.i64.wrap (y : Int) = (y : Int) := IntWalk.i64_in _ (by omega)
            have s3 : IntKind.i64.wrap (16 * (0 : Int)) = (y : Int) := by rw [IntWalk.i64_in _ (by omega)]; omega
            have p1 : IntKind.i64.wrap ((M : Int) - 1) = (M : Int) - 1 := IntWalk.i64_in _ (by omega)
            have p2 : IntKind.i64.wrap ((M : Int) - 1 - (k : Int)) = (q : Int) := by rw [IntWalk.i64_in _ (by omega)]; omega
            have e64 : IntKind.i64.wrap ((k : Int) + 1) = (k : Int) + 1 := IntWalk.i64_in _ (by omega)
            have hq0 : q = 0 := by omega
            subst hq0
            have s5 : y = 0 := by omega
            subst s5
            clear hszv hy hM100 hkM hq hw
            go_wp2_with fail
            go_roundg (M - (k + 1))
            case rel => exact ⟨k + 1, _, G', κ', by have := HKM.out.2; omega, rfl, by first | rfl | go_num, HT20, HL20, HI15, HD15⟩
            case measure => have := HGH.out; have := HKM.out.2; omega
    | true =>
      go_wp2_with fail
      go_loopg [15, 16, 17, 18, 19, 20, 21, 22, 23, 24, 70] M (fun gh x15 x16 x17 x18 x19 x20 x21 x22 x23 x24 x70 wr => ∃ (k : Nat) (Dk : List BlkV) (G : GS) (κ : Nat → Nat), k ≤ M ∧ gh = M - k ∧ x70 = .int .i64 (k : Int) ∧ Hid (Tch w3.heap.size (fun x => x = i.dd ∨ x = i.rr) w3 wr) ∧ Hid (LogAt wr i.ll i.dd i.rr Dk) ∧ Hid (Dk.length = n0 ∧ Sto.Is ⟨Dk, [], 0⟩ u G ∧ G.Ok) ∧ Hid (DirN G u 1 (stL true M k) κ))
      case atStart => exact ⟨0, Dk, G, κ, Nat.zero_le _, rfl, rfl, HT, HL, HI, HD0⟩
      case round =>
        clear HT HL HI HD0 Dk G κ
        obtain ⟨k, Dk, G, κ, hk, hgh, rfl, HT, HL, HI, HD⟩ := hrel
        have HGH := hide hgh
        clear hgh
        have HD32 := hide (show 32 ≤ Dk.length from by rw [HI.out.1]; exact HN.out.1)
        have HBr : Hid (Below w2.heap.size w2 wr) := hide (HB23.out.trans ((HT.out.mono HB23.out.size (S' := fun _ => False) (fun k hk h => by
          have := HDR.out
          rcases h with h | h <;> omega)).below fun _ _ h => h))
        have hM100 := HM.out
        rcases Nat.lt_or_ge k M with hkl | hkl
        rotate_left
        · have t1 : decide ((k : Int) < (M : Int)) = false := by simp; omega
          have t1' : ¬ (k : Int) < (M : Int) := by omega
          clear hkl hk hM100
          go_wp2
          go_returns
          exact ⟨rfl, HC.out.2.2.2.2.trans (HBr.out.mono HC.out.2.2.2.2.size)⟩
        · have t1 : decide ((k : Int) < (M : Int)) = true := by simp; omega
          have t1' : (k : Int) < (M : Int) := by omega
          obtain ⟨p, hp⟩ : ∃ p : Nat, M - 1 - k = p := ⟨_, rfl⟩
          have hst : stK true M k = p := hp
          have p1 : IntKind.i64.wrap ((M : Int) - 1) = (M : Int) - 1 := IntWalk.i64_in _ (by omega)
          have p2 : IntKind.i64.wrap ((M : Int) - 1 - (k : Int)) = (p : Int) := by rw [IntWalk.i64_in _ (by omega)]; omega
          have hkp : p < 100 := by omega

          obtain ⟨hg1, hg2, -⟩ := st_at (back := true) hkl (by omega)
          obtain ⟨K', hl1, hl2, hl3⟩ := st_live (back := true) hkl (by omega)
          have hdl := st_drop (back := true) hkl (by omega)
          rw [hst] at hg1 hg2 hl1 hl2 hdl
          have e4 : IntKind.i64.wrap ((p : Int) + 4) = (p : Int) + 4 := IntWalk.i64_in _ (by omega)
          have hev : ((entM p).num.toNat : Int) = (p : Int) + 4 := by rw [entM_num p hkp]; omega
          have HG := hide (And.intro hg1 (And.intro hg2 hdl))
          have HLV := hide (And.intro hl1 (And.intro hl2 hl3))
          have HEV := hide hev
          have HKM := hide (And.intro hkp hkl)
          have HP := hide hp
          clear hg1 hg2 hl1 hl2 hl3 hdl hev hkp hkl hk hM100 hst hp
          have hbeg := begin_ok HL.out HD32.out
          have HBEG := hide hbeg
          clear hbeg
          go_wp2_with fail
          refine HBEG.out.mono ?_
          rintro e w11 ⟨tt, mq, rfl, htt, hmq, hxa, hba⟩
          obtain ⟨ii, hii⟩ : ∃ ii : Ids, Ids.mk tt mq i.ll i.dd i.rr = ii := ⟨_, rfl⟩
          have htt' : tt = ii.tt := by rw [← hii]
          rw [hii] at hxa
          subst htt'
          have HXA := hide hxa
          have HBA := hide hba
          have HII := hide (And.intro hii (And.intro htt hmq))
          have HOL := hide (show ∀ k, k < w3.heap.size → ii.own k → k = i.dd ∨ k = i.rr from by
            have h0 := HT.out.size
            rintro k hk (e | e | e | e)
            · omega
            · rw [← hii] at e; simp only at e; omega
            · rw [← hii] at e; exact .inl e
            · rw [← hii] at e; exact .inr e)
          clear hii htt hmq hxa hba HBEG
          go_wp2_with fail
          refine (HOP.out w11 (HBr.out.trans (HBA.out.mono HBr.out.size)) ii.tt).mono ?_
          rintro e w12 ⟨g2, rfl, -, hGb, hbb⟩
          have hug : u.Ok Dk.length := by rw [HI.out.1]; exact HGO.out.1
          have HAB : Hid (GAt w12 ii ⟨Dk, [], 0⟩ g2 u 0 G) := hide ⟨HXA.out.below hbb, hGb, hug, HI.out.2.1, HI.out.2.2⟩
          have HBB := hide (HBA.out.trans (hbb.mono HBA.out.size))
          have HTB : Hid (Tch w3.heap.size (fun x => x = i.dd ∨ x = i.rr) w3 w12) := hide (HT.out.trans ((Tch.of_below HBB.out).mono HT.out.size fun _ _ h => h))
          clear hug hGb hbb HXA HBA

          go_wp2_with fail
          refine (manyname_ok w12 p HKM.out.1).mono ?_
          rintro e w13 ⟨rfl, hb13⟩
          have HA13 := hide (HAB.out.below hb13)
          have HT13 := hide (HTB.out.trans ((Tch.of_below hb13).mono HTB.out.size fun _ _ h => h))
          have hfi := dfind_at (num := 1) (nm := manyN p) HLV.out.1 rfl HA13.out (dlists HD.out (by omega) (by rw [HGO.out.2.2]; omega)) HLV.out.2.2 HLV.out.2.1
          rw [HEV.out, show ((1 : Nat) : Int) = 1 from rfl] at hfi
          have HFI := hide hfi
          clear hfi hb13 HAB HTB
          go_wp2_with fail
          refine HFI.out.mono ?_
          rintro e w14 ⟨rfl, ha14, ht14⟩
          have HA14 := hide ha14
          have HT14 := hide (HT13.out.trans (ht14.mono HT13.out.size HOL.out))
          clear ha14 ht14 HFI HA13 HT13
          go_wp2_with fail
          refine (manyname_ok w14 p HKM.out.1).mono ?_
          rintro e w16 ⟨rfl, hb16⟩
          have HA16 := hide (HA14.out.below hb16)
          have HT16 := hide (HT14.out.trans ((Tch.of_below hb16).mono HT14.out.size fun _ _ h => h))
          have hdr := ddrop_ok (num := 1) (nm := manyN p) (K0 := []) HA16.out (fun x hx => absurd hx (by simp)) (by simp) (by omega) (by rw [HGO.out.2.2]; omega) (by rw [HGO.out.2.1]; omega) HD.out HG.out.1 (named_entM HKM.out.1) HG.out.2.1
          rw [HG.out.2.2, show ((1 : Nat) : Int) = 1 from rfl] at hdr
          have HDR2 := hide hdr
          clear hdr hb16 HA14 HT14
          go_wp2_with fail
          refine HDR2.out.mono ?_
          rintro e w17 ⟨rfl, s', G', κ', T, ha, hst, ht⟩
          have hcom := commit_ok ha.tx hst.stay.bad
          have HCOM := hide hcom
          have HA17 := hide ha
          have HST := hide hst
          have HT17 := hide (HT16.out.trans (ht.mono HT16.out.size HOL.out))
          clear hcom ha hst ht HDR2 HA16 HT16
          go_wp2_with fail
          refine HCOM.out.mono ?_
          rintro e w15 ⟨lp, rfl, hp, hx15, ht15⟩
          have HT15 := hide (HT17.out.trans (ht15.mono HT17.out.size HOL.out))
          have HL15 : Hid (LogAt w15 i.ll i.dd i.rr (commitD s' lp)) := hide (hx15.log.ids HII.out.1)
          have hun : u.Ok n0 := HGO.out.1
          have HI15 : Hid ((commitD s' lp).length = n0 ∧ Sto.Is ⟨commitD s' lp, [], 0⟩ u G' ∧ G'.Ok) := hide ⟨by rw [commit_len, HST.out.stay.D]; exact HI.out.1, is_commit HA17.out.is hun HA17.out.tx.ok hp, HA17.out.gok⟩
          have HD15 := hide HST.out.dir
          have HB15 : Hid (Below w2.heap.size w2 w15) := hide (HB23.out.trans ((HT15.out.mono HB23.out.size (S' := fun _ => False) (fun k hk h => by
            have := HDR.out
            rcases h with h | h <;> omega)).below fun _ _ h => h))
          clear hp hx15 ht15 hun HCOM HA17 HT17 HD32 HII HOL t1 t1' e4
          generalize commitD s' lp = D9 at *
          have HD32 := hide (show 32 ≤ D9.length from by rw [HI15.out.1]; exact HN.out.1)
          have hbeg := begin_ok HL15.out HD32.out
          have HBEG := hide hbeg
          clear hbeg
          go_wp2_with fail
          refine HBEG.out.mono ?_
          rintro e w18 ⟨tt, mq, rfl, htt, hmq, hxa, hba⟩
          obtain ⟨ii, hii⟩ : ∃ ii : Ids, Ids.mk tt mq i.ll i.dd i.rr = ii := ⟨_, rfl⟩
          have htt' : tt = ii.tt := by rw [← hii]
          rw [hii] at hxa
          subst htt'
          have HXA := hide hxa
          have HBA := hide hba
          have HII := hide (And.intro hii (And.intro htt hmq))
          have HOL := hide (show ∀ k, k < w3.heap.size → ii.own k → k = i.dd ∨ k = i.rr from by
            have h0 := HT15.out.size
            rintro k hk (e | e | e | e)
            · omega
            · rw [← hii] at e; simp only at e; omega
            · rw [← hii] at e; exact .inl e
            · rw [← hii] at e; exact .inr e)
          clear hii htt hmq hxa hba HBEG
          go_wp2_with fail
          refine (HOP.out w18 (HB15.out.trans (HBA.out.mono HB15.out.size)) ii.tt).mono ?_
          rintro e w19 ⟨g3, rfl, -, hGb, hbb⟩
          have hug : u.Ok D9.length := by rw [HI15.out.1]; exact HGO.out.1
          have HAB : Hid (GAt w19 ii ⟨D9, [], 0⟩ g3 u 0 G') := hide ⟨HXA.out.below hbb, hGb, hug, HI15.out.2.1, HI15.out.2.2⟩
          have HBB := hide (HBA.out.trans (hbb.mono HBA.out.size))
          have HTB : Hid (Tch w3.heap.size (fun x => x = i.dd ∨ x = i.rr) w3 w19) := hide (HT15.out.trans ((Tch.of_below HBB.out).mono HT15.out.size fun _ _ h => h))
          clear hug hGb hbb HXA HBA

          have hnd := gs_node' (num := 1) HAB.out (by omega) (by rw [HGO.out.2.2]; omega)
          have hdir : (G'.nd 1).dir.length = 6 := HAB.out.gok.dir 1
          obtain ⟨n1, hn1⟩ : ∃ n1, G'.nd 1 = n1 := ⟨_, rfl⟩
          rw [hn1, show ((1 : Nat) : Int) = 1 from rfl] at hnd
          rw [hn1] at hdir
          have HND := hide hnd
          have HN1 := hide hn1
          have HDI := hide hdir
          clear hnd hn1 hdir
          go_wp2_with fail
          refine HND.out.mono ?_
          rintro e w20 ⟨rfl, ha20, ht20⟩
          have HT20' := hide (HTB.out.trans (ht20.mono HTB.out.size HOL.out))
          have HL20' : Hid (LogAt w20 i.ll i.dd i.rr D9) := hide (ha20.tx.log.ids HII.out.1)
          clear ha20 ht20 HND HAB HTB HBB
          go_upto_region 28 with (first | ((with_reducible refine at_alloc 130 ?_); refine wpList_alloc_as rfl 130 rfl _ (zero_node _) ?_) | ((with_reducible refine at_store 130 (.tmp 22) (.tmp 126) ?_); refine wpList_store_blk rfl 130 (.tmp 22) (.tmp 126) rfl w20.heap.size _ _ _ (by rfl) (by rfl) (Blk.new _ _ _) (size_nodeOf HDI.out) (by rw [List.size_toArray, List.size_toArray, NodeV.cells_length HDI.out]; rfl) (NodeV.cells_one _) (fun _ => ?_)) | fail)
          refine at_world (fun W => ∃ q, q = w20.heap.size ∧ Below w20.heap.size w20 W ∧ Blk W q 130 n1.cells.toArray) ⟨_, rfl, below_setRow ((Below.refl _ _).alloc (Nat.le_refl _) _) (Nat.le_refl _) _, (Blk.new _ _ _).setRow_same _⟩ (fun w21 h21 => ?_)
          obtain ⟨nq, hnq, hb21, hQ21⟩ := h21
          rw [← hnq]
          have HT20 := hide (HT20'.out.trans ((Tch.of_below hb21).mono HT20'.out.size fun _ _ h => h))
          have HL20 := hide (HL20'.out.below hb21)
          have c3 := (hQ21.cell 3).trans (node_cells_at n1).2.2.2
          have nl := hQ21.lt
          clear hnq hb21 hQ21 HT20' HL20'
          have hszv : n1.size.toNat = 16 * p := by rw [← HN1.out, HD15.out.size, st_len HKM.out.2, if_pos rfl, HP.out]
          rw [hszv] at c3
          obtain ⟨y, hy⟩ : ∃ y : Nat, 16 * p = y := ⟨_, rfl⟩
          rw [hy] at c3
          have hp100 := HKM.out.1
          have s1 : IntKind.i64.wrap (y : Int) = (y : Int) := IntWalk.i64_in _ (by omega)
          have s3 : IntKind.i64.wrap (16 * (p : Int)) = (y : Int) := by rw [IntWalk.i64_in _ (by omega)]; omega
          have p1 : IntKind.i64.wrap ((M : Int) - 1) = (M : Int) - 1 := IntWalk.i64_in _ (by have := HM.out; omega)
          have p2 : IntKind.i64.wrap ((M : Int) - 1 - (k : Int)) = (p : Int) := by rw [IntWalk.i64_in _ (by have := HM.out; have := HKM.out; omega)]; have := HP.out; have := HKM.out; omega
          have e64 : IntKind.i64.wrap ((k : Int) + 1) = (k : Int) + 1 := IntWalk.i64_in _ (by have := HM.out; have := HKM.out; omega)
          clear hszv hy hp100
          go_wp2_with fail
          go_roundg (M - (k + 1))
          case rel => exact ⟨k + 1, _, G', κ', by have := HKM.out.2; omega, rfl, by first | rfl | go_num, HT20, HL20, HI15, HD15⟩
          case measure => have := HGH.out; have := HKM.out.2; omega
end Go.Proofs.YthmkgohfeahdhaaGreat
namespace Go.Proofs.YthmkgohfeahdhaaGreat.lawDirMany
open Go.ChangeShapes Go.WideShapes Go.ChangeAt Go.RowKit Go.Joins
open Go.ChangeMaps (open_string shut_string)
set_option linter.unusedVariables false

theorem own : ownKnob Tryz.prog.godebug = none := by kernel_rfl
theorem laidOut : laidOutB Tryz.prog = true := by kernel_rfl

set_option maxRecDepth 100000 in
theorem lifted (os : Os) (started : os.Started) (H0 : Type) (enc : TypeId × Value → H0) :
    ReturnsInHanded {} Tryz.checked os 8 .any (Rows.dirManySpec.pre6 enc Tryz.prog Tryz.f8 Rows.dirManyRow.domain false) (Rows.dirManySpec.post enc Tryz.prog Tryz.f8 false true false false) := by
  refine returnsInHanded_of_change (C := Tryz.checked) own started (by kernel_rfl) Tryz.func8
    (ChangeSpec.witness6 (enc := enc) (C := Tryz.checked) false ⟨#[], #[.int .u8 0, .bool false], []⟩ 8 (by kernel_rfl) (by kernel_rfl) (by kernel_rfl) (by kernel_rfl)) ?_
  intro W base args ds gs before hval0 hW hcnd _
  have hval : ∀ (j : Nat) t v, Tryz.f8.params[j]? = some t → args[j]? = some v → Value.okWide Tryz.prog W .any base t v := hval0
  have hW' := hW
  obtain ⟨p, q, hA0, hV, rfl, hfz, hnd⟩ := hW
  have hA : DataW.TrodAll enc Tryz.prog W 0 (fun _ => true) true Tryz.f8.params.toList args.toList ds p := hA0
  rw [Tryz.params8] at hA hval
  obtain ⟨v0, vs0, d0, ds0, p0, q0, hargs, rfl, rfl, h0, r0⟩ := trodAll_cons hA
  obtain ⟨v1, vs1, d1, ds1, p1, q1, rfl, rfl, rfl, h1, r1⟩ := trodAll_cons r0
  obtain ⟨rfl, rfl, rfl⟩ := trodAll_nil r1
  obtain rfl : args = #[v0, v1] := by cases args; simp_all
  obtain ⟨rfl, rfl⟩ := trodVars_none hV
  have k0 := h0
  have lt0 : ∀ x ∈ p0, x.block < W.heap.size := by obtain ⟨m, hm⟩ := k0; exact DataW.trod_lt m _ _ _ hm
  have k1 := h1
  have lt1 : ∀ x ∈ p1, x.block < W.heap.size := by obtain ⟨m, hm⟩ := k1; exact DataW.trod_lt m _ _ _ hm
  obtain ⟨nb, rfl, hnb⟩ := open_u8 Tryz.underlying5 (hval 0 5 v0 rfl rfl) h0
  obtain ⟨back, rfl⟩ := open_yes Tryz.underlying4 (hval 1 4 v1 rfl rfl) h1
  clear hA0 hval0
  refine (dmany_all _ nb back hnb).mono fun e W' ⟨he, bel⟩ => ?_
  subst he
  exact ⟨_, rfl, _, _, _, [], _, [], hW', trodAll_mk1 (shut_bool Tryz.underlying4 _), (trodAll_cons_mk (Below.trod laidOut (by kernel_rfl) (of_decide_eq_true (by kernel_rfl)) k0 bel lt0) (trodAll_cons_mk (Below.trod laidOut (by kernel_rfl) (of_decide_eq_true (by kernel_rfl)) k1 bel lt1) trodAll_mk0)), rfl, bel.frame _, fun h => by cases h⟩

theorem over : Rows.dirManyRow.holds Tryz.pinned (OpenSpec.ofChange Rows.dirManySpec) :=
  OpenClaim.holds_of_wide 8 Tryz.f8 rfl rfl rfl rfl rfl rfl rfl ⟨rfl, rfl, rfl, rfl, rfl⟩ rfl rfl rfl rfl rfl (by kernel_rfl) Tryz.func8 (by kernel_rfl)
    (of_decide_eq_true (by kernel_rfl)) (by unfold Func.isWrapper; first | (rw [if_pos (by decide +kernel)]; kernel_rfl) | (rw [if_neg (by decide +kernel)]; exact ⟨rfl, rfl⟩))
    (fun os started H0 enc _ => lifted os started H0 enc)

theorem proved : Rows.DirManySaid := over
#print axioms proved
end Go.Proofs.YthmkgohfeahdhaaGreat.lawDirMany

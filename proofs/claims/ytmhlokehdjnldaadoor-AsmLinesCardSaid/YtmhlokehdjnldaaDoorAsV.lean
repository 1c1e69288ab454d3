/- Programs' texts: numbers as texts; a source's places; values. -/
import Derived.Test.YtmhlokehdjnldaaDoorAsW
namespace Go.Proofs.YtmhlokehdjnldaaDoor
open Go.RowKit Go.WideMaps
set_option linter.unusedSimpArgs false
set_option linter.unusedVariables false

/-! ### numbers as texts -/
theorem str_one (w : World) (d : Nat) (x : UInt8) (e : x.toNat = 48 + d) : (convert 22 9 (.slice (some ⟨w.heap.size, 0, none⟩) 1 1)).run Tryd.prog (w.alloc (.cells #[.int .u8 (48 + (d : Int))] 5)) = .ok (.string ⟨#[x]⟩) (w.alloc (.cells #[.int .u8 (48 + (d : Int))] 5)) := by
  have hr : Rd (w.alloc (.cells #[.int .u8 (48 + (d : Int))] 5)) (w.heap.size + 1) 1 (some ⟨w.heap.size, 0, none⟩) 1 (bvs [x]) :=
    Rd.lit (cs := #[.int .u8 (48 + (d : Int))]) rfl rfl (by simp only [bvs, bv, e, List.map_cons, List.map_nil]; simp) rfl
  exact run_string_rd (P := Tryd.prog) 22 5 9 Tryd.underlying22 Tryd.underlying5 Tryd.underlying9 hr
theorem itoaN_le {n : Nat} (h : n < 1000000) : (itoaN n).length ≤ 6 := itoaN_len (k := 5) (by omega)
set_option maxRecDepth 100000 in
theorem printed_small (n : Nat) (h : n < 10) (w : World) :
    Calls Tryd.prog 38 #[.int .i64 (n : Int)] w fun e w' => e = .returned (.string (str (itoaN n))) ∧ Below w.heap.size w w' := by
  have t1 : decide ((n : Int) < 0) = false := by simp
  have t2 : decide ((9 : Int) < (n : Int)) = false := by simp; omega
  obtain ⟨x, hx⟩ : ∃ x, x = UInt8.ofNat (48 + n) := ⟨_, rfl⟩
  have kc := str_one w n x (by rw [hx]; simp; omega)
  have HI := hide (show itoaN n = [x] by rw [itoaN_lt h, hx])
  clear hx
  have hB := hide (below1 w (.cells #[.int .u8 (48 + (n : Int))] 5))
  go_enter Tryd.func38, Tryd.ntmps38
  go_wp2
  go_returns
  exact ⟨by rw [HI.out]; rfl, hB.out⟩
set_option maxRecDepth 100000 in
theorem printed_nat (n : Nat) (h6 : n < 1000000) (w : World) :
    Calls Tryd.prog 38 #[.int .i64 (n : Int)] w fun e w' => e = .returned (.string (str (itoaN n))) ∧ Below w.heap.size w w' := by
  induction n using Nat.strongRecOn generalizing w with
  | ind n ih =>
    by_cases h10 : n < 10
    · exact printed_small n h10 w
    obtain ⟨a, ha⟩ : ∃ a, a = n / 10 := ⟨_, rfl⟩
    obtain ⟨d, hd⟩ : ∃ d, d = n % 10 := ⟨_, rfl⟩
    have ha10 : a < n := by omega
    have hd10 : d < 10 := by omega
    have t1 : decide ((n : Int) < 0) = false := by simp
    have t2 : decide ((9 : Int) < (n : Int)) = true := by simp; omega
    have t3 : (n : Int).tmod 10 = (d : Int) := by rw [IntWalk.rem_in _ _ (by omega)]; omega
    have t3' : (n : Int) % 10 = (d : Int) := by omega
    have t4 : (n : Int).tdiv 10 = (a : Int) := by rw [Int.tdiv_eq_ediv_of_nonneg (by omega)]; omega
    have t4' : (n : Int) / 10 = (a : Int) := by omega
    have HI := hide (show itoaN n = itoaN a ++ itoaN d by rw [itoaN_ge h10, itoaN_lt hd10, ← ha, ← hd])
    have hl := hide (itoaN_le (n := a) (by omega))
    have hl' := hide (itoaN_le (n := d) (by omega))
    have ih' := hide (ih a ha10 (by omega))
    clear ha hd ih
    go_enter Tryd.func38, Tryd.ntmps38
    go_wp2_with fail
    refine (ih'.out _).mono ?_
    rintro e w5 ⟨rfl, hb5⟩
    have B5 := hide hb5
    clear hb5 t4 t4'
    go_wp2_with fail
    refine (printed_small d hd10 _).mono ?_
    rintro e w6 ⟨rfl, hb6⟩
    have B6 := hide (B5.out.trans (hb6.mono B5.out.size))
    have hl2 : ¬ 9223372036854775807 < (str (itoaN a)).size + (str (itoaN d)).size := by rw [str_size, str_size]; have := hl.out; have := hl'.out; omega
    clear hb6 t3 t3'
    go_wp2
    go_returns
    exact ⟨by rw [HI.out]; simp [str]; rfl, B6.out⟩
set_option maxRecDepth 100000 in
theorem printed_int (n : Int) (h1 : -1000000 < n) (h6 : n < 1000000) (w : World) :
    Calls Tryd.prog 38 #[.int .i64 n] w fun e w' => e = .returned (.string (str (itoaI n))) ∧ Below w.heap.size w w' := by
  by_cases hn : n < 0
  · obtain ⟨m, hm⟩ : ∃ m : Nat, n = -(m : Int) := ⟨(-n).toNat, by omega⟩
    have HI : Hid (itoaI n = 45 :: itoaN m) := hide (by unfold itoaI; rw [if_pos hn, hm]; simp)
    have hl := hide (itoaN_le (n := m) (by omega))
    have t1 : decide (n < 0) = true := by simpa using hn
    have t2 : IntKind.i64.wrap (-n) = (m : Int) := by rw [IntWalk.i64_in _ (by omega)]; omega
    have t3 : -n = (m : Int) := by omega
    have hm6 : m < 1000000 := by omega
    clear hm hn
    go_enter Tryd.func38, Tryd.ntmps38
    go_wp2_with fail
    refine (printed_nat m hm6 _).mono ?_
    rintro e w5 ⟨rfl, hb5⟩
    have hl2 : ¬ 9223372036854775807 < 1 + (str (itoaN m)).size := by rw [str_size]; have := hl.out; omega
    go_wp2
    go_returns
    exact ⟨by rw [HI.out]; simp [str]; rfl, hb5⟩
  · obtain ⟨m, rfl⟩ : ∃ m : Nat, n = (m : Int) := ⟨n.toNat, by omega⟩
    rw [itoaI_nat]
    exact printed_nat m (by omega) w
set_option maxRecDepth 100000 in
theorem reg_ok (n : Nat) (h : n < 256) (w : World) :
    Calls Tryd.prog 37 #[.int .u8 (n : Int)] w fun e w' => e = .returned (.string (str (regT n))) ∧ Below w.heap.size w w' := by
  have hl := hide (itoaN_le (n := n) (by omega))
  go_enter Tryd.func37, Tryd.ntmps37
  go_wp2_with fail
  refine (printed_nat n (by omega) _).mono ?_
  rintro e w5 ⟨rfl, hb5⟩
  have hl2 : ¬ 9223372036854775807 < 1 + (str (itoaN n)).size := by rw [str_size]; have := hl.out; omega
  go_wp2
  go_returns
  exact ⟨by simp [str, regT]; rfl, hb5⟩
set_option maxRecDepth 100000 in
theorem itoa_small (n : Nat) (h : n < 10) (w : World) :
    Calls Tryd.prog 42 #[.int .i64 (n : Int)] w fun e w' => e = .returned (.string (str (itoaN n))) ∧ Below w.heap.size w w' := by
  have t1 : decide ((n : Int) < 0) = false := by simp
  have t2 : decide ((9 : Int) < (n : Int)) = false := by simp; omega
  have t3 : (n : Int).tmod 10 = n := by rw [IntWalk.rem_in _ _ (by omega)]; omega
  have t3' : (n : Int) % 10 = n := by omega
  obtain ⟨x, hx⟩ : ∃ x, x = UInt8.ofNat (48 + n) := ⟨_, rfl⟩
  have kc := str_one w n x (by rw [hx]; simp; omega)
  have HI := hide (show itoaN n = [x] by rw [itoaN_lt h, hx])
  clear hx
  have hB := hide (below1 w (.cells #[.int .u8 (48 + (n : Int))] 5))
  go_enter Tryd.func42, Tryd.ntmps42
  go_wp2
  go_returns
  exact ⟨by rw [HI.out]; rfl, hB.out⟩
set_option maxRecDepth 100000 in
theorem itoa_nat (n : Nat) (h6 : n < 1000000) (w : World) :
    Calls Tryd.prog 42 #[.int .i64 (n : Int)] w fun e w' => e = .returned (.string (str (itoaN n))) ∧ Below w.heap.size w w' := by
  induction n using Nat.strongRecOn generalizing w with
  | ind n ih =>
    by_cases h10 : n < 10
    · exact itoa_small n h10 w
    obtain ⟨a, ha⟩ : ∃ a, a = n / 10 := ⟨_, rfl⟩
    obtain ⟨d, hd⟩ : ∃ d, d = n % 10 := ⟨_, rfl⟩
    have ha10 : a < n := by omega
    have hd10 : d < 10 := by omega
    have t1 : decide ((n : Int) < 0) = false := by simp
    have t2 : decide ((9 : Int) < (n : Int)) = true := by simp; omega
    have t3 : (n : Int).tmod 10 = (d : Int) := by rw [IntWalk.rem_in _ _ (by omega)]; omega
    have t3' : (n : Int) % 10 = (d : Int) := by omega
    have t4 : (n : Int).tdiv 10 = (a : Int) := by rw [Int.tdiv_eq_ediv_of_nonneg (by omega)]; omega
    have t4' : (n : Int) / 10 = (a : Int) := by omega
    obtain ⟨x, hx⟩ : ∃ x, x = UInt8.ofNat (48 + d) := ⟨_, rfl⟩
    have kc := str_one w d x (by rw [hx]; simp; omega)
    have HI := hide (show itoaN n = itoaN a ++ [x] by rw [itoaN_ge h10, ← ha, ← hd, hx])
    clear hx
    have hB := hide (below1 w (.cells #[.int .u8 (48 + (d : Int))] 5))
    have hl := hide (itoaN_le (n := a) (by omega))
    have ih' := hide (ih a ha10 (by omega))
    clear ha hd ih
    go_enter Tryd.func42, Tryd.ntmps42
    go_wp2_with fail
    refine (ih'.out _).mono ?_
    rintro e w5 ⟨rfl, hb5⟩
    have hB5 := hide (hB.out.trans (hb5.mono hB.out.size))
    have hl2 : ¬ 9223372036854775807 < (str (itoaN a)).size + 1 := by rw [str_size]; have := hl.out; omega
    clear hb5 kc
    go_wp2
    go_returns
    exact ⟨by rw [HI.out]; simp [str]; rfl, hB5.out⟩
set_option maxRecDepth 100000 in
theorem itoa_int (n : Int) (h1 : -1000000 < n) (h6 : n < 1000000) (w : World) :
    Calls Tryd.prog 42 #[.int .i64 n] w fun e w' => e = .returned (.string (str (itoaI n))) ∧ Below w.heap.size w w' := by
  by_cases hn : n < 0
  · obtain ⟨m, hm⟩ : ∃ m : Nat, n = -(m : Int) := ⟨(-n).toNat, by omega⟩
    have HI : Hid (itoaI n = 45 :: itoaN m) := hide (by unfold itoaI; rw [if_pos hn, hm]; simp)
    have hl := hide (itoaN_le (n := m) (by omega))
    have t1 : decide (n < 0) = true := by simpa using hn
    have t2 : IntKind.i64.wrap (-n) = (m : Int) := by rw [IntWalk.i64_in _ (by omega)]; omega
    have t3 : -n = (m : Int) := by omega
    have hm6 : m < 1000000 := by omega
    clear hm hn
    go_enter Tryd.func42, Tryd.ntmps42
    go_wp2_with fail
    refine (itoa_nat m hm6 _).mono ?_
    rintro e w5 ⟨rfl, hb5⟩
    have hl2 : ¬ 9223372036854775807 < 1 + (str (itoaN m)).size := by rw [str_size]; have := hl.out; omega
    go_wp2
    go_returns
    exact ⟨by rw [HI.out]; simp [str]; rfl, hb5⟩
  · obtain ⟨m, rfl⟩ : ∃ m : Nat, n = (m : Int) := ⟨n.toNat, by omega⟩
    rw [itoaI_nat]
    exact itoa_nat m (by omega) w

/-! ### how many words an instruction has -/
set_option maxRecDepth 100000 in
theorem args_ok (f : Nat) (hf : f ≤ 8) (w : World) :
    Calls Tryd.prog 56 #[.int .u8 (f : Int)] w fun e w' => e = .returned (.int .i64 (nargA f : Nat)) ∧ w' = w := by
  go_enter Tryd.func56, Tryd.ntmps56
  have hc : f = 0 ∨ f = 1 ∨ f = 2 ∨ f = 3 ∨ f = 4 ∨ f = 5 ∨ f = 6 ∨ f = 7 ∨ f = 8 := by omega
  clear hf
  rcases hc with rfl | rfl | rfl | rfl | rfl | rfl | rfl | rfl | rfl <;> (go_wp2; go_returns; exact ⟨rfl, rfl⟩)

/-! ### a source's places -/
/-- a text as a key -/
abbrev SKey := { l : List UInt8 // l.length ≤ maxLen }
def skv (k : SKey) : Value := .string ⟨k.val.toArray⟩
def sk (s : ByteArray) (h : s.size ≤ maxLen) : SKey := ⟨s.data.toList, by rw [← sz s]; exact h⟩
theorem skv_sk (s : ByteArray) (h : s.size ≤ maxLen) : skv (sk s h) = .string s := by cases s; simp [skv, sk]
theorem strEnc : KeyEnc Tryd.prog 9 skv where
  keyed := Maps.string_keyed Tryd.underlying9
  reads := fun ⟨l, h⟩ => ⟨_, keyOf_string_mk Tryd.underlying9 (s := ⟨l.toArray⟩) (by simpa [ByteArray.size] using h)⟩
  inj := fun ⟨a, _⟩ ⟨b, _⟩ h => by
    simp only [skv, Value.string.injEq, ByteArray.mk.injEq] at h
    exact Subtype.ext (List.toArray_inj h)
def skey (l : List UInt8) : SKey := if h : l.length ≤ maxLen then ⟨l, h⟩ else ⟨[], by simp [maxLen]⟩
theorem skey_val {l : List UInt8} (h : l.length ≤ maxLen) : (skey l).val = l := by simp [skey, h]
theorem sk_skey (s : ByteArray) (h : s.size ≤ maxLen) : sk s h = skey s.data.toList := Subtype.ext (by rw [skey_val (by rw [← sz s]; exact h)]; rfl)
def LbOk (L : Lbs) : Prop := ∀ x ∈ L, x.1.length ≤ 16 ∧ x.2 ≤ 2048
def lbV (L : Lbs) : List (SKey × Value) := L.map fun x => (skey x.1, .int .i64 (x.2 : Int))
theorem mget_lbV {L : Lbs} (h : LbOk L) {k : List UInt8} (hk : k.length ≤ maxLen) : mget (lbV L) (skey k) = (mget L k).map fun n => .int .i64 (n : Int) := by
  induction L with
  | nil => rfl
  | cons x t ih =>
    have hx := (h x (by simp)).1
    unfold lbV at ih ⊢
    simp only [List.map_cons, mget]
    by_cases e : x.1 = k
    · simp [e]
    · have : skey x.1 ≠ skey k := fun e2 => e (by
        have := congrArg Subtype.val e2
        rw [skey_val (by simp [maxLen]; omega), skey_val hk] at this
        exact this)
      simp only [if_neg e, if_neg this]
      exact ih fun y hy => h y (by simp [hy])
theorem mget_mem' {L : Lbs} {k : List UInt8} {n : Nat} (h : mget L k = some n) : (k, n) ∈ L := mget_mem h
theorem LbOk.le {L : Lbs} (h : LbOk L) {k : List UInt8} {n : Nat} (hk : mget L k = some n) : n ≤ 2048 := (h _ (mget_mem hk)).2
/-- block b is a source whose places are these -/
def LabsAt (w : World) (b : Nat) (L : Lbs) : Prop := ∃ m lv ex sz, Blk w b 59 #[lv, .map (some m), ex, sz] ∧ MapR skv w m (lbV L)
theorem LabsAt.below {w w' : World} {b : Nat} {L : Lbs} (h : LabsAt w b L) (hb : Below w.heap.size w w') : LabsAt w' b L := by
  obtain ⟨m, lv, ex, sz, h1, h2⟩ := h
  exact ⟨m, lv, ex, sz, h1.below hb h1.lt, h2.below hb h2.lt⟩
theorem LabsAt.lt {w : World} {b : Nat} {L : Lbs} (h : LabsAt w b L) : b < w.heap.size := by
  obtain ⟨m, lv, ex, sz, h1, h2⟩ := h
  exact h1.lt
def lookV (o : Option Nat) : Value := .tuple #[(o.map fun n => Value.int .i64 (n : Int)).getD (.int .i64 0), .bool o.isSome]
theorem lookV_eq {x : Option Value} {o : Option Nat} (h : x = o.map fun n => .int .i64 (n : Int)) : (if true = true then Value.tuple #[x.getD (.int .i64 0), .bool x.isSome] else x.getD (.int .i64 0)) = lookV o := by
  subst h
  rw [if_pos rfl]
  cases o <;> rfl
theorem isSome_map {α β : Type} (o : Option α) (f : α → β) : (o.map f).isSome = o.isSome := by cases o <;> rfl
set_option maxRecDepth 100000 in
set_option maxHeartbeats 4000000 in
theorem value_ok {w : World} {b : Nat} {L : Lbs} (hL : LabsAt w b L) (hO : LbOk L) (s : ByteArray) (hs : s.size ≤ maxLen) (lo hi : Int) :
    Calls Tryd.prog 53 #[.pointer (some ⟨b, 0, none⟩), .string s, .int .i64 lo, .int .i64 hi] w fun e w' => e = .returned (.tuple #[.int .i64 (valueA L s.data.toList lo hi).1, .int .i64 (valueA L s.data.toList lo hi).2]) ∧ w' = w := by
  obtain ⟨m, lv, ex, sz', hB, hM⟩ := hL
  have c1 := hB.cell 1
  have hlt := hB.lt
  have hlk : mget (lbV L) (sk s hs) = (mget L s.data.toList).map fun n => .int .i64 (n : Int) := by rw [sk_skey]; exact mget_lbV hO (by rw [← sz]; exact hs)
  have HB := hide hB
  have HM := hide hM
  have HLK := hide hlk
  clear hB hM hlk
  go_enter Tryd.func53, Tryd.ntmps53
  obtain ⟨o, ho⟩ : ∃ o, mget L s.data.toList = o := ⟨_, rfl⟩
  have HLK2 : Hid (mget (lbV L) (sk s hs) = o.map fun n => .int .i64 (n : Int)) := hide (by rw [HLK.out, ho])
  have HV : Hid (valueA L s.data.toList lo hi = match o with
    | some n => if (n : Int) < lo ∨ hi < (n : Int) then (0, 27) else ((n : Int), 0)
    | none => if wordA s.data.toList then (0, 3) else match numIn s.data.toList lo hi with | none => (0, 27) | some n => (n, 0)) := hide (by unfold valueA; rw [ho]; cases o <;> rfl)
  clear ho HLK
  cases o with
  | some n =>
    by_cases h1 : (n : Int) < lo
    · have hv : Hid (valueA L s.data.toList lo hi = (0, 27)) := hide (by rw [HV.out]; exact if_pos (.inl h1))
      have t1 : decide ((n : Int) < lo) = true := by simpa using h1
      clear h1
      go_wp2_with (first | ((with_reducible refine at_look 57 (.tmp 18) (.tmp 19) true ?_); refine wpList_lookup_map rfl 57 (.tmp 18) (.tmp 19) true rfl (sk s hs) rfl (skv_sk s hs).symm HM.out.is strEnc Tryd.underlying57 (z := .int .i64 0) (by kernel_rfl) (.tuple #[.int .i64 (n : Int), .bool true]) (lookV_eq HLK2.out) ?_) | fail)
      go_returns
      exact ⟨by rw [hv.out]; rfl, rfl⟩
    have t1 : decide ((n : Int) < lo) = false := by simpa using h1
    by_cases h2 : hi < (n : Int)
    · have hv : Hid (valueA L s.data.toList lo hi = (0, 27)) := hide (by rw [HV.out]; exact if_pos (.inr h2))
      have t2 : decide (hi < (n : Int)) = true := by simpa using h2
      clear h1 h2
      go_wp2_with (first | ((with_reducible refine at_look 57 (.tmp 18) (.tmp 19) true ?_); refine wpList_lookup_map rfl 57 (.tmp 18) (.tmp 19) true rfl (sk s hs) rfl (skv_sk s hs).symm HM.out.is strEnc Tryd.underlying57 (z := .int .i64 0) (by kernel_rfl) (.tuple #[.int .i64 (n : Int), .bool true]) (lookV_eq HLK2.out) ?_) | fail)
      go_returns
      exact ⟨by rw [hv.out]; rfl, rfl⟩
    have t2 : decide (hi < (n : Int)) = false := by simpa using h2
    have hv : Hid (valueA L s.data.toList lo hi = ((n : Int), 0)) := hide (by rw [HV.out]; exact if_neg (by omega))
    clear h1 h2
    go_wp2_with (first | ((with_reducible refine at_look 57 (.tmp 18) (.tmp 19) true ?_); refine wpList_lookup_map rfl 57 (.tmp 18) (.tmp 19) true rfl (sk s hs) rfl (skv_sk s hs).symm HM.out.is strEnc Tryd.underlying57 (z := .int .i64 0) (by kernel_rfl) (.tuple #[.int .i64 (n : Int), .bool true]) (lookV_eq HLK2.out) ?_) | fail)
    go_returns
    exact ⟨by rw [hv.out]; rfl, rfl⟩
  | none =>
    go_wp2_with (first | ((with_reducible refine at_look 57 (.tmp 18) (.tmp 19) true ?_); refine wpList_lookup_map rfl 57 (.tmp 18) (.tmp 19) true rfl (sk s hs) rfl (skv_sk s hs).symm HM.out.is strEnc Tryd.underlying57 (z := .int .i64 0) (by kernel_rfl) (.tuple #[.int .i64 0, .bool false]) (lookV_eq HLK2.out) ?_) | fail)
    refine (word_ok s _).mono ?_
    rintro e w' ⟨rfl, rfl⟩
    obtain ⟨wb, hwb⟩ : ∃ wb, wordA s.data.toList = wb := ⟨_, rfl⟩
    have HW := hide hwb
    rw [hwb]
    clear hwb
    cases wb
    · go_wp2_with fail
      refine (number_ok s lo hi _).mono ?_
      rintro e w2 ⟨⟨n, bb, rfl, -, -, hn⟩, rfl⟩
      cases bb
      · have hv : Hid (valueA L s.data.toList lo hi = (0, 27)) := hide (by rw [HV.out, HW.out, hn]; rfl)
        clear hn
        go_wp2
        go_returns
        exact ⟨by rw [hv.out]; rfl, rfl⟩
      · have hv : Hid (valueA L s.data.toList lo hi = (n, 0)) := hide (by rw [HV.out, HW.out, hn]; rfl)
        clear hn
        go_wp2
        go_returns
        exact ⟨by rw [hv.out]; rfl, rfl⟩
    · have hv : Hid (valueA L s.data.toList lo hi = (0, 3)) := hide (by rw [HV.out, HW.out]; rfl)
      go_wp2
      go_returns
      exact ⟨by rw [hv.out]; rfl, rfl⟩

end Go.Proofs.YtmhlokehdjnldaaDoor

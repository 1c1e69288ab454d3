/- PathParses: the walk. Printed by pathparses.py. -/
import Derived.Test.YtkjgieehiimiiaaDoorPathRefParse
namespace Go.Proofs.YtkjgieehiimiiaaDoor
open Go.RowKit

/-- strings of twenty bytes at most -/
def shortStrs (cs : Array Value) : Bool := cs.size == 20 && cs.all fun v => match v with | .string s => decide (s.size ≤ 20) | _ => false
theorem shortStrs_at {cs : Array Value} (h : shortStrs cs = true) {i : Nat} (hi : i < 20) : ∃ s : ByteArray, cs[i]? = some (.string s) ∧ s.size ≤ 20 := by
  unfold shortStrs at h
  simp only [Bool.and_eq_true, beq_iff_eq] at h
  have hlt : i < cs.size := by omega
  have h2 := (Array.all_eq_true.1 h.2) i hlt
  rw [Array.getElem?_eq_getElem hlt]
  revert h2
  cases cs[i] <;> simp

theorem own_le {w : World} {base n c : Nat} {e : TypeId} {sz : Nat} {A : Option Addr} {xs : List Value} (h : w.ownsRow base e sz (.slice A n c) n xs) : n ≤ c := by
  obtain ⟨A', c', hv, h1, _⟩ := own_form h
  injection hv with _ _ h2
  omega
theorem pieces_len : ∀ (l acc : BL), (pieces acc l).length ≤ l.length + 1
  | [], acc => by simp [pieces]
  | c :: r, acc => by
    unfold pieces
    split
    · have := pieces_len r []; simp; omega
    · have := pieces_len r (acc ++ [c]); simp; omega
theorem partsOf_len : ∀ (l : List BL), (partsOf l).1.length ≤ l.length
  | [] => by simp [partsOf]
  | x :: r => by
    have := partsOf_len r
    unfold partsOf
    split
    · simp; omega
    · split
      · simp
      · split
        · simp
        · simp; omega
theorem parseL_len (l : BL) : (parseL l).2.1.length ≤ 121 := by
  unfold parseL
  split
  · simp
  · split
    · simp
    · split
      · simp
      · have := partsOf_len (pieces [] l)
        have := pieces_len l []
        simp
        omega

section
variable (s : ByteArray) (A : Option Addr) (n c : Nat) (l : List UInt8) (w : World)
set_option maxRecDepth 100000 in
set_option maxHeartbeats 20000000 in
theorem parses_ok (hm : Mx w) (hr : Rd w w.heap.size 1 A n (bvs l)) (hs : s.size ≤ 400) (hnm : n ≤ 9223372036854775807) :
    Calls Tryd.prog 3 #[.string s, .slice A n c] w fun e w' => e = .returned (.bool true) ∧ Below w.heap.size w w' := by
  have l1 : decide ((400 : Int) < s.size) = false := by simp; omega
  go_enter Tryd.func3, Tryd.ntmps3
  go_wp2_with fail
  refine (awake_ok _ hm).mono ?_
  rintro e w1 ⟨rfl, hb1⟩
  go_wp2
  refine at_world (fun W => ∃ cs, shortStrs cs = true ∧ Below w.heap.size w W ∧ Blk W w1.heap.size 9 cs) ⟨_, by kernel_rfl, hb1.alloc hb1.size _, Blk.new _ _ _⟩ (fun w2 hX => ?_)
  obtain ⟨cs, hcs, hb2, sB⟩ := hX
  go_loopg [6, 29] n (fun g tx i wr => ∃ k : Nat, k ≤ n ∧ g = n - k ∧ i = .int .i64 k ∧ wr = w2 ∧ ∃ t : ByteArray, tx = .string t ∧ t.size ≤ 20 * min k 14)
  case atStart => exact ⟨0, Nat.zero_le _, rfl, rfl, rfl, ⟨#[]⟩, rfl, by simp [ByteArray.size]⟩
  case round =>
    obtain ⟨k, hk, hg, rfl, rfl, t, rfl, ht⟩ := hrel
    by_cases hkn : k < n
    · have hkz : (k : Int) < n := by omega
      obtain ⟨bb, oo, rfl, hbb, hc⟩ := hr.byte hkn
      have ck := (hb2.cell (p := ⟨bb, oo + k, none⟩) hbb).trans (hc k hkn)
      generalize l.getD k 0 = x at ck
      have hxw : RowKit.wrap64 (x.toNat : Int) = x.toNat := by rw [← IntWalk.i64_left, IntWalk.i64_in _ (by have := x.toNat_lt; omega)]
      clear hc hr
      by_cases h14 : k < 14
      · have h14' : decide ((k : Int) < 14) = true := by simp; omega
        by_cases hx : x.toNat < 20
        · have hx' : decide ((x.toNat : Int) < 20) = true := by simp; omega
          have hx2 : (x.toNat : Int) < 20 := by omega
          obtain ⟨y, hy, hys⟩ := shortStrs_at hcs hx
          have cy := (sB.cell x.toNat).trans hy
          have hl := sB.lt
          have hcat := fun (W : World) => run_string_add_sum (P := Tryd.prog) (w := W) t y (by omega)
          clear hy sB hcs
          go_wp2
          go_roundg (n - (k + 1))
          case measure => omega
          case rel => exact ⟨k + 1, by omega, rfl, by go_num, rfl, t ++ y, rfl, by rw [ByteArray.size_append]; omega⟩
        · have hx' : decide ((x.toNat : Int) < 20) = false := by simp; omega
          have hcat := fun (W : World) => run_string_add_sum (P := Tryd.prog) (w := W) t ⟨#[47]⟩ (by rw [show (⟨#[47]⟩ : ByteArray).size = 1 from rfl]; omega)
          clear sB hcs
          go_wp2
          go_roundg (n - (k + 1))
          case measure => omega
          case rel => exact ⟨k + 1, by omega, rfl, by go_num, rfl, t ++ ⟨#[47]⟩, rfl, by rw [ByteArray.size_append, show (⟨#[47]⟩ : ByteArray).size = 1 from rfl]; omega⟩
      · have h14' : decide ((k : Int) < 14) = false := by simp; omega
        clear sB hcs
        go_wp2
        go_roundg (n - (k + 1))
        case measure => omega
        case rel => exact ⟨k + 1, by omega, rfl, by go_num, rfl, t, rfl, by omega⟩
    · have hkz : decide ((k : Int) < n) = false := by simp; omega
      have ht2 : t.size ≤ 400 := by omega
      clear sB hcs ht hr
      go_wp2
      refine at_world (fun W => Below w.heap.size w W ∧ Blk W wr.heap.size 9 #[.string s, .string t]) ⟨hb2.alloc hb2.size _, Blk.new _ _ _⟩ (fun w3 hX => ?_)
      have hbw := hb2.size
      clear hb2
      obtain ⟨hb3, tB⟩ := hX
      generalize wr.heap.size = tb at tB hbw ⊢
      go_loopg [55] 2 (fun g i wx => ∃ k : Nat, k ≤ 2 ∧ g = 2 - k ∧ i = .int .i64 k ∧ Aside (Below w.heap.size w wx ∧ Blk wx tb 9 #[.string s, .string t]))
      case atStart => exact ⟨0, by omega, rfl, rfl, hb3, tB⟩
      case round =>
        obtain ⟨k, hk, hg, rfl, hH⟩ := hrel
        clear hb3 tB
        by_cases hk2 : k < 2
        · have hkz : (k : Int) < 2 := by omega
          obtain ⟨hb, tB⟩ := hH.out
          clear hH
          obtain ⟨x, hcx, hxs⟩ : ∃ x : ByteArray, wr.cell? ⟨tb, k, none⟩ = some (.string x) ∧ x.size ≤ 400 := by
            rw [tB.cell k]
            match k, hk2 with
            | 0, _ => exact ⟨s, rfl, hs⟩
            | 1, _ => exact ⟨t, rfl, ht2⟩
          have ltb := tB.lt
          obtain ⟨P, hP⟩ : ∃ P, parseL x.data.toList = P := ⟨_, rfl⟩
          obtain ⟨Q, hQ⟩ : ∃ Q, partL x.data.toList = Q := ⟨_, rfl⟩
          have hc1 := parse_ok x wr (hm.below' hb)
          have hc2 := fun W => refparse_ok x W
          have hc3 := fun W (h : Mx W) => part_ok x W (by omega) h
          have hc4 := fun W => refpart_ok x W (by omega)
          have hPn := parseL_len x.data.toList
          rw [hP] at hc1 hPn
          simp only [hP] at hc2
          simp only [hQ, pv] at hc3 hc4
          clear hP hQ
          go_wp2_with fail
          refine hc1.mono ?_
          rintro e v1 ⟨A1, n1, c1, rfl, ownA, hb1⟩
          have hba := hb.trans (hb1.mono hb.size)
          have tB1 := tB.below hb1 tB.lt
          clear hc1 hcx ltb tB hb1 hb
          go_wp2_with fail
          refine (hc2 _).mono ?_
          rintro e v2 ⟨A2, n2, c2, rfl, ownA2, hb2⟩
          have hal : Below v1.heap.size v1 (v1.alloc (.cells #[.bool P.1, .slice A1 n1 c1] 27)) := (Below.refl _ _).alloc (Nat.le_refl _) _
          have hb12 := hal.trans (hb2.mono hal.size)
          have hbb := hba.trans (hb12.mono hba.size)
          have tB2 := tB1.below hb12 tB1.lt
          have oA := own_below ownA hb12
          have pB2 : Blk v2 v1.heap.size 27 #[.bool P.1, .slice A1 n1 c1] := (Blk.new v1 _ _).below hb2 (by simp)
          clear hc2 ownA hal hb12 tB1 hba
          go_wp2_with fail
          refine (hc3 _ (hm.below' hbb)).mono ?_
          rintro e v3 ⟨rfl, hb3⟩
          have hbc := hbb.trans (hb3.mono hbb.size)
          have tB3 := tB2.below hb3 tB2.lt
          have pB3 := pB2.below hb3 pB2.lt
          have oA3 := own_below oA hb3
          have oB3 := own_below ownA2 hb3
          clear hc3 hb2 hbb tB2 pB2 oA ownA2 hb3
          go_wp2_with fail
          refine (hc4 _).mono ?_
          rintro e v4 ⟨rfl, hb4⟩
          have hal : Below v3.heap.size v3 (v3.alloc (.cells #[.string ⟨Q.1.toArray⟩, .string ⟨Q.2.1.toArray⟩] 34)) := (Below.refl _ _).alloc (Nat.le_refl _) _
          have hb34 := hal.trans (hb4.mono hal.size)
          have hbd := hbc.trans (hb34.mono hbc.size)
          have tB4 := tB3.below hb34 tB3.lt
          have pB4 := pB3.below hb34 pB3.lt
          have oA4 := own_below oA3 hb34
          have oB4 := own_below oB3 hb34
          have qB4 : Blk v4 v3.heap.size 34 #[.string ⟨Q.1.toArray⟩, .string ⟨Q.2.1.toArray⟩] := (Blk.new v3 _ _).below hb4 (by simp)
          clear hc4 hal hb34 hb4 tB3 pB3 oA3 oB3 hbc
          have p0 := pB4.cell 0
          have p1 := pB4.cell 1
          have lp := pB4.lt
          have hsame := sameparts_ok A1 A2 n1 c1 n2 c2 P.2.1 P.2.1 (v4.alloc (.cells #[.string ⟨Q.1.toArray⟩, .string ⟨Q.2.1.toArray⟩] 34)) (Rd.of_own (oA4.alloc _)) (Rd.of_own (oB4.alloc _)) (by have := (Rd.of_own oA4).parts; have := hPn; omega) (own_le oA4) (own_le oB4)
          go_wp2_with fail
          refine hsame.mono ?_
          first | rw [show decide (P.2.1 = P.2.1) = true by simp] | rw [show decide True = true from rfl]
          rintro e v5 ⟨rfl, hb5⟩
          have hal : Below v4.heap.size v4 (v4.alloc (.cells #[.string ⟨Q.1.toArray⟩, .string ⟨Q.2.1.toArray⟩] 34)) := (Below.refl _ _).alloc (Nat.le_refl _) _
          have hb45 := hal.trans (hb5.mono hal.size)
          have hbe := hbd.trans (hb45.mono hbd.size)
          have tB5 := tB4.below hb45 tB4.lt
          have qB5 := qB4.below hb45 qB4.lt
          have rB5 : Blk v5 v4.heap.size 34 #[.string ⟨Q.1.toArray⟩, .string ⟨Q.2.1.toArray⟩] := (Blk.new v4 _ _).below hb5 (by simp)
          clear hsame hal hb45 hb5 tB4 pB4 oA4 oB4 hbd qB4 p0 p1 lp
          have q0 := qB5.cell 0
          have q1 := qB5.cell 1
          have lq := qB5.lt
          have r0 := rB5.cell 0
          have r1 := rB5.cell 1
          have lr := rB5.lt
          go_wp2
          go_roundg (2 - (k + 1))
          case measure => omega
          case rel => exact ⟨k + 1, by omega, rfl, by go_num, hbe, tB5⟩
        · have hkz : decide ((k : Int) < 2) = false := by simp; omega
          have hb := hH.out.1
          clear hH
          go_wp2
          go_returns
          exact ⟨rfl, hb⟩

set_option maxRecDepth 100000 in
theorem parses_long (hm : Mx w) (h : 400 < s.size) : Calls Tryd.prog 3 #[.string s, .slice A n c] w fun e w' => e = .returned (.bool true) ∧ Below w.heap.size w w' := by
  have l1 : decide ((400 : Int) < s.size) = true := by simp; omega
  go_enter Tryd.func3, Tryd.ntmps3
  go_wp2_with fail
  refine (awake_ok _ hm).mono ?_
  rintro e w1 ⟨rfl, hb1⟩
  go_wp2
  go_returns
  exact ⟨rfl, hb1⟩

theorem parses_all (hm : Mx w) (hr : Rd w w.heap.size 1 A n (bvs l)) (hnm : n ≤ 9223372036854775807) : Calls Tryd.prog 3 #[.string s, .slice A n c] w fun e w' => e = .returned (.bool true) ∧ Below w.heap.size w w' := by
  by_cases h : s.size ≤ 400
  · exact parses_ok s A n c l w hm hr h hnm
  · exact parses_long s A n c w hm (by omega)
end
end Go.Proofs.YtkjgieehiimiiaaDoor

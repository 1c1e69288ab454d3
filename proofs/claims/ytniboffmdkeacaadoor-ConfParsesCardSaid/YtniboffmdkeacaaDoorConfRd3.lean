/- The document's answer for texts: labels of levels and categories; labels read. -/
import Derived.Test.YtniboffmdkeacaaDoorConfRd2
namespace Go.Proofs.YtniboffmdkeacaaDoor
open Go.RowKit Go.WideMaps
set_option linter.unusedSimpArgs false
set_option linter.unusedVariables false

theorem or_add (x c : Nat) (h : x.testBit c = false) : x ||| 2 ^ c = x + 2 ^ c := by
  rw [Nat.testBit_eq_decide_div_mod_eq] at h
  have h0 : x / 2 ^ c % 2 = 0 := by
    have := of_decide_eq_false h
    have := Nat.mod_two_eq_zero_or_one (x / 2 ^ c)
    omega
  have hp : 0 < 2 ^ c := Nat.two_pow_pos c
  obtain ⟨q, hq⟩ : ∃ q, q = x / 2 ^ (c + 1) := ⟨_, rfl⟩
  obtain ⟨r, hr⟩ : ∃ r, r = x % 2 ^ (c + 1) := ⟨_, rfl⟩
  have hrl : r < 2 ^ c := by
    rw [hr, Nat.mod_pow_succ, h0, Nat.mul_zero, Nat.add_zero]
    exact Nat.mod_lt _ hp
  have hx : x = 2 ^ (c + 1) * q + r := by rw [hq, hr]; exact (Nat.div_add_mod x _).symm
  have hs : (2 : Nat) ^ (c + 1) = 2 * 2 ^ c := by rw [Nat.pow_succ, Nat.mul_comm]
  have e1 : 2 ^ (c + 1) * q + r = 2 ^ (c + 1) * q ||| r := Nat.two_pow_add_eq_or_of_lt (by omega) q
  have e2 : 2 ^ (c + 1) * q + (2 ^ c * 1 + r) = 2 ^ (c + 1) * q ||| (2 ^ c * 1 + r) := Nat.two_pow_add_eq_or_of_lt (by omega) q
  have e3 : 2 ^ c * 1 + r = 2 ^ c * 1 ||| r := Nat.two_pow_add_eq_or_of_lt hrl 1
  rw [Nat.mul_one] at e2 e3
  have e4 : x + 2 ^ c = 2 ^ (c + 1) * q + (2 ^ c + r) := by omega
  rw [e4, e2, e3, hx, e1, Nat.or_assoc, Nat.or_comm r]
theorem bit_add (acc : UInt16) {c : Nat} (h : ¬ 15 < c) (hb : acc.toNat.testBit c = false) : IntKind.u16.wrap ((acc.toNat : Int) + IntKind.u16.wrap (2 ^ c)) = ((acc ||| bit16 c).toNat : Int) ∧ IntKind.u16.wrap ((acc.toNat : Int) + 2 ^ c) = ((acc ||| bit16 c).toNat : Int) := by
  obtain ⟨h1, h2, h3⟩ := bit16_toNat h
  have e : (acc ||| bit16 c).toNat = acc.toNat + 2 ^ c := by rw [UInt16.toNat_or, h2, or_add _ _ hb]
  have hlt := (acc ||| bit16 c).toNat_lt
  rw [h1]
  have : IntKind.u16.wrap ((acc.toNat : Int) + ((2 ^ c : Nat) : Int)) = ((acc ||| bit16 c).toNat : Int) := by
    rw [IntKind.wrap_u16, e]
    rw [e] at hlt
    omega
  exact ⟨this, by rw [← this]; simp⟩
theorem bit_has (acc : UInt16) {c : Nat} (h : ¬ 15 < c) (hb : acc.toNat.testBit c = true) : acc ||| bit16 c = acc := by
  obtain ⟨h1, h2, h3⟩ := bit16_toNat h
  apply UInt16.toNat_inj.1
  rw [UInt16.toNat_or, h2]
  apply Nat.eq_of_testBit_eq
  intro i
  rw [Nat.testBit_or, Nat.testBit_two_pow]
  by_cases e : c = i
  · subst e; simp [hb]
  · simp [e]
def ofAns (r : Option (UInt8 × UInt16)) : Ending :=
  match r with
  | none => .returned (.tuple #[.agg #[.int .u8 0, .int .u16 0], .bool false])
  | some (l, c) => .returned (.tuple #[.agg #[.int .u8 (l.toNat : Int), .int .u16 (c.toNat : Int)], .bool true])
section
attribute [-go_sem] Instr.build
attribute [local go_sem] build_labl build_lab0
variable {A : Option Addr} {cA : Nat} {l : List Nat} {w : World}
set_option maxRecDepth 100000 in
set_option maxHeartbeats 2000000 in
theorem of_ref (lv : Nat) (h9 : lv ≤ 99) (hl9 : ∀ c ∈ l, c ≤ 99) (hn : l.length ≤ 60000) (hr : Rd w w.heap.size 1 A l.length (ivs l)) :
    Calls Tryd.prog 62 #[.int .i64 (lv : Int), .slice A l.length cA] w fun e w' => e = ofAns (makeP lv l) ∧ Below w.heap.size w w' := by
  go_enter Tryd.func62, Tryd.ntmps62
  by_cases hlv : 15 < lv
  · have t1 : decide ((lv : Int) < 0) = false := by simp
    have t2 : decide ((15 : Int) < (lv : Int)) = true := by simp; omega
    have hm : Hid (makeP lv l = none) := if_pos hlv
    go_wp2
    refine bodyPost_ret (results_run2 rfl (ResV.struct rfl (Blk.new _ _ _) Tryd.underlying36 (by kernel_rfl)) rfl) rfl ?_
    rw [hm.out]
    exact ⟨rfl, (Below.refl _ _).alloc (Nat.le_refl _) _⟩
  · have t1 : decide ((lv : Int) < 0) = false := by simp
    have t2 : decide ((15 : Int) < (lv : Int)) = false := by simp; omega
    have hm : Hid (makeP lv l = (orsP 0 l).map fun c => (UInt8.ofNat lv, c)) := if_neg hlv
    have hlv8 : ((lv : Int)) % 256 = lv := by omega
    go_wp2_with fail
    refine at_world (fun W => ∃ b4 b6, b4 = w.heap.size ∧ b6 = w.heap.size + 1 ∧ Below w.heap.size w W ∧ Blk W b4 36 #[.int .u8 0, .int .u16 0] ∧ Blk W b6 36 #[.int .u8 (lv : Int), .int .u16 0]) ⟨_, _, rfl, rfl, ((Below.refl _ _).alloc (Nat.le_refl _) _).alloc (by simp) _, (Blk.new w _ _).alloc _, by have := Blk.new (w.alloc (.cells #[.int .u8 0, .int .u16 0] 36)) 36 #[.int .u8 (lv : Int), .int .u16 0]; simpa using this⟩ (fun w4 h4 => ?_)
    obtain ⟨b4, b6, e4, e6, hb, h4, h6⟩ := h4
    rw [← e6, ← e4]
    have H4 := hide h4
    have E4 := hide e4
    have E6 := hide e6
    clear e4 e6 h4
    go_loopg [7] l.length (fun g x7 wr => ∃ (k : Nat) (acc : UInt16), k ≤ l.length ∧ g = l.length - k ∧ x7 = .int .i64 (k : Int) ∧ Below w.heap.size w wr ∧ Blk wr b4 36 #[.int .u8 0, .int .u16 0] ∧ Blk wr b6 36 #[.int .u8 (lv : Int), .int .u16 (acc.toNat : Int)] ∧ Hid (orsP acc (l.drop k) = orsP 0 l))
    case atStart => exact ⟨0, 0, Nat.zero_le _, rfl, rfl, hb, H4.out, h6, hide rfl⟩
    case round =>
      obtain ⟨k, acc, hk, hg, rfl, hbr, h4, h6, hO⟩ := hrel
      by_cases hkl : k < l.length
      · have hkz : (k : Int) < l.length := by omega
        obtain ⟨c, hc⟩ : ∃ c, l[k]? = some c := ⟨_, List.getElem?_eq_getElem hkl⟩
        have hc99 := hl9 c (List.mem_of_getElem? hc)
        obtain ⟨b, o, rfl, hbb, hcell⟩ := rd_iv (hr.below hbr) hc
        have a0 := hcell
        have hblt := Nat.lt_of_lt_of_le hbb hbr.size
        have HBR := hide hbr
        clear hcell hbr
        by_cases h15 : 15 < c
        · have t3 : decide ((c : Int) < 0) = false := by simp
          have t4 : decide ((15 : Int) < (c : Int)) = true := by simp; omega
          have hm2 : Hid (makeP lv l = none) := by
            rw [hm.out, ← hO.out, List.drop_eq_getElem_cons hkl]
            rw [List.getElem?_eq_getElem hkl] at hc
            injection hc with hc
            rw [hc, orsP, if_pos h15]; rfl
          clear hO hc
          have l4 := h4.lt
          have c40 := h4.cell 0
          have c41 := h4.cell 1
          have z40 := h4.frozen 0
          have z41 := h4.frozen 1
          go_wp2
          refine bodyPost_ret (results_run2 rfl (ResV.struct rfl ((h4.set_ 0 _).set_ 1 _) Tryd.underlying36 (by kernel_rfl)) rfl) rfl ?_
          rw [hm2.out]
          exact ⟨rfl, (HBR.out.setCell (Nat.le_of_eq E4.out.symm) _).setCell (Nat.le_of_eq E4.out.symm) _⟩
        · have t3 : decide ((c : Int) < 0) = false := by simp
          have t4 : decide ((15 : Int) < (c : Int)) = false := by simp; omega
          have hm2 : Hid (orsP (acc ||| bit16 c) (l.drop (k + 1)) = orsP 0 l) := by
            have := hO.out
            rw [List.drop_eq_getElem_cons hkl] at this
            rw [List.getElem?_eq_getElem hkl] at hc
            injection hc with hc
            rw [hc, orsP, if_neg h15] at this
            exact this
          clear hO hc
          have H6 := hide h6
          have H4' := hide h4
          have HBB := hide (And.intro hbb a0)
          have l6 := h6.lt
          have c60 := h6.cell 0
          have c61 := h6.cell 1
          have hhas := has_ref (UInt8.ofNat lv) acc c (by omega)
          rw [show ((UInt8.ofNat lv).toNat : Int) = (lv : Int) by simp; omega] at hhas
          have HHAS := hide hhas
          clear h6 h4 hhas
          go_wp2_with fail
          refine wp_region_tree (.q 0 (.q 1 (.q 2 (.q 3 (.q 4 (.x 5 (.q 6 .nil))))))) (Below wr.heap.size wr) (by kernel_rfl) (by kernel_rfl) (Below.refl _ _).drew ?_
          iterate 5 (refine wpT_q (v := ?_) (by simp only [List.getElem?_toArray, List.getElem?_cons_succ, List.getElem?_cons_zero]; try rfl) (by rfl) (fun W hW => ?_) ?_; rotate_left; (focus ((obtain ⟨hWc, hWf⟩ := bcell hW); go_simp; try with_reducible rfl)); try simp only [Act.put, List.setIfInBounds_toArray, List.set_cons_zero, List.set_cons_succ])
          refine wpT_x (by simp only [List.getElem?_toArray, List.getElem?_cons_succ, List.getElem?_cons_zero]; try rfl) (by rfl) (fun K hK => ?_)
          go_simp
          refine (HHAS.out _).mono ?_
          rintro e w15 ⟨rfl, hb15'⟩
          have hb15 : Below wr.heap.size wr w15 := (Below.refl _ _).drew.trans hb15'
          refine hK (Below wr.heap.size wr) _ _ (fun _ h => h) hb15 ?_
          clear hK K
          try simp only [Act.put, List.setIfInBounds_toArray, List.set_cons_zero, List.set_cons_succ]
          iterate 1 (refine wpT_q (v := ?_) (by simp only [List.getElem?_toArray, List.getElem?_cons_succ, List.getElem?_cons_zero]; try rfl) (by rfl) (fun W hW => ?_) ?_; rotate_left; (focus ((obtain ⟨hWc, hWf⟩ := bcell hW); go_simp; try with_reducible rfl)); try simp only [Act.put, List.setIfInBounds_toArray, List.set_cons_zero, List.set_cons_succ])
          refine wpT_nil ?_
          have k4 := H4'.out.below hb15 H4'.out.lt
          have k6 := H6.out.below hb15 H6.out.lt
          have B15 := hide (HBR.out.trans (hb15.mono HBR.out.size))
          have a1 := (hb15.cell (p := ⟨b, o + k, none⟩) hblt).trans HBB.out.2
          have hbl2 := Nat.lt_of_lt_of_le hblt hb15.size
          have l6' := k6.lt
          have c61' := k6.cell 1
          have z61 := k6.frozen 1
          have K4 := hide k4
          have K6 := hide k6
          clear hb15 hb15' a0 c60 c61 l6 k4 k6
          cases hbit : acc.toNat.testBit c with
          | true =>
            have HBIT := hide (bit_has acc h15 hbit)
            clear hbit
            go_wp2
            go_roundg (l.length - (k + 1))
            case measure => omega
            case rel => exact ⟨k + 1, acc, by omega, rfl, by go_num, B15.out, K4.out, K6.out, by have := hm2.out; rw [HBIT.out] at this; exact hide this⟩
          | false =>
            have HBIT := hide (bit_add acc h15 hbit)
            clear hbit
            go_wp2
            go_region
            go_wp2
            go_roundg (l.length - (k + 1))
            case measure => omega
            case rel => exact ⟨k + 1, acc ||| bit16 c, by omega, rfl, by go_num, (B15.out.setCell (show w.heap.size ≤ b6 by have := E6.out; omega) _).drew, (K4.out.far (by have := E4.out; have := E6.out; show b4 ≠ b6; omega) _).drew, by rw [HBIT.out.1]; exact (K6.out.set_ 1 _).drew, hm2⟩
      · obtain rfl : k = l.length := by omega
        have c60 := h6.cell 0
        have c61 := h6.cell 1
        have l6 := h6.lt
        have l4 := h4.lt
        have c40 := h4.cell 0
        have c41 := h4.cell 1
        have z40 := h4.frozen 0
        have z41 := h4.frozen 1
        have hm2 : Hid (makeP lv l = some (UInt8.ofNat lv, acc)) := by
          rw [hm.out, ← hO.out, List.drop_length]; rfl
        go_wp2
        refine bodyPost_ret (results_run2 rfl (ResV.struct rfl ((h4.set_ 0 _).set_ 1 _) Tryd.underlying36 (by kernel_rfl)) rfl) rfl ?_
        rw [hm2.out]
        have e8 : (UInt8.ofNat lv).toNat = lv := by simp; omega
        exact ⟨by simp only [ofAns, e8]; rfl, (hbr.setCell (Nat.le_of_eq E4.out.symm) _).setCell (Nat.le_of_eq E4.out.symm) _⟩

def labRAns (r : Option (UInt8 × UInt16) × Int) : Ending :=
  match r with
  | (none, e) => .returned (.tuple #[.agg #[.int .u8 0, .int .u16 0], .int .i64 e])
  | (some (l, c), _) => .returned (.tuple #[.agg #[.int .u8 (l.toNat : Int), .int .u16 (c.toNat : Int)], .int .i64 0])
set_option maxRecDepth 100000 in
set_option maxHeartbeats 4000000 in
theorem parse_ref (s : ByteArray) (w : World) (hs : s.size ≤ 59000) :
    Calls Tryd.prog 42 #[.string s] w fun e w' => e = labRAns (labR s.data.toList) ∧ Below w.heap.size w w' := by
  go_enter Tryd.func42, Tryd.ntmps42
  go_wp2_with fail
  refine at_world (fun W => ∃ b2, b2 = w.heap.size ∧ Below w.heap.size w W ∧ Blk W b2 36 #[.int .u8 0, .int .u16 0]) ⟨_, rfl, (Below.refl _ _).alloc (Nat.le_refl _) _, Blk.new w _ _⟩ (fun w2 h2 => ?_)
  obtain ⟨b2, e2, hb2, k2⟩ := h2
  rw [← e2]
  have E2 := hide e2
  have K2 := hide k2
  have B2 := hide hb2
  clear e2 hb2 k2
  go_loopg [4] 100 (fun g x4 wr => ∃ c : Nat, c ≤ 100 ∧ g = 100 - c ∧ x4 = .int .i64 (c : Int) ∧ Below w2.heap.size w2 wr ∧ Hid (∀ c', c' < c → ¬ headIs s.data.toList c' 58))
  case atStart => exact ⟨0, by omega, rfl, rfl, Below.refl _ _, hide fun c' h2 => by omega⟩
  case round =>
    obtain ⟨c, hc, hg, rfl, hbr, hA⟩ := hrel
    rcases Nat.lt_or_ge c 100 with hc1 | hc1
    · have hcz : (c : Int) < 100 := by omega
      go_wp2_with fail
      refine (itoa_ref c hc1 _).mono ?_
      rintro e w5 ⟨rfl, hb5⟩
      have B5 := hide (hbr.trans (hb5.mono hbr.size))
      obtain ⟨L, hL⟩ : ∃ L, L = itoaL c := ⟨_, rfl⟩
      have hlen := itoaL_len c
      rw [← hL] at hlen ⊢
      have HL := hide hL
      clear hL hbr hb5
      by_cases hs1 : s.data.toList = L
      · have t1 : (s.toList == L) = true := by rw [Lib.toList_data]; exact beq_iff_eq.2 hs1
        have HR := hide (labR_hit hc1 (hs1.trans HL.out))
        have k2 := K2.out.below B5.out K2.out.lt
        have K5 := hide k2
        clear hs1 k2
        go_wp2_with fail
        refine (of_ref (l := []) (A := none) (cA := 0) c (by omega) (by simp) (by simp) (Rd.nil _ _ _ _)).mono ?_
        rintro e w6 ⟨rfl, hb6⟩
        have B6 := hide (B5.out.trans (hb6.mono B5.out.size))
        have k2 := K5.out.below hb6 K5.out.lt
        have k20 := k2.cell 0
        have k21 := k2.cell 1
        have z20 := k2.frozen 0
        have z21 := k2.frozen 1
        have l2 := k2.lt
        have K6 := hide k2
        clear hb6 k2
        have BW := hide (B2.out.trans (B6.out.mono B2.out.size))
        cases hm : makeP c [] with
        | none =>
          have HM := hide (show labR s.data.toList = (none, 27) by rw [HR.out, hm])
          clear hm
          simp only [ofAns]
          go_wp2
          refine bodyPost_ret (results_run2 rfl (ResV.struct rfl (((K6.out.set_ 0 _).set_ 1 _).alloc _) Tryd.underlying36 (by kernel_rfl)) rfl) rfl ?_
          rw [HM.out]
          exact ⟨rfl, (((BW.out.setCell (Nat.le_of_eq E2.out.symm) _).setCell (Nat.le_of_eq E2.out.symm) _).alloc (by have := BW.out.size; simp [World.setCell]; omega) _)⟩
        | some ab =>
          obtain ⟨a, b⟩ := ab
          have HM := hide (show labR s.data.toList = (some (a, b), 27) by rw [HR.out, hm])
          clear hm
          simp only [ofAns]
          go_wp2
          refine bodyPost_ret (results_run2 rfl (ResV.struct rfl (((K6.out.set_ 0 _).set_ 1 _).alloc _) Tryd.underlying36 (by kernel_rfl)) rfl) rfl ?_
          rw [HM.out]
          exact ⟨rfl, (((BW.out.setCell (Nat.le_of_eq E2.out.symm) _).setCell (Nat.le_of_eq E2.out.symm) _).alloc (by have := BW.out.size; simp [World.setCell]; omega) _)⟩
      have t1 : (s.toList == L) = false := by rw [Lib.toList_data]; exact beq_eq_false_iff_ne.2 hs1
      by_cases hs2 : ∃ t, s.data.toList = L ++ 58 :: t
      · obtain ⟨t, ht⟩ := hs2
        obtain ⟨hl, e1, e2, e3⟩ := head_more ht
        have hlz : (L.length : Int) < s.size := by omega
        have hlz2 : (L.length : Int) + 1 ≤ s.size := by omega
        have hlz3 : (L.length : Int) ≤ s.size := by omega
        have t2 : decide (L.length < s.size) = true := by simpa using hl
        have t3 : ((s.extract 0 L.length).toList == L) = true := by rw [Lib.toList_data]; exact beq_iff_eq.2 e1
        have t4 : ((s[L.length].toNat : Int) == 58) = true := by rw [e2]; rfl
        have HR := hide (labR_more hc1 (ht.trans (by rw [HL.out])))
        have hsx : (s.extract (L.length + 1) s.size).size = t.length := by rw [sz, e3]
        have hst : t.length ≤ 59000 := by have h2 := sz s; rw [ht] at h2; simp at h2; omega
        have k2 := K2.out.below B5.out K2.out.lt
        have K5 := hide k2
        have hlist := list_ref (t.length + 1) (s.extract (L.length + 1) s.size) 0 w5 (by omega) (by omega) (by omega)
        rw [e3, show (((0 : Nat) : Int) - 1) = -1 by omega] at hlist
        have HT := hide hst
        clear e1 e2 e3 ht hs1 hsx hst k2
        go_wp2_with fail
        refine hlist.mono ?_
        rintro e w8 ⟨cats, Ac, cc, rfl, hb8, o8, hl8, hx8⟩
        have B8 := hide (B5.out.trans (hb8.mono B5.out.size))
        have k2 := K5.out.below hb8 K5.out.lt
        have K8 := hide k2
        clear hb8 hlist k2
        cases hlr : listR (t.length + 1) 0 t with
        | none =>
          have HM := hide (show labR s.data.toList = (none, 28) by rw [HR.out, hlr])
          have BW := hide (B2.out.trans (B8.out.mono B2.out.size))
          have k20 := K8.out.cell 0
          have k21 := K8.out.cell 1
          have z20 := K8.out.frozen 0
          have z21 := K8.out.frozen 1
          have l2 := K8.out.lt
          clear hlr hx8
          simp only [Option.isSome_none]
          go_wp2
          refine bodyPost_ret (results_run2 rfl (ResV.struct rfl ((K8.out.set_ 0 _).set_ 1 _) Tryd.underlying36 (by kernel_rfl)) rfl) rfl ?_
          rw [HM.out]
          exact ⟨rfl, ((BW.out.setCell (Nat.le_of_eq E2.out.symm) _).setCell (Nat.le_of_eq E2.out.symm) _)⟩
        | some cs =>
          have hcs := hx8 cs hlr
          subst hcs
          have hle := listR_le hlr
          have HR2 := hide (show labR s.data.toList = (makeP c cats, 27) by rw [HR.out, hlr])
          have hof := hide (of_ref (l := cats) (A := Ac) (cA := cc) (w := w8) c (by omega) hle.1 (by have := HT.out; omega) (Rd.of_own o8))
          clear hlr hx8 hle o8
          simp only [Option.isSome_some]
          go_wp2_with fail
          refine hof.out.mono ?_
          rintro e w9 ⟨rfl, hb9⟩
          have B9 := hide (B8.out.trans (hb9.mono B8.out.size))
          have k2 := K8.out.below hb9 K8.out.lt
          have k20 := k2.cell 0
          have k21 := k2.cell 1
          have z20 := k2.frozen 0
          have z21 := k2.frozen 1
          have l2 := k2.lt
          have K9 := hide k2
          have BW := hide (B2.out.trans (B9.out.mono B2.out.size))
          clear hb9 k2 hof
          cases hm : makeP c cats with
          | none =>
            have HM := hide (show labR s.data.toList = (none, 27) by rw [HR2.out, hm])
            clear hm
            simp only [ofAns]
            go_wp2
            refine bodyPost_ret (results_run2 rfl (ResV.struct rfl (((K9.out.set_ 0 _).set_ 1 _).alloc _) Tryd.underlying36 (by kernel_rfl)) rfl) rfl ?_
            rw [HM.out]
            exact ⟨rfl, (((BW.out.setCell (Nat.le_of_eq E2.out.symm) _).setCell (Nat.le_of_eq E2.out.symm) _).alloc (by have := BW.out.size; simp [World.setCell]; omega) _)⟩
          | some ab =>
            obtain ⟨a, b⟩ := ab
            have HM := hide (show labR s.data.toList = (some (a, b), 27) by rw [HR2.out, hm])
            clear hm
            simp only [ofAns]
            go_wp2
            refine bodyPost_ret (results_run2 rfl (ResV.struct rfl (((K9.out.set_ 0 _).set_ 1 _).alloc _) Tryd.underlying36 (by kernel_rfl)) rfl) rfl ?_
            rw [HM.out]
            exact ⟨rfl, (((BW.out.setCell (Nat.le_of_eq E2.out.symm) _).setCell (Nat.le_of_eq E2.out.symm) _).alloc (by have := BW.out.size; simp [World.setCell]; omega) _)⟩
      have hA2 := hide (show ∀ c', c' < c + 1 → ¬ headIs s.data.toList c' 58 from fun c' h2 hh => by
        rcases Nat.lt_succ_iff_lt_or_eq.1 h2 with h | rfl
        · exact hA.out c' h hh
        · rcases hh with hh | ⟨t, ht⟩
          · exact hs1 (by rw [HL.out]; exact hh)
          · exact hs2 ⟨t, by rw [HL.out]; exact ht⟩)
      rcases head_cases s L 58 hs1 hs2 with h1 | ⟨h1, h2⟩ | ⟨h1, h2, h3⟩
      · have t2 : decide (L.length < s.size) = false := by simp; omega
        clear hs1 hs2
        go_wp2
        go_roundg (100 - (c + 1))
        case measure => omega
        case rel => exact ⟨c + 1, by omega, rfl, by go_num, B5.out, hA2⟩
      · have t2 : decide (L.length < s.size) = true := by simpa using h1
        have t3 : ((s.extract 0 L.length).toList == L) = false := by rw [Lib.toList_data]; exact beq_eq_false_iff_ne.2 h2
        have hlz3 : (L.length : Int) ≤ s.size := by omega
        clear hs1 hs2 h2
        go_wp2
        go_roundg (100 - (c + 1))
        case measure => omega
        case rel => exact ⟨c + 1, by omega, rfl, by go_num, B5.out, hA2⟩
      · have t2 : decide (L.length < s.size) = true := by simpa using h1
        have t3 : ((s.extract 0 L.length).toList == L) = true := by rw [Lib.toList_data]; exact beq_iff_eq.2 h2
        have t4 : ((s[L.length].toNat : Int) == 58) = false := beq_eq_false_iff_ne.2 fun h => h3 (UInt8.toNat_inj.1 (by have : (58 : UInt8).toNat = 58 := rfl; omega))
        have hlz : (L.length : Int) < s.size := by omega
        have hlz3 : (L.length : Int) ≤ s.size := by omega
        clear hs1 hs2 h2 h3
        go_wp2
        go_roundg (100 - (c + 1))
        case measure => omega
        case rel => exact ⟨c + 1, by omega, rfl, by go_num, B5.out, hA2⟩
    · obtain rfl : c = 100 := by omega
      have HM := hide (labR_none (s := s.data.toList) fun c' h2 => hA.out c' h2)
      have K8 := hide (K2.out.below hbr K2.out.lt)
      have BW := hide (B2.out.trans (hbr.mono B2.out.size))
      have k20 := K8.out.cell 0
      have k21 := K8.out.cell 1
      have z20 := K8.out.frozen 0
      have z21 := K8.out.frozen 1
      have l2 := K8.out.lt
      go_wp2
      refine bodyPost_ret (results_run2 rfl (ResV.struct rfl ((K8.out.set_ 0 _).set_ 1 _) Tryd.underlying36 (by kernel_rfl)) rfl) rfl ?_
      rw [HM.out]
      exact ⟨rfl, ((BW.out.setCell (Nat.le_of_eq E2.out.symm) _).setCell (Nat.le_of_eq E2.out.symm) _)⟩
end
end Go.Proofs.YtniboffmdkeacaaDoor

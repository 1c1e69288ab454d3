/- ConfGroups: the walk of the law. -/
import Derived.Test.YtniboffmdkeacaaDoorConfSc
import Derived.Test.YtniboffmdkeacaaDoorConfAw
import Derived.Test.YtniboffmdkeacaaDoorConfGrp
namespace Go.Proofs.YtniboffmdkeacaaDoor
open Go.RowKit Go.WideMaps
set_option linter.unusedSimpArgs false
set_option linter.unusedVariables false

def LSt (R : List RegV) (k : Nat) (last num : Int) : Prop := (k ≤ 32 ∧ last = -1 ∧ num = 0) ∨ (33 ≤ k ∧ ∃ (j : Nat) (kk : Int), grFrom 0 32 R ((k : Int) - 1) = some (j, kk) ∧ last = j ∧ num = kk)
theorem lst_step {R : List RegV} (hp : ∀ r ∈ R, posR r) (hne : R ≠ []) {k : Nat} {last num : Int} (h : LSt R k last num) (h32 : 32 ≤ k) (hk : (k : Int) < totalOf 32 R) :
    ∃ (j : Nat) (kk : Int) (r : RegV), grFrom 0 32 R k = some (j, kk) ∧ R[j]? = some r ∧ 0 ≤ kk ∧ kk ≤ r.blocks ∧ LSt R (k + 1) j kk ∧
      ((last ≠ j ∧ (j : Int) = last + 1 ∧ kk = 0) ∨ (last = j ∧ kk = 0 ∧ num = 0) ∨ (last = j ∧ kk = num + 1 ∧ 0 ≤ num)) := by
  obtain ⟨j, kk, r, e1, e2, e3, e4⟩ := gr_some hp 0 32 (k : Int) (by omega) hk
  rw [Nat.zero_add] at e1
  refine ⟨j, kk, r, e1, e2, e3, e4, .inr ⟨by omega, j, kk, by rw [← e1]; congr 1; omega, rfl, rfl⟩, ?_⟩
  rcases h with ⟨h1, rfl, rfl⟩ | ⟨h1, j0, k0, h2, rfl, rfl⟩
  · have hk32 : k = 32 := by omega
    subst hk32
    have e5 := gr_first hp 0 32 hne
    have e6 : grFrom 0 32 R ((32 : Nat) : Int) = grFrom 0 32 R 32 := rfl
    rw [e6, e5] at e1
    injection e1 with e1
    injection e1 with e1 e7
    subst e1 e7
    exact .inl ⟨by decide, by decide, rfl⟩
  · obtain ⟨a, b, a', b', f1, f2, f3⟩ := gr_next hp 0 32 ((k : Int) - 1) (by omega) (by omega)
    rw [show (k : Int) - 1 + 1 = k by omega] at f2
    rw [h2] at f1
    rw [e1] at f2
    injection f1 with f1
    injection f1 with f1 f4
    injection f2 with f2
    injection f2 with f2 f5
    subst f1 f4 f2 f5
    rcases f3 with ⟨g1, ⟨g2, g3⟩ | ⟨g2, g3⟩⟩ | ⟨g1, g2⟩
    · exact .inr (.inl ⟨by rw [g1], g2, g3⟩)
    · exact .inr (.inr ⟨by rw [g1], g3, g2⟩)
    · exact .inl ⟨by omega, by omega, g2⟩
theorem lst_end {R : List RegV} (hp : ∀ r ∈ R, posR r) (hne : R ≠ []) {k : Nat} {last num : Int} (h : LSt R k last num) (hk : (k : Int) = totalOf 32 R) (hgt : 32 < k) : last = (R.length : Int) - 1 := by
  rcases h with ⟨h1, _⟩ | ⟨h1, j0, k0, h2, rfl, rfl⟩
  · omega
  · obtain ⟨q, hq⟩ := gr_last hp 0 32 hne
    rw [hk] at h2
    rw [hq] at h2
    injection h2 with h2
    injection h2 with h2 _
    have : 0 < R.length := List.length_pos_iff.2 hne
    omega
theorem gr_is {R : List RegV} (hp : ∀ r ∈ R, posR r) (b : Int) : (grFrom 0 32 R b).isSome = (decide (32 ≤ b) && decide (b < totalOf 32 R)) := by
  by_cases h : 32 ≤ b ∧ b < totalOf 32 R
  · obtain ⟨j, k, r, e, _⟩ := gr_some hp 0 32 b h.1 h.2
    rw [e]
    simp [h.1, h.2]
  · rw [gr_none hp 0 32 b (by omega)]
    by_cases h1 : 32 ≤ b
    · have h2 : ¬ b < totalOf 32 R := fun h2 => h ⟨h1, h2⟩
      simp [h2]
    · simp [h1]
theorem sz_pos (m : UInt8) (H : List UInt8) : ∀ r ∈ szRegs m H, posR r := fun r hr => by
  obtain ⟨i, hi, rfl⟩ := List.mem_map.1 hr
  exact ⟨by simp only [szReg]; omega, by simp only [szReg]; omega⟩

section
variable {m : UInt8} {H : List UInt8} {A : Option Addr} {n c : Nat} {T : List UInt8} {w : World}
set_option maxRecDepth 100000 in
set_option maxHeartbeats 4000000 in
theorem groups_all (hL : Lw w) (hH : H.length = 25) (hT : Rd w w.heap.size 1 A n (bvs T)) (hnm : n ≤ 9223372036854775807) (b : Int) (q : Nat) (hq : q < 18446744073709551616) :
    Calls Tryd.prog 3 #[.agg (szCells m H A n c), .int .i64 b, .int .u64 (q : Int)] w fun e w' => e = .returned (.bool true) ∧ Below w.heap.size w w' := by
  have hsz : (szCells m H A n c).size = 27 := szCells_size hH
  go_enter Tryd.func3, Tryd.ntmps3
  go_upto_region 1 with (fail)
  refine at_world (fun W => ∃ bx, bx = w.heap.size ∧ Below w.heap.size w W ∧ Blk W bx 26 (szCells m H A n c)) ⟨_, rfl, (Below.refl _ _).alloc (Nat.le_refl _) _, Blk.new _ _ _⟩ (fun w1 h1 => ?_)
  obtain ⟨bx, hbx, hb1, hX1⟩ := h1
  rw [← hbx]
  have hS : ((Tryd.prog.info? 26).map (·.size)) = some (szCells m H A n c).size := by rw [hsz]; kernel_rfl
  have HS := hide hS
  have HB1 := hide hb1
  have HX1 := hide hX1
  have hL1 := hL.below' hb1
  clear hbx hX1 hS hsz hb1
  go_wp2_with fail
  refine (awake2_ok w1 hL1).mono ?_
  rintro e w2 ⟨rfl, hb2⟩
  have HX2 := hide (HX1.out.below hb2 HX1.out.lt)
  have HB2 := hide (HB1.out.trans (hb2.mono HB1.out.size))
  have hT2 := (hT.below HB2.out).more HB2.out.size
  clear hb2
  go_wp2_with (first | (refine wpList_load_row rfl 26 (.tmp 3) (by rfl) bx (by rfl) 26 (szCells m H A n c) (0, 0) _ HX2.out Tryd.underlying26 rfl HS.out ?_) | fail)
  refine (size_conf (w := w2) hH hT2 hnm).mono ?_
  rintro e w3 ⟨cc, K, tb, nb, lb, B1, B2, B3, d1, d2, d3, rfl, hb3, hin, hK⟩
  have HB3 := hide (HB2.out.trans (hb3.mono HB2.out.size))
  have HIN := hide hin
  clear hb3 hin hT2
  have hM2 := szMany_ge m
  have hM5 := szMany_le m
  have hRl := szRegs_length m H
  have hpos := sz_pos m H
  generalize szRegs m H = R at *
  rw [← hRl] at hM2 hM5
  clear hRl
  have hne : R ≠ [] := by intro h; rw [h] at hM2; simp at hM2
  have htb := total_bounds (R := R) HIN.out.ok 32 (by omega)
  have hgt : 32 < totalOf 32 R := by
    cases R with
    | nil => exact absurd rfl hne
    | cons r rest =>
      have h1 := end_gt (hpos r (by simp)) 32
      have h2 := total_ge (fun x hx => hpos x (by simp [hx])) (a := (geoOf 32 r).end_) (R := rest)
      simp only [totalOf]
      omega
  obtain ⟨tot, htot⟩ : ∃ tot : Nat, totalOf 32 R = (tot : Int) := ⟨_, (Int.toNat_of_nonneg htb.1).symm⟩
  rw [htot] at htb hgt
  have HTOT := hide htot
  have hR64 : R.length ≤ 64 := by omega
  have HTOK := total_ok HIN.out
  rw [htot] at HTOK
  clear htot
  go_wp2_with fail
  refine HTOK.mono ?_
  rintro e w' ⟨rfl, rfl⟩
  clear HTOK
  go_wp2_with fail
  go_loopg [8, 9, 25] tot (fun g x8 x9 x25 wr => ∃ (k : Nat) (last num : Int), k ≤ tot ∧ g = tot - k ∧ x8 = .int .i64 last ∧ x9 = .int .i64 num ∧ x25 = .int .i64 (k : Int) ∧ Below w'.heap.size w' wr ∧ Hid (LSt R k last num))
  case atStart => exact ⟨0, -1, 0, Nat.zero_le _, rfl, rfl, rfl, rfl, Below.refl _ _, hide (.inl ⟨by omega, rfl, rfl⟩)⟩
  case round =>
    obtain ⟨k, last, num, hk, hg, rfl, rfl, rfl, hbr, hst⟩ := hrel
    rcases Nat.lt_or_ge k tot with hkt | hkt
    · have hkz : (k : Int) < tot := by omega
      have hgrp := group_ok (HIN.out.below hbr) hR64 (k : Int)
      rcases Nat.lt_or_ge k 32 with h32 | h32
      · have hno := gr_none hpos 0 32 (k : Int) (.inl (by omega))
        have t1 : decide ((32 : Int) ≤ (k : Int)) = false := by simp; omega
        rw [hno] at hgrp
        have hst2 : LSt R (k + 1) last num := by
          rcases hst.out with ⟨_, h2, h3⟩ | ⟨h1, _⟩
          · exact .inl ⟨by omega, h2, h3⟩
          · omega
        have HST := hide hst2
        clear hno hst hst2
        go_wp2_with fail
        refine hgrp.mono ?_
        rintro e w5 ⟨rfl, hb5⟩
        have HB5 := hide (hbr.trans (hb5.mono hbr.size))
        clear hgrp hb5 hbr
        simp only [grAns]
        go_wp2
        go_roundg (tot - (k + 1))
        case measure => omega
        case rel => exact ⟨k + 1, last, num, by omega, rfl, rfl, rfl, by go_num, HB5.out, HST⟩
      · have t1 : decide ((32 : Int) ≤ (k : Int)) = true := by simp; omega
        obtain ⟨j, kk, r, e1, e2, e3, e4, e5, e6⟩ := lst_step hpos hne hst.out h32 (by rw [HTOT.out]; omega)
        rw [e1] at hgrp
        have HST := hide e5
        have hj := (List.getElem?_eq_some_iff.1 e2).1
        clear hst e1 e5
        go_wp2_with fail
        refine hgrp.mono ?_
        rintro e w5 ⟨rfl, hb5⟩
        have HB5 := hide (hbr.trans (hb5.mono hbr.size))
        clear hgrp hb5 hbr
        simp only [grAns]
        have hreg := reg_ok (HIN.out.below HB5.out) e2
        have hbk := (HIN.out.ok r (List.mem_of_getElem? e2)).2
        clear e2
        rcases e6 with ⟨f1, f2, rfl⟩ | ⟨rfl, rfl, rfl⟩ | ⟨rfl, rfl, f3⟩
        · obtain rfl : last = (j : Int) - 1 := by omega
          have t2 : ((j : Int) == (j : Int) - 1) = false := beq_eq_false_iff_ne.2 (by omega)
          have t3 : IntKind.i64.wrap ((j : Int) - 1 + 1) = (j : Int) := by rw [IntWalk.i64_in _ (by omega)]; omega
          have t4 : decide (r.blocks < 0) = false := decide_eq_false (by omega)
          clear f1 f2
          go_wp2_with fail
          refine hreg.mono ?_
          rintro e w6 ⟨rfl, hb6⟩
          have hb7 := HB5.out.trans (hb6.mono HB5.out.size)
          have HB7 := hide (hb7.alloc hb7.size (.cells #[.string ⟨r.name.toArray⟩, .int .u8 (r.lev.toNat : Int), .int .u16 (r.cats.toNat : Int), .int .i64 r.blocks, .int .i64 r.nodes, .int .i64 r.frames, .int .i64 r.procs, .int .i64 r.opens, .int .i64 r.clear] 38))
          clear hreg hb6 hb7
          go_wp2
          go_roundg (tot - (k + 1))
          case measure => omega
          case rel => exact ⟨k + 1, _, _, by omega, rfl, rfl, rfl, by go_num, HB7.out, HST⟩
        · have t4 : decide (r.blocks < 0) = false := decide_eq_false (by omega)
          go_wp2_with fail
          refine hreg.mono ?_
          rintro e w6 ⟨rfl, hb6⟩
          have hb7 := HB5.out.trans (hb6.mono HB5.out.size)
          have HB7 := hide (hb7.alloc hb7.size (.cells #[.string ⟨r.name.toArray⟩, .int .u8 (r.lev.toNat : Int), .int .u16 (r.cats.toNat : Int), .int .i64 r.blocks, .int .i64 r.nodes, .int .i64 r.frames, .int .i64 r.procs, .int .i64 r.opens, .int .i64 r.clear] 38))
          clear hreg hb6 hb7
          go_wp2
          go_roundg (tot - (k + 1))
          case measure => omega
          case rel => exact ⟨k + 1, _, _, by omega, rfl, rfl, rfl, by go_num, HB7.out, HST⟩
        · have t2 : IntKind.i64.wrap (num + 1) = num + 1 := IntWalk.i64_in _ (by omega)
          have t3 : decide ((0 : Int) < num + 1) = true := decide_eq_true (by omega)
          have t4 : decide (r.blocks < num + 1) = false := decide_eq_false (by omega)
          go_wp2_with fail
          refine hreg.mono ?_
          rintro e w6 ⟨rfl, hb6⟩
          have hb7 := HB5.out.trans (hb6.mono HB5.out.size)
          have HB7 := hide (hb7.alloc hb7.size (.cells #[.string ⟨r.name.toArray⟩, .int .u8 (r.lev.toNat : Int), .int .u16 (r.cats.toNat : Int), .int .i64 r.blocks, .int .i64 r.nodes, .int .i64 r.frames, .int .i64 r.procs, .int .i64 r.opens, .int .i64 r.clear] 38))
          clear hreg hb6 hb7
          go_wp2
          go_roundg (tot - (k + 1))
          case measure => omega
          case rel => exact ⟨k + 1, _, _, by omega, rfl, rfl, rfl, by go_num, HB7.out, HST⟩
    · obtain rfl : k = tot := by omega
      have hlast := lst_end hpos hne hst.out HTOT.out.symm (by omega)
      have hgrp := group_ok (HIN.out.below hbr) hR64 b
      have h32 : (grFrom 0 32 R b).isSome = (decide (32 ≤ b) && decide (b < (k : Int))) := by rw [gr_is hpos b, HTOT.out]
      subst hlast
      have fM : IntKind.i64.wrap ((R.length : Int) - 1) = (R.length : Int) - 1 := IntWalk.i64_in _ (by omega)
      obtain ⟨p, hp⟩ : ∃ p, p = q % R.length := ⟨_, rfl⟩
      have hpl : p < R.length := by rw [hp]; exact Nat.mod_lt _ (by omega)
      have u1 : IntKind.u64.wrap (R.length : Int) = (R.length : Int) := by rw [IntKind.wrap_u64]; omega
      have u2 : (q : Int).tmod (R.length : Int) = (p : Int) := by rw [IntWalk.rem_in _ _ (by omega), hp]; rfl
      have u3 : IntKind.i64.wrap (p : Int) = (p : Int) := IntWalk.i64_in _ (by omega)
      have u4 : ((R.length : Int) == 0) = false := beq_eq_false_iff_ne.2 (by omega)
      have h0R : 0 < R.length := by omega
      clear hst
      go_wp2_with fail
      refine hgrp.mono ?_
      rintro e w5 ⟨he5, hb5⟩
      have h5 := hide (HIN.out.below (hbr.trans (hb5.mono hbr.size)))
      have HB5 := hide (HB3.out.trans ((hbr.trans (hb5.mono hbr.size)).mono HB3.out.size))
      have hslot := hide (slot_ok h5.out hR64 h0R q hq)
      have htot2 := hide (total_ok h5.out)
      rw [HTOT.out] at htot2
      have hlen := hide (len_ok h5.out)
      rw [← hp] at hslot
      clear hgrp hb5 hbr hp
      by_cases b1 : 32 ≤ b
      · have t1 : decide ((32 : Int) ≤ b) = true := by simpa using b1
        by_cases b2 : b < (k : Int)
        · have t2 : decide (b < (k : Int)) = true := by simpa using b2
          rw [t1, t2] at h32
          obtain ⟨⟨j, kk⟩, hgr⟩ := Option.isSome_iff_exists.1 h32
          rw [hgr] at he5
          simp only [grAns] at he5
          subst he5
          clear h32 hgr
          go_wp2_with (first | (go_at_call 12; refine hlen.out.mono ?_; rintro e w' ⟨rfl, rfl⟩) | (go_at_call 9; refine htot2.out.mono ?_; rintro e w' ⟨rfl, rfl⟩) | (go_at_call 13; refine hslot.out.mono ?_; rintro e w' ⟨rfl, rfl⟩))
          go_returns
          exact ⟨rfl, HB5.out⟩
        · have t2 : decide (b < (k : Int)) = false := by simpa using b2
          rw [t1, t2] at h32
          have hgr : grFrom 0 32 R b = none := by simpa using h32
          rw [hgr] at he5
          simp only [grAns] at he5
          subst he5
          clear h32 hgr
          go_wp2_with (first | (go_at_call 12; refine hlen.out.mono ?_; rintro e w' ⟨rfl, rfl⟩) | (go_at_call 9; refine htot2.out.mono ?_; rintro e w' ⟨rfl, rfl⟩) | (go_at_call 13; refine hslot.out.mono ?_; rintro e w' ⟨rfl, rfl⟩))
          go_returns
          exact ⟨rfl, HB5.out⟩
      · have t1 : decide ((32 : Int) ≤ b) = false := by simpa using b1
        rw [t1] at h32
        have hgr : grFrom 0 32 R b = none := by simpa using h32
        rw [hgr] at he5
        simp only [grAns] at he5
        subst he5
        clear h32 hgr
        go_wp2_with (first | (go_at_call 12; refine hlen.out.mono ?_; rintro e w' ⟨rfl, rfl⟩) | (go_at_call 9; refine htot2.out.mono ?_; rintro e w' ⟨rfl, rfl⟩) | (go_at_call 13; refine hslot.out.mono ?_; rintro e w' ⟨rfl, rfl⟩))
        go_returns
        exact ⟨rfl, HB5.out⟩
end
end Go.Proofs.YtniboffmdkeacaaDoor

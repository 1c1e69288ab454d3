/- PipeNone: the walk. -/
import Derived.Test.YtkjgieehiimiiaaPipeLaw
namespace Go.Proofs.Ytkjgieehiimiiaa
open Go.RowKit

theorem plain_any {w : World} {p : Nat} {F : Nat → Prop} (h : PipesAt w p F [] (List.replicate 64 0)) (m : Int) :
    Calls Try.prog 15 #[.pointer (some ⟨p, 0, none⟩), .int .i64 m] w fun e w' =>
      ∃ (q : UInt8) (q2 : UInt16), e = .returned (.tuple #[.agg #[.bool false, .int .u8 (q.toNat : Int), .int .u16 (q2.toNat : Int), .int .u16 0], .int .i64 (if 0 ≤ m ∧ m < 64 then 0 else 27)]) ∧ ∃ nx, PipesAt w' p F [] nx ∧ Went w w' F F := by
  by_cases hm : 0 ≤ m ∧ m < 64
  · obtain ⟨k, rfl⟩ := Int.eq_ofNat_of_zero_le hm.1
    have hk : k < 64 := by omega
    have e : ((UInt8.ofNat k).toNat : Nat) = k := by simp [UInt8.toNat_ofNat']; omega
    have := plain_at h (UInt8.ofNat k) (by omega) 0 (by rw [e, List.getElem?_replicate]; simp [hk]) 0 0 ⟨rfl, rfl⟩
    rw [e] at this
    refine this.mono ?_
    rintro e' w' ⟨rfl, hP, hW⟩
    rw [if_pos hm]
    exact ⟨UInt8.ofNat k, 0, by rw [e], _, hP, hW⟩
  · rw [if_neg hm]
    obtain ⟨mb, M, h⟩ := h
    refine (plain_range p mb _ w h.blk m (by omega)).mono ?_
    rintro e w' ⟨rfl, hb⟩
    exact ⟨0, 0, rfl, _, PipesAt.below ⟨mb, M, h⟩ hb, Went.of_below hb⟩

section
variable (nm : Bool) (lb : UInt8) (nu ge : UInt16) (m n : Int) (A2 : Option Addr) (n2 c2 : Nat) (b : List UInt8) (w : World)

set_option maxRecDepth 100000 in
set_option maxHeartbeats 1000000 in
theorem none_in (hr2 : Rd w w.heap.size 1 A2 n2 (bvs b)) (hnc2 : n2 ≤ c2) (hn2 : n2 ≤ 300) (hm0 : 0 ≤ m) (hm1 : m < 64) :
    Calls Try.prog 6 #[.agg #[.bool nm, .int .u8 (lb.toNat : Int), .int .u16 (nu.toNat : Int), .int .u16 (ge.toNat : Int)], .int .i64 m, .int .i64 n, .slice A2 n2 c2] w fun e w' => e = .returned (.bool true) ∧ Below w.heap.size w w' := by
  have hl : decide ((300 : Int) < n2) = false := by simp; omega
  have h0 : decide (0 ≤ m) = true := by simpa using hm0
  have h1 : decide (m < 64) = true := by simpa using hm1
  go_enter Try.func6, Try.ntmps6
  go_wp2_with fail
  refine (awake_ok _).mono ?_
  rintro e w1 ⟨rfl, hb1⟩
  have kB1 := (Blk.new w 41 #[.bool nm, .int .u8 (lb.toNat : Int), .int .u16 (nu.toNat : Int), .int .u16 (ge.toNat : Int)]).below hb1 (by simp)
  have B1 : Below w.heap.size w w1 := ((Below.refl w.heap.size w).alloc (Nat.le_refl _) _).trans (hb1.mono (by simp))
  clear hb1
  have k0 := kB1.cell 0
  have k1 := kB1.cell 1
  have k2 := kB1.cell 2
  have k3 := kB1.cell 3
  have hk1 := kB1.lt
  go_wp2_with fail
  refine (nil_join nm lb nu ge _ true true).mono ?_
  rintro e w2 ⟨rfl, hb⟩
  have kB2 := kB1.below hb hk1
  have B2 : Below w.heap.size w w2 := B1.trans (hb.mono B1.size)
  clear hb kB1 hk1 B1 k0 k1 k2 k3
  have k0 := kB2.cell 0
  have k1 := kB2.cell 1
  have k2 := kB2.cell 2
  have k3 := kB2.cell 3
  have hk2 := kB2.lt
  go_wp2_with fail
  refine (nil_leave nm lb nu ge _ true true).mono ?_
  rintro e w3 ⟨rfl, hb⟩
  have kB3 := kB2.below hb hk2
  have B3 : Below w.heap.size w w3 := B2.trans (hb.mono B2.size)
  clear hb kB2 hk2 B2 k0 k1 k2 k3
  have k0 := kB3.cell 0
  have k1 := kB3.cell 1
  have k2 := kB3.cell 2
  have k3 := kB3.cell 3
  have hk3 := kB3.lt
  go_wp2_with fail
  refine (nil_blind nm lb nu ge _ A2 n2 c2).mono ?_
  rintro e w4 ⟨rfl, hb⟩
  have kB4 := kB3.below hb hk3
  have B4 : Below w.heap.size w w4 := B3.trans (hb.mono B3.size)
  clear hb kB3 hk3 B3 k0 k1 k2 k3
  have k0 := kB4.cell 0
  have k1 := kB4.cell 1
  have k2 := kB4.cell 2
  have k3 := kB4.cell 3
  have hk4 := kB4.lt
  go_wp2_with fail
  refine (nil_plain _ m).mono ?_
  rintro e w5 ⟨rfl, hb⟩
  have kB5 := kB4.below hb hk4
  have B5 : Below w.heap.size w w5 := B4.trans (hb.mono B4.size)
  clear hb kB4 hk4 B4 k0 k1 k2 k3
  have k0 := kB5.cell 0
  have k1 := kB5.cell 1
  have k2 := kB5.cell 2
  have k3 := kB5.cell 3
  have hk5 := kB5.lt
  go_wp2_with fail
  refine (nil_write nm lb nu ge _ A2 n2 c2).mono ?_
  rintro e w6 ⟨rfl, hb⟩
  have kB6 := (kB5.alloc _).below hb (by simp; omega)
  have B6 : Below w.heap.size w w6 := (B5.alloc B5.size _).trans (hb.mono (by have := B5.size; simp; omega))
  clear hb kB5 hk5 B5 k0 k1 k2 k3
  have k0 := kB6.cell 0
  have k1 := kB6.cell 1
  have k2 := kB6.cell 2
  have k3 := kB6.cell 3
  have hk6 := kB6.lt
  go_wp2_with fail
  refine (nil_read nm lb nu ge _ n).mono ?_
  rintro e w7 ⟨rfl, hb⟩
  have kB7 := kB6.below hb hk6
  have B7 : Below w.heap.size w w7 := B6.trans (hb.mono B6.size)
  clear hb kB6 hk6 B6 k0 k1 k2 k3
  have k0 := kB7.cell 0
  have k1 := kB7.cell 1
  have k2 := kB7.cell 2
  have k3 := kB7.cell 3
  have hk7 := kB7.lt
  go_wp2_with fail
  refine (nil_ends nm lb nu ge _).mono ?_
  rintro e w8 ⟨rfl, hb⟩
  have kB8 := kB7.below hb hk7
  have B8 : Below w.heap.size w w8 := B7.trans (hb.mono B7.size)
  clear hb kB7 hk7 B7 k0 k1 k2 k3
  have k0 := kB8.cell 0
  have k1 := kB8.cell 1
  have k2 := kB8.cell 2
  have k3 := kB8.cell 3
  have hk8 := kB8.lt
  go_wp2_with fail
  refine (new_at _).mono ?_
  rintro e w9 ⟨p, F, rfl, hP, hF, hb⟩
  have s9 : PSt w w9 p F _ _ := ⟨hP, fun b hb' => Nat.le_trans B8.size (hF b hb'), B8.trans (hb.mono B8.size)⟩
  have kn9 : ¬ F w.heap.size := fun h => by have := hF _ h; omega
  have kB9 := kB8.below hb hk8
  clear hP hF hb kB8 hk8 B8 k0 k1 k2 k3
  have k0 := kB9.cell 0
  have k1 := kB9.cell 1
  have k2 := kB9.cell 2
  have k3 := kB9.cell 3
  have hk9 := kB9.lt
  go_wp2_with fail
  refine (plain_any s9.is m).mono ?_
  rintro e w10 ⟨q, q2, rfl, nx, hP, hW⟩
  rw [if_pos (show 0 ≤ m ∧ m < 64 from ⟨hm0, hm1⟩)]
  have s10 := s9.step hP hW
  have kB10 := hW.blk kB9 kn9
  clear hP hW kB9 hk9 s9 k0 k1 k2 k3
  have k0 := kB10.cell 0
  have k1 := kB10.cell 1
  have k2 := kB10.cell 2
  have k3 := kB10.cell 3
  have hk10 := kB10.lt
  go_wp2_with fail
  refine (leave_at (s10.alloc _).is nm lb nu ge true true (show (0 : Nat) < 60000 by omega) (show (0 : Nat) < 60000 by omega)).mono ?_
  rintro e w11 ⟨rfl, F11, hP, hW⟩
  have s11 := (s10.alloc _).step hP hW
  have kB11 := hW.blk (kB10.alloc _) kn9
  have kn11 := hW.not (by simp; omega) kn9
  clear hP hW kB10 hk10 s10 kn9 k0 k1 k2 k3
  have k0 := kB11.cell 0
  have k1 := kB11.cell 1
  have k2 := kB11.cell 2
  have k3 := kB11.cell 3
  have hk11 := kB11.lt
  go_wp2_with fail
  have r11 : Rd w11 w11.heap.size 1 A2 n2 (bvs b) := (hr2.below s11.bel).more s11.bel.size
  refine (blind_at s11.is nm lb nu ge A2 n2 c2 b r11 (show (0 : Nat) < 60000 by omega) (show (0 : Nat) < 60000 by omega)).mono ?_
  rintro e w12 ⟨rfl, F12, hP, hW⟩
  have s12 := s11.step hP hW
  have kB12 := hW.blk kB11 kn11
  have kn12 := hW.not (hk11) kn11
  clear hP hW kB11 hk11 s11 kn11 k0 k1 k2 k3
  have k0 := kB12.cell 0
  have k1 := kB12.cell 1
  have k2 := kB12.cell 2
  have k3 := kB12.cell 3
  have hk12 := kB12.lt
  go_wp2_with fail
  obtain ⟨mb, M, hin⟩ := s12.is
  refine (join_ p nm lb nu ge _).mono ?_
  rintro e w13 ⟨rfl, hb⟩
  have s13 := s12.below hb
  have kB13 := kB12.below hb hk12
  have kn13 := kn12
  clear hb hin mb M kB12 hk12 s12 kn12 r11 k0 k1 k2 k3
  have k0 := kB13.cell 0
  have k1 := kB13.cell 1
  have k2 := kB13.cell 2
  have k3 := kB13.cell 3
  have hk13 := kB13.lt
  go_wp2_with fail
  have r13 : Rd w13 w13.heap.size 1 A2 n2 (bvs b) := (hr2.below s13.bel).more s13.bel.size
  refine (write_at s13.is nm lb nu ge A2 n2 c2 b r13 hnc2 (by omega) (show (0 : Nat) < 60000 by omega) (show (0 : Nat) < 60000 by omega)).mono ?_
  rintro e w14 ⟨rfl, F14, hP, hW⟩
  have s14 := s13.step hP hW
  have kB14 := hW.blk kB13 kn13
  have kn14 := hW.not (hk13) kn13
  clear hP hW kB13 hk13 s13 kn13 k0 k1 k2 k3
  have k0 := kB14.cell 0
  have k1 := kB14.cell 1
  have k2 := kB14.cell 2
  have k3 := kB14.cell 3
  have hk14 := kB14.lt
  go_wp2_with fail
  refine (read_at s14.is nm lb nu ge n (show (0 : Nat) < 60000 by omega) (show (0 : Nat) < 60000 by omega)).mono ?_
  rintro e w15 ⟨A1, n1, c1, rfl, _, F15, hP, hW, _⟩
  have s15 := s14.step hP hW
  clear hP hW kB14 hk14 s14 kn14 r13 k0 k1 k2 k3
  go_wp2_with fail
  refine (nil_len _).mono ?_
  rintro e w16 ⟨rfl, hb⟩
  have s16 := s15.below hb
  clear hb s15
  go_wp2_with fail
  refine (len_at s16.is).mono ?_
  rintro e w17 ⟨rfl, hb⟩
  have s17 := s16.below hb
  go_wp2
  go_returns
  exact ⟨rfl, s17.bel⟩

set_option maxRecDepth 100000 in
set_option maxHeartbeats 1000000 in
theorem none_neg (hr2 : Rd w w.heap.size 1 A2 n2 (bvs b)) (hnc2 : n2 ≤ c2) (hn2 : n2 ≤ 300) (hm : m < 0) :
    Calls Try.prog 6 #[.agg #[.bool nm, .int .u8 (lb.toNat : Int), .int .u16 (nu.toNat : Int), .int .u16 (ge.toNat : Int)], .int .i64 m, .int .i64 n, .slice A2 n2 c2] w fun e w' => e = .returned (.bool true) ∧ Below w.heap.size w w' := by
  have hl : decide ((300 : Int) < n2) = false := by simp; omega
  have h1 : decide (0 ≤ m) = false := by simpa using hm
  go_enter Try.func6, Try.ntmps6
  go_wp2_with fail
  refine (awake_ok _).mono ?_
  rintro e w1 ⟨rfl, hb1⟩
  have kB1 := (Blk.new w 41 #[.bool nm, .int .u8 (lb.toNat : Int), .int .u16 (nu.toNat : Int), .int .u16 (ge.toNat : Int)]).below hb1 (by simp)
  have B1 : Below w.heap.size w w1 := ((Below.refl w.heap.size w).alloc (Nat.le_refl _) _).trans (hb1.mono (by simp))
  clear hb1
  have k0 := kB1.cell 0
  have k1 := kB1.cell 1
  have k2 := kB1.cell 2
  have k3 := kB1.cell 3
  have hk1 := kB1.lt
  go_wp2_with fail
  refine (nil_join nm lb nu ge _ true true).mono ?_
  rintro e w2 ⟨rfl, hb⟩
  have kB2 := kB1.below hb hk1
  have B2 : Below w.heap.size w w2 := B1.trans (hb.mono B1.size)
  clear hb kB1 hk1 B1 k0 k1 k2 k3
  have k0 := kB2.cell 0
  have k1 := kB2.cell 1
  have k2 := kB2.cell 2
  have k3 := kB2.cell 3
  have hk2 := kB2.lt
  go_wp2_with fail
  refine (nil_leave nm lb nu ge _ true true).mono ?_
  rintro e w3 ⟨rfl, hb⟩
  have kB3 := kB2.below hb hk2
  have B3 : Below w.heap.size w w3 := B2.trans (hb.mono B2.size)
  clear hb kB2 hk2 B2 k0 k1 k2 k3
  have k0 := kB3.cell 0
  have k1 := kB3.cell 1
  have k2 := kB3.cell 2
  have k3 := kB3.cell 3
  have hk3 := kB3.lt
  go_wp2_with fail
  refine (nil_blind nm lb nu ge _ A2 n2 c2).mono ?_
  rintro e w4 ⟨rfl, hb⟩
  have kB4 := kB3.below hb hk3
  have B4 : Below w.heap.size w w4 := B3.trans (hb.mono B3.size)
  clear hb kB3 hk3 B3 k0 k1 k2 k3
  have k0 := kB4.cell 0
  have k1 := kB4.cell 1
  have k2 := kB4.cell 2
  have k3 := kB4.cell 3
  have hk4 := kB4.lt
  go_wp2_with fail
  refine (nil_plain _ m).mono ?_
  rintro e w5 ⟨rfl, hb⟩
  have kB5 := kB4.below hb hk4
  have B5 : Below w.heap.size w w5 := B4.trans (hb.mono B4.size)
  clear hb kB4 hk4 B4 k0 k1 k2 k3
  have k0 := kB5.cell 0
  have k1 := kB5.cell 1
  have k2 := kB5.cell 2
  have k3 := kB5.cell 3
  have hk5 := kB5.lt
  go_wp2_with fail
  refine (nil_write nm lb nu ge _ A2 n2 c2).mono ?_
  rintro e w6 ⟨rfl, hb⟩
  have kB6 := (kB5.alloc _).below hb (by simp; omega)
  have B6 : Below w.heap.size w w6 := (B5.alloc B5.size _).trans (hb.mono (by have := B5.size; simp; omega))
  clear hb kB5 hk5 B5 k0 k1 k2 k3
  have k0 := kB6.cell 0
  have k1 := kB6.cell 1
  have k2 := kB6.cell 2
  have k3 := kB6.cell 3
  have hk6 := kB6.lt
  go_wp2_with fail
  refine (nil_read nm lb nu ge _ n).mono ?_
  rintro e w7 ⟨rfl, hb⟩
  have kB7 := kB6.below hb hk6
  have B7 : Below w.heap.size w w7 := B6.trans (hb.mono B6.size)
  clear hb kB6 hk6 B6 k0 k1 k2 k3
  have k0 := kB7.cell 0
  have k1 := kB7.cell 1
  have k2 := kB7.cell 2
  have k3 := kB7.cell 3
  have hk7 := kB7.lt
  go_wp2_with fail
  refine (nil_ends nm lb nu ge _).mono ?_
  rintro e w8 ⟨rfl, hb⟩
  have kB8 := kB7.below hb hk7
  have B8 : Below w.heap.size w w8 := B7.trans (hb.mono B7.size)
  clear hb kB7 hk7 B7 k0 k1 k2 k3
  have k0 := kB8.cell 0
  have k1 := kB8.cell 1
  have k2 := kB8.cell 2
  have k3 := kB8.cell 3
  have hk8 := kB8.lt
  go_wp2_with fail
  refine (new_at _).mono ?_
  rintro e w9 ⟨p, F, rfl, hP, hF, hb⟩
  have s9 : PSt w w9 p F _ _ := ⟨hP, fun b hb' => Nat.le_trans B8.size (hF b hb'), B8.trans (hb.mono B8.size)⟩
  have kn9 : ¬ F w.heap.size := fun h => by have := hF _ h; omega
  have kB9 := kB8.below hb hk8
  clear hP hF hb kB8 hk8 B8 k0 k1 k2 k3
  have k0 := kB9.cell 0
  have k1 := kB9.cell 1
  have k2 := kB9.cell 2
  have k3 := kB9.cell 3
  have hk9 := kB9.lt
  go_wp2_with fail
  refine (plain_any s9.is m).mono ?_
  rintro e w10 ⟨q, q2, rfl, nx, hP, hW⟩
  rw [if_neg (show ¬ (0 ≤ m ∧ m < 64) by omega)]
  have s10 := s9.step hP hW
  have kB10 := hW.blk kB9 kn9
  clear hP hW kB9 hk9 s9 k0 k1 k2 k3
  have k0 := kB10.cell 0
  have k1 := kB10.cell 1
  have k2 := kB10.cell 2
  have k3 := kB10.cell 3
  have hk10 := kB10.lt
  go_wp2_with fail
  refine (leave_at (s10.alloc _).is nm lb nu ge true true (show (0 : Nat) < 60000 by omega) (show (0 : Nat) < 60000 by omega)).mono ?_
  rintro e w11 ⟨rfl, F11, hP, hW⟩
  have s11 := (s10.alloc _).step hP hW
  have kB11 := hW.blk (kB10.alloc _) kn9
  have kn11 := hW.not (by simp; omega) kn9
  clear hP hW kB10 hk10 s10 kn9 k0 k1 k2 k3
  have k0 := kB11.cell 0
  have k1 := kB11.cell 1
  have k2 := kB11.cell 2
  have k3 := kB11.cell 3
  have hk11 := kB11.lt
  go_wp2_with fail
  have r11 : Rd w11 w11.heap.size 1 A2 n2 (bvs b) := (hr2.below s11.bel).more s11.bel.size
  refine (blind_at s11.is nm lb nu ge A2 n2 c2 b r11 (show (0 : Nat) < 60000 by omega) (show (0 : Nat) < 60000 by omega)).mono ?_
  rintro e w12 ⟨rfl, F12, hP, hW⟩
  have s12 := s11.step hP hW
  have kB12 := hW.blk kB11 kn11
  have kn12 := hW.not (hk11) kn11
  clear hP hW kB11 hk11 s11 kn11 k0 k1 k2 k3
  have k0 := kB12.cell 0
  have k1 := kB12.cell 1
  have k2 := kB12.cell 2
  have k3 := kB12.cell 3
  have hk12 := kB12.lt
  go_wp2_with fail
  obtain ⟨mb, M, hin⟩ := s12.is
  refine (join_ p nm lb nu ge _).mono ?_
  rintro e w13 ⟨rfl, hb⟩
  have s13 := s12.below hb
  have kB13 := kB12.below hb hk12
  have kn13 := kn12
  clear hb hin mb M kB12 hk12 s12 kn12 r11 k0 k1 k2 k3
  have k0 := kB13.cell 0
  have k1 := kB13.cell 1
  have k2 := kB13.cell 2
  have k3 := kB13.cell 3
  have hk13 := kB13.lt
  go_wp2_with fail
  have r13 : Rd w13 w13.heap.size 1 A2 n2 (bvs b) := (hr2.below s13.bel).more s13.bel.size
  refine (write_at s13.is nm lb nu ge A2 n2 c2 b r13 hnc2 (by omega) (show (0 : Nat) < 60000 by omega) (show (0 : Nat) < 60000 by omega)).mono ?_
  rintro e w14 ⟨rfl, F14, hP, hW⟩
  have s14 := s13.step hP hW
  have kB14 := hW.blk kB13 kn13
  have kn14 := hW.not (hk13) kn13
  clear hP hW kB13 hk13 s13 kn13 k0 k1 k2 k3
  have k0 := kB14.cell 0
  have k1 := kB14.cell 1
  have k2 := kB14.cell 2
  have k3 := kB14.cell 3
  have hk14 := kB14.lt
  go_wp2_with fail
  refine (read_at s14.is nm lb nu ge n (show (0 : Nat) < 60000 by omega) (show (0 : Nat) < 60000 by omega)).mono ?_
  rintro e w15 ⟨A1, n1, c1, rfl, _, F15, hP, hW, _⟩
  have s15 := s14.step hP hW
  clear hP hW kB14 hk14 s14 kn14 r13 k0 k1 k2 k3
  go_wp2_with fail
  refine (nil_len _).mono ?_
  rintro e w16 ⟨rfl, hb⟩
  have s16 := s15.below hb
  clear hb s15
  go_wp2_with fail
  refine (len_at s16.is).mono ?_
  rintro e w17 ⟨rfl, hb⟩
  have s17 := s16.below hb
  go_wp2
  go_returns
  exact ⟨rfl, s17.bel⟩

set_option maxRecDepth 100000 in
set_option maxHeartbeats 1000000 in
theorem none_big (hr2 : Rd w w.heap.size 1 A2 n2 (bvs b)) (hnc2 : n2 ≤ c2) (hn2 : n2 ≤ 300) (hm : 64 ≤ m) :
    Calls Try.prog 6 #[.agg #[.bool nm, .int .u8 (lb.toNat : Int), .int .u16 (nu.toNat : Int), .int .u16 (ge.toNat : Int)], .int .i64 m, .int .i64 n, .slice A2 n2 c2] w fun e w' => e = .returned (.bool true) ∧ Below w.heap.size w w' := by
  have hl : decide ((300 : Int) < n2) = false := by simp; omega
  have h0 : decide (0 ≤ m) = true := by simp; omega
  have h1 : decide (m < 64) = false := by simpa using hm
  go_enter Try.func6, Try.ntmps6
  go_wp2_with fail
  refine (awake_ok _).mono ?_
  rintro e w1 ⟨rfl, hb1⟩
  have kB1 := (Blk.new w 41 #[.bool nm, .int .u8 (lb.toNat : Int), .int .u16 (nu.toNat : Int), .int .u16 (ge.toNat : Int)]).below hb1 (by simp)
  have B1 : Below w.heap.size w w1 := ((Below.refl w.heap.size w).alloc (Nat.le_refl _) _).trans (hb1.mono (by simp))
  clear hb1
  have k0 := kB1.cell 0
  have k1 := kB1.cell 1
  have k2 := kB1.cell 2
  have k3 := kB1.cell 3
  have hk1 := kB1.lt
  go_wp2_with fail
  refine (nil_join nm lb nu ge _ true true).mono ?_
  rintro e w2 ⟨rfl, hb⟩
  have kB2 := kB1.below hb hk1
  have B2 : Below w.heap.size w w2 := B1.trans (hb.mono B1.size)
  clear hb kB1 hk1 B1 k0 k1 k2 k3
  have k0 := kB2.cell 0
  have k1 := kB2.cell 1
  have k2 := kB2.cell 2
  have k3 := kB2.cell 3
  have hk2 := kB2.lt
  go_wp2_with fail
  refine (nil_leave nm lb nu ge _ true true).mono ?_
  rintro e w3 ⟨rfl, hb⟩
  have kB3 := kB2.below hb hk2
  have B3 : Below w.heap.size w w3 := B2.trans (hb.mono B2.size)
  clear hb kB2 hk2 B2 k0 k1 k2 k3
  have k0 := kB3.cell 0
  have k1 := kB3.cell 1
  have k2 := kB3.cell 2
  have k3 := kB3.cell 3
  have hk3 := kB3.lt
  go_wp2_with fail
  refine (nil_blind nm lb nu ge _ A2 n2 c2).mono ?_
  rintro e w4 ⟨rfl, hb⟩
  have kB4 := kB3.below hb hk3
  have B4 : Below w.heap.size w w4 := B3.trans (hb.mono B3.size)
  clear hb kB3 hk3 B3 k0 k1 k2 k3
  have k0 := kB4.cell 0
  have k1 := kB4.cell 1
  have k2 := kB4.cell 2
  have k3 := kB4.cell 3
  have hk4 := kB4.lt
  go_wp2_with fail
  refine (nil_plain _ m).mono ?_
  rintro e w5 ⟨rfl, hb⟩
  have kB5 := kB4.below hb hk4
  have B5 : Below w.heap.size w w5 := B4.trans (hb.mono B4.size)
  clear hb kB4 hk4 B4 k0 k1 k2 k3
  have k0 := kB5.cell 0
  have k1 := kB5.cell 1
  have k2 := kB5.cell 2
  have k3 := kB5.cell 3
  have hk5 := kB5.lt
  go_wp2_with fail
  refine (nil_write nm lb nu ge _ A2 n2 c2).mono ?_
  rintro e w6 ⟨rfl, hb⟩
  have kB6 := (kB5.alloc _).below hb (by simp; omega)
  have B6 : Below w.heap.size w w6 := (B5.alloc B5.size _).trans (hb.mono (by have := B5.size; simp; omega))
  clear hb kB5 hk5 B5 k0 k1 k2 k3
  have k0 := kB6.cell 0
  have k1 := kB6.cell 1
  have k2 := kB6.cell 2
  have k3 := kB6.cell 3
  have hk6 := kB6.lt
  go_wp2_with fail
  refine (nil_read nm lb nu ge _ n).mono ?_
  rintro e w7 ⟨rfl, hb⟩
  have kB7 := kB6.below hb hk6
  have B7 : Below w.heap.size w w7 := B6.trans (hb.mono B6.size)
  clear hb kB6 hk6 B6 k0 k1 k2 k3
  have k0 := kB7.cell 0
  have k1 := kB7.cell 1
  have k2 := kB7.cell 2
  have k3 := kB7.cell 3
  have hk7 := kB7.lt
  go_wp2_with fail
  refine (nil_ends nm lb nu ge _).mono ?_
  rintro e w8 ⟨rfl, hb⟩
  have kB8 := kB7.below hb hk7
  have B8 : Below w.heap.size w w8 := B7.trans (hb.mono B7.size)
  clear hb kB7 hk7 B7 k0 k1 k2 k3
  have k0 := kB8.cell 0
  have k1 := kB8.cell 1
  have k2 := kB8.cell 2
  have k3 := kB8.cell 3
  have hk8 := kB8.lt
  go_wp2_with fail
  refine (new_at _).mono ?_
  rintro e w9 ⟨p, F, rfl, hP, hF, hb⟩
  have s9 : PSt w w9 p F _ _ := ⟨hP, fun b hb' => Nat.le_trans B8.size (hF b hb'), B8.trans (hb.mono B8.size)⟩
  have kn9 : ¬ F w.heap.size := fun h => by have := hF _ h; omega
  have kB9 := kB8.below hb hk8
  clear hP hF hb kB8 hk8 B8 k0 k1 k2 k3
  have k0 := kB9.cell 0
  have k1 := kB9.cell 1
  have k2 := kB9.cell 2
  have k3 := kB9.cell 3
  have hk9 := kB9.lt
  go_wp2_with fail
  refine (plain_any s9.is m).mono ?_
  rintro e w10 ⟨q, q2, rfl, nx, hP, hW⟩
  rw [if_neg (show ¬ (0 ≤ m ∧ m < 64) by omega)]
  have s10 := s9.step hP hW
  have kB10 := hW.blk kB9 kn9
  clear hP hW kB9 hk9 s9 k0 k1 k2 k3
  have k0 := kB10.cell 0
  have k1 := kB10.cell 1
  have k2 := kB10.cell 2
  have k3 := kB10.cell 3
  have hk10 := kB10.lt
  go_wp2_with fail
  refine (leave_at (s10.alloc _).is nm lb nu ge true true (show (0 : Nat) < 60000 by omega) (show (0 : Nat) < 60000 by omega)).mono ?_
  rintro e w11 ⟨rfl, F11, hP, hW⟩
  have s11 := (s10.alloc _).step hP hW
  have kB11 := hW.blk (kB10.alloc _) kn9
  have kn11 := hW.not (by simp; omega) kn9
  clear hP hW kB10 hk10 s10 kn9 k0 k1 k2 k3
  have k0 := kB11.cell 0
  have k1 := kB11.cell 1
  have k2 := kB11.cell 2
  have k3 := kB11.cell 3
  have hk11 := kB11.lt
  go_wp2_with fail
  have r11 : Rd w11 w11.heap.size 1 A2 n2 (bvs b) := (hr2.below s11.bel).more s11.bel.size
  refine (blind_at s11.is nm lb nu ge A2 n2 c2 b r11 (show (0 : Nat) < 60000 by omega) (show (0 : Nat) < 60000 by omega)).mono ?_
  rintro e w12 ⟨rfl, F12, hP, hW⟩
  have s12 := s11.step hP hW
  have kB12 := hW.blk kB11 kn11
  have kn12 := hW.not (hk11) kn11
  clear hP hW kB11 hk11 s11 kn11 k0 k1 k2 k3
  have k0 := kB12.cell 0
  have k1 := kB12.cell 1
  have k2 := kB12.cell 2
  have k3 := kB12.cell 3
  have hk12 := kB12.lt
  go_wp2_with fail
  obtain ⟨mb, M, hin⟩ := s12.is
  refine (join_ p nm lb nu ge _).mono ?_
  rintro e w13 ⟨rfl, hb⟩
  have s13 := s12.below hb
  have kB13 := kB12.below hb hk12
  have kn13 := kn12
  clear hb hin mb M kB12 hk12 s12 kn12 r11 k0 k1 k2 k3
  have k0 := kB13.cell 0
  have k1 := kB13.cell 1
  have k2 := kB13.cell 2
  have k3 := kB13.cell 3
  have hk13 := kB13.lt
  go_wp2_with fail
  have r13 : Rd w13 w13.heap.size 1 A2 n2 (bvs b) := (hr2.below s13.bel).more s13.bel.size
  refine (write_at s13.is nm lb nu ge A2 n2 c2 b r13 hnc2 (by omega) (show (0 : Nat) < 60000 by omega) (show (0 : Nat) < 60000 by omega)).mono ?_
  rintro e w14 ⟨rfl, F14, hP, hW⟩
  have s14 := s13.step hP hW
  have kB14 := hW.blk kB13 kn13
  have kn14 := hW.not (hk13) kn13
  clear hP hW kB13 hk13 s13 kn13 k0 k1 k2 k3
  have k0 := kB14.cell 0
  have k1 := kB14.cell 1
  have k2 := kB14.cell 2
  have k3 := kB14.cell 3
  have hk14 := kB14.lt
  go_wp2_with fail
  refine (read_at s14.is nm lb nu ge n (show (0 : Nat) < 60000 by omega) (show (0 : Nat) < 60000 by omega)).mono ?_
  rintro e w15 ⟨A1, n1, c1, rfl, _, F15, hP, hW, _⟩
  have s15 := s14.step hP hW
  clear hP hW kB14 hk14 s14 kn14 r13 k0 k1 k2 k3
  go_wp2_with fail
  refine (nil_len _).mono ?_
  rintro e w16 ⟨rfl, hb⟩
  have s16 := s15.below hb
  clear hb s15
  go_wp2_with fail
  refine (len_at s16.is).mono ?_
  rintro e w17 ⟨rfl, hb⟩
  have s17 := s16.below hb
  go_wp2
  go_returns
  exact ⟨rfl, s17.bel⟩

set_option maxRecDepth 100000 in
set_option maxHeartbeats 1000000 in
theorem none_long (hn2 : 300 < n2) :
    Calls Try.prog 6 #[.agg #[.bool nm, .int .u8 (lb.toNat : Int), .int .u16 (nu.toNat : Int), .int .u16 (ge.toNat : Int)], .int .i64 m, .int .i64 n, .slice A2 n2 c2] w fun e w' => e = .returned (.bool true) ∧ Below w.heap.size w w' := by
  have hl : decide ((300 : Int) < n2) = true := by simp; omega
  go_enter Try.func6, Try.ntmps6
  go_wp2_with fail
  refine (awake_ok _).mono ?_
  rintro e w1 ⟨rfl, hb1⟩
  go_wp2
  go_returns
  exact ⟨rfl, ((Below.refl w.heap.size w).alloc (Nat.le_refl _) _).trans (hb1.mono (by simp))⟩

theorem none_all (hr2 : Rd w w.heap.size 1 A2 n2 (bvs b)) (hnc2 : n2 ≤ c2) :
    Calls Try.prog 6 #[.agg #[.bool nm, .int .u8 (lb.toNat : Int), .int .u16 (nu.toNat : Int), .int .u16 (ge.toNat : Int)], .int .i64 m, .int .i64 n, .slice A2 n2 c2] w fun e w' => e = .returned (.bool true) ∧ Below w.heap.size w w' := by
  by_cases hn : n2 ≤ 300
  · by_cases h0 : m < 0
    · exact none_neg nm lb nu ge m n A2 n2 c2 b w hr2 hnc2 hn h0
    · by_cases h1 : m < 64
      · exact none_in nm lb nu ge m n A2 n2 c2 b w hr2 hnc2 hn (by omega) h1
      · exact none_big nm lb nu ge m n A2 n2 c2 b w hr2 hnc2 hn (by omega)
  · exact none_long nm lb nu ge m n A2 n2 c2 w (by omega)
end
end Go.Proofs.Ytkjgieehiimiiaa

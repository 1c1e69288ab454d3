/- PipeApart: the walk. -/
import Derived.Test.YtkjgieehiimiiaaPipeLaw
import Derived.Deep.LoopGhost
namespace Go.Proofs.Ytkjgieehiimiiaa
open Go.RowKit

theorem fresh_join {L : PL} {k : PKey} {wr : Bool} (h : mget L k = none) : pjoin L k true wr = mput L k ([], 1, wr.toNat) := by
  unfold pjoin
  rw [h]
  simp
theorem fresh_write {L : PL} {k : PKey} {s : Nat} {b : List UInt8} (hb : b.length ≤ 100) : pwrite (mput L k ([], 1, s)) k b = (b.length, 0, mput (mput L k ([], 1, s)) k (b, 1, s)) := by
  unfold pwrite
  rw [mget_put, if_pos rfl]
  simp
  rw [show min b.length 256 = b.length by omega]
  simp
theorem u16_succ {y : UInt16} {k : Nat} (h : y.toNat ≤ k) (hk : k < 1000) : (y + 1).toNat = y.toNat + 1 := by
  simp [UInt16.toNat_add]; omega

/-- Where the loop stands: both and alone apart; label 2's pipes alike; what is still free. -/
structure Ap (w0 w : World) (p1 p2 : Nat) (F1 F2 : Nat → Prop) (L1 L2 : PL) (nx1 nx2 : List UInt16) (y5 y2 : UInt16) (k : Nat) : Prop where
  s1 : PSt w0 w p1 F1 L1 nx1
  s2 : PSt w0 w p2 F2 L2 nx2
  dis : ∀ b, F1 b → ¬ F2 b
  n5 : nx1[5]? = some y5
  n2 : nx1[2]? = some y2
  m2 : nx2[2]? = some y2
  free5 : ∀ z : UInt16, y5.toNat ≤ z.toNat → mget L1 (false, 5, z, 0) = none
  free2 : ∀ z : UInt16, y2.toNat ≤ z.toNat → mget L1 (false, 2, z, 0) = none
  fr2 : ∀ z : UInt16, y2.toNat ≤ z.toNat → mget L2 (false, 2, z, 0) = none
  le5 : y5.toNat ≤ k
  le2 : y2.toNat ≤ k

section
variable {w0 w w' : World} {p1 p2 : Nat} {F1 F2 F1' F2' : Nat → Prop} {L1 L2 L1' L2' : PL} {nx1 nx2 nx1' nx2' : List UInt16} {y5 y2 : UInt16} {k : Nat}
theorem Ap.dis1 (hd : ∀ b, F1 b → ¬ F2 b) (h2 : ∀ b, F2 b → b < w.heap.size) (hW : Went w w' F1 F1') : ∀ b, F1' b → ¬ F2 b := fun b h1 h' => (hW.sub b h1).elim (fun h => hd b h h') (fun hle => by have := h2 b h'; omega)
theorem Ap.dis2 (hd : ∀ b, F1 b → ¬ F2 b) (h1 : ∀ b, F1 b → b < w.heap.size) (hW : Went w w' F2 F2') : ∀ b, F1 b → ¬ F2' b := fun b h1' h' => (hW.sub b h').elim (fun h => hd b h1' h) (fun hle => by have := h1 b h1'; omega)
/-- the other pipes, when one's have gone on -/
theorem PSt.other {w0 w w' : World} {p : Nat} {F G G' : Nat → Prop} {L : PL} {nx : List UInt16} (h : PSt w0 w p F L nx) (hW : Went w w' G G') (hd : ∀ b, F b → ¬ G b) (hb : ∀ b, G b → w0.heap.size ≤ b) : PSt w0 w' p F L nx where
  is := h.is.other hW hd
  base := h.base
  bel := h.bel.trans ((hW.tch.mono h.bel.size (fun _ _ x => x)).below (fun k hk hf => by have := hb k hf; omega))
end

theorem set_get_same {nx : List UInt16} {i : Nat} {y z : UInt16} (h : nx[i]? = some y) : (nx.set i z)[i]? = some z := by
  obtain ⟨hi, _⟩ := List.getElem?_eq_some_iff.1 h
  simp [hi]
theorem set_get_other {nx : List UInt16} {i j : Nat} {z : UInt16} (h : i ≠ j) : (nx.set i z)[j]? = nx[j]? := by simp [h]
theorem key_ne {a b : UInt8} {z y : UInt16} (h : a ≠ b) : ((false, a, y, (0 : UInt16)) : PKey) ≠ (false, b, z, 0) := by simp [h]
theorem num_ne {a : UInt8} {z y : UInt16} (h : y.toNat < z.toNat) : ((false, a, y, (0 : UInt16)) : PKey) ≠ (false, a, z, 0) := by
  intro e
  simp only [Prod.mk.injEq, true_and, and_true] at e
  subst e
  omega

theorem Ap.five {w0 w w' : World} {p1 p2 k : Nat} {F1 F2 G1 : Nat → Prop} {L1 L2 : PL} {nx1 nx2 : List UInt16} {y5 y2 : UInt16} {v v' : PVal} (ap : Ap w0 w p1 p2 F1 F2 L1 L2 nx1 nx2 y5 y2 k) (hk : k < 1000)
    (x1 : PSt w0 w' p1 G1 (mput (mput L1 (false, 5, y5, 0) v) (false, 5, y5, 0) v') (nx1.set 5 (y5 + 1))) (x2 : PSt w0 w' p2 F2 L2 nx2) (dd : ∀ b, G1 b → ¬ F2 b) :
    Ap w0 w' p1 p2 G1 F2 (mput (mput L1 (false, 5, y5, 0) v) (false, 5, y5, 0) v') L2 (nx1.set 5 (y5 + 1)) nx2 (y5 + 1) y2 (k + 1) := by
  have hs := u16_succ ap.le5 hk
  refine ⟨x1, x2, dd, set_get_same ap.n5, (set_get_other (by omega)).trans ap.n2, ap.m2, fun z hz => ?_, fun z hz => ?_, ap.fr2, by have := ap.le5; omega, by have := ap.le2; omega⟩
  · rw [mget_put, if_neg (num_ne (by omega)), mget_put, if_neg (num_ne (by omega))]
    exact ap.free5 z (by omega)
  · rw [mget_put, if_neg (key_ne (by decide)), mget_put, if_neg (key_ne (by decide))]
    exact ap.free2 z hz
theorem Ap.two {w0 w w' : World} {p1 p2 k : Nat} {F1 F2 G1 G2 : Nat → Prop} {L1 L2 : PL} {nx1 nx2 : List UInt16} {y5 y2 : UInt16} {v v' u u' : PVal} (ap : Ap w0 w p1 p2 F1 F2 L1 L2 nx1 nx2 y5 y2 k) (hk : k < 1000)
    (x1 : PSt w0 w' p1 G1 (mput (mput L1 (false, 2, y2, 0) v) (false, 2, y2, 0) v') (nx1.set 2 (y2 + 1))) (x2 : PSt w0 w' p2 G2 (mput (mput L2 (false, 2, y2, 0) u) (false, 2, y2, 0) u') (nx2.set 2 (y2 + 1))) (dd : ∀ b, G1 b → ¬ G2 b) :
    Ap w0 w' p1 p2 G1 G2 (mput (mput L1 (false, 2, y2, 0) v) (false, 2, y2, 0) v') (mput (mput L2 (false, 2, y2, 0) u) (false, 2, y2, 0) u') (nx1.set 2 (y2 + 1)) (nx2.set 2 (y2 + 1)) y5 (y2 + 1) (k + 1) := by
  have hs := u16_succ ap.le2 hk
  refine ⟨x1, x2, dd, (set_get_other (by omega)).trans ap.n5, set_get_same ap.n2, set_get_same ap.m2, fun z hz => ?_, fun z hz => ?_, fun z hz => ?_, by have := ap.le5; omega, by have := ap.le2; omega⟩
  · rw [mget_put, if_neg (key_ne (by decide)), mget_put, if_neg (key_ne (by decide))]
    exact ap.free5 z hz
  · rw [mget_put, if_neg (num_ne (by omega)), mget_put, if_neg (num_ne (by omega))]
    exact ap.free2 z (by omega)
  · rw [mget_put, if_neg (num_ne (by omega)), mget_put, if_neg (num_ne (by omega))]
    exact ap.fr2 z (by omega)

theorem plain5 {w : World} {p : Nat} {F : Nat → Prop} {L : PL} {nx : List UInt16} (h : PipesAt w p F L nx) {y : UInt16} (hn : nx[5]? = some y) (hf : mget L (false, 5, y, 0) = none) :
    Calls Try.prog 15 #[.pointer (some ⟨p, 0, none⟩), .int .i64 5] w fun e w' =>
      e = .returned (.tuple #[.agg #[.bool false, .int .u8 5, .int .u16 (y.toNat : Int), .int .u16 0], .int .i64 0]) ∧ PipesAt w' p F L (nx.set 5 (y + 1)) ∧ Went w w' F F :=
  plain_at h 5 (by decide) y hn 0 y ⟨by show (mget L (false, 5, y, 0)).isSome = false; rw [hf]; rfl, rfl⟩
theorem plain2 {w : World} {p : Nat} {F : Nat → Prop} {L : PL} {nx : List UInt16} (h : PipesAt w p F L nx) {y : UInt16} (hn : nx[2]? = some y) (hf : mget L (false, 2, y, 0) = none) :
    Calls Try.prog 15 #[.pointer (some ⟨p, 0, none⟩), .int .i64 2] w fun e w' =>
      e = .returned (.tuple #[.agg #[.bool false, .int .u8 2, .int .u16 (y.toNat : Int), .int .u16 0], .int .i64 0]) ∧ PipesAt w' p F L (nx.set 2 (y + 1)) ∧ Went w w' F F :=
  plain_at h 2 (by decide) y hn 0 y ⟨by show (mget L (false, 2, y, 0)).isSome = false; rw [hf]; rfl, rfl⟩

section
variable (A A2 : Option Addr) (n c n2 c2 : Nat) (o b : List UInt8) (w : World)
set_option maxRecDepth 100000 in
set_option maxHeartbeats 1000000 in
theorem apart_long (hn2 : 100 < n2) :
    Calls Try.prog 4 #[.slice A n c, .slice A2 n2 c2] w fun e w' => e = .returned (.bool true) ∧ Below w.heap.size w w' := by
  have hl : decide ((100 : Int) < n2) = true := by simp; omega
  go_enter Try.func4, Try.ntmps4
  go_wp2_with fail
  refine (awake_ok _).mono ?_
  rintro e w1 ⟨rfl, hb1⟩
  go_wp2
  go_returns
  exact ⟨rfl, hb1⟩

set_option maxRecDepth 100000 in
set_option maxHeartbeats 2000000 in
theorem apart_ok (hr : Rd w w.heap.size 1 A n (bvs o)) (hr2 : Rd w w.heap.size 1 A2 n2 (bvs b)) (hnc2 : n2 ≤ c2) (hn2 : n2 ≤ 100) :
    Calls Try.prog 4 #[.slice A n c, .slice A2 n2 c2] w fun e w' => e = .returned (.bool true) ∧ Below w.heap.size w w' := by
  have hl : decide ((100 : Int) < n2) = false := by simp; omega
  have hbl : b.length = n2 := by have := hr2.len; rw [bvs_length] at this; omega
  have HL := hide hbl
  clear hbl
  go_enter Try.func4, Try.ntmps4
  go_wp2_with fail
  refine (awake_ok _).mono ?_
  rintro e w1 ⟨rfl, hb1⟩
  go_wp2_with fail
  refine (new_at _).mono ?_
  rintro e w2 ⟨p1, F1, rfl, hP1, hF1, hb2⟩
  have s1 : PSt w w2 p1 F1 _ _ := ⟨hP1, fun b hb => Nat.le_trans hb1.size (hF1 b hb), hb1.trans (hb2.mono hb1.size)⟩
  go_wp2_with fail
  refine (new_at _).mono ?_
  rintro e w3 ⟨p2, F2, rfl, hP2, hF2, hb3⟩
  have s2 : PSt w w3 p2 F2 _ _ := ⟨hP2, fun b hb => Nat.le_trans s1.bel.size (hF2 b hb), s1.bel.trans (hb3.mono s1.bel.size)⟩
  have A0 : Ap w w3 p1 p2 F1 F2 [] [] (List.replicate 64 0) (List.replicate 64 0) 0 0 0 := ⟨s1.below hb3, s2, fun b h1 h2 => by have := hP1.lt b h1; have := hF2 b h2; omega, rfl, rfl, rfl, fun _ _ => rfl, fun _ _ => rfl, fun _ _ => rfl, Nat.le_refl _, Nat.le_refl _⟩
  clear hP1 hF1 hb2 s1 hP2 hF2 hb3 s2 hb1
  go_wp2
  go_loopg [28] n (fun g i wr => ∃ k : Nat, k ≤ n ∧ g = n - k ∧ k ≤ 61 ∧ i = .int .i64 k ∧ Aside (∃ F1 F2 L1 L2 nx1 nx2 y5 y2, Ap w wr p1 p2 F1 F2 L1 L2 nx1 nx2 y5 y2 k))
  case atStart => exact ⟨0, Nat.zero_le _, rfl, by omega, rfl, F1, F2, _, _, _, _, _, _, A0⟩
  case round =>
    obtain ⟨k, hk, hg, hk61, rfl, hA⟩ := hrel
    clear A0
    by_cases hkn : k < n
    · obtain ⟨bb, oo, rfl, hbb, hc⟩ := hr.byte hkn
      have hkz : (k : Int) < n := by omega
      obtain ⟨F1, F2, L1, L2, nx1, nx2, y5, y2, ap⟩ := hA.out
      clear hA
      have ck : wr.cell? ⟨bb, oo + k, none⟩ = some (.int .u8 ((o.getD k 0).toNat : Int)) := (ap.s1.bel.cell (p := ⟨bb, oo + k, none⟩) hbb).trans (hc k hkn)
      have hbw : bb < wr.heap.size := by have := ap.s1.bel.size; omega
      generalize o.getD k 0 = x at ck
      clear hc hr
      by_cases h60 : 60 < k
      · have h60' : decide ((60 : Int) < k) = true := by simp; omega
        have bel := ap.s1.bel
        clear ap
        go_wp2
        go_returns
        exact ⟨rfl, bel⟩
      · have h60' : decide ((60 : Int) < k) = false := by simp; omega
        have hx3 : x.toNat % 3 = 0 ∨ x.toNat % 3 = 1 ∨ x.toNat % 3 = 2 := by omega
        rcases hx3 with hx3 | hx3 | hx3
        · have hm : ((x.toNat : Int).tmod 3) = 0 := by rw [Int.tmod_eq_emod_of_nonneg (by omega)]; omega
          have hm' : ((x.toNat : Int) % 3) = 0 := by omega
          have hj := ap.free2 y2 (Nat.le_refl _)
          have hj2 := ap.fr2 y2 (Nat.le_refl _)
          clear hx3
          go_wp2_with fail
          refine (plain2 ap.s1.is ap.n2 hj).mono ?_
          rintro e v1 ⟨rfl, hP, hW⟩
          have t1 := ap.s1.step hP hW
          have t2 := ap.s2.other hW (fun b h2 h1 => ap.dis b h1 h2) ap.s1.base
          clear hP hW ck
          go_wp2_with fail
          refine (plain2 (t2.alloc _).is ap.m2 hj2).mono ?_
          rintro e v2 ⟨rfl, hP, hW⟩
          have t1' := (t1.alloc _).other hW ap.dis t2.base
          have t2' := (t2.alloc _).step hP hW
          have kA := hW.blk (Blk.new v1 41 #[.bool false, .int .u8 2, .int .u16 (y2.toNat : Int), .int .u16 0]) t2.not
          have nA1 := t1.not
          have nA2 := t2.not
          clear hP hW t1 t2
          have a0 := kA.cell 0
          have a1 := kA.cell 1
          have a2 := kA.cell 2
          have a3 := kA.cell 3
          have ha_ := kA.lt
          go_wp2_with fail
          refine (join_at (t1'.alloc _).is false 2 y2 0 true true rfl (by rw [hj]; decide) (by rw [hj]; decide)).mono ?_
          rintro e v3 ⟨rfl, G1, hP, hW⟩
          rw [fresh_join hj] at hP
          have u1 := (t1'.alloc _).step hP hW
          have u2 := (t2'.alloc _).other hW (fun b h2 h1 => ap.dis b h1 h2) t1'.base
          have kA3 := hW.blk (kA.alloc _) nA1
          have kB3 := hW.blk (Blk.new v2 41 #[.bool false, .int .u8 2, .int .u16 (y2.toNat : Int), .int .u16 0]) t1'.not
          have nA1' := hW.not (by simp; omega) nA1
          have nB1 := hW.not (g := v2.heap.size) (by simp) t1'.not
          have nB2 := t2'.not
          have d3 := Ap.dis1 ap.dis (t2'.alloc _).is.lt hW
          clear hP hW t1' t2' kA a0 a1 a2 a3 ha_ nA1
          have a0 := kA3.cell 0
          have a1 := kA3.cell 1
          have a2 := kA3.cell 2
          have a3 := kA3.cell 3
          have ha_ := kA3.lt
          have b0 := kB3.cell 0
          have b1 := kB3.cell 1
          have b2 := kB3.cell 2
          have b3 := kB3.cell 3
          have hb_ := kB3.lt
          go_wp2_with fail
          refine (join_at u2.is false 2 y2 0 true true rfl (by rw [hj2]; decide) (by rw [hj2]; decide)).mono ?_
          rintro e v4 ⟨rfl, G2, hP, hW⟩
          rw [fresh_join hj2] at hP
          have x1 := u1.other hW d3 u2.base
          have x2 := u2.step hP hW
          have kA4 := hW.blk kA3 nA2
          have kB4 := hW.blk kB3 nB2
          have nA2' := hW.not ha_ nA2
          have nB2' := hW.not hb_ nB2
          have d4 := Ap.dis2 d3 u1.is.lt hW
          clear hP hW u1 u2 kA3 kB3 a0 a1 a2 a3 ha_ b0 b1 b2 b3 hb_ nA2 nB2 d3
          have a0 := kA4.cell 0
          have a1 := kA4.cell 1
          have a2 := kA4.cell 2
          have a3 := kA4.cell 3
          have ha_ := kA4.lt
          have b0 := kB4.cell 0
          have b1 := kB4.cell 1
          have b2 := kB4.cell 2
          have b3 := kB4.cell 3
          have hb_ := kB4.lt
          go_wp2_with fail
          have r2 : Rd v4 v4.heap.size 1 A2 n2 (bvs b) := (hr2.below x1.bel).more x1.bel.size
          refine (write_at x1.is false 2 y2 0 A2 n2 c2 b r2 hnc2 (by omega) (by rw [mget_put, if_pos rfl]; decide) (by rw [mget_put, if_pos rfl]; decide)).mono ?_
          rw [fresh_write (by rw [HL.out]; exact hn2), HL.out]
          rintro e v5 ⟨rfl, H1, hP, hW⟩
          have y1 := x1.step hP hW
          have y2' := x2.other hW (fun b h2 h1 => d4 b h1 h2) x1.base
          have kA5 := hW.blk kA4 nA1'
          have kB5 := hW.blk kB4 nB1
          have d5 := Ap.dis1 d4 x2.is.lt hW
          clear hP hW x1 x2 kA4 kB4 a0 a1 a2 a3 ha_ b0 b1 b2 b3 hb_ nA1' nB1 d4 r2
          have a0 := kA5.cell 0
          have a1 := kA5.cell 1
          have a2 := kA5.cell 2
          have a3 := kA5.cell 3
          have ha_ := kA5.lt
          have b0 := kB5.cell 0
          have b1 := kB5.cell 1
          have b2 := kB5.cell 2
          have b3 := kB5.cell 3
          have hb_ := kB5.lt
          go_wp2_with fail
          have r2 : Rd v5 v5.heap.size 1 A2 n2 (bvs b) := (hr2.below y1.bel).more y1.bel.size
          refine (write_at y2'.is false 2 y2 0 A2 n2 c2 b r2 hnc2 (by omega) (by rw [mget_put, if_pos rfl]; decide) (by rw [mget_put, if_pos rfl]; decide)).mono ?_
          rw [fresh_write (by rw [HL.out]; exact hn2), HL.out]
          rintro e v6 ⟨rfl, H2, hP, hW⟩
          have z1 := y1.other hW d5 y2'.base
          have z2 := y2'.step hP hW
          have kA6 := hW.blk kA5 nA2'
          have kB6 := hW.blk kB5 nB2'
          have d6 := Ap.dis2 d5 y1.is.lt hW
          have apn := ap.two (by omega) z1 z2 d6
          clear hP hW y1 y2' kA5 kB5 a0 a1 a2 a3 ha_ b0 b1 b2 b3 hb_ nA2' nB2' d5 r2 z1 z2 d6 ap hj hj2
          have a0 := kA6.cell 0
          have a1 := kA6.cell 1
          have a2 := kA6.cell 2
          have a3 := kA6.cell 3
          have ha_ := kA6.lt
          have b0 := kB6.cell 0
          have b1 := kB6.cell 1
          have b2 := kB6.cell 2
          have b3 := kB6.cell 3
          have hb_ := kB6.lt
          go_wp2
          go_roundg (n - (k + 1))
          case measure => omega
          case rel => exact ⟨k + 1, by omega, by omega, by omega, by go_num, _, _, _, _, _, _, _, _, apn⟩
        · have hm : ((x.toNat : Int).tmod 3) = 1 := by rw [Int.tmod_eq_emod_of_nonneg (by omega)]; omega
          have hm' : ((x.toNat : Int) % 3) = 1 := by omega
          have hj := ap.free5 y5 (Nat.le_refl _)
          clear hx3
          go_wp2_with fail
          refine (plain5 ap.s1.is ap.n5 hj).mono ?_
          rintro e v1 ⟨rfl, hP, hW⟩
          have t1 := ap.s1.step hP hW
          have t2 := ap.s2.other hW (fun b h2 h1 => ap.dis b h1 h2) ap.s1.base
          clear hP hW ck
          go_wp2_with fail
          refine (join_at (t1.alloc _).is false 5 y5 0 true true rfl (by rw [hj]; decide) (by rw [hj]; decide)).mono ?_
          rintro e v2 ⟨rfl, G1, hP2, hW2⟩
          rw [fresh_join hj] at hP2
          have u1 := (t1.alloc _).step hP2 hW2
          have u2 := (t2.alloc _).other hW2 (fun b h2 h1 => ap.dis b h1 h2) t1.base
          have kB := hW2.blk (Blk.new v1 41 #[.bool false, .int .u8 5, .int .u16 (y5.toNat : Int), .int .u16 0]) t1.not
          have dd := Ap.dis1 ap.dis (t2.alloc _).is.lt hW2
          clear hP2 hW2
          have k0 := kB.cell 0
          have k1 := kB.cell 1
          have k2 := kB.cell 2
          have k3 := kB.cell 3
          have hk_ := kB.lt
          go_wp2_with fail
          have r2 : Rd v2 v2.heap.size 1 A2 n2 (bvs b) := (hr2.below u1.bel).more u1.bel.size
          refine (write_at u1.is false 5 y5 0 A2 n2 c2 b r2 hnc2 (by omega) (by rw [mget_put, if_pos rfl]; decide) (by rw [mget_put, if_pos rfl]; decide)).mono ?_
          rw [fresh_write (by rw [HL.out]; exact hn2), HL.out]
          rintro e v3 ⟨rfl, H1, hP3, hW3⟩
          have x1 := u1.step hP3 hW3
          have x2 := u2.other hW3 (fun b h2 h1 => dd b h1 h2) u1.base
          have d3 := Ap.dis1 dd u2.is.lt hW3
          have apn := ap.five (by omega) x1 x2 d3
          clear hP3 hW3 t1 t2 u1 u2 x1 x2 d3 dd kB k0 k1 k2 k3 hk_ r2 hj ap
          go_wp2
          go_roundg (n - (k + 1))
          case measure => omega
          case rel => exact ⟨k + 1, by omega, by omega, by omega, by go_num, _, _, _, _, _, _, _, _, apn⟩
        · have hm : ((x.toNat : Int).tmod 3) = 2 := by rw [Int.tmod_eq_emod_of_nonneg (by omega)]; omega
          have hm' : ((x.toNat : Int) % 3) = 2 := by omega
          have hj := ap.free5 y5 (Nat.le_refl _)
          clear hx3
          go_wp2_with fail
          refine (plain5 ap.s1.is ap.n5 hj).mono ?_
          rintro e v1 ⟨rfl, hP, hW⟩
          have t1 := ap.s1.step hP hW
          have t2 := ap.s2.other hW (fun b h2 h1 => ap.dis b h1 h2) ap.s1.base
          clear hP hW ck
          go_wp2_with fail
          refine (join_at (t1.alloc _).is false 5 y5 0 true false rfl (by rw [hj]; decide) (by rw [hj]; decide)).mono ?_
          rintro e v2 ⟨rfl, G1, hP2, hW2⟩
          rw [fresh_join hj] at hP2
          have u1 := (t1.alloc _).step hP2 hW2
          have u2 := (t2.alloc _).other hW2 (fun b h2 h1 => ap.dis b h1 h2) t1.base
          have kB := hW2.blk (Blk.new v1 41 #[.bool false, .int .u8 5, .int .u16 (y5.toNat : Int), .int .u16 0]) t1.not
          have dd := Ap.dis1 ap.dis (t2.alloc _).is.lt hW2
          clear hP2 hW2
          have k0 := kB.cell 0
          have k1 := kB.cell 1
          have k2 := kB.cell 2
          have k3 := kB.cell 3
          have hk_ := kB.lt
          go_wp2_with fail
          have r2 : Rd v2 v2.heap.size 1 A2 n2 (bvs b) := (hr2.below u1.bel).more u1.bel.size
          refine (write_at u1.is false 5 y5 0 A2 n2 c2 b r2 hnc2 (by omega) (by rw [mget_put, if_pos rfl]; decide) (by rw [mget_put, if_pos rfl]; decide)).mono ?_
          rw [fresh_write (by rw [HL.out]; exact hn2), HL.out]
          rintro e v3 ⟨rfl, H1, hP3, hW3⟩
          have x1 := u1.step hP3 hW3
          have x2 := u2.other hW3 (fun b h2 h1 => dd b h1 h2) u1.base
          have d3 := Ap.dis1 dd u2.is.lt hW3
          have apn := ap.five (by omega) x1 x2 d3
          clear hP3 hW3 t1 t2 u1 u2 x1 x2 d3 dd kB k0 k1 k2 k3 hk_ r2 hj ap
          go_wp2
          go_roundg (n - (k + 1))
          case measure => omega
          case rel => exact ⟨k + 1, by omega, by omega, by omega, by go_num, _, _, _, _, _, _, _, _, apn⟩
    · have hkn' : ((k : Int) < n) = False := by simp; omega
      obtain ⟨F1, F2, L1, L2, nx1, nx2, y5, y2, ap⟩ := hA.out
      clear hA
      go_wp2
      go_returns
      exact ⟨rfl, ap.s1.bel⟩

theorem apart_all (hr : Rd w w.heap.size 1 A n (bvs o)) (hr2 : Rd w w.heap.size 1 A2 n2 (bvs b)) (hnc2 : n2 ≤ c2) :
    Calls Try.prog 4 #[.slice A n c, .slice A2 n2 c2] w fun e w' => e = .returned (.bool true) ∧ Below w.heap.size w w' := by
  by_cases h : n2 ≤ 100
  · exact apart_ok A A2 n c n2 c2 o b w hr hr2 hnc2 h
  · exact apart_long A A2 n c n2 c2 w (by omega)
end
end Go.Proofs.Ytkjgieehiimiiaa

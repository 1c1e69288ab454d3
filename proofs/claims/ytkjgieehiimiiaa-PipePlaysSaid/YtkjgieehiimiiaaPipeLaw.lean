/- Layer 21, pipes: the laws' shared words, and Awake. -/
import Derived.Test.YtkjgieehiimiiaaPipeAt
namespace Go.Proofs.Ytkjgieehiimiiaa
open Go.RowKit

/-- Pipes of a law's own: all their blocks are new since w0, as all that has changed since. -/
structure PSt (w0 w : World) (p : Nat) (F : Nat → Prop) (L : PL) (nx : List UInt16) : Prop where
  is : PipesAt w p F L nx
  base : ∀ b, F b → w0.heap.size ≤ b
  bel : Below w0.heap.size w0 w

section
variable {w0 w w' : World} {p : Nat} {F F' : Nat → Prop} {L L' : PL} {nx nx' : List UInt16}
theorem Went.blk {g : Nat} {t : TypeId} {cs : Array Value} (h : Went w w' F F') (hB : Blk w g t cs) (hg : ¬ F g) : Blk w' g t cs := (h.tch.block g hB.lt hg).trans hB
theorem Went.not {g : Nat} (h : Went w w' F F') (hlt : g < w.heap.size) (hg : ¬ F g) : ¬ F' g := fun h' => (h.sub g h').elim hg (fun hle => by omega)
theorem PSt.step (h : PSt w0 w p F L nx) (hP : PipesAt w' p F' L' nx') (hW : Went w w' F F') : PSt w0 w' p F' L' nx' where
  is := hP
  base := fun b hb => (hW.sub b hb).elim (h.base b) (fun hle => Nat.le_trans h.bel.size hle)
  bel := h.bel.trans ((hW.tch.mono h.bel.size (fun _ _ x => x)).below (fun k hk hf => by have := h.base k hf; omega))
theorem PSt.below (h : PSt w0 w p F L nx) (hb : Below w.heap.size w w') : PSt w0 w' p F L nx where
  is := h.is.below hb
  base := h.base
  bel := h.bel.trans (hb.mono h.bel.size)
theorem PSt.drew (h : PSt w0 w p F L nx) : PSt w0 w.drew p F L nx := ⟨h.is.drew, h.base, h.bel.drew⟩
theorem PSt.alloc (h : PSt w0 w p F L nx) (o : Obj) : PSt w0 (w.alloc o) p F L nx := h.below ((Below.refl _ _).alloc (Nat.le_refl _) o)
theorem PSt.not (h : PSt w0 w p F L nx) : ¬ F w.heap.size := fun hf => absurd (h.is.lt _ hf) (Nat.lt_irrefl _)
end

def K0 : Array Value := #[.bool false, .int .u8 0, .int .u16 0, .int .u16 0]
theorem plain0 {w : World} {p : Nat} {F : Nat → Prop} (h : PipesAt w p F [] (List.replicate 64 0)) :
    Calls Try.prog 15 #[.pointer (some ⟨p, 0, none⟩), .int .i64 0] w fun e w' =>
      e = .returned (.tuple #[.agg #[.bool false, .int .u8 0, .int .u16 0, .int .u16 0], .int .i64 0]) ∧ PipesAt w' p F [] ((List.replicate 64 0).set 0 1) ∧ Went w w' F F :=
  plain_at h 0 (by decide) 0 rfl 0 0 ⟨rfl, rfl⟩

set_option maxRecDepth 100000 in
set_option maxHeartbeats 400000 in
theorem awake_ok (w : World) : Calls Try.prog 13 #[] w fun e w' => e = .returned (.bool true) ∧ Below w.heap.size w w' := by
  have kc := fun (w : World) (C : Array Value) (n c : Nat) => Lib.run_convert_bytes_const (P := Try.prog) w 23 5 C n c Try.underlying23 Try.underlying5
  go_enter Try.func13, Try.ntmps13
  go_wp2_with fail
  refine (new_at w).mono ?_
  rintro e w1 ⟨p, F, rfl, hP, hF, hb1⟩
  have s1 : PSt w w1 p F _ _ := ⟨hP, hF, hb1⟩
  go_wp2_with fail
  refine (plain0 hP).mono ?_
  rintro e w2 ⟨rfl, hP2, hW2⟩
  have s2 := s1.step hP2 hW2
  go_wp2_with fail
  refine (join_at (s2.alloc _).is false 0 0 0 true true rfl (by simp [mget]) (by simp [mget])).mono ?_
  rintro e w3 ⟨rfl, F3, hP3, hW3⟩
  have s3 := (s2.alloc _).step hP3 hW3
  have kB3 := hW3.blk (Blk.new w2 41 K0) s2.not
  have kn3 := hW3.not (g := w2.heap.size) (by simp) s2.not
  rw [show pjoin [] (false, 0, 0, 0) true true = [((false, 0, 0, 0), ([], 1, 1))] from rfl] at s3
  have k0 := kB3.cell 0
  have k1 := kB3.cell 1
  have k2 := kB3.cell 2
  have k3 := kB3.cell 3
  have hk3 := kB3.lt
  simp only [K0] at k0 k1 k2 k3
  clear hP hP2 hP3 hW2 hW3 hF hb1 s1 s2
  go_wp2_with fail
  have r3 : Rd (w3.alloc (.cells #[.int .u8 97, .int .u8 98] 5 (2, 3))) (w3.heap.size + 1) 1 (some ⟨w3.heap.size, 0, none⟩) 2 (bvs [97, 98]) := Rd.lit rfl rfl rfl rfl
  refine (write_at (s3.alloc _).is false 0 0 0 (some ⟨w3.heap.size, 0, none⟩) 2 2 [97, 98] (r3.more (by simp)) (by omega) (by omega) (by simp [mget]) (by simp [mget])).mono ?_
  rw [show pwrite [((false, 0, 0, 0), ([], 1, 1))] (false, 0, 0, 0) [97, 98] = (2, 0, [((false, 0, 0, 0), ([97, 98], 1, 1))]) from rfl]
  rintro e w4 ⟨rfl, F4, hP4, hW4⟩
  have s4 := (s3.alloc _).step hP4 hW4
  have kB4 := hW4.blk (kB3.alloc _) kn3
  clear k0 k1 k2 k3
  have k0 := kB4.cell 0
  have k1 := kB4.cell 1
  have k2 := kB4.cell 2
  have k3 := kB4.cell 3
  have hk4 := kB4.lt
  simp only [K0] at k0 k1 k2 k3
  clear hP4 hW4 s3 r3 kB3 kn3 hk3
  go_wp2_with fail
  refine (read_at s4.is false 0 0 0 1 (by simp [mget]) (by simp [mget])).mono ?_
  rw [show pread [((false, 0, 0, 0), ([97, 98], 1, 1))] (false, 0, 0, 0) 1 = ([97], 0, [((false, 0, 0, 0), ([98], 1, 1))]) from rfl]
  rintro e w5 ⟨A1, n1, c1, rfl, ho, F5, hP5, hW5, _⟩
  have s5 := s4.step hP5 hW5
  have hs := run_string_rd (c := c1) 23 5 9 Try.underlying23 Try.underlying5 Try.underlying9 (Rd.of_own ho)
  simp only [str] at hs
  clear k0 k1 k2 k3 kB4 hk4 s4 ho hP5 hW5
  go_wp2
  go_returns
  exact ⟨rfl, s5.bel⟩
end Go.Proofs.Ytkjgieehiimiiaa

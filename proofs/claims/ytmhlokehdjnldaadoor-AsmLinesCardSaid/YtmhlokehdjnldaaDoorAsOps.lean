/- Instructions: the walks of the program's small functions. -/
import Derived.Test.YtmhlokehdjnldaaDoorProg
import Derived.Test.YtmhlokehdjnldaaDoorAsP
import Derived.Test.YtmhlokehdjnldaaDoorAsT
import Derived.Test.YtmhlokehdjnldaaDoorSlim
import Derived.Test.YtmhlokehdjnldaaDoorFsOps
import Derived.Deep.RegionHeld3
import Derived.Deep.RegionLaw
import Derived.Deep.QuietTactic
import Derived.BigQuiet
import Derived.Handy
import Derived.Deep.LoopGhost
import Derived.Deep.Cut
import Derived.Deep.CutRange
import Derived.Lib.SlBytesConst
import Derived.Laws.BitsAllLaws
import Derived.Laws.BitsLemmas
namespace Go.Proofs.YtmhlokehdjnldaaDoor
open Go.RowKit Go.WideMaps
set_option linter.unusedSimpArgs false
set_option linter.unusedVariables false

abbrev insC (o x y z : Nat) : Array Value := #[.int .u8 (o : Int), .int .u8 (x : Int), .int .u8 (y : Int), .int .u8 (z : Int)]
abbrev fourC (a b c d : Nat) : Array Value := #[.int .u8 (a : Int), .int .u8 (b : Int), .int .u8 (c : Int), .int .u8 (d : Int)]

set_option maxRecDepth 100000 in
set_option maxHeartbeats 4000000 in
theorem of_ok (o : Nat) (w : World) :
    Calls Tryd.prog 35 #[.int .u8 (o : Int)] w fun e w' => e = .returned (.tuple #[.int .u8 ((if formA o = 9 then 0 else formA o : Nat) : Int), .bool (decide (formA o ≠ 9))]) ∧ w' = w := by
  go_enter Tryd.func35, Tryd.ntmps35
  by_cases h : o < 40
  · have hc : o = 0 ∨ o = 1 ∨ o = 2 ∨ o = 3 ∨ o = 4 ∨ o = 5 ∨ o = 6 ∨ o = 7 ∨ o = 8 ∨ o = 9 ∨ o = 10 ∨ o = 11 ∨ o = 12 ∨ o = 13 ∨ o = 14 ∨ o = 15 ∨ o = 16 ∨ o = 17 ∨ o = 18 ∨ o = 19 ∨ o = 20 ∨ o = 21 ∨ o = 22 ∨ o = 23 ∨ o = 24 ∨ o = 25 ∨ o = 26 ∨ o = 27 ∨ o = 28 ∨ o = 29 ∨ o = 30 ∨ o = 31 ∨ o = 32 ∨ o = 33 ∨ o = 34 ∨ o = 35 ∨ o = 36 ∨ o = 37 ∨ o = 38 ∨ o = 39 := by omega
    clear h
    rcases hc with rfl | rfl | rfl | rfl | rfl | rfl | rfl | rfl | rfl | rfl | rfl | rfl | rfl | rfl | rfl | rfl | rfl | rfl | rfl | rfl | rfl | rfl | rfl | rfl | rfl | rfl | rfl | rfl | rfl | rfl | rfl | rfl | rfl | rfl | rfl | rfl | rfl | rfl | rfl | rfl <;> (go_wp2; go_returns; exact ⟨rfl, rfl⟩)
  · have hf : formA o = 9 := by
      by_cases e : formA o = 9
      · exact e
      · exact absurd (formA_lt o e).2 h
    have t1 : ((o : Int) == 1) = false := by simp; omega
    have t2 : ((o : Int) == 2) = false := by simp; omega
    have t3 : ((o : Int) == 3) = false := by simp; omega
    have t4 : ((o : Int) == 4) = false := by simp; omega
    have t5 : ((o : Int) == 5) = false := by simp; omega
    have t6 : ((o : Int) == 6) = false := by simp; omega
    have t7 : ((o : Int) == 7) = false := by simp; omega
    have t8 : ((o : Int) == 8) = false := by simp; omega
    have t9 : ((o : Int) == 9) = false := by simp; omega
    have t10 : ((o : Int) == 10) = false := by simp; omega
    have t11 : ((o : Int) == 11) = false := by simp; omega
    have t12 : ((o : Int) == 12) = false := by simp; omega
    have t13 : ((o : Int) == 13) = false := by simp; omega
    have t14 : ((o : Int) == 14) = false := by simp; omega
    have t15 : ((o : Int) == 15) = false := by simp; omega
    have t16 : ((o : Int) == 16) = false := by simp; omega
    have t17 : ((o : Int) == 17) = false := by simp; omega
    have t18 : ((o : Int) == 18) = false := by simp; omega
    have t19 : ((o : Int) == 19) = false := by simp; omega
    have t20 : ((o : Int) == 20) = false := by simp; omega
    have t21 : ((o : Int) == 21) = false := by simp; omega
    have t22 : ((o : Int) == 22) = false := by simp; omega
    have t23 : ((o : Int) == 23) = false := by simp; omega
    have t24 : ((o : Int) == 24) = false := by simp; omega
    have t25 : ((o : Int) == 25) = false := by simp; omega
    have t26 : ((o : Int) == 26) = false := by simp; omega
    have t27 : ((o : Int) == 27) = false := by simp; omega
    have t28 : ((o : Int) == 28) = false := by simp; omega
    have t29 : ((o : Int) == 29) = false := by simp; omega
    have t30 : ((o : Int) == 30) = false := by simp; omega
    have t31 : ((o : Int) == 31) = false := by simp; omega
    have t32 : ((o : Int) == 32) = false := by simp; omega
    have t33 : ((o : Int) == 33) = false := by simp; omega
    have t34 : ((o : Int) == 34) = false := by simp; omega
    have t35 : ((o : Int) == 35) = false := by simp; omega
    have t36 : ((o : Int) == 36) = false := by simp; omega
    have t37 : ((o : Int) == 37) = false := by simp; omega
    have t38 : ((o : Int) == 38) = false := by simp; omega
    have t39 : ((o : Int) == 39) = false := by simp; omega
    clear h
    go_wp2
    go_returns
    exact ⟨rfl, rfl⟩


theorem below1 (w : World) (a : Obj) : Below w.heap.size w (w.alloc a) := (Below.refl _ _).alloc (Nat.le_refl _) _
theorem below2 (w : World) (a b : Obj) : Below w.heap.size w ((w.alloc a).alloc b) := (below1 w a).alloc (by simp) _
theorem cell_last {w W : World} {b i : Nat} {cs : Array Value} {t : TypeId} (hW : W = w.alloc (.cells cs t)) (hb : b = w.heap.size) : W.cell? ⟨b, i, none⟩ = cs[i]? := by
  subst hW; subst hb
  exact cell_of_row _ _ _ _ _ _ (heap_alloc_new w _)
def regsB (n x y z : Nat) : Bool := match n with | 0 => true | 1 => decide (x < 16) | 2 => decide (x < 16) && decide (y < 16) | _ => decide (x < 16) && decide (y < 16) && decide (z < 16)
def nth3 (x y z : Nat) : Nat → Nat | 0 => x | 1 => y | _ => z
theorem regsB_all {n x y z : Nat} (hn : n ≤ 3) (h : ∀ j, j < n → nth3 x y z j < 16) : regsB n x y z = true := by
  match n, hn with
  | 0, _ => rfl
  | 1, _ => have := h 0 (by omega); simpa [regsB, nth3] using this
  | 2, _ => have := h 0 (by omega); have := h 1 (by omega); simp_all [regsB, nth3]
  | 3, _ => have := h 0 (by omega); have := h 1 (by omega); have := h 2 (by omega); simp_all [regsB, nth3]
theorem regsB_not {n x y z : Nat} (hn : n ≤ 3) {j : Nat} (hj : j < n) (h : ¬ nth3 x y z j < 16) : regsB n x y z = false := by
  match n, hn, j, hj with
  | 1, _, 0, _ => simpa [regsB, nth3] using h
  | 2, _, 0, _ => have : decide (x < 16) = false := by simpa [nth3] using h
                  simp [regsB, this]
  | 2, _, 1, _ => have : decide (y < 16) = false := by simpa [nth3] using h
                  simp [regsB, this]
  | 3, _, 0, _ => have : decide (x < 16) = false := by simpa [nth3] using h
                  simp [regsB, this]
  | 3, _, 1, _ => have : decide (y < 16) = false := by simpa [nth3] using h
                  simp [regsB, this]
  | 3, _, 2, _ => have : decide (z < 16) = false := by simpa [nth3] using h
                  simp [regsB, this]
set_option maxRecDepth 100000 in
set_option maxHeartbeats 4000000 in
theorem regs_ok (o x y z n : Nat) (hn : n ≤ 3) (w : World) :
    Calls Tryd.prog 64 #[.agg (insC o x y z), .int .i64 (n : Int)] w fun e w' => e = .returned (.bool (regsB n x y z)) ∧ Below w.heap.size w w' := by
  go_enter Tryd.func64, Tryd.ntmps64
  go_wp2
  refine at_world (fun W => ∃ b, b = w.heap.size + 1 ∧ Below w.heap.size w W ∧ b < W.heap.size ∧ ∀ j, j < 3 → W.cell? ⟨b, j, none⟩ = some (.int .u8 (nth3 x y z j : Int))) ?_ (fun W hW => ?_)
  · refine ⟨_, rfl, ?_, ?_, fun j hj => ?_⟩
    · exact ((Below.refl _ _).alloc (Nat.le_refl _) _).alloc (by simp) _
    · simp
    · refine (cell_last rfl (by simp)).trans ?_
      match j, hj with
      | 0, _ => rfl
      | 1, _ => rfl
      | 2, _ => rfl
  obtain ⟨b, hb, hB, hlt, hc⟩ := hW
  rw [← hb]
  clear hb
  go_loopg [6, 15] n (fun g x6 x15 wr => wr = W ∧ ∃ k : Nat, k ≤ n ∧ g = n - k ∧ x15 = .int .i64 (k : Nat) ∧ ∀ j, j < k → nth3 x y z j < 16)
  case atStart => exact ⟨rfl, 0, by omega, rfl, rfl, fun j hj => absurd hj (Nat.not_lt_zero _)⟩
  case round =>
    obtain ⟨rfl, k, hk, hg, rfl, hA⟩ := hrel
    by_cases hkn : k < n
    · have hkz : (k : Int) < n := by omega
      have hk3 : (k : Int) < 3 := by omega
      have hck := hc k (by omega)
      by_cases hr : nth3 x y z k < 16
      · have t1 : decide ((16 : Int) ≤ (nth3 x y z k : Int)) = false := by simp; omega
        clear hc
        go_wp2
        go_roundg (n - (k + 1))
        case measure => omega
        case rel =>
          refine ⟨rfl, k + 1, by omega, rfl, by go_num, fun j hj => ?_⟩
          rcases Nat.lt_succ_iff_lt_or_eq.1 hj with h | rfl
          · exact hA j h
          · exact hr
      · have t1 : decide ((16 : Int) ≤ (nth3 x y z k : Int)) = true := by simp; omega
        have he : Hid (regsB n x y z = false) := hide (regsB_not hn hkn hr)
        clear hc hr
        go_wp2
        go_returns
        exact ⟨by rw [he.out]; rfl, hB⟩
    · have he : Hid (regsB n x y z = true) := hide (regsB_all hn fun j hj => hA j (by omega))
      have hkz : decide ((k : Int) < n) = false := by simp; omega
      clear hc hA
      go_wp2
      go_returns
      exact ⟨by rw [he.out]; rfl, hB⟩

set_option maxRecDepth 100000 in
set_option maxHeartbeats 8000000 in
theorem check_ok (o x y z : Nat) (w : World) :
    Calls Tryd.prog 34 #[.agg (insC o x y z)] w fun e w' => e = .returned (.int .i64 (checkA o x y z)) ∧ Below w.heap.size w w' := by
  go_enter Tryd.func34, Tryd.ntmps34
  go_wp2_with fail
  refine (of_ok o _).mono ?_
  rintro e w' ⟨rfl, rfl⟩
  have hB1 := (Below.refl w.heap.size w).alloc (Nat.le_refl _) (.cells (insC o x y z) 38)
  by_cases h9 : formA o = 9
  · have hk : Hid (checkA o x y z = 32) := hide (by unfold checkA; rw [if_pos h9])
    rw [if_pos h9]
    have t9 : decide (formA o ≠ 9) = false := by simp [h9]
    rw [t9]
    clear t9 h9
    go_wp2
    go_returns
    exact ⟨by rw [hk.out]; rfl, hB1⟩
  rw [if_neg h9]
  have t9 : decide (formA o ≠ 9) = true := by simp [h9]
  rw [t9]
  have hch : Hid (checkA o x y z = if rightA (formA o) x y z = true then 0 else 28) := hide (by unfold checkA; rw [if_neg h9])
  have h8 : formA o ≤ 8 := by
    obtain ⟨a, b⟩ := formA_lt o h9
    exact (op_facts1 o b a).2
  clear t9 h9
  have hfc := form_cases o h8
  clear h8
  generalize formA o = f at hch hfc
  rcases hfc with rfl | rfl | rfl | rfl | rfl | rfl | rfl | rfl | rfl
  · -- form 0
    by_cases hx : x = 0
    · subst hx
      by_cases hy : y = 0
      · subst hy
        by_cases hz : z = 0
        · subst hz
          go_wp2
          go_returns
          refine ⟨?_, hB1⟩
          rw [hch.out]; simp [rightA, *]
        · have tz : ((z : Int) == 0) = false := by simp; omega
          go_wp2
          go_returns
          refine ⟨?_, hB1⟩
          rw [hch.out]; simp [rightA, *]
      · have ty : ((y : Int) == 0) = false := by simp; omega
        by_cases hz : z = 0
        · subst hz
          go_wp2
          go_returns
          refine ⟨?_, hB1⟩
          rw [hch.out]; simp [rightA, *]
        · have tz : ((z : Int) == 0) = false := by simp; omega
          go_wp2
          go_returns
          refine ⟨?_, hB1⟩
          rw [hch.out]; simp [rightA, *]
    · have tx : ((x : Int) == 0) = false := by simp; omega
      by_cases hy : y = 0
      · subst hy
        by_cases hz : z = 0
        · subst hz
          go_wp2
          go_returns
          refine ⟨?_, hB1⟩
          rw [hch.out]; simp [rightA, *]
        · have tz : ((z : Int) == 0) = false := by simp; omega
          go_wp2
          go_returns
          refine ⟨?_, hB1⟩
          rw [hch.out]; simp [rightA, *]
      · have ty : ((y : Int) == 0) = false := by simp; omega
        by_cases hz : z = 0
        · subst hz
          go_wp2
          go_returns
          refine ⟨?_, hB1⟩
          rw [hch.out]; simp [rightA, *]
        · have tz : ((z : Int) == 0) = false := by simp; omega
          go_wp2
          go_returns
          refine ⟨?_, hB1⟩
          rw [hch.out]; simp [rightA, *]
  · -- form 1
    by_cases hy : y = 0
    · subst hy
      by_cases hz : z = 0
      · subst hz
        go_wp2_with fail
        refine (regs_ok o _ _ _ 1 (by omega) _).mono ?_
        rintro e w' ⟨rfl, hb⟩
        have c1 : w'.cell? ⟨w.heap.size, 1, none⟩ = some (.int .u8 _) := (hb.cell (p := ⟨w.heap.size, 1, none⟩) (by simp)).trans (cell_last rfl rfl)
        have c2 : w'.cell? ⟨w.heap.size, 2, none⟩ = some (.int .u8 _) := (hb.cell (p := ⟨w.heap.size, 2, none⟩) (by simp)).trans (cell_last rfl rfl)
        have c3 : w'.cell? ⟨w.heap.size, 3, none⟩ = some (.int .u8 _) := (hb.cell (p := ⟨w.heap.size, 3, none⟩) (by simp)).trans (cell_last rfl rfl)
        have hB := Below.then_ hB1 (by simp) hb
        have hlt : w.heap.size < w'.heap.size := by have := hb.size; simp at this; omega
        clear hb
        skip
        generalize hr : regsB _ _ _ _ = r
        have HR := hide hr
        clear hr
        cases r
        · go_wp2
          go_returns
          refine ⟨?_, hB⟩
          have := HR.out
          have h2 := hch.out
          simp [regsB] at this
          rw [h2]; simp [rightA, *]
          try exact this
        · go_wp2
          go_returns
          refine ⟨?_, hB⟩
          have := HR.out
          have h2 := hch.out
          simp [regsB] at this
          rw [h2]; simp [rightA, *]
          try exact this
      · have tz : ((z : Int) == 0) = false := by simp; omega
        go_wp2_with fail
        refine (regs_ok o _ _ _ 1 (by omega) _).mono ?_
        rintro e w' ⟨rfl, hb⟩
        have c1 : w'.cell? ⟨w.heap.size, 1, none⟩ = some (.int .u8 _) := (hb.cell (p := ⟨w.heap.size, 1, none⟩) (by simp)).trans (cell_last rfl rfl)
        have c2 : w'.cell? ⟨w.heap.size, 2, none⟩ = some (.int .u8 _) := (hb.cell (p := ⟨w.heap.size, 2, none⟩) (by simp)).trans (cell_last rfl rfl)
        have c3 : w'.cell? ⟨w.heap.size, 3, none⟩ = some (.int .u8 _) := (hb.cell (p := ⟨w.heap.size, 3, none⟩) (by simp)).trans (cell_last rfl rfl)
        have hB := Below.then_ hB1 (by simp) hb
        have hlt : w.heap.size < w'.heap.size := by have := hb.size; simp at this; omega
        clear hb
        skip
        generalize hr : regsB _ _ _ _ = r
        have HR := hide hr
        clear hr
        cases r
        · go_wp2
          go_returns
          refine ⟨?_, hB⟩
          have := HR.out
          have h2 := hch.out
          simp [regsB] at this
          rw [h2]; simp [rightA, *]
          try exact this
        · go_wp2
          go_returns
          refine ⟨?_, hB⟩
          have := HR.out
          have h2 := hch.out
          simp [regsB] at this
          rw [h2]; simp [rightA, *]
          try exact this
    · have ty : ((y : Int) == 0) = false := by simp; omega
      by_cases hz : z = 0
      · subst hz
        go_wp2_with fail
        refine (regs_ok o _ _ _ 1 (by omega) _).mono ?_
        rintro e w' ⟨rfl, hb⟩
        have c1 : w'.cell? ⟨w.heap.size, 1, none⟩ = some (.int .u8 _) := (hb.cell (p := ⟨w.heap.size, 1, none⟩) (by simp)).trans (cell_last rfl rfl)
        have c2 : w'.cell? ⟨w.heap.size, 2, none⟩ = some (.int .u8 _) := (hb.cell (p := ⟨w.heap.size, 2, none⟩) (by simp)).trans (cell_last rfl rfl)
        have c3 : w'.cell? ⟨w.heap.size, 3, none⟩ = some (.int .u8 _) := (hb.cell (p := ⟨w.heap.size, 3, none⟩) (by simp)).trans (cell_last rfl rfl)
        have hB := Below.then_ hB1 (by simp) hb
        have hlt : w.heap.size < w'.heap.size := by have := hb.size; simp at this; omega
        clear hb
        skip
        generalize hr : regsB _ _ _ _ = r
        have HR := hide hr
        clear hr
        cases r
        · go_wp2
          go_returns
          refine ⟨?_, hB⟩
          have := HR.out
          have h2 := hch.out
          simp [regsB] at this
          rw [h2]; simp [rightA, *]
          try exact this
        · go_wp2
          go_returns
          refine ⟨?_, hB⟩
          have := HR.out
          have h2 := hch.out
          simp [regsB] at this
          rw [h2]; simp [rightA, *]
          try exact this
      · have tz : ((z : Int) == 0) = false := by simp; omega
        go_wp2_with fail
        refine (regs_ok o _ _ _ 1 (by omega) _).mono ?_
        rintro e w' ⟨rfl, hb⟩
        have c1 : w'.cell? ⟨w.heap.size, 1, none⟩ = some (.int .u8 _) := (hb.cell (p := ⟨w.heap.size, 1, none⟩) (by simp)).trans (cell_last rfl rfl)
        have c2 : w'.cell? ⟨w.heap.size, 2, none⟩ = some (.int .u8 _) := (hb.cell (p := ⟨w.heap.size, 2, none⟩) (by simp)).trans (cell_last rfl rfl)
        have c3 : w'.cell? ⟨w.heap.size, 3, none⟩ = some (.int .u8 _) := (hb.cell (p := ⟨w.heap.size, 3, none⟩) (by simp)).trans (cell_last rfl rfl)
        have hB := Below.then_ hB1 (by simp) hb
        have hlt : w.heap.size < w'.heap.size := by have := hb.size; simp at this; omega
        clear hb
        skip
        generalize hr : regsB _ _ _ _ = r
        have HR := hide hr
        clear hr
        cases r
        · go_wp2
          go_returns
          refine ⟨?_, hB⟩
          have := HR.out
          have h2 := hch.out
          simp [regsB] at this
          rw [h2]; simp [rightA, *]
          try exact this
        · go_wp2
          go_returns
          refine ⟨?_, hB⟩
          have := HR.out
          have h2 := hch.out
          simp [regsB] at this
          rw [h2]; simp [rightA, *]
          try exact this
  · -- form 2
    by_cases hz : z = 0
    · subst hz
      go_wp2_with fail
      refine (regs_ok o _ _ _ 2 (by omega) _).mono ?_
      rintro e w' ⟨rfl, hb⟩
      have c1 : w'.cell? ⟨w.heap.size, 1, none⟩ = some (.int .u8 _) := (hb.cell (p := ⟨w.heap.size, 1, none⟩) (by simp)).trans (cell_last rfl rfl)
      have c2 : w'.cell? ⟨w.heap.size, 2, none⟩ = some (.int .u8 _) := (hb.cell (p := ⟨w.heap.size, 2, none⟩) (by simp)).trans (cell_last rfl rfl)
      have c3 : w'.cell? ⟨w.heap.size, 3, none⟩ = some (.int .u8 _) := (hb.cell (p := ⟨w.heap.size, 3, none⟩) (by simp)).trans (cell_last rfl rfl)
      have hB := Below.then_ hB1 (by simp) hb
      have hlt : w.heap.size < w'.heap.size := by have := hb.size; simp at this; omega
      clear hb
      skip
      generalize hr : regsB _ _ _ _ = r
      have HR := hide hr
      clear hr
      cases r
      · go_wp2
        go_returns
        refine ⟨?_, hB⟩
        have := HR.out
        have h2 := hch.out
        simp [regsB] at this
        rw [h2]; simp [rightA, *]
        try exact this
      · go_wp2
        go_returns
        refine ⟨?_, hB⟩
        have := HR.out
        have h2 := hch.out
        simp [regsB] at this
        rw [h2]; simp [rightA, *]
        try exact this
    · have tz : ((z : Int) == 0) = false := by simp; omega
      go_wp2_with fail
      refine (regs_ok o _ _ _ 2 (by omega) _).mono ?_
      rintro e w' ⟨rfl, hb⟩
      have c1 : w'.cell? ⟨w.heap.size, 1, none⟩ = some (.int .u8 _) := (hb.cell (p := ⟨w.heap.size, 1, none⟩) (by simp)).trans (cell_last rfl rfl)
      have c2 : w'.cell? ⟨w.heap.size, 2, none⟩ = some (.int .u8 _) := (hb.cell (p := ⟨w.heap.size, 2, none⟩) (by simp)).trans (cell_last rfl rfl)
      have c3 : w'.cell? ⟨w.heap.size, 3, none⟩ = some (.int .u8 _) := (hb.cell (p := ⟨w.heap.size, 3, none⟩) (by simp)).trans (cell_last rfl rfl)
      have hB := Below.then_ hB1 (by simp) hb
      have hlt : w.heap.size < w'.heap.size := by have := hb.size; simp at this; omega
      clear hb
      skip
      generalize hr : regsB _ _ _ _ = r
      have HR := hide hr
      clear hr
      cases r
      · go_wp2
        go_returns
        refine ⟨?_, hB⟩
        have := HR.out
        have h2 := hch.out
        simp [regsB] at this
        rw [h2]; simp [rightA, *]
        try exact this
      · go_wp2
        go_returns
        refine ⟨?_, hB⟩
        have := HR.out
        have h2 := hch.out
        simp [regsB] at this
        rw [h2]; simp [rightA, *]
        try exact this
  · -- form 3
    go_wp2_with fail
    refine (regs_ok o _ _ _ 3 (by omega) _).mono ?_
    rintro e w' ⟨rfl, hb⟩
    have c1 : w'.cell? ⟨w.heap.size, 1, none⟩ = some (.int .u8 _) := (hb.cell (p := ⟨w.heap.size, 1, none⟩) (by simp)).trans (cell_last rfl rfl)
    have c2 : w'.cell? ⟨w.heap.size, 2, none⟩ = some (.int .u8 _) := (hb.cell (p := ⟨w.heap.size, 2, none⟩) (by simp)).trans (cell_last rfl rfl)
    have c3 : w'.cell? ⟨w.heap.size, 3, none⟩ = some (.int .u8 _) := (hb.cell (p := ⟨w.heap.size, 3, none⟩) (by simp)).trans (cell_last rfl rfl)
    have hB := Below.then_ hB1 (by simp) hb
    have hlt : w.heap.size < w'.heap.size := by have := hb.size; simp at this; omega
    clear hb
    skip
    generalize hr : regsB _ _ _ _ = r
    have HR := hide hr
    clear hr
    cases r
    · go_wp2
      go_returns
      refine ⟨?_, hB⟩
      have := HR.out
      have h2 := hch.out
      simp [regsB] at this
      rw [h2]; simp [rightA, *]
      try exact this
    · go_wp2
      go_returns
      refine ⟨?_, hB⟩
      have := HR.out
      have h2 := hch.out
      simp [regsB] at this
      rw [h2]; simp [rightA, *]
      try exact this
  · -- form 4
    go_wp2_with fail
    refine (regs_ok o _ _ _ 2 (by omega) _).mono ?_
    rintro e w' ⟨rfl, hb⟩
    have c1 : w'.cell? ⟨w.heap.size, 1, none⟩ = some (.int .u8 _) := (hb.cell (p := ⟨w.heap.size, 1, none⟩) (by simp)).trans (cell_last rfl rfl)
    have c2 : w'.cell? ⟨w.heap.size, 2, none⟩ = some (.int .u8 _) := (hb.cell (p := ⟨w.heap.size, 2, none⟩) (by simp)).trans (cell_last rfl rfl)
    have c3 : w'.cell? ⟨w.heap.size, 3, none⟩ = some (.int .u8 _) := (hb.cell (p := ⟨w.heap.size, 3, none⟩) (by simp)).trans (cell_last rfl rfl)
    have hB := Below.then_ hB1 (by simp) hb
    have hlt : w.heap.size < w'.heap.size := by have := hb.size; simp at this; omega
    clear hb
    skip
    generalize hr : regsB _ _ _ _ = r
    have HR := hide hr
    clear hr
    cases r
    · go_wp2
      go_returns
      refine ⟨?_, hB⟩
      have := HR.out
      have h2 := hch.out
      simp [regsB] at this
      rw [h2]; simp [rightA, *]
      try exact this
    · go_wp2
      go_returns
      refine ⟨?_, hB⟩
      have := HR.out
      have h2 := hch.out
      simp [regsB] at this
      rw [h2]; simp [rightA, *]
      try exact this
  · -- form 5
    go_wp2_with fail
    refine (regs_ok o _ _ _ 1 (by omega) _).mono ?_
    rintro e w' ⟨rfl, hb⟩
    have c1 : w'.cell? ⟨w.heap.size, 1, none⟩ = some (.int .u8 _) := (hb.cell (p := ⟨w.heap.size, 1, none⟩) (by simp)).trans (cell_last rfl rfl)
    have c2 : w'.cell? ⟨w.heap.size, 2, none⟩ = some (.int .u8 _) := (hb.cell (p := ⟨w.heap.size, 2, none⟩) (by simp)).trans (cell_last rfl rfl)
    have c3 : w'.cell? ⟨w.heap.size, 3, none⟩ = some (.int .u8 _) := (hb.cell (p := ⟨w.heap.size, 3, none⟩) (by simp)).trans (cell_last rfl rfl)
    have hB := Below.then_ hB1 (by simp) hb
    have hlt : w.heap.size < w'.heap.size := by have := hb.size; simp at this; omega
    clear hb
    skip
    generalize hr : regsB _ _ _ _ = r
    have HR := hide hr
    clear hr
    cases r
    · go_wp2
      go_returns
      refine ⟨?_, hB⟩
      have := HR.out
      have h2 := hch.out
      simp [regsB] at this
      rw [h2]; simp [rightA, *]
      try exact this
    · go_wp2
      go_returns
      refine ⟨?_, hB⟩
      have := HR.out
      have h2 := hch.out
      simp [regsB] at this
      rw [h2]; simp [rightA, *]
      try exact this
  · -- form 6
    by_cases hx : x = 0
    · subst hx
      go_wp2
      go_returns
      refine ⟨?_, hB1⟩
      rw [hch.out]; simp [rightA, *]
    · have tx : ((x : Int) == 0) = false := by simp; omega
      go_wp2
      go_returns
      refine ⟨?_, hB1⟩
      rw [hch.out]; simp [rightA, *]
  · -- form 7
    rcases (show z = 8 ∨ z = 16 ∨ (¬ z = 8 ∧ ¬ z = 16) by omega) with rfl | rfl | ⟨hz8, hz16⟩
    · skip
      go_wp2_with fail
      refine (regs_ok o _ _ _ 2 (by omega) _).mono ?_
      rintro e w' ⟨rfl, hb⟩
      have c1 : w'.cell? ⟨w.heap.size, 1, none⟩ = some (.int .u8 _) := (hb.cell (p := ⟨w.heap.size, 1, none⟩) (by simp)).trans (cell_last rfl rfl)
      have c2 : w'.cell? ⟨w.heap.size, 2, none⟩ = some (.int .u8 _) := (hb.cell (p := ⟨w.heap.size, 2, none⟩) (by simp)).trans (cell_last rfl rfl)
      have c3 : w'.cell? ⟨w.heap.size, 3, none⟩ = some (.int .u8 _) := (hb.cell (p := ⟨w.heap.size, 3, none⟩) (by simp)).trans (cell_last rfl rfl)
      have hB := Below.then_ hB1 (by simp) hb
      have hlt : w.heap.size < w'.heap.size := by have := hb.size; simp at this; omega
      clear hb
      skip
      generalize hr : regsB _ _ _ _ = r
      have HR := hide hr
      clear hr
      cases r
      · go_wp2
        go_returns
        refine ⟨?_, hB⟩
        have := HR.out
        have h2 := hch.out
        simp [regsB] at this
        rw [h2]; simp [rightA, *]
        try exact this
      · go_wp2
        go_returns
        refine ⟨?_, hB⟩
        have := HR.out
        have h2 := hch.out
        simp [regsB] at this
        rw [h2]; simp [rightA, *]
        try exact this
    · skip
      go_wp2_with fail
      refine (regs_ok o _ _ _ 2 (by omega) _).mono ?_
      rintro e w' ⟨rfl, hb⟩
      have c1 : w'.cell? ⟨w.heap.size, 1, none⟩ = some (.int .u8 _) := (hb.cell (p := ⟨w.heap.size, 1, none⟩) (by simp)).trans (cell_last rfl rfl)
      have c2 : w'.cell? ⟨w.heap.size, 2, none⟩ = some (.int .u8 _) := (hb.cell (p := ⟨w.heap.size, 2, none⟩) (by simp)).trans (cell_last rfl rfl)
      have c3 : w'.cell? ⟨w.heap.size, 3, none⟩ = some (.int .u8 _) := (hb.cell (p := ⟨w.heap.size, 3, none⟩) (by simp)).trans (cell_last rfl rfl)
      have hB := Below.then_ hB1 (by simp) hb
      have hlt : w.heap.size < w'.heap.size := by have := hb.size; simp at this; omega
      clear hb
      skip
      generalize hr : regsB _ _ _ _ = r
      have HR := hide hr
      clear hr
      cases r
      · go_wp2
        go_returns
        refine ⟨?_, hB⟩
        have := HR.out
        have h2 := hch.out
        simp [regsB] at this
        rw [h2]; simp [rightA, *]
        try exact this
      · go_wp2
        go_returns
        refine ⟨?_, hB⟩
        have := HR.out
        have h2 := hch.out
        simp [regsB] at this
        rw [h2]; simp [rightA, *]
        try exact this
    · have t8 : ((z : Int) == 8) = false := by simp; omega
      have t16 : ((z : Int) == 16) = false := by simp; omega
      go_wp2_with fail
      refine (regs_ok o _ _ _ 2 (by omega) _).mono ?_
      rintro e w' ⟨rfl, hb⟩
      have c1 : w'.cell? ⟨w.heap.size, 1, none⟩ = some (.int .u8 _) := (hb.cell (p := ⟨w.heap.size, 1, none⟩) (by simp)).trans (cell_last rfl rfl)
      have c2 : w'.cell? ⟨w.heap.size, 2, none⟩ = some (.int .u8 _) := (hb.cell (p := ⟨w.heap.size, 2, none⟩) (by simp)).trans (cell_last rfl rfl)
      have c3 : w'.cell? ⟨w.heap.size, 3, none⟩ = some (.int .u8 _) := (hb.cell (p := ⟨w.heap.size, 3, none⟩) (by simp)).trans (cell_last rfl rfl)
      have hB := Below.then_ hB1 (by simp) hb
      have hlt : w.heap.size < w'.heap.size := by have := hb.size; simp at this; omega
      clear hb
      skip
      generalize hr : regsB _ _ _ _ = r
      have HR := hide hr
      clear hr
      cases r
      · go_wp2
        go_returns
        refine ⟨?_, hB⟩
        have := HR.out
        have h2 := hch.out
        simp [regsB] at this
        rw [h2]; simp [rightA, *]
        try exact this
      · go_wp2
        go_returns
        refine ⟨?_, hB⟩
        have := HR.out
        have h2 := hch.out
        simp [regsB] at this
        rw [h2]; simp [rightA, *]
        try exact this
  · -- form 8
    by_cases hx : x = 0
    · subst hx
      by_cases hz : z = 0
      · subst hz
        go_wp2
        go_returns
        refine ⟨?_, hB1⟩
        rw [hch.out]; simp [rightA, *]
      · have tz : ((z : Int) == 0) = false := by simp; omega
        go_wp2
        go_returns
        refine ⟨?_, hB1⟩
        rw [hch.out]; simp [rightA, *]
    · have tx : ((x : Int) == 0) = false := by simp; omega
      by_cases hz : z = 0
      · subst hz
        go_wp2
        go_returns
        refine ⟨?_, hB1⟩
        rw [hch.out]; simp [rightA, *]
      · have tz : ((z : Int) == 0) = false := by simp; omega
        go_wp2
        go_returns
        refine ⟨?_, hB1⟩
        rw [hch.out]; simp [rightA, *]


theorem wrap16n {n : Nat} (h : n < 65536) : IntKind.u16.wrap (n : Int) = (n : Int) := by
  unfold IntKind.wrap
  simp [IntKind.bits, IntKind.signed]
  omega
theorem or_two {a b : Nat} (ha : a < 256) (hb : b < 256) : bits BinOp.or IntKind.u16 (a : Int) (((256 * b : Nat)) : Int) = ((wideN a b : Nat) : Int) := by
  have h := (bits_nat .u16 16 (by decide) (fun n h0 h1 => by rw [IntKind.wrap_u16]; omega) a (256 * b) (by omega) (by omega)).2
  rw [h]
  have : a ||| 256 * b = a + 256 * b := by
    rw [Nat.or_comm, Nat.add_comm]
    exact (Nat.two_pow_add_eq_or_of_lt (i := 8) ha b).symm
  rw [this]
  rfl


set_option maxRecDepth 100000 in
theorem pack_ok (o x y z : Nat) (w : World) :
    Calls Tryd.prog 17 #[.agg (insC o x y z)] w fun e w' => e = .returned (.agg (fourC o x y z)) ∧ Below w.heap.size w w' := by
  have B0 := Below.refl w.heap.size w
  go_enter Tryd.func17, Tryd.ntmps17
  go_wp2
  go_returns
  exact ⟨rfl, by first | exact below1 _ _ | exact below2 _ _ _⟩
set_option maxRecDepth 100000 in
theorem unpack_ok (a b c d : Nat) (w : World) :
    Calls Tryd.prog 12 #[.agg (fourC a b c d)] w fun e w' => e = .returned (.agg (insC a b c d)) ∧ Below w.heap.size w w' := by
  go_enter Tryd.func12, Tryd.ntmps12
  go_wp2
  go_returns
  exact ⟨rfl, by first | exact below1 _ _ | exact below2 _ _ _⟩
set_option maxRecDepth 100000 in
theorem bytes_ok (n : Nat) (w : World) :
    Calls Tryd.prog 54 #[.int .u32 (n : Int)] w fun e w' => e = .returned (.agg (fourC (n % 256) (n / 256 % 256) (n / 65536 % 256) (n / 16777216 % 256))) ∧ Below w.heap.size w w' := by
  go_enter Tryd.func54, Tryd.ntmps54
  go_wp2
  go_returns
  exact ⟨rfl, by first | exact below1 _ _ | exact below2 _ _ _⟩
set_option maxRecDepth 100000 in
theorem wide_ok (o x y z : Nat) (hy : y < 256) (hz : z < 256) (w : World) :
    Calls Tryd.prog 33 #[.agg (insC o x y z)] w fun e w' => e = .returned (.int .u16 (wideN y z : Nat)) ∧ Below w.heap.size w w' := by
  go_enter Tryd.func33, Tryd.ntmps33
  have w1 : IntKind.u16.wrap (y : Int) = y := wrap16n (by omega)
  have w2 : IntKind.u16.wrap (z : Int) = z := wrap16n (by omega)
  have w3 : IntKind.u16.wrap ((z : Int) * 256) = ((256 * z : Nat) : Int) := by rw [show (z : Int) * 256 = ((256 * z : Nat) : Int) by omega]; exact wrap16n (by omega)
  have w4 : bits BinOp.or IntKind.u16 (y : Int) (256 * (z : Int)) = ((wideN y z : Nat) : Int) := or_two hy hz
  go_wp2
  go_returns
  exact ⟨by first | rfl | (show Ending.returned (.int .u16 (bits BinOp.or IntKind.u16 (y : Int) (256 * (z : Int)))) = _; rw [w4]), below1 _ _⟩
set_option maxRecDepth 100000 in
theorem setwide_ok (o x y z n : Nat) (w : World) :
    Calls Tryd.prog 74 #[.agg (insC o x y z), .int .u16 (n : Int)] w fun e w' => e = .returned (.agg (insC o x (n % 256) (n / 256 % 256))) ∧ Below w.heap.size w w' := by
  go_enter Tryd.func74, Tryd.ntmps74
  go_wp2
  go_returns
  exact ⟨rfl, by first | exact below1 _ _ | exact below2 _ _ _⟩
set_option maxRecDepth 100000 in
theorem near_ok (o x y z : Nat) (hz : z < 256) (w : World) :
    Calls Tryd.prog 39 #[.agg (insC o x y z)] w fun e w' => e = .returned (.int .i32 (nearI z)) ∧ Below w.heap.size w w' := by
  go_enter Tryd.func39, Tryd.ntmps39
  have w1 : IntKind.i8.wrap (z : Int) = nearI z := by
    unfold IntKind.wrap nearI
    simp [IntKind.bits, IntKind.signed]
    split <;> omega
  have w2 : wrap32 (nearI z) = nearI z := by
    unfold wrap32 nearI
    split <;> omega
  go_wp2
  go_returns
  exact ⟨by show Ending.returned (.int .i32 (wrap32 (nearI z))) = _; rw [w2], below1 _ _⟩


def jumpI (y z : Nat) : Int := if wideN y z < 32768 then (wideN y z : Int) else (wideN y z : Int) - 65536
set_option maxRecDepth 100000 in
theorem jump_ok (o x y z : Nat) (hy : y < 256) (hz : z < 256) (w : World) :
    Calls Tryd.prog 13 #[.agg (insC o x y z)] w fun e w' => e = .returned (.int .i64 (jumpI y z)) ∧ Below w.heap.size w w' := by
  have hB1 := below1 w (.cells (insC o x y z) 38)
  have w1 : IntKind.i16.wrap ((wideN y z : Nat) : Int) = jumpI y z := by
    unfold IntKind.wrap jumpI wideN
    simp [IntKind.bits, IntKind.signed]
    split <;> split <;> omega
  have w2 : IntKind.i64.wrap (jumpI y z) = jumpI y z := IntWalk.i64_in _ (by unfold jumpI wideN; split <;> omega)
  go_enter Tryd.func13, Tryd.ntmps13
  go_wp2_with fail
  refine (wide_ok o x y z hy hz _).mono ?_
  rintro e w' ⟨rfl, hb⟩
  have hB := Below.then_ hB1 (by simp) hb
  clear hb
  go_wp2
  go_returns
  exact ⟨by first | rfl | (show Ending.returned (.int .i64 (wrap64 (jumpI y z))) = _; rw [show wrap64 (jumpI y z) = jumpI y z from w2]), hB⟩

theorem wpList_build_as {P : Program} {ops : Array Oper} {rest : List Oper} {o : Oper} {a : Act} {w : World} {Q : Exit → Act → World → Prop} (hgd : o.guard = none) (ty : TypeId) (l : Array (Nat × Operand)) (ho : o.op = .build ty l) (v : Value)
    (hb : (Instr.build ty (l.map fun x => (x.1, a.eval x.2))).run P w = .ok v w) (h : wpList P ops Q rest (a.put o.dst v) w) : wpList P ops Q (o :: rest) a w := by
  refine wpList_plain hgd fun K hK => ?_
  have hb' : (Instr.build ty (l.map fun (i, x) => (i, a.eval x))).run P w = .ok v w := hb
  unfold Oper.wp
  simp only [execOp, ho, Sem.run_bind, hb', Result.andThen_ok]
  simp [Result.andThen, Oper.upon]
  exact hK _ _ h
theorem below_setRow {B k : Nat} {a w : World} (h : Below B a w) (hk : B ≤ k) (c : Array Value) : Below B a (w.setRow k c) := Below.trans h ⟨rfl, rfl, rfl, by simp [World.setRow], fun i hi => setRow_other w k i c (by omega)⟩
def nameV : Array Value := (opNames.map fun l => Value.string (str l)).toArray
def zeroV : Array Value := (List.replicate 40 (Value.string (str []))).toArray
theorem nameV_get {o : Nat} (h : o < 40) : nameV[o]? = some (.string (str (opNames.getD o []))) := by
  unfold nameV
  rw [List.getElem?_toArray, List.getElem?_map, List.getD_eq_getElem?_getD, List.getElem?_eq_getElem (by simpa [opNames] using h)]
  rfl
theorem nameV_one : nameV.all (·.oneCell') = true := by decide +kernel
theorem name_size : (Tryd.prog.info? 128).map (·.size) = some nameV.size := by kernel_rfl
theorem zeroV_size : zeroV.size = nameV.size := by kernel_rfl
theorem name_zero (w : World) : (zeroValue 128).run Tryd.prog w = .ok (.agg zeroV) w := by kernel_rfl
set_option maxRecDepth 100000 in
set_option maxHeartbeats 4000000 in
theorem name_ok (o : Nat) (w : World) :
    Calls Tryd.prog 36 #[.int .u8 (o : Int)] w fun e w' => e = .returned (.string (str (opNames.getD o []))) ∧ Below w.heap.size w w' := by
  go_enter Tryd.func36, Tryd.ntmps36
  go_upto_region 2 with (first | ((with_reducible refine at_build 128 _ ?_); refine wpList_build_as rfl 128 _ rfl (.agg nameV) (by kernel_rfl) ?_) | ((with_reducible refine at_alloc 128 ?_); refine wpList_alloc_as rfl 128 rfl zeroV (name_zero _) ?_) | ((with_reducible refine at_store 128 (.tmp 3) (.tmp 4) ?_); refine wpList_store_blk rfl 128 (.tmp 3) (.tmp 4) rfl w.heap.size 128 zeroV nameV (by rfl) (by rfl) (Blk.new w _ _) name_size zeroV_size nameV_one (fun hB => ?_)) | fail)
  have hBW : Below w.heap.size w ((w.alloc (.cells zeroV 128)).setRow w.heap.size nameV) := below_setRow (below1 _ _) (Nat.le_refl _) _
  generalize (w.alloc (.cells zeroV 128)).setRow w.heap.size nameV = W at hB hBW
  have hlt := hB.lt
  by_cases h : o < 40
  · have t1 : decide ((40 : Int) ≤ (o : Int)) = false := by simp; omega
    have h40 : (o : Int) < 40 := by omega
    have hc := (hB.cell o).trans (nameV_get h)
    clear hB
    go_wp2
    go_returns
    exact ⟨rfl, hBW⟩
  · have t1 : decide ((40 : Int) ≤ (o : Int)) = true := by simp; omega
    have he : Hid (opNames.getD o [] = []) := hide (by rw [List.getD_eq_getElem?_getD, List.getElem?_eq_none (by simp [opNames]; omega)]; rfl)
    clear hB
    go_wp2
    go_returns
    exact ⟨by rw [he.out]; rfl, hBW⟩


theorem opA_hit {s : List UInt8} {k : Nat} (h1 : 1 ≤ k) (h : k < 40) (hs : opNames.getD k [] = s) : opA s = k := by
  rw [← hs]; exact (op_facts1 k h h1).1
theorem opA_none {s : List UInt8} (h : ∀ j, 1 ≤ j → j < 40 → opNames.getD j [] ≠ s) : opA s = 0 := by
  unfold opA
  cases hf : opNames.findIdx? fun n => decide (n = s) with
  | none => rfl
  | some i =>
    rw [List.findIdx?_eq_some_iff_getElem] at hf
    obtain ⟨hi, he, _⟩ := hf
    rcases i with _ | i
    · rfl
    · exfalso
      have hl : i + 1 < 40 := hi
      refine h (i + 1) (by omega) hl ?_
      rw [List.getD_eq_getElem?_getD, List.getElem?_eq_getElem hi]
      simpa using he
theorem opA_lt (s : List UInt8) : opA s < 40 := by
  unfold opA
  cases hf : opNames.findIdx? fun n => decide (n = s) with
  | none => exact Nat.zero_lt_succ _
  | some i =>
    rw [List.findIdx?_eq_some_iff_getElem] at hf
    obtain ⟨hi, _⟩ := hf
    exact hi
theorem str_eq {s : ByteArray} {l : List UInt8} : (str l).toList == s.toList ↔ l = s.data.toList := by
  rw [Lib.toList_data, Lib.toList_data]; simp [str]
set_option maxRecDepth 100000 in
set_option maxHeartbeats 4000000 in
theorem named_ok (s : ByteArray) (w : World) :
    Calls Tryd.prog 55 #[.string s] w fun e w' => e = .returned (.tuple #[.int .u8 (opA s.data.toList : Int), .bool (decide (opA s.data.toList ≠ 0))]) ∧ Below w.heap.size w w' := by
  go_enter Tryd.func55, Tryd.ntmps55
  go_wp2
  go_loopg [4] 39 (fun g x4 wr => Below w.heap.size w wr ∧ ∃ k : Nat, 1 ≤ k ∧ k ≤ 40 ∧ g = 40 - k ∧ x4 = .int .u8 (k : Nat) ∧ ∀ j, 1 ≤ j → j < k → opNames.getD j [] ≠ s.data.toList)
  case atStart => exact ⟨Below.refl _ _, 1, by omega, by omega, rfl, rfl, fun j hj hk => by omega⟩
  case round =>
    obtain ⟨hb, k, h1, hk, hg, rfl, hA⟩ := hrel
    by_cases hkn : k < 40
    · have hkz : (k : Int) < 40 := by omega
      go_wp2_with fail
      refine (name_ok k _).mono ?_
      rintro e w' ⟨rfl, hb2⟩
      have hB := Below.then_ hb hb.size hb2
      clear hb hb2
      by_cases hq : opNames.getD k [] = s.data.toList
      · have he : Hid (opA s.data.toList = k) := hide (opA_hit h1 hkn hq)
        have t1 : ((str (opNames.getD k [])).toList == s.toList) = true := str_eq.2 hq
        have t2 : decide (k ≠ 0) = true := by simp; omega
        clear hq hA
        generalize str (opNames.getD k []) = nm at t1
        go_wp2
        go_returns
        exact ⟨by rw [he.out, t2]; rfl, hB⟩
      · have t1 : ((str (opNames.getD k [])).toList == s.toList) = false := by
          cases h : (str (opNames.getD k [])).toList == s.toList with
          | false => rfl
          | true => exact absurd (str_eq.1 h) hq
        have hA' : Hid (∀ j, 1 ≤ j → j < k + 1 → opNames.getD j [] ≠ s.data.toList) := hide fun j hj hk => by
          rcases Nat.lt_succ_iff_lt_or_eq.1 hk with h | rfl
          · exact hA j hj h
          · exact hq
        have w8 : IntKind.u8.wrap ((k : Int) + 1) = ((k + 1 : Nat) : Int) := by rw [IntKind.wrap_u8']; omega
        clear hq hA
        generalize str (opNames.getD k []) = nm at t1
        go_wp2
        go_roundg (40 - (k + 1))
        case measure => omega
        case rel => exact ⟨hB, k + 1, by omega, by omega, rfl, rfl, hA'.out⟩
    · have he : Hid (opA s.data.toList = 0) := hide (opA_none fun j hj hj2 => hA j hj (by omega))
      have t0 : decide ((0 : Nat) ≠ 0) = false := by decide
      have hkz : decide ((k : Int) < 40) = false := by simp; omega
      clear hA
      go_wp2
      go_returns
      exact ⟨by rw [he.out, t0]; rfl, hb⟩

/-! ### programs -/
def fitsE (e n : Nat) : Int := if fitsA e n = true then 0 else 19
abbrev progC (e : Nat) (A : Option Addr) (n c : Nat) : Array Value := #[.int .u8 (e : Int), .slice A n c]
set_option maxRecDepth 100000 in
theorem pages_ok (e n c : Nat) (A : Option Addr) (hn : n ≤ 1000000) (he : e < 256) (w : World) :
    Calls Tryd.prog 75 #[.agg (progC e A n c)] w fun r w' => r = .returned (.int .i64 ((n + 63) / 64 + e : Nat)) ∧ Below w.heap.size w w' := by
  go_enter Tryd.func75, Tryd.ntmps75
  have w1 : IntKind.i64.wrap ((n : Int) + 64) = (n : Int) + 64 := IntWalk.i64_in _ (by omega)
  have w2 : IntKind.i64.wrap ((n : Int) + 64 - 1) = ((n + 63 : Nat) : Int) := by rw [IntWalk.i64_in _ (by omega)]; omega
  have w3 : IntKind.i64.wrap (((n + 63 : Nat) : Int).tdiv 64) = (((n + 63) / 64 : Nat) : Int) := by rw [Int.tdiv_eq_ediv_of_nonneg (by omega), IntWalk.i64_in _ (by omega)]; omega
  have w4 : IntKind.i64.wrap ((((n + 63) / 64 : Nat) : Int) + (e : Int)) = (((n + 63) / 64 + e : Nat) : Int) := by rw [IntWalk.i64_in _ (by omega)]; omega
  go_wp2
  go_returns
  exact ⟨rfl, below1 _ _⟩
set_option maxRecDepth 100000 in
theorem fits_ok (e n c : Nat) (A : Option Addr) (hn : n ≤ 1000000) (he : e < 256) (w : World) :
    Calls Tryd.prog 59 #[.agg (progC e A n c)] w fun r w' => r = .returned (.int .i64 (fitsE e n)) ∧ Below w.heap.size w w' := by
  go_enter Tryd.func59, Tryd.ntmps59
  have hB1 := below1 w (.cells (progC e A n c) 27)
  by_cases h0 : n = 0
  · have hf : Hid (fitsE e n = 19) := hide (by unfold fitsE fitsA; simp [h0])
    have t0 : ((n : Int) == 0) = true := by simp; omega
    clear h0
    go_wp2
    go_returns
    exact ⟨by rw [hf.out]; rfl, hB1⟩
  have t0 : ((n : Int) == 0) = false := by simp; omega
  by_cases h1 : 2048 < n
  · have hf : Hid (fitsE e n = 19) := hide (by unfold fitsE fitsA; simp; omega)
    have t1 : decide ((2048 : Int) < (n : Int)) = true := by simp; omega
    go_wp2
    go_returns
    exact ⟨by rw [hf.out]; rfl, hB1⟩
  have t1 : decide ((2048 : Int) < (n : Int)) = false := by simp; omega
  go_wp2_with fail
  refine (pages_ok e n c A hn he _).mono ?_
  rintro r w' ⟨rfl, hb⟩
  have hB := Below.then_ hB1 (by simp) hb
  clear hb
  generalize hp : (n + 63) / 64 + e = p
  by_cases h2 : 32 < p
  · have hf : Hid (fitsE e n = 19) := hide (by unfold fitsE fitsA; simp; omega)
    have t2 : decide ((32 : Int) < (p : Int)) = true := by simp; omega
    clear hp
    go_wp2
    go_returns
    exact ⟨by rw [hf.out]; rfl, hB⟩
  · have hf : Hid (fitsE e n = 0) := hide (by unfold fitsE fitsA; simp; omega)
    have t2 : decide ((32 : Int) < (p : Int)) = false := by simp; omega
    clear hp
    go_wp2
    go_returns
    exact ⟨by rw [hf.out]; rfl, hB⟩
end Go.Proofs.YtmhlokehdjnldaaDoor

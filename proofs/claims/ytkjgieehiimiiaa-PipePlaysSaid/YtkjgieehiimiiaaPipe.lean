/- Layer 21, pipes: the walks of the program's own functions. -/
import Derived.Test.YtkjgieehiimiiaaProg
import Derived.Test.YtkjgieehiimiiaaBase
import Derived.Test.YtkjgieehiimiiaaRegion
import Derived.Test.YtkjgieehiimiiaaMap
import Derived.Deep.RegionWith
import Derived.Deep.DrawnRows
import Derived.Deep.RegionLaw
import Derived.Deep.Cut
import Derived.Handy
import Derived.Carry
import Derived.Deep.LoopGhost
namespace Go.Proofs.Ytkjgieehiimiiaa
open Go.RowKit
attribute [local go_sem ↓] Go.wp_at_zero Go.wp_at_succ

/-- A pipe's key: with a name; the label, the number, the generation. -/
abbrev PKey := Bool × UInt8 × UInt16 × UInt16
def pkv (k : PKey) : Value := .agg #[.bool k.1, .int .u8 (k.2.1.toNat : Int), .int .u16 (k.2.2.1.toNat : Int), .int .u16 (k.2.2.2.toNat : Int)]

theorem pipe_laid : laidOutB Try.prog = true := by kernel_rfl
theorem wf_of_u8 (x : UInt8) : (Lit.int .u8 (x.toNat : Int)).wf = true := by
  have := x.toNat_lt
  have h1 : IntKind.u8.min = 0 := by decide
  have h2 : IntKind.u8.max = 255 := by decide
  simp [Lit.wf, h1, h2]; omega
theorem wf_of_u16 (x : UInt16) : (Lit.int .u16 (x.toNat : Int)).wf = true := by
  have := x.toNat_lt
  have h1 : IntKind.u16.min = 0 := by decide
  have h2 : IntKind.u16.max = 65535 := by decide
  simp [Lit.wf, h1, h2]; omega
theorem pkeyLaw : WideMaps.KeyLaw Try.prog 41 := deep_law_laid pipe_laid (m := 3) (by omega) (by decide +kernel) (by kernel_rfl) (by kernel_rfl)
theorem pkeyReads (n : Bool) (l : UInt8) (m g : UInt16) : ∃ lt, keyOf Try.prog 41 (.agg #[.bool n, .int .u8 (l.toNat : Int), .int .u16 (m.toNat : Int), .int .u16 (g.toNat : Int)]) = some lt := by
  have hkt : Try.prog.keyType 41 = true := by kernel_rfl
  have h1 : Try.prog.cellsOf 41 = 4 := by kernel_rfl
  have h2 : Try.prog.cellsOf 39 = 3 := by kernel_rfl
  have h3 : Try.prog.cellsOf 5 = 1 := by kernel_rfl
  have h4 : Try.prog.cellsOf 37 = 1 := by kernel_rfl
  have h5 : Try.prog.cellsOf 4 = 1 := by kernel_rfl
  have hs : ∃ k, Try.prog.types.size + 1 = k + 3 := ⟨Try.prog.types.size - 2, by have : 2 ≤ Try.prog.types.size := (by decide +kernel); omega⟩
  obtain ⟨k, hk⟩ := hs
  have a1 : ∀ j, Try.prog.keyLits (j + 1) 4 [.bool n] = some [.bool n] := fun j => by unfold Program.keyLits; rw [Try.underlying4]
  have a2 : ∀ j (x : UInt8), Try.prog.keyLits (j + 1) 5 [.int .u8 (x.toNat : Int)] = some [.int .u8 (x.toNat : Int)] := fun j x => by unfold Program.keyLits; rw [Try.underlying5]; simp [wf_of_u8]
  have a3 : ∀ j (x : UInt16), Try.prog.keyLits (j + 1) 37 [.int .u16 (x.toNat : Int)] = some [.int .u16 (x.toNat : Int)] := fun j x => by unfold Program.keyLits; rw [Try.underlying37]; simp [wf_of_u16]
  have a4 : ∀ j, Try.prog.keyLits (j + 2) 39 [.int .u8 (l.toNat : Int), .int .u16 (m.toNat : Int), .int .u16 (g.toNat : Int)] = some [.int .u8 (l.toNat : Int), .int .u16 (m.toNat : Int), .int .u16 (g.toNat : Int)] := fun j => by
    unfold Program.keyLits
    rw [Try.underlying39]
    simp [h2, h3, h4, a2, a3]
  have e : Try.prog.keyLits (k + 3) 41 [.bool n, .int .u8 (l.toNat : Int), .int .u16 (m.toNat : Int), .int .u16 (g.toNat : Int)] = some [.bool n, .int .u8 (l.toNat : Int), .int .u16 (m.toNat : Int), .int .u16 (g.toNat : Int)] := by
    unfold Program.keyLits
    rw [Try.underlying41]
    simp [h1, h2, h5, a1, a4]
  unfold keyOf
  rw [Try.underlying41, hk]
  simp [hkt, Value.formed, Try.underlying41, h1, Value.cells, e]
theorem pkeyEnc : KeyEnc Try.prog 41 pkv where
  keyed := Maps.Keyed.of_law pkeyLaw
  reads := fun ⟨n, l, m, g⟩ => pkeyReads n l m g
  inj := fun ⟨n, l, m, g⟩ ⟨n', l', m', g'⟩ h => by
    simp only [pkv, Value.agg.injEq, Array.mk.injEq, List.cons.injEq, Value.bool.injEq, Value.int.injEq, true_and, and_true] at h
    obtain ⟨h1, h2, h3, h4⟩ := h
    have e2 : l = l' := UInt8.toNat_inj.1 (by omega)
    have e3 : m = m' := UInt16.toNat_inj.1 (by omega)
    have e4 : g = g' := UInt16.toNat_inj.1 (by omega)
    simp [h1, e2, e3, e4]

/-- the cells of the struct Pipes -/
def pcells (mb : Nat) (nx : List UInt16) : Array Value := (Value.map (some mb) :: nx.map fun x => Value.int .u16 (x.toNat : Int)).toArray
/-- no pipe -/
def pzero : Value := .agg #[.slice none 0 0, .int .i64 0, .int .i64 0]
theorem zero_pipe (w : World) : (zeroValue 83).run Try.prog w = .ok pzero w := by kernel_rfl

theorem look_pipe {w : World} {mb : Nat} {M : List (PKey × Value)} (hM : MapIs pkv w mb M) (nm : Bool) (lb : UInt8) (nu ge : UInt16) {v : Value} (hv : (mget M (nm, lb, nu, ge)).getD pzero = v) (W : World) (hW : Below w.heap.size w W) :
    (Instr.lookup 78 (.map (some mb)) (.agg #[.bool nm, .int .u8 (lb.toNat : Int), .int .u16 (nu.toNat : Int), .int .u16 (ge.toNat : Int)]) false).run Try.prog W = .ok v W := by
  rw [← hv]
  exact (hM.keep (hW.block mb hM.lt)).lookup pkeyEnc Try.underlying78 (zero_pipe W) (nm, lb, nu, ge) false
theorem look_pipe_ok {w : World} {mb : Nat} {M : List (PKey × Value)} (hM : MapIs pkv w mb M) (nm : Bool) (lb : UInt8) (nu ge : UInt16) {v : Value} (hv : (mget M (nm, lb, nu, ge)).getD pzero = v) (W : World) (hW : Below w.heap.size w W) :
    (Instr.lookup 78 (.map (some mb)) (.agg #[.bool nm, .int .u8 (lb.toNat : Int), .int .u16 (nu.toNat : Int), .int .u16 (ge.toNat : Int)]) true).run Try.prog W = .ok (.tuple #[v, .bool (mget M (nm, lb, nu, ge)).isSome]) W := by
  rw [← hv]
  exact (hM.keep (hW.block mb hM.lt)).lookup pkeyEnc Try.underlying78 (zero_pipe W) (nm, lb, nu, ge) true

theorem info_u8p : (Try.prog.info? 5).map (fun i => (i.zero, i.size, i.bytes)) = some (some (.int .u8 0), 1, 1) := by kernel_rfl

/-- Two rows of one's own, apart. -/
def TwoOwn (w' : World) (base : Nat) (e : TypeId) (v1 v2 : Value) (n1 n2 : Nat) (x1 x2 : List Value) : Prop :=
  w'.ownsRow base e 1 v1 n1 x1 ∧ w'.ownsRow base e 1 v2 n2 x2 ∧ ∀ g, v1.ownBlock = some g → v2.ownBlock ≠ some g

theorem two_rows {W1 w2 : World} {base n1 n2 : Nat} {e : TypeId} {x1 x2 : List Value} {v1 v2 s11 : Value} (h1 : W1.ownsRow base e 1 v1 n1 x1) (hs : ∀ g, v1.ownBlock = some g → s11.ownBlock ≠ some g)
    (hg2 : W1.grownBy w2 s11.ownBlock) (h2 : w2.ownsRow base e 1 v2 n2 x2) (hat2 : v2.ownBlock = s11.ownBlock ∨ v2.ownBlock = some W1.heap.size) : TwoOwn w2 base e v1 v2 n1 n2 x1 x2 := by
  refine ⟨h1.kept hg2 ?_, h2, fun g hg he => ?_⟩
  · cases hv : v1.ownBlock with
    | none => exact .inl rfl
    | some g => exact .inr fun e' => hs g hv e'.symm
  · rcases hat2 with h | h
    · exact hs g hg (h ▸ he)
    · rw [h] at he
      injection he with he
      have := (h1.lt g hg).2
      omega

set_option maxRecDepth 100000 in
set_option maxHeartbeats 1000000 in
theorem split_ok (A : Option Addr) (n c m : Nat) (l : List UInt8) (w : World) (hr : Rd w w.heap.size 1 A n (bvs l)) (hm : m ≤ n) (hnc : n ≤ c) (hn : n < 60000) :
    Calls Try.prog 32 #[.slice A n c, .int .i64 m] w fun e w' => ∃ A1 c1 A2 c2, e = .returned (.tuple #[.slice A1 m c1, .slice A2 (n - m) c2]) ∧
      TwoOwn w' w.heap.size 5 (.slice A1 m c1) (.slice A2 (n - m) c2) m (n - m) (bvs (l.take m)) (bvs (l.drop m)) ∧ Below w.heap.size w w' := by
  have h1 : (0 : Int) ≤ m := by omega
  have h2 : (m : Int) ≤ n := by omega
  have h3 : (m : Int) ≤ c := by omega
  have h4 : (n : Int) ≤ c := by omega
  have r1 := hr.take hm
  have r2 := hr.cut hm hnc
  simp only [Nat.mul_one, bvs_take, bvs_drop] at r1 r2
  obtain ⟨i0, hi0, i1, i2, i3⟩ := info_parts info_u8p
  go_enter Try.func32, Try.ntmps32
  go_wp2
  go_region_law (first
    | (refine step_append_rd _ (by rfl) (.tmp 6) (.tmp 9) 23 (by rfl) w.heap.size 5 i0 (.int .u8 0) 1 1 Try.underlying23 hi0 i1 i2 i3 rfl (by decide) _ 0 [] (by rfl) (by first | exact (own_lit (w := w) (e := 5) rfl rfl (Nat.le_refl _) (by simp [maxLen]) rfl).drew | exact ((own_lit (w := w) (e := 5) rfl rfl (Nat.le_refl _) (by simp [maxLen]) rfl).alloc _).drew | exact (own_lit (w := w.alloc _) (e := 5) rfl (by simp) (by simp) (by simp [maxLen]) rfl).drew) w.heap.size A m c (bvs (l.take m)) (by rfl) (by first | exact (r1.alloc (Nat.le_refl _) _).drew | exact ((r1.alloc (Nat.le_refl _) _).alloc (by simp) _).drew) (bvs_one _) (by simp only [maxLen]; omega) (by omega) (by first | (simp; done) | (simp; omega)) ?_; intro v1 w1 hown1 hg1 hnil1 hat1; have hz1 : w.heap.size ≤ w1.heap.size := (by have := hg1.size; simp at this; omega); have hb1 : Below w.heap.size w w1 := (by refine Below.grown (w := _) (by go_grown) hg1 (by first | (simp; done) | (simp; omega)) (by simp [Value.ownBlock, Act.eval])))
    | (refine step_append_rd _ (by rfl) (.tmp 11) (.tmp 14) 23 (by rfl) w.heap.size 5 i0 (.int .u8 0) 1 1 Try.underlying23 hi0 i1 i2 i3 rfl (by decide) _ 0 [] (by rfl) (by first | exact own_lit (w := w1) (e := 5) rfl rfl hz1 (by simp [maxLen]) rfl | (refine World.ownsRow.kept (World.ownsRow.drew (own_lit (w := w.alloc _) (e := 5) rfl ?_ ?_ ?_ rfl)) hg1 ?_; (focus (simp; done)); (focus (simp; done)); (focus (simp [maxLen]; done)); (focus (simp [Value.ownBlock, Act.eval]; done))) | (refine World.ownsRow.kept (World.ownsRow.drew ((own_lit (w := w) (e := 5) rfl rfl (Nat.le_refl _) ?_ rfl).alloc _)) hg1 ?_; (focus (simp [maxLen]; done)); (focus (simp [Value.ownBlock, Act.eval]; done)))) w.heap.size (if c = m then A else Option.map (fun x => x.add m) A) (n - m) (c - m) (bvs (l.drop m)) (by rfl) (by first | exact r2.below hb1 | exact (r2.below hb1).alloc hz1 _) (bvs_one _) (by simp only [maxLen]; omega) (by omega) (by first | omega | (simp; omega)) ?_; intro v2 w2 hown2 hg2 hnil2 hat2))
  all_goals
    simp only [Nat.zero_add, List.nil_append] at hown1 hown2
    obtain ⟨A1, c1, rfl, _⟩ := own_form hown1
    obtain ⟨A2, c2, rfl, _⟩ := own_form hown2
    have T : TwoOwn w2 w.heap.size 5 (.slice A1 m c1) (.slice A2 (n - m) c2) m (n - m) (bvs (l.take m)) (bvs (l.drop m)) := by
      first
        | exact two_rows hown1 (fun g hg => by rcases hat1 with h | h <;> rw [h] at hg <;> simp [Value.ownBlock, Act.eval] at hg ⊢ <;> omega) hg2 hown2 hat2
        | exact two_rows (hown1.alloc _) (fun g hg => by have := (hown1.lt g hg).2; simp [Value.ownBlock, Act.eval]; omega) hg2 hown2 hat2
    have B2 : Below w.heap.size w w2 := by
      first
        | exact hb1.grown hg2 hz1 (fun k hk => by simp [Value.ownBlock, Act.eval] at hk; omega)
        | exact (hb1.alloc hz1 _).grown hg2 (by simp; omega) (fun k hk => by simp [Value.ownBlock, Act.eval] at hk; omega)
    generalize (if c = m then A else Option.map (fun x => x.add m) A) = A7
    clear hown1 hown2 hg1 hg2 hat1 hat2 hnil1 hnil2 hb1 r1 r2 hr
    go_wp2
    go_ret2
    exact ⟨_, _, _, _, rfl, T, B2⟩
section
variable (p mb : Nat) (nx : List UInt16) (M : List (PKey × Value)) (nm : Bool) (lb : UInt8) (nu ge : UInt16) (w : World)

set_option maxRecDepth 100000 in
set_option maxHeartbeats 400000 in
theorem has_any (A : Option Addr) (n c : Nat) (r s : Nat) (hB : Blk w p 80 (pcells mb nx)) (hM : MapIs pkv w mb M) (hv : (mget M (nm, lb, nu, ge)).getD pzero = .agg #[.slice A n c, .int .i64 (r : Int), .int .i64 (s : Int)]) :
    Calls Try.prog 31 #[.pointer (some ⟨p, 0, none⟩), .agg #[.bool nm, .int .u8 (lb.toNat : Int), .int .u16 (nu.toNat : Int), .int .u16 (ge.toNat : Int)]] w fun e w' => e = .returned (.bool (mget M (nm, lb, nu, ge)).isSome) ∧ Below w.heap.size w w' := by
  have hlk := fun W hW => look_pipe_ok hM nm lb nu ge hv W hW
  generalize (mget M (nm, lb, nu, ge)).isSome = is at hlk ⊢
  clear hv
  go_enter Try.func31, Try.ntmps31
  go_wp2
  refine at_world (fun W => Below w.heap.size w W ∧ Blk W w.heap.size 41 #[.bool nm, .int .u8 (lb.toNat : Int), .int .u16 (nu.toNat : Int), .int .u16 (ge.toNat : Int)]) ⟨by go_grown, Blk.new _ _ _⟩ (fun w1 h1 => ?_)
  obtain ⟨hb1, kB⟩ := h1
  have hp := hB.lt
  have hk := kB.lt
  have hp1 : p < w1.heap.size := by have := hb1.size; omega
  have p1 : w1.cell? ⟨p, 0, none⟩ = some (.map (some mb)) := (hb1.cell (p := ⟨p, 0, none⟩) hp).trans (hB.cell 0)
  have k0 := kB.cell 0
  have k1 := kB.cell 1
  have k2 := kB.cell 2
  have k3 := kB.cell 3
  clear hM
  refine wp_region_text [0, 0, 0, 0, 0, 0, 0, 0, 0, 1, 1, 0] (Below w1.heap.size w1) (by kernel_rfl) (by kernel_rfl) (Below.refl _ _).drew ?_
  iterate 9 (refine wpOrd_q (v := ?_) (by rfl) (fun W hW => ?_) ?_; rotate_left; (focus ((obtain ⟨hWc, hWf⟩ := bcell hW); have hlW := hlk W (hb1.trans (hW.mono hb1.size)); go_simp; try with_reducible rfl)); try simp only [Act.put, List.setIfInBounds_toArray, List.set_cons_zero, List.set_cons_succ])
  refine wpOrd_x (by rfl) (fun K hK => ?_)
  go_simp
  refine hK _ _ _ (fun _ h => h) (by go_grown) ?_
  clear hK K
  try simp only [Act.put, List.setIfInBounds_toArray, List.set_cons_zero, List.set_cons_succ]
  refine wpOrd_x (by rfl) (fun K hK => ?_)
  go_simp
  refine hK _ _ _ (fun _ h => h) (by go_grown) ?_
  clear hK K
  try simp only [Act.put, List.setIfInBounds_toArray, List.set_cons_zero, List.set_cons_succ]
  iterate 1 (refine wpOrd_q (v := ?_) (by rfl) (fun W hW => ?_) ?_; rotate_left; (focus (go_simp; try with_reducible rfl)); try simp only [Act.put, List.setIfInBounds_toArray, List.set_cons_zero, List.set_cons_succ])
  refine wpOrd_nil ?_
  go_wp2
  go_ret
  exact ⟨rfl, hb1.trans (Below.mono (by go_grown) hb1.size)⟩

set_option maxRecDepth 100000 in
set_option maxHeartbeats 400000 in
theorem join_rw (A : Option Addr) (n c : Nat) (r s : Nat) (hB : Blk w p 80 (pcells mb nx)) (hM : MapIs pkv w mb M) (hv : (mget M (nm, lb, nu, ge)).getD pzero = .agg #[.slice A n c, .int .i64 (r : Int), .int .i64 (s : Int)]) (hr : r < 60000) (hs : s < 60000) :
    Calls Try.prog 16 #[.pointer (some ⟨p, 0, none⟩), .agg #[.bool nm, .int .u8 (lb.toNat : Int), .int .u16 (nu.toNat : Int), .int .u16 (ge.toNat : Int)], .bool true, .bool true] w fun e w' => e = .returned (.tuple #[]) ∧ MapIs pkv w' mb (mput M (nm, lb, nu, ge) (.agg #[.slice A n c, .int .i64 ((r : Int) + 1), .int .i64 ((s : Int) + 1)])) ∧ Tch w.heap.size (· = mb) w w' := by
  have hlk := fun W hW => look_pipe hM nm lb nu ge hv W hW
  have hr' : (r : Int) < 60000 := by omega
  have hs' : (s : Int) < 60000 := by omega
  clear hv
  go_enter Try.func16, Try.ntmps16
  go_wp2
  refine at_world (fun W => Below w.heap.size w W ∧ Blk W w.heap.size 41 #[.bool nm, .int .u8 (lb.toNat : Int), .int .u16 (nu.toNat : Int), .int .u16 (ge.toNat : Int)]) ⟨by go_grown, Blk.new _ _ _⟩ (fun w1 h1 => ?_)
  obtain ⟨hb1, kB⟩ := h1
  have hp := hB.lt
  have hk := kB.lt
  have hp1 : p < w1.heap.size := by have := hb1.size; omega
  have p1 : w1.cell? ⟨p, 0, none⟩ = some (.map (some mb)) := (hb1.cell (p := ⟨p, 0, none⟩) hp).trans (hB.cell 0)
  have k0 := kB.cell 0
  have k1 := kB.cell 1
  have k2 := kB.cell 2
  have k3 := kB.cell 3
  refine wp_region_text [0, 0, 0, 0, 0, 0, 1, 1] (Below w1.heap.size w1) (by kernel_rfl) (by kernel_rfl) (Below.refl _ _).drew ?_
  iterate 6 (refine wpOrd_q (v := ?_) (by rfl) (fun W hW => ?_) ?_; rotate_left; (focus ((obtain ⟨hWc, hWf⟩ := bcell hW); have hlW := hlk W (hb1.trans (hW.mono hb1.size)); go_simp; try with_reducible rfl)); try simp only [Act.put, List.setIfInBounds_toArray, List.set_cons_zero, List.set_cons_succ])
  refine wpOrd_x (by rfl) (fun K hK => ?_)
  go_simp
  refine hK _ _ _ (fun _ h => h) (by go_grown) ?_
  clear hK K
  try simp only [Act.put, List.setIfInBounds_toArray, List.set_cons_zero, List.set_cons_succ]
  refine wpOrd_x (by rfl) (fun K hK => ?_)
  go_simp
  refine hK _ _ _ (fun _ h => h) (by go_grown) ?_
  clear hK K
  try simp only [Act.put, List.setIfInBounds_toArray, List.set_cons_zero, List.set_cons_succ]
  refine wpOrd_nil ?_
  refine at_world (fun W => Below w1.heap.size w1 W ∧ Blk W w1.heap.size 83 #[.slice A n c, .int .i64 (r : Int), .int .i64 (s : Int)]) ⟨by go_grown, (Blk.new _ _ _).drew⟩ (fun w2 h2 => ?_)
  obtain ⟨hb2, xB⟩ := h2
  have hx := xB.lt
  have hk2 : w.heap.size < w2.heap.size := by have := hb2.size; omega
  have hp2 : p < w2.heap.size := by have := hb2.size; omega
  have x0 := xB.cell 0
  have x1 := xB.cell 1
  have x2 := xB.cell 2
  have f0 := xB.frozen 0
  have f1 := xB.frozen 1
  have f2 := xB.frozen 2
  clear hlk k0 k1 k2 k3 p1
  go_wp2
  refine at_world (fun W => Below w1.heap.size w1 W ∧ Blk W w1.heap.size 83 #[.slice A n c, .int .i64 ((r : Int) + 1), .int .i64 ((s : Int) + 1)]) ⟨Below.trans hb2 (Below.mono (B := w1.heap.size) (by repeat' (first | exact Below.refl _ _ | refine Below.setCell ?_ (by simp) _)) (Nat.le_refl _)), by simpa using ((xB.set_ 1 _).set_ 2 _)⟩ (fun w3 h3 => ?_)
  obtain ⟨hb3, xB3⟩ := h3
  have HB3 := hb1.trans (hb3.mono hb1.size)
  have kB3 := kB.below hb3 hk
  have p3 : w3.cell? ⟨p, 0, none⟩ = some (.map (some mb)) := (HB3.cell (p := ⟨p, 0, none⟩) hp).trans (hB.cell 0)
  have hp3 : p < w3.heap.size := by have := HB3.size; omega
  have k0 := kB3.cell 0
  have k1 := kB3.cell 1
  have k2 := kB3.cell 2
  have k3 := kB3.cell 3
  have y0 := xB3.cell 0
  have y1 := xB3.cell 1
  have y2 := xB3.cell 2
  have hk3 := kB3.lt
  have hx3 := xB3.lt
  clear x0 x1 x2 f0 f1 f2 xB kB
  obtain ⟨w5, hrun, hM5, hO5⟩ := (hM.keep (w' := w3.drew) (HB3.block mb hM.lt)).update pkeyEnc Try.underlying78 (nm, lb, nu, ge) (.agg #[.slice A n c, .int .i64 ((r : Int) + 1), .int .i64 ((s : Int) + 1)])
  simp only [pkv] at hrun
  refine wp_region_text [0, 0, 0, 0, 0, 0, 2] (Below w3.heap.size w3) (by kernel_rfl) (by kernel_rfl) (Below.refl _ _).drew ?_
  iterate 6 (refine wpOrd_q (v := ?_) (by rfl) (fun W hW => ?_) ?_; rotate_left; (focus ((obtain ⟨hWc, hWf⟩ := bcell hW); go_simp; try with_reducible rfl)); try simp only [Act.put, List.setIfInBounds_toArray, List.set_cons_zero, List.set_cons_succ])
  refine wpOrd_b (by rfl) (fun K hK => ?_)
  go_simp
  refine hK (fun _ => True) _ _ trivial ?_
  clear hK K
  try simp only [Act.put, List.setIfInBounds_toArray, List.set_cons_zero, List.set_cons_succ]
  refine wpOrd_nil ?_
  go_wp2
  go_end0
  exact ⟨rfl, hM5, (Tch.of_below (HB3.drew)).trans (Tch.of_only hO5 HB3.size)⟩

set_option maxRecDepth 100000 in
set_option maxHeartbeats 400000 in
theorem join_r (A : Option Addr) (n c : Nat) (r s : Nat) (hB : Blk w p 80 (pcells mb nx)) (hM : MapIs pkv w mb M) (hv : (mget M (nm, lb, nu, ge)).getD pzero = .agg #[.slice A n c, .int .i64 (r : Int), .int .i64 (s : Int)]) (hr : r < 60000) (hs : s < 60000) :
    Calls Try.prog 16 #[.pointer (some ⟨p, 0, none⟩), .agg #[.bool nm, .int .u8 (lb.toNat : Int), .int .u16 (nu.toNat : Int), .int .u16 (ge.toNat : Int)], .bool true, .bool false] w fun e w' => e = .returned (.tuple #[]) ∧ MapIs pkv w' mb (mput M (nm, lb, nu, ge) (.agg #[.slice A n c, .int .i64 ((r : Int) + 1), .int .i64 (s : Int)])) ∧ Tch w.heap.size (· = mb) w w' := by
  have hlk := fun W hW => look_pipe hM nm lb nu ge hv W hW
  have hr' : (r : Int) < 60000 := by omega
  have hs' : (s : Int) < 60000 := by omega
  clear hv
  go_enter Try.func16, Try.ntmps16
  go_wp2
  refine at_world (fun W => Below w.heap.size w W ∧ Blk W w.heap.size 41 #[.bool nm, .int .u8 (lb.toNat : Int), .int .u16 (nu.toNat : Int), .int .u16 (ge.toNat : Int)]) ⟨by go_grown, Blk.new _ _ _⟩ (fun w1 h1 => ?_)
  obtain ⟨hb1, kB⟩ := h1
  have hp := hB.lt
  have hk := kB.lt
  have hp1 : p < w1.heap.size := by have := hb1.size; omega
  have p1 : w1.cell? ⟨p, 0, none⟩ = some (.map (some mb)) := (hb1.cell (p := ⟨p, 0, none⟩) hp).trans (hB.cell 0)
  have k0 := kB.cell 0
  have k1 := kB.cell 1
  have k2 := kB.cell 2
  have k3 := kB.cell 3
  refine wp_region_text [0, 0, 0, 0, 0, 0, 1, 1] (Below w1.heap.size w1) (by kernel_rfl) (by kernel_rfl) (Below.refl _ _).drew ?_
  iterate 6 (refine wpOrd_q (v := ?_) (by rfl) (fun W hW => ?_) ?_; rotate_left; (focus ((obtain ⟨hWc, hWf⟩ := bcell hW); have hlW := hlk W (hb1.trans (hW.mono hb1.size)); go_simp; try with_reducible rfl)); try simp only [Act.put, List.setIfInBounds_toArray, List.set_cons_zero, List.set_cons_succ])
  refine wpOrd_x (by rfl) (fun K hK => ?_)
  go_simp
  refine hK _ _ _ (fun _ h => h) (by go_grown) ?_
  clear hK K
  try simp only [Act.put, List.setIfInBounds_toArray, List.set_cons_zero, List.set_cons_succ]
  refine wpOrd_x (by rfl) (fun K hK => ?_)
  go_simp
  refine hK _ _ _ (fun _ h => h) (by go_grown) ?_
  clear hK K
  try simp only [Act.put, List.setIfInBounds_toArray, List.set_cons_zero, List.set_cons_succ]
  refine wpOrd_nil ?_
  refine at_world (fun W => Below w1.heap.size w1 W ∧ Blk W w1.heap.size 83 #[.slice A n c, .int .i64 (r : Int), .int .i64 (s : Int)]) ⟨by go_grown, (Blk.new _ _ _).drew⟩ (fun w2 h2 => ?_)
  obtain ⟨hb2, xB⟩ := h2
  have hx := xB.lt
  have hk2 : w.heap.size < w2.heap.size := by have := hb2.size; omega
  have hp2 : p < w2.heap.size := by have := hb2.size; omega
  have x0 := xB.cell 0
  have x1 := xB.cell 1
  have x2 := xB.cell 2
  have f0 := xB.frozen 0
  have f1 := xB.frozen 1
  have f2 := xB.frozen 2
  clear hlk k0 k1 k2 k3 p1
  go_wp2
  refine at_world (fun W => Below w1.heap.size w1 W ∧ Blk W w1.heap.size 83 #[.slice A n c, .int .i64 ((r : Int) + 1), .int .i64 (s : Int)]) ⟨Below.trans hb2 (Below.mono (B := w1.heap.size) (by repeat' (first | exact Below.refl _ _ | refine Below.setCell ?_ (by simp) _)) (Nat.le_refl _)), by simpa using (xB.set_ 1 _)⟩ (fun w3 h3 => ?_)
  obtain ⟨hb3, xB3⟩ := h3
  have HB3 := hb1.trans (hb3.mono hb1.size)
  have kB3 := kB.below hb3 hk
  have p3 : w3.cell? ⟨p, 0, none⟩ = some (.map (some mb)) := (HB3.cell (p := ⟨p, 0, none⟩) hp).trans (hB.cell 0)
  have hp3 : p < w3.heap.size := by have := HB3.size; omega
  have k0 := kB3.cell 0
  have k1 := kB3.cell 1
  have k2 := kB3.cell 2
  have k3 := kB3.cell 3
  have y0 := xB3.cell 0
  have y1 := xB3.cell 1
  have y2 := xB3.cell 2
  have hk3 := kB3.lt
  have hx3 := xB3.lt
  clear x0 x1 x2 f0 f1 f2 xB kB
  obtain ⟨w5, hrun, hM5, hO5⟩ := (hM.keep (w' := w3.drew) (HB3.block mb hM.lt)).update pkeyEnc Try.underlying78 (nm, lb, nu, ge) (.agg #[.slice A n c, .int .i64 ((r : Int) + 1), .int .i64 (s : Int)])
  simp only [pkv] at hrun
  refine wp_region_text [0, 0, 0, 0, 0, 0, 2] (Below w3.heap.size w3) (by kernel_rfl) (by kernel_rfl) (Below.refl _ _).drew ?_
  iterate 6 (refine wpOrd_q (v := ?_) (by rfl) (fun W hW => ?_) ?_; rotate_left; (focus ((obtain ⟨hWc, hWf⟩ := bcell hW); go_simp; try with_reducible rfl)); try simp only [Act.put, List.setIfInBounds_toArray, List.set_cons_zero, List.set_cons_succ])
  refine wpOrd_b (by rfl) (fun K hK => ?_)
  go_simp
  refine hK (fun _ => True) _ _ trivial ?_
  clear hK K
  try simp only [Act.put, List.setIfInBounds_toArray, List.set_cons_zero, List.set_cons_succ]
  refine wpOrd_nil ?_
  go_wp2
  go_end0
  exact ⟨rfl, hM5, (Tch.of_below (HB3.drew)).trans (Tch.of_only hO5 HB3.size)⟩

set_option maxRecDepth 100000 in
set_option maxHeartbeats 400000 in
theorem join_w (A : Option Addr) (n c : Nat) (r s : Nat) (hB : Blk w p 80 (pcells mb nx)) (hM : MapIs pkv w mb M) (hv : (mget M (nm, lb, nu, ge)).getD pzero = .agg #[.slice A n c, .int .i64 (r : Int), .int .i64 (s : Int)]) (hr : r < 60000) (hs : s < 60000) :
    Calls Try.prog 16 #[.pointer (some ⟨p, 0, none⟩), .agg #[.bool nm, .int .u8 (lb.toNat : Int), .int .u16 (nu.toNat : Int), .int .u16 (ge.toNat : Int)], .bool false, .bool true] w fun e w' => e = .returned (.tuple #[]) ∧ MapIs pkv w' mb (mput M (nm, lb, nu, ge) (.agg #[.slice A n c, .int .i64 (r : Int), .int .i64 ((s : Int) + 1)])) ∧ Tch w.heap.size (· = mb) w w' := by
  have hlk := fun W hW => look_pipe hM nm lb nu ge hv W hW
  have hr' : (r : Int) < 60000 := by omega
  have hs' : (s : Int) < 60000 := by omega
  clear hv
  go_enter Try.func16, Try.ntmps16
  go_wp2
  refine at_world (fun W => Below w.heap.size w W ∧ Blk W w.heap.size 41 #[.bool nm, .int .u8 (lb.toNat : Int), .int .u16 (nu.toNat : Int), .int .u16 (ge.toNat : Int)]) ⟨by go_grown, Blk.new _ _ _⟩ (fun w1 h1 => ?_)
  obtain ⟨hb1, kB⟩ := h1
  have hp := hB.lt
  have hk := kB.lt
  have hp1 : p < w1.heap.size := by have := hb1.size; omega
  have p1 : w1.cell? ⟨p, 0, none⟩ = some (.map (some mb)) := (hb1.cell (p := ⟨p, 0, none⟩) hp).trans (hB.cell 0)
  have k0 := kB.cell 0
  have k1 := kB.cell 1
  have k2 := kB.cell 2
  have k3 := kB.cell 3
  refine wp_region_text [0, 0, 0, 0, 0, 0, 1, 1] (Below w1.heap.size w1) (by kernel_rfl) (by kernel_rfl) (Below.refl _ _).drew ?_
  iterate 6 (refine wpOrd_q (v := ?_) (by rfl) (fun W hW => ?_) ?_; rotate_left; (focus ((obtain ⟨hWc, hWf⟩ := bcell hW); have hlW := hlk W (hb1.trans (hW.mono hb1.size)); go_simp; try with_reducible rfl)); try simp only [Act.put, List.setIfInBounds_toArray, List.set_cons_zero, List.set_cons_succ])
  refine wpOrd_x (by rfl) (fun K hK => ?_)
  go_simp
  refine hK _ _ _ (fun _ h => h) (by go_grown) ?_
  clear hK K
  try simp only [Act.put, List.setIfInBounds_toArray, List.set_cons_zero, List.set_cons_succ]
  refine wpOrd_x (by rfl) (fun K hK => ?_)
  go_simp
  refine hK _ _ _ (fun _ h => h) (by go_grown) ?_
  clear hK K
  try simp only [Act.put, List.setIfInBounds_toArray, List.set_cons_zero, List.set_cons_succ]
  refine wpOrd_nil ?_
  refine at_world (fun W => Below w1.heap.size w1 W ∧ Blk W w1.heap.size 83 #[.slice A n c, .int .i64 (r : Int), .int .i64 (s : Int)]) ⟨by go_grown, (Blk.new _ _ _).drew⟩ (fun w2 h2 => ?_)
  obtain ⟨hb2, xB⟩ := h2
  have hx := xB.lt
  have hk2 : w.heap.size < w2.heap.size := by have := hb2.size; omega
  have hp2 : p < w2.heap.size := by have := hb2.size; omega
  have x0 := xB.cell 0
  have x1 := xB.cell 1
  have x2 := xB.cell 2
  have f0 := xB.frozen 0
  have f1 := xB.frozen 1
  have f2 := xB.frozen 2
  clear hlk k0 k1 k2 k3 p1
  go_wp2
  refine at_world (fun W => Below w1.heap.size w1 W ∧ Blk W w1.heap.size 83 #[.slice A n c, .int .i64 (r : Int), .int .i64 ((s : Int) + 1)]) ⟨Below.trans hb2 (Below.mono (B := w1.heap.size) (by repeat' (first | exact Below.refl _ _ | refine Below.setCell ?_ (by simp) _)) (Nat.le_refl _)), by simpa using (xB.set_ 2 _)⟩ (fun w3 h3 => ?_)
  obtain ⟨hb3, xB3⟩ := h3
  have HB3 := hb1.trans (hb3.mono hb1.size)
  have kB3 := kB.below hb3 hk
  have p3 : w3.cell? ⟨p, 0, none⟩ = some (.map (some mb)) := (HB3.cell (p := ⟨p, 0, none⟩) hp).trans (hB.cell 0)
  have hp3 : p < w3.heap.size := by have := HB3.size; omega
  have k0 := kB3.cell 0
  have k1 := kB3.cell 1
  have k2 := kB3.cell 2
  have k3 := kB3.cell 3
  have y0 := xB3.cell 0
  have y1 := xB3.cell 1
  have y2 := xB3.cell 2
  have hk3 := kB3.lt
  have hx3 := xB3.lt
  clear x0 x1 x2 f0 f1 f2 xB kB
  obtain ⟨w5, hrun, hM5, hO5⟩ := (hM.keep (w' := w3.drew) (HB3.block mb hM.lt)).update pkeyEnc Try.underlying78 (nm, lb, nu, ge) (.agg #[.slice A n c, .int .i64 (r : Int), .int .i64 ((s : Int) + 1)])
  simp only [pkv] at hrun
  refine wp_region_text [0, 0, 0, 0, 0, 0, 2] (Below w3.heap.size w3) (by kernel_rfl) (by kernel_rfl) (Below.refl _ _).drew ?_
  iterate 6 (refine wpOrd_q (v := ?_) (by rfl) (fun W hW => ?_) ?_; rotate_left; (focus ((obtain ⟨hWc, hWf⟩ := bcell hW); go_simp; try with_reducible rfl)); try simp only [Act.put, List.setIfInBounds_toArray, List.set_cons_zero, List.set_cons_succ])
  refine wpOrd_b (by rfl) (fun K hK => ?_)
  go_simp
  refine hK (fun _ => True) _ _ trivial ?_
  clear hK K
  try simp only [Act.put, List.setIfInBounds_toArray, List.set_cons_zero, List.set_cons_succ]
  refine wpOrd_nil ?_
  go_wp2
  go_end0
  exact ⟨rfl, hM5, (Tch.of_below (HB3.drew)).trans (Tch.of_only hO5 HB3.size)⟩

set_option maxRecDepth 100000 in
set_option maxHeartbeats 400000 in
theorem write_none (A : Option Addr) (n c : Nat) (r s : Nat) (hB : Blk w p 80 (pcells mb nx)) (hM : MapIs pkv w mb M) (hv : (mget M (nm, lb, nu, ge)).getD pzero = .agg #[.slice A n c, .int .i64 (r : Int), .int .i64 (s : Int)]) (hr : r < 60000) (hs : s < 60000) (hi : (mget M (nm, lb, nu, ge)).isSome = false) (A2 : Option Addr) (n2 c2 : Nat) :
    Calls Try.prog 17 #[.pointer (some ⟨p, 0, none⟩), .agg #[.bool nm, .int .u8 (lb.toNat : Int), .int .u16 (nu.toNat : Int), .int .u16 (ge.toNat : Int)], .slice A2 n2 c2] w fun e w' => e = .returned (.tuple #[.int .i64 0, .int .i64 3]) ∧ Below w.heap.size w w' := by
  have hlk := fun W hW => look_pipe hM nm lb nu ge hv W hW
  have hr' : (r : Int) < 60000 := by omega
  have hs' : (s : Int) < 60000 := by omega
  have HV := hide hv
  have HI := hide hi
  clear hv hi
  go_enter Try.func17, Try.ntmps17
  go_wp2
  refine at_world (fun W => Below w.heap.size w W ∧ Blk W w.heap.size 41 #[.bool nm, .int .u8 (lb.toNat : Int), .int .u16 (nu.toNat : Int), .int .u16 (ge.toNat : Int)]) ⟨by go_grown, Blk.new _ _ _⟩ (fun w1 h1 => ?_)
  obtain ⟨hb1, kB⟩ := h1
  have hp := hB.lt
  have hk := kB.lt
  have hp1 : p < w1.heap.size := by have := hb1.size; omega
  have p1 : w1.cell? ⟨p, 0, none⟩ = some (.map (some mb)) := (hb1.cell (p := ⟨p, 0, none⟩) hp).trans (hB.cell 0)
  have k0 := kB.cell 0
  have k1 := kB.cell 1
  have k2 := kB.cell 2
  have k3 := kB.cell 3
  refine wp_region_text [0, 0, 0, 0, 0, 0, 1, 1] (Below w1.heap.size w1) (by kernel_rfl) (by kernel_rfl) (Below.refl _ _).drew ?_
  iterate 6 (refine wpOrd_q (v := ?_) (by rfl) (fun W hW => ?_) ?_; rotate_left; (focus ((obtain ⟨hWc, hWf⟩ := bcell hW); have hlW := hlk W (hb1.trans (hW.mono hb1.size)); go_simp; try with_reducible rfl)); try simp only [Act.put, List.setIfInBounds_toArray, List.set_cons_zero, List.set_cons_succ])
  refine wpOrd_x (by rfl) (fun K hK => ?_)
  go_simp
  refine hK _ _ _ (fun _ h => h) (by go_grown) ?_
  clear hK K
  try simp only [Act.put, List.setIfInBounds_toArray, List.set_cons_zero, List.set_cons_succ]
  refine wpOrd_x (by rfl) (fun K hK => ?_)
  go_simp
  refine hK _ _ _ (fun _ h => h) (by go_grown) ?_
  clear hK K
  try simp only [Act.put, List.setIfInBounds_toArray, List.set_cons_zero, List.set_cons_succ]
  refine wpOrd_nil ?_
  refine at_world (fun W => Below w1.heap.size w1 W ∧ Blk W w1.heap.size 83 #[.slice A n c, .int .i64 (r : Int), .int .i64 (s : Int)]) ⟨by go_grown, (Blk.new _ _ _).drew⟩ (fun w2 h2 => ?_)
  obtain ⟨hb2, xB⟩ := h2
  have hx := xB.lt
  have hk2 : w.heap.size < w2.heap.size := by have := hb2.size; omega
  have hp2 : p < w2.heap.size := by have := hb2.size; omega
  have x0 := xB.cell 0
  have x1 := xB.cell 1
  have x2 := xB.cell 2
  have f0 := xB.frozen 0
  have f1 := xB.frozen 1
  have f2 := xB.frozen 2
  have kB2 := kB.below hb2 hk
  have j0 := kB2.cell 0
  have j1 := kB2.cell 1
  have j2 := kB2.cell 2
  have j3 := kB2.cell 3
  clear hlk k0 k1 k2 k3 p1
  go_wp2_with fail
  clear j0 j1 j2 j3
  refine (has_any p mb nx M nm lb nu ge w2 A n c r s (hB.below (hb1.trans (hb2.mono hb1.size)) hp) (hM.keep ((hb1.trans (hb2.mono hb1.size)).block mb hM.lt)) HV.out).mono ?_
  rintro e w3 ⟨rfl, hb23⟩
  rw [HI.out]
  have HB3 := (hb1.trans (hb2.mono hb1.size)).trans (hb23.mono (hb1.trans (hb2.mono hb1.size)).size)
  have xB3 := xB.below hb23 hx
  have kB3 := (kB.below hb2 hk).below hb23 (by have := hb2.size; omega)
  have p3 : w3.cell? ⟨p, 0, none⟩ = some (.map (some mb)) := (HB3.cell (p := ⟨p, 0, none⟩) hp).trans (hB.cell 0)
  have hp3 : p < w3.heap.size := by have := HB3.size; omega
  have k0 := kB3.cell 0
  have k1 := kB3.cell 1
  have k2 := kB3.cell 2
  have k3 := kB3.cell 3
  have y0 := xB3.cell 0
  have y1 := xB3.cell 1
  have y2 := xB3.cell 2
  have g0 := xB3.frozen 0
  have g1 := xB3.frozen 1
  have g2 := xB3.frozen 2
  have hk3 := kB3.lt
  have hx3 := xB3.lt
  clear x0 x1 x2 f0 f1 f2
  clear k0 k1 k2 k3 p3
  go_wp2
  go_ret2
  exact ⟨rfl, HB3⟩

set_option maxRecDepth 100000 in
set_option maxHeartbeats 400000 in
theorem write_nobody (A : Option Addr) (n c : Nat) (s : Nat) (hB : Blk w p 80 (pcells mb nx)) (hM : MapIs pkv w mb M) (hv : (mget M (nm, lb, nu, ge)).getD pzero = .agg #[.slice A n c, .int .i64 0, .int .i64 (s : Int)]) (hs : s < 60000) (hi : (mget M (nm, lb, nu, ge)).isSome = true) (A2 : Option Addr) (n2 c2 : Nat) :
    Calls Try.prog 17 #[.pointer (some ⟨p, 0, none⟩), .agg #[.bool nm, .int .u8 (lb.toNat : Int), .int .u16 (nu.toNat : Int), .int .u16 (ge.toNat : Int)], .slice A2 n2 c2] w fun e w' => e = .returned (.tuple #[.int .i64 0, .int .i64 21]) ∧ Below w.heap.size w w' := by
  have hlk := fun W hW => look_pipe hM nm lb nu ge hv W hW
  have hs' : (s : Int) < 60000 := by omega
  have HV := hide hv
  have HI := hide hi
  clear hv hi
  go_enter Try.func17, Try.ntmps17
  go_wp2
  refine at_world (fun W => Below w.heap.size w W ∧ Blk W w.heap.size 41 #[.bool nm, .int .u8 (lb.toNat : Int), .int .u16 (nu.toNat : Int), .int .u16 (ge.toNat : Int)]) ⟨by go_grown, Blk.new _ _ _⟩ (fun w1 h1 => ?_)
  obtain ⟨hb1, kB⟩ := h1
  have hp := hB.lt
  have hk := kB.lt
  have hp1 : p < w1.heap.size := by have := hb1.size; omega
  have p1 : w1.cell? ⟨p, 0, none⟩ = some (.map (some mb)) := (hb1.cell (p := ⟨p, 0, none⟩) hp).trans (hB.cell 0)
  have k0 := kB.cell 0
  have k1 := kB.cell 1
  have k2 := kB.cell 2
  have k3 := kB.cell 3
  refine wp_region_text [0, 0, 0, 0, 0, 0, 1, 1] (Below w1.heap.size w1) (by kernel_rfl) (by kernel_rfl) (Below.refl _ _).drew ?_
  iterate 6 (refine wpOrd_q (v := ?_) (by rfl) (fun W hW => ?_) ?_; rotate_left; (focus ((obtain ⟨hWc, hWf⟩ := bcell hW); have hlW := hlk W (hb1.trans (hW.mono hb1.size)); go_simp; try with_reducible rfl)); try simp only [Act.put, List.setIfInBounds_toArray, List.set_cons_zero, List.set_cons_succ])
  refine wpOrd_x (by rfl) (fun K hK => ?_)
  go_simp
  refine hK _ _ _ (fun _ h => h) (by go_grown) ?_
  clear hK K
  try simp only [Act.put, List.setIfInBounds_toArray, List.set_cons_zero, List.set_cons_succ]
  refine wpOrd_x (by rfl) (fun K hK => ?_)
  go_simp
  refine hK _ _ _ (fun _ h => h) (by go_grown) ?_
  clear hK K
  try simp only [Act.put, List.setIfInBounds_toArray, List.set_cons_zero, List.set_cons_succ]
  refine wpOrd_nil ?_
  refine at_world (fun W => Below w1.heap.size w1 W ∧ Blk W w1.heap.size 83 #[.slice A n c, .int .i64 0, .int .i64 (s : Int)]) ⟨by go_grown, (Blk.new _ _ _).drew⟩ (fun w2 h2 => ?_)
  obtain ⟨hb2, xB⟩ := h2
  have hx := xB.lt
  have hk2 : w.heap.size < w2.heap.size := by have := hb2.size; omega
  have hp2 : p < w2.heap.size := by have := hb2.size; omega
  have x0 := xB.cell 0
  have x1 := xB.cell 1
  have x2 := xB.cell 2
  have f0 := xB.frozen 0
  have f1 := xB.frozen 1
  have f2 := xB.frozen 2
  have kB2 := kB.below hb2 hk
  have j0 := kB2.cell 0
  have j1 := kB2.cell 1
  have j2 := kB2.cell 2
  have j3 := kB2.cell 3
  clear hlk k0 k1 k2 k3 p1
  go_wp2_with fail
  clear j0 j1 j2 j3
  refine (has_any p mb nx M nm lb nu ge w2 A n c 0 s (hB.below (hb1.trans (hb2.mono hb1.size)) hp) (hM.keep ((hb1.trans (hb2.mono hb1.size)).block mb hM.lt)) HV.out).mono ?_
  rintro e w3 ⟨rfl, hb23⟩
  rw [HI.out]
  have HB3 := (hb1.trans (hb2.mono hb1.size)).trans (hb23.mono (hb1.trans (hb2.mono hb1.size)).size)
  have xB3 := xB.below hb23 hx
  have kB3 := (kB.below hb2 hk).below hb23 (by have := hb2.size; omega)
  have p3 : w3.cell? ⟨p, 0, none⟩ = some (.map (some mb)) := (HB3.cell (p := ⟨p, 0, none⟩) hp).trans (hB.cell 0)
  have hp3 : p < w3.heap.size := by have := HB3.size; omega
  have k0 := kB3.cell 0
  have k1 := kB3.cell 1
  have k2 := kB3.cell 2
  have k3 := kB3.cell 3
  have y0 := xB3.cell 0
  have y1 := xB3.cell 1
  have y2 := xB3.cell 2
  have g0 := xB3.frozen 0
  have g1 := xB3.frozen 1
  have g2 := xB3.frozen 2
  have hk3 := kB3.lt
  have hx3 := xB3.lt
  clear x0 x1 x2 f0 f1 f2
  clear k0 k1 k2 k3 p3
  go_wp2
  go_ret2
  exact ⟨rfl, HB3⟩

set_option maxRecDepth 100000 in
set_option maxHeartbeats 400000 in
theorem write_wait (A : Option Addr) (c : Nat) (r s : Nat) (hB : Blk w p 80 (pcells mb nx)) (hM : MapIs pkv w mb M) (hv : (mget M (nm, lb, nu, ge)).getD pzero = .agg #[.slice A 256 c, .int .i64 (r : Int), .int .i64 (s : Int)]) (hr : r < 60000) (hs : s < 60000) (hi : (mget M (nm, lb, nu, ge)).isSome = true) (h0 : 0 < r) (A2 : Option Addr) (n2 c2 : Nat) (hn2 : n2 < 60000) (hw3 : 0 < n2) :
    Calls Try.prog 17 #[.pointer (some ⟨p, 0, none⟩), .agg #[.bool nm, .int .u8 (lb.toNat : Int), .int .u16 (nu.toNat : Int), .int .u16 (ge.toNat : Int)], .slice A2 n2 c2] w fun e w' => e = .returned (.tuple #[.int .i64 0, .int .i64 33]) ∧ Below w.heap.size w w' := by
  have hlk := fun W hW => look_pipe hM nm lb nu ge hv W hW
  have hr' : (r : Int) < 60000 := by omega
  have hs' : (s : Int) < 60000 := by omega
  have HV := hide hv
  have HI := hide hi
  clear hv hi
  have hz : ((r : Int) == 0) = false := by simp; omega
  have hw5 : (0 : Int) < n2 := by omega
  go_enter Try.func17, Try.ntmps17
  go_wp2
  refine at_world (fun W => Below w.heap.size w W ∧ Blk W w.heap.size 41 #[.bool nm, .int .u8 (lb.toNat : Int), .int .u16 (nu.toNat : Int), .int .u16 (ge.toNat : Int)]) ⟨by go_grown, Blk.new _ _ _⟩ (fun w1 h1 => ?_)
  obtain ⟨hb1, kB⟩ := h1
  have hp := hB.lt
  have hk := kB.lt
  have hp1 : p < w1.heap.size := by have := hb1.size; omega
  have p1 : w1.cell? ⟨p, 0, none⟩ = some (.map (some mb)) := (hb1.cell (p := ⟨p, 0, none⟩) hp).trans (hB.cell 0)
  have k0 := kB.cell 0
  have k1 := kB.cell 1
  have k2 := kB.cell 2
  have k3 := kB.cell 3
  refine wp_region_text [0, 0, 0, 0, 0, 0, 1, 1] (Below w1.heap.size w1) (by kernel_rfl) (by kernel_rfl) (Below.refl _ _).drew ?_
  iterate 6 (refine wpOrd_q (v := ?_) (by rfl) (fun W hW => ?_) ?_; rotate_left; (focus ((obtain ⟨hWc, hWf⟩ := bcell hW); have hlW := hlk W (hb1.trans (hW.mono hb1.size)); go_simp; try with_reducible rfl)); try simp only [Act.put, List.setIfInBounds_toArray, List.set_cons_zero, List.set_cons_succ])
  refine wpOrd_x (by rfl) (fun K hK => ?_)
  go_simp
  refine hK _ _ _ (fun _ h => h) (by go_grown) ?_
  clear hK K
  try simp only [Act.put, List.setIfInBounds_toArray, List.set_cons_zero, List.set_cons_succ]
  refine wpOrd_x (by rfl) (fun K hK => ?_)
  go_simp
  refine hK _ _ _ (fun _ h => h) (by go_grown) ?_
  clear hK K
  try simp only [Act.put, List.setIfInBounds_toArray, List.set_cons_zero, List.set_cons_succ]
  refine wpOrd_nil ?_
  refine at_world (fun W => Below w1.heap.size w1 W ∧ Blk W w1.heap.size 83 #[.slice A 256 c, .int .i64 (r : Int), .int .i64 (s : Int)]) ⟨by go_grown, (Blk.new _ _ _).drew⟩ (fun w2 h2 => ?_)
  obtain ⟨hb2, xB⟩ := h2
  have hx := xB.lt
  have hk2 : w.heap.size < w2.heap.size := by have := hb2.size; omega
  have hp2 : p < w2.heap.size := by have := hb2.size; omega
  have x0 := xB.cell 0
  have x1 := xB.cell 1
  have x2 := xB.cell 2
  have f0 := xB.frozen 0
  have f1 := xB.frozen 1
  have f2 := xB.frozen 2
  have kB2 := kB.below hb2 hk
  have j0 := kB2.cell 0
  have j1 := kB2.cell 1
  have j2 := kB2.cell 2
  have j3 := kB2.cell 3
  clear hlk k0 k1 k2 k3 p1
  go_wp2_with fail
  clear j0 j1 j2 j3
  refine (has_any p mb nx M nm lb nu ge w2 A 256 c r s (hB.below (hb1.trans (hb2.mono hb1.size)) hp) (hM.keep ((hb1.trans (hb2.mono hb1.size)).block mb hM.lt)) HV.out).mono ?_
  rintro e w3 ⟨rfl, hb23⟩
  rw [HI.out]
  have HB3 := (hb1.trans (hb2.mono hb1.size)).trans (hb23.mono (hb1.trans (hb2.mono hb1.size)).size)
  have xB3 := xB.below hb23 hx
  have kB3 := (kB.below hb2 hk).below hb23 (by have := hb2.size; omega)
  have p3 : w3.cell? ⟨p, 0, none⟩ = some (.map (some mb)) := (HB3.cell (p := ⟨p, 0, none⟩) hp).trans (hB.cell 0)
  have hp3 : p < w3.heap.size := by have := HB3.size; omega
  have k0 := kB3.cell 0
  have k1 := kB3.cell 1
  have k2 := kB3.cell 2
  have k3 := kB3.cell 3
  have y0 := xB3.cell 0
  have y1 := xB3.cell 1
  have y2 := xB3.cell 2
  have g0 := xB3.frozen 0
  have g1 := xB3.frozen 1
  have g2 := xB3.frozen 2
  have hk3 := kB3.lt
  have hx3 := xB3.lt
  clear x0 x1 x2 f0 f1 f2
  clear k0 k1 k2 k3 p3
  go_wp2
  go_ret2
  exact ⟨rfl, HB3⟩

set_option maxRecDepth 100000 in
set_option maxHeartbeats 400000 in
theorem write_fits (A : Option Addr) (n c : Nat) (r s : Nat) (hB : Blk w p 80 (pcells mb nx)) (hM : MapIs pkv w mb M) (hv : (mget M (nm, lb, nu, ge)).getD pzero = .agg #[.slice A n c, .int .i64 (r : Int), .int .i64 (s : Int)]) (hr : r < 60000) (hs : s < 60000) (hi : (mget M (nm, lb, nu, ge)).isSome = true) (h0 : 0 < r) (l : List UInt8) (hown : w.ownsRow 0 5 1 (.slice A n c) n (bvs l)) (A2 : Option Addr) (n2 c2 : Nat) (l2 : List UInt8) (hr2 : Rd w w.heap.size 1 A2 n2 (bvs l2)) (hnc2 : n2 ≤ c2) (hn2 : n2 < 60000) (hn : n ≤ 256) (hk : n2 + n ≤ 256) (hp20 : 0 < n2) :
    Calls Try.prog 17 #[.pointer (some ⟨p, 0, none⟩), .agg #[.bool nm, .int .u8 (lb.toNat : Int), .int .u16 (nu.toNat : Int), .int .u16 (ge.toNat : Int)], .slice A2 n2 c2] w fun e w' => ∃ A' c', e = .returned (.tuple #[.int .i64 n2, .int .i64 0]) ∧ w'.ownsRow 0 5 1 (.slice A' (n + n2) c') (n + n2) (bvs (l ++ l2.take n2)) ∧
      MapIs pkv w' mb (mput M (nm, lb, nu, ge) (.agg #[.slice A' (n + n2) c', .int .i64 (r : Int), .int .i64 (s : Int)])) ∧
      ((Value.slice A' (n + n2) c').ownBlock = (Value.slice A n c).ownBlock ∨ ∃ g, (Value.slice A' (n + n2) c').ownBlock = some g ∧ w.heap.size ≤ g) ∧
      Tch w.heap.size (fun x => x = mb ∨ (Value.slice A n c).ownBlock = some x) w w' := by
  have hlk := fun W hW => look_pipe hM nm lb nu ge hv W hW
  have hr' : (r : Int) < 60000 := by omega
  have hs' : (s : Int) < 60000 := by omega
  have HV := hide hv
  have HI := hide hi
  clear hv hi
  have hz : ((r : Int) == 0) = false := by simp; omega
  have hz2 : ((n2 : Int) == 0) = false := by simp; omega
  have hge : (n2 : Int) ≤ 256 - n := by omega
  have hb1' : (0 : Int) ≤ n2 := by omega
  have hb2' : (n2 : Int) ≤ c2 := by omega
  obtain ⟨i0, hi0, i1, i2, i3⟩ := info_parts info_u8p
  go_enter Try.func17, Try.ntmps17
  go_wp2
  refine at_world (fun W => Below w.heap.size w W ∧ Blk W w.heap.size 41 #[.bool nm, .int .u8 (lb.toNat : Int), .int .u16 (nu.toNat : Int), .int .u16 (ge.toNat : Int)]) ⟨by go_grown, Blk.new _ _ _⟩ (fun w1 h1 => ?_)
  obtain ⟨hb1, kB⟩ := h1
  have hp := hB.lt
  have hk := kB.lt
  have hp1 : p < w1.heap.size := by have := hb1.size; omega
  have p1 : w1.cell? ⟨p, 0, none⟩ = some (.map (some mb)) := (hb1.cell (p := ⟨p, 0, none⟩) hp).trans (hB.cell 0)
  have k0 := kB.cell 0
  have k1 := kB.cell 1
  have k2 := kB.cell 2
  have k3 := kB.cell 3
  refine wp_region_text [0, 0, 0, 0, 0, 0, 1, 1] (Below w1.heap.size w1) (by kernel_rfl) (by kernel_rfl) (Below.refl _ _).drew ?_
  iterate 6 (refine wpOrd_q (v := ?_) (by rfl) (fun W hW => ?_) ?_; rotate_left; (focus ((obtain ⟨hWc, hWf⟩ := bcell hW); have hlW := hlk W (hb1.trans (hW.mono hb1.size)); go_simp; try with_reducible rfl)); try simp only [Act.put, List.setIfInBounds_toArray, List.set_cons_zero, List.set_cons_succ])
  refine wpOrd_x (by rfl) (fun K hK => ?_)
  go_simp
  refine hK _ _ _ (fun _ h => h) (by go_grown) ?_
  clear hK K
  try simp only [Act.put, List.setIfInBounds_toArray, List.set_cons_zero, List.set_cons_succ]
  refine wpOrd_x (by rfl) (fun K hK => ?_)
  go_simp
  refine hK _ _ _ (fun _ h => h) (by go_grown) ?_
  clear hK K
  try simp only [Act.put, List.setIfInBounds_toArray, List.set_cons_zero, List.set_cons_succ]
  refine wpOrd_nil ?_
  refine at_world (fun W => Below w1.heap.size w1 W ∧ Blk W w1.heap.size 83 #[.slice A n c, .int .i64 (r : Int), .int .i64 (s : Int)]) ⟨by go_grown, (Blk.new _ _ _).drew⟩ (fun w2 h2 => ?_)
  obtain ⟨hb2, xB⟩ := h2
  have hx := xB.lt
  have hk2 : w.heap.size < w2.heap.size := by have := hb2.size; omega
  have hp2 : p < w2.heap.size := by have := hb2.size; omega
  have x0 := xB.cell 0
  have x1 := xB.cell 1
  have x2 := xB.cell 2
  have f0 := xB.frozen 0
  have f1 := xB.frozen 1
  have f2 := xB.frozen 2
  have kB2 := kB.below hb2 hk
  have j0 := kB2.cell 0
  have j1 := kB2.cell 1
  have j2 := kB2.cell 2
  have j3 := kB2.cell 3
  clear hlk k0 k1 k2 k3 p1
  go_wp2_with fail
  clear j0 j1 j2 j3
  refine (has_any p mb nx M nm lb nu ge w2 A n c r s (hB.below (hb1.trans (hb2.mono hb1.size)) hp) (hM.keep ((hb1.trans (hb2.mono hb1.size)).block mb hM.lt)) HV.out).mono ?_
  rintro e w3 ⟨rfl, hb23⟩
  rw [HI.out]
  have HB3 := (hb1.trans (hb2.mono hb1.size)).trans (hb23.mono (hb1.trans (hb2.mono hb1.size)).size)
  have xB3 := xB.below hb23 hx
  have kB3 := (kB.below hb2 hk).below hb23 (by have := hb2.size; omega)
  have p3 : w3.cell? ⟨p, 0, none⟩ = some (.map (some mb)) := (HB3.cell (p := ⟨p, 0, none⟩) hp).trans (hB.cell 0)
  have hp3 : p < w3.heap.size := by have := HB3.size; omega
  have k0 := kB3.cell 0
  have k1 := kB3.cell 1
  have k2 := kB3.cell 2
  have k3 := kB3.cell 3
  have y0 := xB3.cell 0
  have y1 := xB3.cell 1
  have y2 := xB3.cell 2
  have g0 := xB3.frozen 0
  have g1 := xB3.frozen 1
  have g2 := xB3.frozen 2
  have hk3 := kB3.lt
  have hx3 := xB3.lt
  clear x0 x1 x2 f0 f1 f2
  clear k0 k1 k2 k3 p3
  go_upto_region 11 with (fail)
  go_wp2_with fail
  have hown3 : w3.ownsRow 0 5 1 (.slice A n c) n (bvs l) := own_keep hown (fun g hg => HB3.block g (hown.lt g hg).2)
  have hrd3 : Rd w3 w.heap.size 1 A2 n2 (bvs (l2.take n2)) := by
    have := (hr2.below HB3).take (m := n2) (by omega)
    rwa [Nat.mul_one, bvs_take] at this
  refine wp_region_text [0, 0, 0, 0, 0, 1, 0, 2] (fun W => W.cell? ⟨w1.heap.size, 0, none⟩ = some (.slice A n c)) (by kernel_rfl) (by kernel_rfl) y0 ?_
  iterate 5 (refine wpOrd_q (v := ?_) (by rfl) (fun W hW => ?_) ?_; rotate_left; (focus ((have hW' : _ = _ := hW); go_simp; try with_reducible rfl)); try simp only [Act.put, List.setIfInBounds_toArray, List.set_cons_zero, List.set_cons_succ])
  refine wpOrd_x (by rfl) (fun K hK => ?_)
  refine wp_append_rd _ (.tmp 42) (.tmp 45) 23 (by rfl) 0 5 i0 (.int .u8 0) 1 1 Try.underlying23 hi0 i1 i2 i3 rfl (by decide) (.slice A n c) n (bvs l) (by rfl) hown3.drew w.heap.size A2 n2 c2 (bvs (l2.take n2)) (by rfl) hrd3.drew (bvs_one _) (by simp only [maxLen]; omega) (by omega) (Nat.zero_le _) ?_
  intro v' w4 hown4 hg4 hnil hat
  obtain ⟨A', c', rfl, hnc', hcm', -⟩ := own_form hown4
  try simp only [Nat.add_zero] at hown4 hat
  have hng : ∀ g, (Value.slice A n c).ownBlock = some g → g < w.heap.size := fun g hg => (hown.lt g hg).2
  have xB4 := xB3.drew.grown hg4 (fun e => by have := hng _ e.symm; omega)
  have kB4 := kB3.drew.grown hg4 (fun e => by have := hng _ e.symm; omega)
  have hBp := hB.below HB3 hp
  have pB4 := hBp.drew.grown hg4 (fun e => blk_not_own hBp hown3 (by decide) e.symm)
  have hM3 := hM.keep (w' := w3.drew) (HB3.block mb hM.lt)
  have hmo := hM3.not_own hown3.drew
  have hM4 := hM3.keep (hg4.block mb hM3.lt (fun e => hmo e.symm))
  have hx4 := xB4.lt
  have z0 := xB4.cell 0
  have z1 := xB4.frozen 0
  refine hK (fun W => W.cell? ⟨w1.heap.size, 0, none⟩ = some (.slice A n c)) _ _ (fun _ h => h) z0 ?_
  clear hK K
  try simp only [Act.put, List.setIfInBounds_toArray, List.set_cons_zero, List.set_cons_succ]
  iterate 1 (refine wpOrd_q (v := ?_) (by rfl) (fun W hW => ?_) ?_; rotate_left; (focus ((have hW' : _ = _ := hW); go_simp; try with_reducible rfl)); try simp only [Act.put, List.setIfInBounds_toArray, List.set_cons_zero, List.set_cons_succ])
  refine wpOrd_b (by rfl) (fun K hK => ?_)
  go_simp
  refine hK (fun _ => True) _ _ trivial ?_
  clear hK K
  try simp only [Act.put, List.setIfInBounds_toArray, List.set_cons_zero, List.set_cons_succ]
  refine wpOrd_nil ?_
  have hlt4 : w3.heap.size ≤ w4.heap.size := hg4.size
  refine at_world (fun W => Blk W w1.heap.size 83 #[.slice A' (n + n2) c', .int .i64 (r : Int), .int .i64 (s : Int)] ∧ Blk W w.heap.size 41 #[.bool nm, .int .u8 (lb.toNat : Int), .int .u16 (nu.toNat : Int), .int .u16 (ge.toNat : Int)] ∧ Blk W p 80 (pcells mb nx) ∧ MapIs pkv W mb M ∧ W.ownsRow 0 5 1 (.slice A' (n + n2) c') (n + n2) (bvs l ++ bvs (l2.take n2)) ∧ Tch w.heap.size (fun x => x = mb ∨ (Value.slice A n c).ownBlock = some x) w W) ?_ (fun w5 h5 => ?_)
  · refine ⟨by simpa using xB4.set_ 0 _, kB4.far (by show _ ≠ w1.heap.size; omega) _, pB4.far (by show _ ≠ w1.heap.size; omega) _, hM4.keep (Below.heap_setCell _ _ _ _ (by show _ ≠ w1.heap.size; have := hM.lt; omega)), own_keep hown4 (fun g hg => Below.heap_setCell _ _ _ _ (show g ≠ w1.heap.size from ?_)), ((Tch.of_below HB3.drew).trans (Tch.grown hg4 (by have := HB3.size; simpa using this) (fun k hk _ => .inr hk))).trans (Tch.setCell (fun h => absurd (show w1.heap.size < _ from h) (by omega)))⟩
    rcases hat with e | e <;> rw [e] at hg
    · have := hng _ hg; omega
    · simp only [Option.some.injEq] at hg
      have : w3.drew.heap.size = w3.heap.size := rfl
      omega
  obtain ⟨xB5, kB5, pB5, hM5, hown5, hT5⟩ := h5
  have hnb : ∀ g, (Value.slice A' (n + n2) c').ownBlock = some g → g ≠ mb := by
    intro g hg e
    rcases hat with e1 | e1 <;> rw [e1] at hg
    · exact hmo (by rw [hg, e])
    · simp only [Option.some.injEq] at hg
      have h1 : w3.drew.heap.size = w3.heap.size := rfl
      have h2 := hM.lt
      have h3 := HB3.size
      omega
  clear z0 z1 y0 y1 y2 g0 g1 g2 hx3 hk3 hp3 hx4
  have p5 : w5.cell? ⟨p, 0, none⟩ = some (.map (some mb)) := pB5.cell 0
  have k0 := kB5.cell 0
  have k1 := kB5.cell 1
  have k2 := kB5.cell 2
  have k3 := kB5.cell 3
  have y0 := xB5.cell 0
  have y1 := xB5.cell 1
  have y2 := xB5.cell 2
  have hp5 := pB5.lt
  have hk5 := kB5.lt
  have hx5 := xB5.lt
  go_wp2_with fail
  obtain ⟨w7, hrun, hM7, hO7⟩ := (hM5.keep (w' := w5.drew) rfl).update pkeyEnc Try.underlying78 (nm, lb, nu, ge) (.agg #[.slice A' (n + n2) c', .int .i64 (r : Int), .int .i64 (s : Int)])
  simp only [pkv] at hrun
  refine wp_region_text [0, 0, 0, 0, 0, 0, 2] (Below w5.heap.size w5) (by kernel_rfl) (by kernel_rfl) (Below.refl _ _).drew ?_
  iterate 6 (refine wpOrd_q (v := ?_) (by rfl) (fun W hW => ?_) ?_; rotate_left; (focus ((obtain ⟨hWc, hWf⟩ := bcell hW); go_simp; try with_reducible rfl)); try simp only [Act.put, List.setIfInBounds_toArray, List.set_cons_zero, List.set_cons_succ])
  refine wpOrd_b (by rfl) (fun K hK => ?_)
  go_simp
  refine hK (fun _ => True) _ _ trivial ?_
  clear hK K
  try simp only [Act.put, List.setIfInBounds_toArray, List.set_cons_zero, List.set_cons_succ]
  refine wpOrd_nil ?_
  go_wp2
  go_ret2
  refine ⟨A', c', rfl, ?_, hM7, ?_, hT5.drew.trans ((Tch.of_only hO7 hT5.size).mono (Nat.le_refl _) (fun _ _ h => .inl h))⟩
  · rw [bvs_append]
    exact own_keep hown5 (fun g hg => hO7.1.block g (hown5.lt g hg).2 (by simpa using hnb g hg))
  · rcases hat with e | e
    · exact .inl e
    · exact .inr ⟨_, e, HB3.size⟩

set_option maxRecDepth 100000 in
set_option maxHeartbeats 400000 in
theorem write_part (A : Option Addr) (n c : Nat) (r s : Nat) (hB : Blk w p 80 (pcells mb nx)) (hM : MapIs pkv w mb M) (hv : (mget M (nm, lb, nu, ge)).getD pzero = .agg #[.slice A n c, .int .i64 (r : Int), .int .i64 (s : Int)]) (hr : r < 60000) (hs : s < 60000) (hi : (mget M (nm, lb, nu, ge)).isSome = true) (h0 : 0 < r) (l : List UInt8) (hown : w.ownsRow 0 5 1 (.slice A n c) n (bvs l)) (A2 : Option Addr) (n2 c2 k : Nat) (l2 : List UInt8) (hr2 : Rd w w.heap.size 1 A2 n2 (bvs l2)) (hnc2 : n2 ≤ c2) (hn : n ≤ 256) (hk : k + n = 256) (hk0 : 0 < k) (hkn : k < n2) :
    Calls Try.prog 17 #[.pointer (some ⟨p, 0, none⟩), .agg #[.bool nm, .int .u8 (lb.toNat : Int), .int .u16 (nu.toNat : Int), .int .u16 (ge.toNat : Int)], .slice A2 n2 c2] w fun e w' => ∃ A' c', e = .returned (.tuple #[.int .i64 k, .int .i64 0]) ∧ w'.ownsRow 0 5 1 (.slice A' (n + k) c') (n + k) (bvs (l ++ l2.take k)) ∧
      MapIs pkv w' mb (mput M (nm, lb, nu, ge) (.agg #[.slice A' (n + k) c', .int .i64 (r : Int), .int .i64 (s : Int)])) ∧
      ((Value.slice A' (n + k) c').ownBlock = (Value.slice A n c).ownBlock ∨ ∃ g, (Value.slice A' (n + k) c').ownBlock = some g ∧ w.heap.size ≤ g) ∧
      Tch w.heap.size (fun x => x = mb ∨ (Value.slice A n c).ownBlock = some x) w w' := by
  have hlk := fun W hW => look_pipe hM nm lb nu ge hv W hW
  have hr' : (r : Int) < 60000 := by omega
  have hs' : (s : Int) < 60000 := by omega
  have HV := hide hv
  have HI := hide hi
  clear hv hi
  have hz : ((r : Int) == 0) = false := by simp; omega
  have hz2 : ((k : Int) == 0) = false := by simp; omega
  have hge : (256 : Int) - n = k := by omega
  have hlt : (k : Int) < n2 := by omega
  have hb1' : (0 : Int) ≤ k := by omega
  have hb2' : (k : Int) ≤ c2 := by omega
  obtain ⟨i0, hi0, i1, i2, i3⟩ := info_parts info_u8p
  go_enter Try.func17, Try.ntmps17
  go_wp2
  refine at_world (fun W => Below w.heap.size w W ∧ Blk W w.heap.size 41 #[.bool nm, .int .u8 (lb.toNat : Int), .int .u16 (nu.toNat : Int), .int .u16 (ge.toNat : Int)]) ⟨by go_grown, Blk.new _ _ _⟩ (fun w1 h1 => ?_)
  obtain ⟨hb1, kB⟩ := h1
  have hp := hB.lt
  have hk := kB.lt
  have hp1 : p < w1.heap.size := by have := hb1.size; omega
  have p1 : w1.cell? ⟨p, 0, none⟩ = some (.map (some mb)) := (hb1.cell (p := ⟨p, 0, none⟩) hp).trans (hB.cell 0)
  have k0 := kB.cell 0
  have k1 := kB.cell 1
  have k2 := kB.cell 2
  have k3 := kB.cell 3
  refine wp_region_text [0, 0, 0, 0, 0, 0, 1, 1] (Below w1.heap.size w1) (by kernel_rfl) (by kernel_rfl) (Below.refl _ _).drew ?_
  iterate 6 (refine wpOrd_q (v := ?_) (by rfl) (fun W hW => ?_) ?_; rotate_left; (focus ((obtain ⟨hWc, hWf⟩ := bcell hW); have hlW := hlk W (hb1.trans (hW.mono hb1.size)); go_simp; try with_reducible rfl)); try simp only [Act.put, List.setIfInBounds_toArray, List.set_cons_zero, List.set_cons_succ])
  refine wpOrd_x (by rfl) (fun K hK => ?_)
  go_simp
  refine hK _ _ _ (fun _ h => h) (by go_grown) ?_
  clear hK K
  try simp only [Act.put, List.setIfInBounds_toArray, List.set_cons_zero, List.set_cons_succ]
  refine wpOrd_x (by rfl) (fun K hK => ?_)
  go_simp
  refine hK _ _ _ (fun _ h => h) (by go_grown) ?_
  clear hK K
  try simp only [Act.put, List.setIfInBounds_toArray, List.set_cons_zero, List.set_cons_succ]
  refine wpOrd_nil ?_
  refine at_world (fun W => Below w1.heap.size w1 W ∧ Blk W w1.heap.size 83 #[.slice A n c, .int .i64 (r : Int), .int .i64 (s : Int)]) ⟨by go_grown, (Blk.new _ _ _).drew⟩ (fun w2 h2 => ?_)
  obtain ⟨hb2, xB⟩ := h2
  have hx := xB.lt
  have hk2 : w.heap.size < w2.heap.size := by have := hb2.size; omega
  have hp2 : p < w2.heap.size := by have := hb2.size; omega
  have x0 := xB.cell 0
  have x1 := xB.cell 1
  have x2 := xB.cell 2
  have f0 := xB.frozen 0
  have f1 := xB.frozen 1
  have f2 := xB.frozen 2
  have kB2 := kB.below hb2 hk
  have j0 := kB2.cell 0
  have j1 := kB2.cell 1
  have j2 := kB2.cell 2
  have j3 := kB2.cell 3
  clear hlk k0 k1 k2 k3 p1
  go_wp2_with fail
  clear j0 j1 j2 j3
  refine (has_any p mb nx M nm lb nu ge w2 A n c r s (hB.below (hb1.trans (hb2.mono hb1.size)) hp) (hM.keep ((hb1.trans (hb2.mono hb1.size)).block mb hM.lt)) HV.out).mono ?_
  rintro e w3 ⟨rfl, hb23⟩
  rw [HI.out]
  have HB3 := (hb1.trans (hb2.mono hb1.size)).trans (hb23.mono (hb1.trans (hb2.mono hb1.size)).size)
  have xB3 := xB.below hb23 hx
  have kB3 := (kB.below hb2 hk).below hb23 (by have := hb2.size; omega)
  have p3 : w3.cell? ⟨p, 0, none⟩ = some (.map (some mb)) := (HB3.cell (p := ⟨p, 0, none⟩) hp).trans (hB.cell 0)
  have hp3 : p < w3.heap.size := by have := HB3.size; omega
  have k0 := kB3.cell 0
  have k1 := kB3.cell 1
  have k2 := kB3.cell 2
  have k3 := kB3.cell 3
  have y0 := xB3.cell 0
  have y1 := xB3.cell 1
  have y2 := xB3.cell 2
  have g0 := xB3.frozen 0
  have g1 := xB3.frozen 1
  have g2 := xB3.frozen 2
  have hk3 := kB3.lt
  have hx3 := xB3.lt
  clear x0 x1 x2 f0 f1 f2
  clear k0 k1 k2 k3 p3
  go_upto_region 11 with (fail)
  go_wp2_with fail
  have hown3 : w3.ownsRow 0 5 1 (.slice A n c) n (bvs l) := own_keep hown (fun g hg => HB3.block g (hown.lt g hg).2)
  have hrd3 : Rd w3 w.heap.size 1 A2 k (bvs (l2.take k)) := by
    have := (hr2.below HB3).take (m := k) (by omega)
    rwa [Nat.mul_one, bvs_take] at this
  refine wp_region_text [0, 0, 0, 0, 0, 1, 0, 2] (fun W => W.cell? ⟨w1.heap.size, 0, none⟩ = some (.slice A n c)) (by kernel_rfl) (by kernel_rfl) y0 ?_
  iterate 5 (refine wpOrd_q (v := ?_) (by rfl) (fun W hW => ?_) ?_; rotate_left; (focus ((have hW' : _ = _ := hW); go_simp; try with_reducible rfl)); try simp only [Act.put, List.setIfInBounds_toArray, List.set_cons_zero, List.set_cons_succ])
  refine wpOrd_x (by rfl) (fun K hK => ?_)
  refine wp_append_rd _ (.tmp 42) (.tmp 45) 23 (by rfl) 0 5 i0 (.int .u8 0) 1 1 Try.underlying23 hi0 i1 i2 i3 rfl (by decide) (.slice A n c) n (bvs l) (by rfl) hown3.drew w.heap.size A2 k c2 (bvs (l2.take k)) (by rfl) hrd3.drew (bvs_one _) (by simp only [maxLen]; omega) (by omega) (Nat.zero_le _) ?_
  intro v' w4 hown4 hg4 hnil hat
  obtain ⟨A', c', rfl, hnc', hcm', -⟩ := own_form hown4
  try simp only [Nat.add_zero] at hown4 hat
  have hng : ∀ g, (Value.slice A n c).ownBlock = some g → g < w.heap.size := fun g hg => (hown.lt g hg).2
  have xB4 := xB3.drew.grown hg4 (fun e => by have := hng _ e.symm; omega)
  have kB4 := kB3.drew.grown hg4 (fun e => by have := hng _ e.symm; omega)
  have hBp := hB.below HB3 hp
  have pB4 := hBp.drew.grown hg4 (fun e => blk_not_own hBp hown3 (by decide) e.symm)
  have hM3 := hM.keep (w' := w3.drew) (HB3.block mb hM.lt)
  have hmo := hM3.not_own hown3.drew
  have hM4 := hM3.keep (hg4.block mb hM3.lt (fun e => hmo e.symm))
  have hx4 := xB4.lt
  have z0 := xB4.cell 0
  have z1 := xB4.frozen 0
  refine hK (fun W => W.cell? ⟨w1.heap.size, 0, none⟩ = some (.slice A n c)) _ _ (fun _ h => h) z0 ?_
  clear hK K
  try simp only [Act.put, List.setIfInBounds_toArray, List.set_cons_zero, List.set_cons_succ]
  iterate 1 (refine wpOrd_q (v := ?_) (by rfl) (fun W hW => ?_) ?_; rotate_left; (focus ((have hW' : _ = _ := hW); go_simp; try with_reducible rfl)); try simp only [Act.put, List.setIfInBounds_toArray, List.set_cons_zero, List.set_cons_succ])
  refine wpOrd_b (by rfl) (fun K hK => ?_)
  go_simp
  refine hK (fun _ => True) _ _ trivial ?_
  clear hK K
  try simp only [Act.put, List.setIfInBounds_toArray, List.set_cons_zero, List.set_cons_succ]
  refine wpOrd_nil ?_
  have hlt4 : w3.heap.size ≤ w4.heap.size := hg4.size
  refine at_world (fun W => Blk W w1.heap.size 83 #[.slice A' (n + k) c', .int .i64 (r : Int), .int .i64 (s : Int)] ∧ Blk W w.heap.size 41 #[.bool nm, .int .u8 (lb.toNat : Int), .int .u16 (nu.toNat : Int), .int .u16 (ge.toNat : Int)] ∧ Blk W p 80 (pcells mb nx) ∧ MapIs pkv W mb M ∧ W.ownsRow 0 5 1 (.slice A' (n + k) c') (n + k) (bvs l ++ bvs (l2.take k)) ∧ Tch w.heap.size (fun x => x = mb ∨ (Value.slice A n c).ownBlock = some x) w W) ?_ (fun w5 h5 => ?_)
  · refine ⟨by simpa using xB4.set_ 0 _, kB4.far (by show _ ≠ w1.heap.size; omega) _, pB4.far (by show _ ≠ w1.heap.size; omega) _, hM4.keep (Below.heap_setCell _ _ _ _ (by show _ ≠ w1.heap.size; have := hM.lt; omega)), own_keep hown4 (fun g hg => Below.heap_setCell _ _ _ _ (show g ≠ w1.heap.size from ?_)), ((Tch.of_below HB3.drew).trans (Tch.grown hg4 (by have := HB3.size; simpa using this) (fun k hk _ => .inr hk))).trans (Tch.setCell (fun h => absurd (show w1.heap.size < _ from h) (by omega)))⟩
    rcases hat with e | e <;> rw [e] at hg
    · have := hng _ hg; omega
    · simp only [Option.some.injEq] at hg
      have : w3.drew.heap.size = w3.heap.size := rfl
      omega
  obtain ⟨xB5, kB5, pB5, hM5, hown5, hT5⟩ := h5
  have hnb : ∀ g, (Value.slice A' (n + k) c').ownBlock = some g → g ≠ mb := by
    intro g hg e
    rcases hat with e1 | e1 <;> rw [e1] at hg
    · exact hmo (by rw [hg, e])
    · simp only [Option.some.injEq] at hg
      have h1 : w3.drew.heap.size = w3.heap.size := rfl
      have h2 := hM.lt
      have h3 := HB3.size
      omega
  clear z0 z1 y0 y1 y2 g0 g1 g2 hx3 hk3 hp3 hx4
  have p5 : w5.cell? ⟨p, 0, none⟩ = some (.map (some mb)) := pB5.cell 0
  have k0 := kB5.cell 0
  have k1 := kB5.cell 1
  have k2 := kB5.cell 2
  have k3 := kB5.cell 3
  have y0 := xB5.cell 0
  have y1 := xB5.cell 1
  have y2 := xB5.cell 2
  have hp5 := pB5.lt
  have hk5 := kB5.lt
  have hx5 := xB5.lt
  go_wp2_with fail
  obtain ⟨w7, hrun, hM7, hO7⟩ := (hM5.keep (w' := w5.drew) rfl).update pkeyEnc Try.underlying78 (nm, lb, nu, ge) (.agg #[.slice A' (n + k) c', .int .i64 (r : Int), .int .i64 (s : Int)])
  simp only [pkv] at hrun
  refine wp_region_text [0, 0, 0, 0, 0, 0, 2] (Below w5.heap.size w5) (by kernel_rfl) (by kernel_rfl) (Below.refl _ _).drew ?_
  iterate 6 (refine wpOrd_q (v := ?_) (by rfl) (fun W hW => ?_) ?_; rotate_left; (focus ((obtain ⟨hWc, hWf⟩ := bcell hW); go_simp; try with_reducible rfl)); try simp only [Act.put, List.setIfInBounds_toArray, List.set_cons_zero, List.set_cons_succ])
  refine wpOrd_b (by rfl) (fun K hK => ?_)
  go_simp
  refine hK (fun _ => True) _ _ trivial ?_
  clear hK K
  try simp only [Act.put, List.setIfInBounds_toArray, List.set_cons_zero, List.set_cons_succ]
  refine wpOrd_nil ?_
  go_wp2
  go_ret2
  refine ⟨A', c', rfl, ?_, hM7, ?_, hT5.drew.trans ((Tch.of_only hO7 hT5.size).mono (Nat.le_refl _) (fun _ _ h => .inl h))⟩
  · rw [bvs_append]
    exact own_keep hown5 (fun g hg => hO7.1.block g (hown5.lt g hg).2 (by simpa using hnb g hg))
  · rcases hat with e | e
    · exact .inl e
    · exact .inr ⟨_, e, HB3.size⟩

set_option maxRecDepth 100000 in
set_option maxHeartbeats 400000 in
theorem write_zero (A : Option Addr) (n c : Nat) (r s : Nat) (hB : Blk w p 80 (pcells mb nx)) (hM : MapIs pkv w mb M) (hv : (mget M (nm, lb, nu, ge)).getD pzero = .agg #[.slice A n c, .int .i64 (r : Int), .int .i64 (s : Int)]) (hr : r < 60000) (hs : s < 60000) (hi : (mget M (nm, lb, nu, ge)).isSome = true) (h0 : 0 < r) (l : List UInt8) (hown : w.ownsRow 0 5 1 (.slice A n c) n (bvs l)) (A2 : Option Addr) (c2 : Nat) (l2 : List UInt8) (hr2 : Rd w w.heap.size 1 A2 0 (bvs l2)) (hn : n ≤ 256)  :
    Calls Try.prog 17 #[.pointer (some ⟨p, 0, none⟩), .agg #[.bool nm, .int .u8 (lb.toNat : Int), .int .u16 (nu.toNat : Int), .int .u16 (ge.toNat : Int)], .slice A2 0 c2] w fun e w' => ∃ A' c', e = .returned (.tuple #[.int .i64 0, .int .i64 0]) ∧ w'.ownsRow 0 5 1 (.slice A' (n) c') (n) (bvs (l ++ l2.take 0)) ∧
      MapIs pkv w' mb (mput M (nm, lb, nu, ge) (.agg #[.slice A' (n) c', .int .i64 (r : Int), .int .i64 (s : Int)])) ∧
      ((Value.slice A' (n) c').ownBlock = (Value.slice A n c).ownBlock ∨ ∃ g, (Value.slice A' (n) c').ownBlock = some g ∧ w.heap.size ≤ g) ∧
      Tch w.heap.size (fun x => x = mb ∨ (Value.slice A n c).ownBlock = some x) w w' := by
  have hlk := fun W hW => look_pipe hM nm lb nu ge hv W hW
  have hr' : (r : Int) < 60000 := by omega
  have hs' : (s : Int) < 60000 := by omega
  have HV := hide hv
  have HI := hide hi
  clear hv hi
  have hz : ((r : Int) == 0) = false := by simp; omega
  have hge : (0 : Int) ≤ 256 - n := by omega
  have hb2' : (0 : Int) ≤ c2 := by omega
  obtain ⟨i0, hi0, i1, i2, i3⟩ := info_parts info_u8p
  go_enter Try.func17, Try.ntmps17
  go_wp2
  refine at_world (fun W => Below w.heap.size w W ∧ Blk W w.heap.size 41 #[.bool nm, .int .u8 (lb.toNat : Int), .int .u16 (nu.toNat : Int), .int .u16 (ge.toNat : Int)]) ⟨by go_grown, Blk.new _ _ _⟩ (fun w1 h1 => ?_)
  obtain ⟨hb1, kB⟩ := h1
  have hp := hB.lt
  have hk := kB.lt
  have hp1 : p < w1.heap.size := by have := hb1.size; omega
  have p1 : w1.cell? ⟨p, 0, none⟩ = some (.map (some mb)) := (hb1.cell (p := ⟨p, 0, none⟩) hp).trans (hB.cell 0)
  have k0 := kB.cell 0
  have k1 := kB.cell 1
  have k2 := kB.cell 2
  have k3 := kB.cell 3
  refine wp_region_text [0, 0, 0, 0, 0, 0, 1, 1] (Below w1.heap.size w1) (by kernel_rfl) (by kernel_rfl) (Below.refl _ _).drew ?_
  iterate 6 (refine wpOrd_q (v := ?_) (by rfl) (fun W hW => ?_) ?_; rotate_left; (focus ((obtain ⟨hWc, hWf⟩ := bcell hW); have hlW := hlk W (hb1.trans (hW.mono hb1.size)); go_simp; try with_reducible rfl)); try simp only [Act.put, List.setIfInBounds_toArray, List.set_cons_zero, List.set_cons_succ])
  refine wpOrd_x (by rfl) (fun K hK => ?_)
  go_simp
  refine hK _ _ _ (fun _ h => h) (by go_grown) ?_
  clear hK K
  try simp only [Act.put, List.setIfInBounds_toArray, List.set_cons_zero, List.set_cons_succ]
  refine wpOrd_x (by rfl) (fun K hK => ?_)
  go_simp
  refine hK _ _ _ (fun _ h => h) (by go_grown) ?_
  clear hK K
  try simp only [Act.put, List.setIfInBounds_toArray, List.set_cons_zero, List.set_cons_succ]
  refine wpOrd_nil ?_
  refine at_world (fun W => Below w1.heap.size w1 W ∧ Blk W w1.heap.size 83 #[.slice A n c, .int .i64 (r : Int), .int .i64 (s : Int)]) ⟨by go_grown, (Blk.new _ _ _).drew⟩ (fun w2 h2 => ?_)
  obtain ⟨hb2, xB⟩ := h2
  have hx := xB.lt
  have hk2 : w.heap.size < w2.heap.size := by have := hb2.size; omega
  have hp2 : p < w2.heap.size := by have := hb2.size; omega
  have x0 := xB.cell 0
  have x1 := xB.cell 1
  have x2 := xB.cell 2
  have f0 := xB.frozen 0
  have f1 := xB.frozen 1
  have f2 := xB.frozen 2
  have kB2 := kB.below hb2 hk
  have j0 := kB2.cell 0
  have j1 := kB2.cell 1
  have j2 := kB2.cell 2
  have j3 := kB2.cell 3
  clear hlk k0 k1 k2 k3 p1
  go_wp2_with fail
  clear j0 j1 j2 j3
  refine (has_any p mb nx M nm lb nu ge w2 A n c r s (hB.below (hb1.trans (hb2.mono hb1.size)) hp) (hM.keep ((hb1.trans (hb2.mono hb1.size)).block mb hM.lt)) HV.out).mono ?_
  rintro e w3 ⟨rfl, hb23⟩
  rw [HI.out]
  have HB3 := (hb1.trans (hb2.mono hb1.size)).trans (hb23.mono (hb1.trans (hb2.mono hb1.size)).size)
  have xB3 := xB.below hb23 hx
  have kB3 := (kB.below hb2 hk).below hb23 (by have := hb2.size; omega)
  have p3 : w3.cell? ⟨p, 0, none⟩ = some (.map (some mb)) := (HB3.cell (p := ⟨p, 0, none⟩) hp).trans (hB.cell 0)
  have hp3 : p < w3.heap.size := by have := HB3.size; omega
  have k0 := kB3.cell 0
  have k1 := kB3.cell 1
  have k2 := kB3.cell 2
  have k3 := kB3.cell 3
  have y0 := xB3.cell 0
  have y1 := xB3.cell 1
  have y2 := xB3.cell 2
  have g0 := xB3.frozen 0
  have g1 := xB3.frozen 1
  have g2 := xB3.frozen 2
  have hk3 := kB3.lt
  have hx3 := xB3.lt
  clear x0 x1 x2 f0 f1 f2
  clear k0 k1 k2 k3 p3
  go_upto_region 11 with (fail)
  go_wp2_with fail
  have hown3 : w3.ownsRow 0 5 1 (.slice A n c) n (bvs l) := own_keep hown (fun g hg => HB3.block g (hown.lt g hg).2)
  have hrd3 : Rd w3 w.heap.size 1 A2 0 (bvs (l2.take 0)) := by
    have := (hr2.below HB3).take (m := 0) (by omega)
    rwa [Nat.mul_one, bvs_take] at this
  refine wp_region_text [0, 0, 0, 0, 0, 1, 0, 2] (fun W => W.cell? ⟨w1.heap.size, 0, none⟩ = some (.slice A n c)) (by kernel_rfl) (by kernel_rfl) y0 ?_
  iterate 5 (refine wpOrd_q (v := ?_) (by rfl) (fun W hW => ?_) ?_; rotate_left; (focus ((have hW' : _ = _ := hW); go_simp; try with_reducible rfl)); try simp only [Act.put, List.setIfInBounds_toArray, List.set_cons_zero, List.set_cons_succ])
  refine wpOrd_x (by rfl) (fun K hK => ?_)
  refine wp_append_rd _ (.tmp 42) (.tmp 45) 23 (by rfl) 0 5 i0 (.int .u8 0) 1 1 Try.underlying23 hi0 i1 i2 i3 rfl (by decide) (.slice A n c) n (bvs l) (by rfl) hown3.drew w.heap.size A2 0 c2 (bvs (l2.take 0)) (by rfl) hrd3.drew (bvs_one _) (by simp only [maxLen]; omega) (by omega) (Nat.zero_le _) ?_
  intro v' w4 hown4 hg4 hnil hat
  obtain ⟨A', c', rfl, hnc', hcm', -⟩ := own_form hown4
  try simp only [Nat.add_zero] at hown4 hat
  have hng : ∀ g, (Value.slice A n c).ownBlock = some g → g < w.heap.size := fun g hg => (hown.lt g hg).2
  have xB4 := xB3.drew.grown hg4 (fun e => by have := hng _ e.symm; omega)
  have kB4 := kB3.drew.grown hg4 (fun e => by have := hng _ e.symm; omega)
  have hBp := hB.below HB3 hp
  have pB4 := hBp.drew.grown hg4 (fun e => blk_not_own hBp hown3 (by decide) e.symm)
  have hM3 := hM.keep (w' := w3.drew) (HB3.block mb hM.lt)
  have hmo := hM3.not_own hown3.drew
  have hM4 := hM3.keep (hg4.block mb hM3.lt (fun e => hmo e.symm))
  have hx4 := xB4.lt
  have z0 := xB4.cell 0
  have z1 := xB4.frozen 0
  refine hK (fun W => W.cell? ⟨w1.heap.size, 0, none⟩ = some (.slice A n c)) _ _ (fun _ h => h) z0 ?_
  clear hK K
  try simp only [Act.put, List.setIfInBounds_toArray, List.set_cons_zero, List.set_cons_succ]
  iterate 1 (refine wpOrd_q (v := ?_) (by rfl) (fun W hW => ?_) ?_; rotate_left; (focus ((have hW' : _ = _ := hW); go_simp; try with_reducible rfl)); try simp only [Act.put, List.setIfInBounds_toArray, List.set_cons_zero, List.set_cons_succ])
  refine wpOrd_b (by rfl) (fun K hK => ?_)
  go_simp
  refine hK (fun _ => True) _ _ trivial ?_
  clear hK K
  try simp only [Act.put, List.setIfInBounds_toArray, List.set_cons_zero, List.set_cons_succ]
  refine wpOrd_nil ?_
  have hlt4 : w3.heap.size ≤ w4.heap.size := hg4.size
  refine at_world (fun W => Blk W w1.heap.size 83 #[.slice A' (n) c', .int .i64 (r : Int), .int .i64 (s : Int)] ∧ Blk W w.heap.size 41 #[.bool nm, .int .u8 (lb.toNat : Int), .int .u16 (nu.toNat : Int), .int .u16 (ge.toNat : Int)] ∧ Blk W p 80 (pcells mb nx) ∧ MapIs pkv W mb M ∧ W.ownsRow 0 5 1 (.slice A' (n) c') (n) (bvs l ++ bvs (l2.take 0)) ∧ Tch w.heap.size (fun x => x = mb ∨ (Value.slice A n c).ownBlock = some x) w W) ?_ (fun w5 h5 => ?_)
  · refine ⟨by simpa using xB4.set_ 0 _, kB4.far (by show _ ≠ w1.heap.size; omega) _, pB4.far (by show _ ≠ w1.heap.size; omega) _, hM4.keep (Below.heap_setCell _ _ _ _ (by show _ ≠ w1.heap.size; have := hM.lt; omega)), own_keep hown4 (fun g hg => Below.heap_setCell _ _ _ _ (show g ≠ w1.heap.size from ?_)), ((Tch.of_below HB3.drew).trans (Tch.grown hg4 (by have := HB3.size; simpa using this) (fun k hk _ => .inr hk))).trans (Tch.setCell (fun h => absurd (show w1.heap.size < _ from h) (by omega)))⟩
    rcases hat with e | e <;> rw [e] at hg
    · have := hng _ hg; omega
    · simp only [Option.some.injEq] at hg
      have : w3.drew.heap.size = w3.heap.size := rfl
      omega
  obtain ⟨xB5, kB5, pB5, hM5, hown5, hT5⟩ := h5
  have hnb : ∀ g, (Value.slice A' (n) c').ownBlock = some g → g ≠ mb := by
    intro g hg e
    rcases hat with e1 | e1 <;> rw [e1] at hg
    · exact hmo (by rw [hg, e])
    · simp only [Option.some.injEq] at hg
      have h1 : w3.drew.heap.size = w3.heap.size := rfl
      have h2 := hM.lt
      have h3 := HB3.size
      omega
  clear z0 z1 y0 y1 y2 g0 g1 g2 hx3 hk3 hp3 hx4
  have p5 : w5.cell? ⟨p, 0, none⟩ = some (.map (some mb)) := pB5.cell 0
  have k0 := kB5.cell 0
  have k1 := kB5.cell 1
  have k2 := kB5.cell 2
  have k3 := kB5.cell 3
  have y0 := xB5.cell 0
  have y1 := xB5.cell 1
  have y2 := xB5.cell 2
  have hp5 := pB5.lt
  have hk5 := kB5.lt
  have hx5 := xB5.lt
  go_wp2_with fail
  obtain ⟨w7, hrun, hM7, hO7⟩ := (hM5.keep (w' := w5.drew) rfl).update pkeyEnc Try.underlying78 (nm, lb, nu, ge) (.agg #[.slice A' (n) c', .int .i64 (r : Int), .int .i64 (s : Int)])
  simp only [pkv] at hrun
  refine wp_region_text [0, 0, 0, 0, 0, 0, 2] (Below w5.heap.size w5) (by kernel_rfl) (by kernel_rfl) (Below.refl _ _).drew ?_
  iterate 6 (refine wpOrd_q (v := ?_) (by rfl) (fun W hW => ?_) ?_; rotate_left; (focus ((obtain ⟨hWc, hWf⟩ := bcell hW); go_simp; try with_reducible rfl)); try simp only [Act.put, List.setIfInBounds_toArray, List.set_cons_zero, List.set_cons_succ])
  refine wpOrd_b (by rfl) (fun K hK => ?_)
  go_simp
  refine hK (fun _ => True) _ _ trivial ?_
  clear hK K
  try simp only [Act.put, List.setIfInBounds_toArray, List.set_cons_zero, List.set_cons_succ]
  refine wpOrd_nil ?_
  go_wp2
  go_ret2
  refine ⟨A', c', rfl, ?_, hM7, ?_, hT5.drew.trans ((Tch.of_only hO7 hT5.size).mono (Nat.le_refl _) (fun _ _ h => .inl h))⟩
  · rw [bvs_append]
    exact own_keep hown5 (fun g hg => hO7.1.block g (hown5.lt g hg).2 (by simpa using hnb g hg))
  · rcases hat with e | e
    · exact .inl e
    · exact .inr ⟨_, e, HB3.size⟩

set_option maxRecDepth 100000 in
set_option maxHeartbeats 400000 in
theorem leave_none (rd wr : Bool) (A : Option Addr) (n c : Nat) (r s : Nat) (hB : Blk w p 80 (pcells mb nx)) (hM : MapIs pkv w mb M) (hv : (mget M (nm, lb, nu, ge)).getD pzero = .agg #[.slice A n c, .int .i64 (r : Int), .int .i64 (s : Int)]) (hi : (mget M (nm, lb, nu, ge)).isSome = false) :
    Calls Try.prog 21 #[.pointer (some ⟨p, 0, none⟩), .agg #[.bool nm, .int .u8 (lb.toNat : Int), .int .u16 (nu.toNat : Int), .int .u16 (ge.toNat : Int)], .bool rd, .bool wr] w fun e w' => e = .returned (.tuple #[]) ∧ Below w.heap.size w w' := by
  have HV := hide hv
  have HI := hide hi
  clear hv hi
  go_enter Try.func21, Try.ntmps21
  go_wp2_with fail
  have hb0 : Below w.heap.size w (w.alloc (.cells #[.bool nm, .int .u8 (lb.toNat : Int), .int .u16 (nu.toNat : Int), .int .u16 (ge.toNat : Int)] 41)) := by go_grown
  have kB0 : Blk (w.alloc (.cells #[.bool nm, .int .u8 (lb.toNat : Int), .int .u16 (nu.toNat : Int), .int .u16 (ge.toNat : Int)] 41)) w.heap.size 41 #[.bool nm, .int .u8 (lb.toNat : Int), .int .u16 (nu.toNat : Int), .int .u16 (ge.toNat : Int)] := Blk.new _ _ _
  refine (has_any p mb nx M nm lb nu ge (w.alloc (.cells #[.bool nm, .int .u8 (lb.toNat : Int), .int .u16 (nu.toNat : Int), .int .u16 (ge.toNat : Int)] 41)) A n c r s (hB.below hb0 hB.lt) (hM.keep (hb0.block mb hM.lt)) HV.out).mono ?_
  rintro e w1 ⟨rfl, hb1b⟩
  rw [HI.out]
  have hb1 := hb0.trans (hb1b.mono hb0.size)
  have kB := kB0.below hb1b (by simp)
  clear hb1b hb0 kB0
  have hp := hB.lt
  have hk := kB.lt
  have hp1 : p < w1.heap.size := by have := hb1.size; omega
  have p1 : w1.cell? ⟨p, 0, none⟩ = some (.map (some mb)) := (hb1.cell (p := ⟨p, 0, none⟩) hp).trans (hB.cell 0)
  have k0 := kB.cell 0
  have k1 := kB.cell 1
  have k2 := kB.cell 2
  have k3 := kB.cell 3
  go_wp2
  go_returns
  exact ⟨rfl, hb1⟩

set_option maxRecDepth 100000 in
set_option maxHeartbeats 400000 in
theorem leave_rw_stay (A : Option Addr) (n c : Nat) (r s : Nat) (hB : Blk w p 80 (pcells mb nx)) (hM : MapIs pkv w mb M) (hv : (mget M (nm, lb, nu, ge)).getD pzero = .agg #[.slice A n c, .int .i64 (r : Int), .int .i64 (s : Int)]) (hr : r < 60000) (hs : s < 60000) (hi : (mget M (nm, lb, nu, ge)).isSome = true) (r' : Nat) (hr1 : r' = r - 1) (s' : Nat) (hs1 : s' = s - 1) (hz : r' + s' ≠ 0) :
    Calls Try.prog 21 #[.pointer (some ⟨p, 0, none⟩), .agg #[.bool nm, .int .u8 (lb.toNat : Int), .int .u16 (nu.toNat : Int), .int .u16 (ge.toNat : Int)], .bool true, .bool true] w fun e w' => e = .returned (.tuple #[]) ∧ MapIs pkv w' mb (mput M (nm, lb, nu, ge) (.agg #[.slice A n c, .int .i64 (r' : Int), .int .i64 (s' : Int)])) ∧ Tch w.heap.size (· = mb) w w' := by
  have hlk := fun W hW => look_pipe hM nm lb nu ge hv W hW
  have hr' : (r : Int) < 60000 := by omega
  have hs' : (s : Int) < 60000 := by omega
  have HV := hide hv
  have HI := hide hi
  clear hv hi
  have hmr : (if (r : Int) - 1 < 0 then (0 : Int) else r - 1) = r' := by omega
  have hms : (if (s : Int) - 1 < 0 then (0 : Int) else s - 1) = s' := by omega
  have hz' : ((r' : Int) + s' == 0) = false := by simp; omega
  clear hz
  clear hr1
  clear hs1
  go_enter Try.func21, Try.ntmps21
  go_wp2_with fail
  have hb0 : Below w.heap.size w (w.alloc (.cells #[.bool nm, .int .u8 (lb.toNat : Int), .int .u16 (nu.toNat : Int), .int .u16 (ge.toNat : Int)] 41)) := by go_grown
  have kB0 : Blk (w.alloc (.cells #[.bool nm, .int .u8 (lb.toNat : Int), .int .u16 (nu.toNat : Int), .int .u16 (ge.toNat : Int)] 41)) w.heap.size 41 #[.bool nm, .int .u8 (lb.toNat : Int), .int .u16 (nu.toNat : Int), .int .u16 (ge.toNat : Int)] := Blk.new _ _ _
  refine (has_any p mb nx M nm lb nu ge (w.alloc (.cells #[.bool nm, .int .u8 (lb.toNat : Int), .int .u16 (nu.toNat : Int), .int .u16 (ge.toNat : Int)] 41)) A n c r s (hB.below hb0 hB.lt) (hM.keep (hb0.block mb hM.lt)) HV.out).mono ?_
  rintro e w1 ⟨rfl, hb1b⟩
  rw [HI.out]
  have hb1 := hb0.trans (hb1b.mono hb0.size)
  have kB := kB0.below hb1b (by simp)
  clear hb1b hb0 kB0
  have hp := hB.lt
  have hk := kB.lt
  have hp1 : p < w1.heap.size := by have := hb1.size; omega
  have p1 : w1.cell? ⟨p, 0, none⟩ = some (.map (some mb)) := (hb1.cell (p := ⟨p, 0, none⟩) hp).trans (hB.cell 0)
  have k0 := kB.cell 0
  have k1 := kB.cell 1
  have k2 := kB.cell 2
  have k3 := kB.cell 3
  go_wp2_with fail
  refine wp_region_text [0, 0, 0, 0, 0, 0, 1, 1] (Below w1.heap.size w1) (by kernel_rfl) (by kernel_rfl) (Below.refl _ _).drew ?_
  iterate 6 (refine wpOrd_q (v := ?_) (by rfl) (fun W hW => ?_) ?_; rotate_left; (focus ((obtain ⟨hWc, hWf⟩ := bcell hW); have hlW := hlk W (hb1.trans (hW.mono hb1.size)); go_simp; try with_reducible rfl)); try simp only [Act.put, List.setIfInBounds_toArray, List.set_cons_zero, List.set_cons_succ])
  refine wpOrd_x (by rfl) (fun K hK => ?_)
  go_simp
  refine hK _ _ _ (fun _ h => h) (by go_grown) ?_
  clear hK K
  try simp only [Act.put, List.setIfInBounds_toArray, List.set_cons_zero, List.set_cons_succ]
  refine wpOrd_x (by rfl) (fun K hK => ?_)
  go_simp
  refine hK _ _ _ (fun _ h => h) (by go_grown) ?_
  clear hK K
  try simp only [Act.put, List.setIfInBounds_toArray, List.set_cons_zero, List.set_cons_succ]
  refine wpOrd_nil ?_
  refine at_world (fun W => Below w1.heap.size w1 W ∧ Blk W w1.heap.size 83 #[.slice A n c, .int .i64 (r : Int), .int .i64 (s : Int)]) ⟨by go_grown, (Blk.new _ _ _).drew⟩ (fun w2 h2 => ?_)
  obtain ⟨hb2, xB⟩ := h2
  have hx := xB.lt
  have hk2 : w.heap.size < w2.heap.size := by have := hb2.size; omega
  have hp2 : p < w2.heap.size := by have := hb2.size; omega
  have x0 := xB.cell 0
  have x1 := xB.cell 1
  have x2 := xB.cell 2
  have f0 := xB.frozen 0
  have f1 := xB.frozen 1
  have f2 := xB.frozen 2
  clear hlk k0 k1 k2 k3 p1
  go_wp2_with fail
  refine at_world (fun W => Below w1.heap.size w1 W ∧ Blk W w1.heap.size 83 #[.slice A n c, .int .i64 (r' : Int), .int .i64 (s' : Int)]) ⟨Below.trans hb2 (Below.mono (B := w1.heap.size) (by repeat' (first | exact Below.refl _ _ | refine Below.setCell ?_ (by simp) _)) (Nat.le_refl _)), by simpa using ((xB.set_ 1 _).set_ 2 _)⟩ (fun w3 h3 => ?_)
  obtain ⟨hb3, xB3⟩ := h3
  have HB3 := hb1.trans (hb3.mono hb1.size)
  have kB3 := kB.below hb3 hk
  have p3 : w3.cell? ⟨p, 0, none⟩ = some (.map (some mb)) := (HB3.cell (p := ⟨p, 0, none⟩) hp).trans (hB.cell 0)
  have hp3 : p < w3.heap.size := by have := HB3.size; omega
  have k0 := kB3.cell 0
  have k1 := kB3.cell 1
  have k2 := kB3.cell 2
  have k3 := kB3.cell 3
  have y0 := xB3.cell 0
  have y1 := xB3.cell 1
  have y2 := xB3.cell 2
  have hk3 := kB3.lt
  have hx3 := xB3.lt
  clear x0 x1 x2 f0 f1 f2 xB kB
  obtain ⟨w5, hrun, hM5, hO5⟩ := (hM.keep (w' := w3.drew) (HB3.block mb hM.lt)).update pkeyEnc Try.underlying78 (nm, lb, nu, ge) (.agg #[.slice A n c, .int .i64 (r' : Int), .int .i64 (s' : Int)])
  simp only [pkv] at hrun
  refine wp_region_text [0, 0, 0, 0, 0, 0, 2] (Below w3.heap.size w3) (by kernel_rfl) (by kernel_rfl) (Below.refl _ _).drew ?_
  iterate 6 (refine wpOrd_q (v := ?_) (by rfl) (fun W hW => ?_) ?_; rotate_left; (focus ((obtain ⟨hWc, hWf⟩ := bcell hW); go_simp; try with_reducible rfl)); try simp only [Act.put, List.setIfInBounds_toArray, List.set_cons_zero, List.set_cons_succ])
  refine wpOrd_b (by rfl) (fun K hK => ?_)
  go_simp
  refine hK (fun _ => True) _ _ trivial ?_
  clear hK K
  try simp only [Act.put, List.setIfInBounds_toArray, List.set_cons_zero, List.set_cons_succ]
  refine wpOrd_nil ?_
  clear y0 y1 y2 k0 k1 k2 k3 p3
  have hs35 : w3.heap.size ≤ w5.heap.size := hO5.1.size
  have hmbw := hM.lt
  have xB5 := xB3.drew.grown hO5.1 (fun e => by simp only [Option.some.injEq] at e; omega)
  have y1 := xB5.cell 1
  have y2 := xB5.cell 2
  have hx5 := xB5.lt
  go_wp2
  go_end0
  exact ⟨rfl, hM5, (Tch.of_below (HB3.drew)).trans (Tch.of_only hO5 HB3.size)⟩

set_option maxRecDepth 100000 in
set_option maxHeartbeats 400000 in
theorem leave_rw_gone (A : Option Addr) (n c : Nat) (r s : Nat) (hB : Blk w p 80 (pcells mb nx)) (hM : MapIs pkv w mb M) (hv : (mget M (nm, lb, nu, ge)).getD pzero = .agg #[.slice A n c, .int .i64 (r : Int), .int .i64 (s : Int)]) (hr : r < 60000) (hs : s < 60000) (hi : (mget M (nm, lb, nu, ge)).isSome = true) (r' : Nat) (hr1 : r' = r - 1) (s' : Nat) (hs1 : s' = s - 1) (hz : r' + s' = 0) :
    Calls Try.prog 21 #[.pointer (some ⟨p, 0, none⟩), .agg #[.bool nm, .int .u8 (lb.toNat : Int), .int .u16 (nu.toNat : Int), .int .u16 (ge.toNat : Int)], .bool true, .bool true] w fun e w' => e = .returned (.tuple #[]) ∧ MapIs pkv w' mb (mdel (mput M (nm, lb, nu, ge) (.agg #[.slice A n c, .int .i64 (r' : Int), .int .i64 (s' : Int)])) (nm, lb, nu, ge)) ∧ Tch w.heap.size (· = mb) w w' := by
  have hlk := fun W hW => look_pipe hM nm lb nu ge hv W hW
  have hr' : (r : Int) < 60000 := by omega
  have hs' : (s : Int) < 60000 := by omega
  have HV := hide hv
  have HI := hide hi
  clear hv hi
  have hmr : (if (r : Int) - 1 < 0 then (0 : Int) else r - 1) = r' := by omega
  have hms : (if (s : Int) - 1 < 0 then (0 : Int) else s - 1) = s' := by omega
  have hz' : ((r' : Int) + s' == 0) = true := by simp; omega
  clear hz
  clear hr1
  clear hs1
  go_enter Try.func21, Try.ntmps21
  go_wp2_with fail
  have hb0 : Below w.heap.size w (w.alloc (.cells #[.bool nm, .int .u8 (lb.toNat : Int), .int .u16 (nu.toNat : Int), .int .u16 (ge.toNat : Int)] 41)) := by go_grown
  have kB0 : Blk (w.alloc (.cells #[.bool nm, .int .u8 (lb.toNat : Int), .int .u16 (nu.toNat : Int), .int .u16 (ge.toNat : Int)] 41)) w.heap.size 41 #[.bool nm, .int .u8 (lb.toNat : Int), .int .u16 (nu.toNat : Int), .int .u16 (ge.toNat : Int)] := Blk.new _ _ _
  refine (has_any p mb nx M nm lb nu ge (w.alloc (.cells #[.bool nm, .int .u8 (lb.toNat : Int), .int .u16 (nu.toNat : Int), .int .u16 (ge.toNat : Int)] 41)) A n c r s (hB.below hb0 hB.lt) (hM.keep (hb0.block mb hM.lt)) HV.out).mono ?_
  rintro e w1 ⟨rfl, hb1b⟩
  rw [HI.out]
  have hb1 := hb0.trans (hb1b.mono hb0.size)
  have kB := kB0.below hb1b (by simp)
  clear hb1b hb0 kB0
  have hp := hB.lt
  have hk := kB.lt
  have hp1 : p < w1.heap.size := by have := hb1.size; omega
  have p1 : w1.cell? ⟨p, 0, none⟩ = some (.map (some mb)) := (hb1.cell (p := ⟨p, 0, none⟩) hp).trans (hB.cell 0)
  have k0 := kB.cell 0
  have k1 := kB.cell 1
  have k2 := kB.cell 2
  have k3 := kB.cell 3
  go_wp2_with fail
  refine wp_region_text [0, 0, 0, 0, 0, 0, 1, 1] (Below w1.heap.size w1) (by kernel_rfl) (by kernel_rfl) (Below.refl _ _).drew ?_
  iterate 6 (refine wpOrd_q (v := ?_) (by rfl) (fun W hW => ?_) ?_; rotate_left; (focus ((obtain ⟨hWc, hWf⟩ := bcell hW); have hlW := hlk W (hb1.trans (hW.mono hb1.size)); go_simp; try with_reducible rfl)); try simp only [Act.put, List.setIfInBounds_toArray, List.set_cons_zero, List.set_cons_succ])
  refine wpOrd_x (by rfl) (fun K hK => ?_)
  go_simp
  refine hK _ _ _ (fun _ h => h) (by go_grown) ?_
  clear hK K
  try simp only [Act.put, List.setIfInBounds_toArray, List.set_cons_zero, List.set_cons_succ]
  refine wpOrd_x (by rfl) (fun K hK => ?_)
  go_simp
  refine hK _ _ _ (fun _ h => h) (by go_grown) ?_
  clear hK K
  try simp only [Act.put, List.setIfInBounds_toArray, List.set_cons_zero, List.set_cons_succ]
  refine wpOrd_nil ?_
  refine at_world (fun W => Below w1.heap.size w1 W ∧ Blk W w1.heap.size 83 #[.slice A n c, .int .i64 (r : Int), .int .i64 (s : Int)]) ⟨by go_grown, (Blk.new _ _ _).drew⟩ (fun w2 h2 => ?_)
  obtain ⟨hb2, xB⟩ := h2
  have hx := xB.lt
  have hk2 : w.heap.size < w2.heap.size := by have := hb2.size; omega
  have hp2 : p < w2.heap.size := by have := hb2.size; omega
  have x0 := xB.cell 0
  have x1 := xB.cell 1
  have x2 := xB.cell 2
  have f0 := xB.frozen 0
  have f1 := xB.frozen 1
  have f2 := xB.frozen 2
  clear hlk k0 k1 k2 k3 p1
  go_wp2_with fail
  refine at_world (fun W => Below w1.heap.size w1 W ∧ Blk W w1.heap.size 83 #[.slice A n c, .int .i64 (r' : Int), .int .i64 (s' : Int)]) ⟨Below.trans hb2 (Below.mono (B := w1.heap.size) (by repeat' (first | exact Below.refl _ _ | refine Below.setCell ?_ (by simp) _)) (Nat.le_refl _)), by simpa using ((xB.set_ 1 _).set_ 2 _)⟩ (fun w3 h3 => ?_)
  obtain ⟨hb3, xB3⟩ := h3
  have HB3 := hb1.trans (hb3.mono hb1.size)
  have kB3 := kB.below hb3 hk
  have p3 : w3.cell? ⟨p, 0, none⟩ = some (.map (some mb)) := (HB3.cell (p := ⟨p, 0, none⟩) hp).trans (hB.cell 0)
  have hp3 : p < w3.heap.size := by have := HB3.size; omega
  have k0 := kB3.cell 0
  have k1 := kB3.cell 1
  have k2 := kB3.cell 2
  have k3 := kB3.cell 3
  have y0 := xB3.cell 0
  have y1 := xB3.cell 1
  have y2 := xB3.cell 2
  have hk3 := kB3.lt
  have hx3 := xB3.lt
  clear x0 x1 x2 f0 f1 f2 xB kB
  obtain ⟨w5, hrun, hM5, hO5⟩ := (hM.keep (w' := w3.drew) (HB3.block mb hM.lt)).update pkeyEnc Try.underlying78 (nm, lb, nu, ge) (.agg #[.slice A n c, .int .i64 (r' : Int), .int .i64 (s' : Int)])
  simp only [pkv] at hrun
  refine wp_region_text [0, 0, 0, 0, 0, 0, 2] (Below w3.heap.size w3) (by kernel_rfl) (by kernel_rfl) (Below.refl _ _).drew ?_
  iterate 6 (refine wpOrd_q (v := ?_) (by rfl) (fun W hW => ?_) ?_; rotate_left; (focus ((obtain ⟨hWc, hWf⟩ := bcell hW); go_simp; try with_reducible rfl)); try simp only [Act.put, List.setIfInBounds_toArray, List.set_cons_zero, List.set_cons_succ])
  refine wpOrd_b (by rfl) (fun K hK => ?_)
  go_simp
  refine hK (fun _ => True) _ _ trivial ?_
  clear hK K
  try simp only [Act.put, List.setIfInBounds_toArray, List.set_cons_zero, List.set_cons_succ]
  refine wpOrd_nil ?_
  clear y0 y1 y2 k0 k1 k2 k3 p3
  have hs35 : w3.heap.size ≤ w5.heap.size := hO5.1.size
  have hmbw := hM.lt
  have xB5 := xB3.drew.grown hO5.1 (fun e => by simp only [Option.some.injEq] at e; omega)
  have y1 := xB5.cell 1
  have y2 := xB5.cell 2
  have hx5 := xB5.lt
  have HB5 := (Tch.of_below (S := fun x => x = mb) HB3.drew).trans (Tch.of_only hO5 HB3.size)
  have kB5 := kB3.drew.grown hO5.1 (fun e => by simp only [Option.some.injEq] at e; omega)
  have p5 : w5.cell? ⟨p, 0, none⟩ = some (.map (some mb)) := (((hB.below HB3 hp).drew).grown hO5.1 (fun e => by simp only [Option.some.injEq] at e; subst e; exact blk_not_map hB hM rfl)).cell 0
  have hp5 : p < w5.heap.size := by omega
  have k0 := kB5.cell 0
  have k1 := kB5.cell 1
  have k2 := kB5.cell 2
  have k3 := kB5.cell 3
  have hk5 := kB5.lt
  go_wp2_with fail
  obtain ⟨w7, hrun7, hM7, hO7⟩ := (hM5.keep (w' := w5.drew) rfl).delete pkeyEnc Try.underlying78 (nm, lb, nu, ge) 41 0
  simp only [pkv] at hrun7
  refine wp_region_text [0, 0, 0, 0, 0, 2] (Below w5.heap.size w5) (by kernel_rfl) (by kernel_rfl) (Below.refl _ _).drew ?_
  iterate 5 (refine wpOrd_q (v := ?_) (by rfl) (fun W hW => ?_) ?_; rotate_left; (focus ((obtain ⟨hWc, hWf⟩ := bcell hW); go_simp; try with_reducible rfl)); try simp only [Act.put, List.setIfInBounds_toArray, List.set_cons_zero, List.set_cons_succ])
  refine wpOrd_b (by rfl) (fun K hK => ?_)
  go_simp
  refine hK (fun _ => True) _ _ trivial ?_
  clear hK K
  try simp only [Act.put, List.setIfInBounds_toArray, List.set_cons_zero, List.set_cons_succ]
  refine wpOrd_nil ?_
  go_wp2
  go_end0
  exact ⟨rfl, hM7, HB5.drew.trans (Tch.of_only hO7 HB5.size)⟩

set_option maxRecDepth 100000 in
set_option maxHeartbeats 400000 in
theorem leave_r_stay (A : Option Addr) (n c : Nat) (r s : Nat) (hB : Blk w p 80 (pcells mb nx)) (hM : MapIs pkv w mb M) (hv : (mget M (nm, lb, nu, ge)).getD pzero = .agg #[.slice A n c, .int .i64 (r : Int), .int .i64 (s : Int)]) (hr : r < 60000) (hs : s < 60000) (hi : (mget M (nm, lb, nu, ge)).isSome = true) (r' : Nat) (hr1 : r' = r - 1) (hz : r' + s ≠ 0) :
    Calls Try.prog 21 #[.pointer (some ⟨p, 0, none⟩), .agg #[.bool nm, .int .u8 (lb.toNat : Int), .int .u16 (nu.toNat : Int), .int .u16 (ge.toNat : Int)], .bool true, .bool false] w fun e w' => e = .returned (.tuple #[]) ∧ MapIs pkv w' mb (mput M (nm, lb, nu, ge) (.agg #[.slice A n c, .int .i64 (r' : Int), .int .i64 (s : Int)])) ∧ Tch w.heap.size (· = mb) w w' := by
  have hlk := fun W hW => look_pipe hM nm lb nu ge hv W hW
  have hr' : (r : Int) < 60000 := by omega
  have hs' : (s : Int) < 60000 := by omega
  have HV := hide hv
  have HI := hide hi
  clear hv hi
  have hmr : (if (r : Int) - 1 < 0 then (0 : Int) else r - 1) = r' := by omega
  have hz' : ((r' : Int) + s == 0) = false := by simp; omega
  clear hz
  clear hr1
  go_enter Try.func21, Try.ntmps21
  go_wp2_with fail
  have hb0 : Below w.heap.size w (w.alloc (.cells #[.bool nm, .int .u8 (lb.toNat : Int), .int .u16 (nu.toNat : Int), .int .u16 (ge.toNat : Int)] 41)) := by go_grown
  have kB0 : Blk (w.alloc (.cells #[.bool nm, .int .u8 (lb.toNat : Int), .int .u16 (nu.toNat : Int), .int .u16 (ge.toNat : Int)] 41)) w.heap.size 41 #[.bool nm, .int .u8 (lb.toNat : Int), .int .u16 (nu.toNat : Int), .int .u16 (ge.toNat : Int)] := Blk.new _ _ _
  refine (has_any p mb nx M nm lb nu ge (w.alloc (.cells #[.bool nm, .int .u8 (lb.toNat : Int), .int .u16 (nu.toNat : Int), .int .u16 (ge.toNat : Int)] 41)) A n c r s (hB.below hb0 hB.lt) (hM.keep (hb0.block mb hM.lt)) HV.out).mono ?_
  rintro e w1 ⟨rfl, hb1b⟩
  rw [HI.out]
  have hb1 := hb0.trans (hb1b.mono hb0.size)
  have kB := kB0.below hb1b (by simp)
  clear hb1b hb0 kB0
  have hp := hB.lt
  have hk := kB.lt
  have hp1 : p < w1.heap.size := by have := hb1.size; omega
  have p1 : w1.cell? ⟨p, 0, none⟩ = some (.map (some mb)) := (hb1.cell (p := ⟨p, 0, none⟩) hp).trans (hB.cell 0)
  have k0 := kB.cell 0
  have k1 := kB.cell 1
  have k2 := kB.cell 2
  have k3 := kB.cell 3
  go_wp2_with fail
  refine wp_region_text [0, 0, 0, 0, 0, 0, 1, 1] (Below w1.heap.size w1) (by kernel_rfl) (by kernel_rfl) (Below.refl _ _).drew ?_
  iterate 6 (refine wpOrd_q (v := ?_) (by rfl) (fun W hW => ?_) ?_; rotate_left; (focus ((obtain ⟨hWc, hWf⟩ := bcell hW); have hlW := hlk W (hb1.trans (hW.mono hb1.size)); go_simp; try with_reducible rfl)); try simp only [Act.put, List.setIfInBounds_toArray, List.set_cons_zero, List.set_cons_succ])
  refine wpOrd_x (by rfl) (fun K hK => ?_)
  go_simp
  refine hK _ _ _ (fun _ h => h) (by go_grown) ?_
  clear hK K
  try simp only [Act.put, List.setIfInBounds_toArray, List.set_cons_zero, List.set_cons_succ]
  refine wpOrd_x (by rfl) (fun K hK => ?_)
  go_simp
  refine hK _ _ _ (fun _ h => h) (by go_grown) ?_
  clear hK K
  try simp only [Act.put, List.setIfInBounds_toArray, List.set_cons_zero, List.set_cons_succ]
  refine wpOrd_nil ?_
  refine at_world (fun W => Below w1.heap.size w1 W ∧ Blk W w1.heap.size 83 #[.slice A n c, .int .i64 (r : Int), .int .i64 (s : Int)]) ⟨by go_grown, (Blk.new _ _ _).drew⟩ (fun w2 h2 => ?_)
  obtain ⟨hb2, xB⟩ := h2
  have hx := xB.lt
  have hk2 : w.heap.size < w2.heap.size := by have := hb2.size; omega
  have hp2 : p < w2.heap.size := by have := hb2.size; omega
  have x0 := xB.cell 0
  have x1 := xB.cell 1
  have x2 := xB.cell 2
  have f0 := xB.frozen 0
  have f1 := xB.frozen 1
  have f2 := xB.frozen 2
  clear hlk k0 k1 k2 k3 p1
  go_wp2_with fail
  refine at_world (fun W => Below w1.heap.size w1 W ∧ Blk W w1.heap.size 83 #[.slice A n c, .int .i64 (r' : Int), .int .i64 (s : Int)]) ⟨Below.trans hb2 (Below.mono (B := w1.heap.size) (by repeat' (first | exact Below.refl _ _ | refine Below.setCell ?_ (by simp) _)) (Nat.le_refl _)), by simpa using (xB.set_ 1 _)⟩ (fun w3 h3 => ?_)
  obtain ⟨hb3, xB3⟩ := h3
  have HB3 := hb1.trans (hb3.mono hb1.size)
  have kB3 := kB.below hb3 hk
  have p3 : w3.cell? ⟨p, 0, none⟩ = some (.map (some mb)) := (HB3.cell (p := ⟨p, 0, none⟩) hp).trans (hB.cell 0)
  have hp3 : p < w3.heap.size := by have := HB3.size; omega
  have k0 := kB3.cell 0
  have k1 := kB3.cell 1
  have k2 := kB3.cell 2
  have k3 := kB3.cell 3
  have y0 := xB3.cell 0
  have y1 := xB3.cell 1
  have y2 := xB3.cell 2
  have hk3 := kB3.lt
  have hx3 := xB3.lt
  clear x0 x1 x2 f0 f1 f2 xB kB
  obtain ⟨w5, hrun, hM5, hO5⟩ := (hM.keep (w' := w3.drew) (HB3.block mb hM.lt)).update pkeyEnc Try.underlying78 (nm, lb, nu, ge) (.agg #[.slice A n c, .int .i64 (r' : Int), .int .i64 (s : Int)])
  simp only [pkv] at hrun
  refine wp_region_text [0, 0, 0, 0, 0, 0, 2] (Below w3.heap.size w3) (by kernel_rfl) (by kernel_rfl) (Below.refl _ _).drew ?_
  iterate 6 (refine wpOrd_q (v := ?_) (by rfl) (fun W hW => ?_) ?_; rotate_left; (focus ((obtain ⟨hWc, hWf⟩ := bcell hW); go_simp; try with_reducible rfl)); try simp only [Act.put, List.setIfInBounds_toArray, List.set_cons_zero, List.set_cons_succ])
  refine wpOrd_b (by rfl) (fun K hK => ?_)
  go_simp
  refine hK (fun _ => True) _ _ trivial ?_
  clear hK K
  try simp only [Act.put, List.setIfInBounds_toArray, List.set_cons_zero, List.set_cons_succ]
  refine wpOrd_nil ?_
  clear y0 y1 y2 k0 k1 k2 k3 p3
  have hs35 : w3.heap.size ≤ w5.heap.size := hO5.1.size
  have hmbw := hM.lt
  have xB5 := xB3.drew.grown hO5.1 (fun e => by simp only [Option.some.injEq] at e; omega)
  have y1 := xB5.cell 1
  have y2 := xB5.cell 2
  have hx5 := xB5.lt
  go_wp2
  go_end0
  exact ⟨rfl, hM5, (Tch.of_below (HB3.drew)).trans (Tch.of_only hO5 HB3.size)⟩

set_option maxRecDepth 100000 in
set_option maxHeartbeats 400000 in
theorem leave_r_gone (A : Option Addr) (n c : Nat) (r s : Nat) (hB : Blk w p 80 (pcells mb nx)) (hM : MapIs pkv w mb M) (hv : (mget M (nm, lb, nu, ge)).getD pzero = .agg #[.slice A n c, .int .i64 (r : Int), .int .i64 (s : Int)]) (hr : r < 60000) (hs : s < 60000) (hi : (mget M (nm, lb, nu, ge)).isSome = true) (r' : Nat) (hr1 : r' = r - 1) (hz : r' + s = 0) :
    Calls Try.prog 21 #[.pointer (some ⟨p, 0, none⟩), .agg #[.bool nm, .int .u8 (lb.toNat : Int), .int .u16 (nu.toNat : Int), .int .u16 (ge.toNat : Int)], .bool true, .bool false] w fun e w' => e = .returned (.tuple #[]) ∧ MapIs pkv w' mb (mdel (mput M (nm, lb, nu, ge) (.agg #[.slice A n c, .int .i64 (r' : Int), .int .i64 (s : Int)])) (nm, lb, nu, ge)) ∧ Tch w.heap.size (· = mb) w w' := by
  have hlk := fun W hW => look_pipe hM nm lb nu ge hv W hW
  have hr' : (r : Int) < 60000 := by omega
  have hs' : (s : Int) < 60000 := by omega
  have HV := hide hv
  have HI := hide hi
  clear hv hi
  have hmr : (if (r : Int) - 1 < 0 then (0 : Int) else r - 1) = r' := by omega
  have hz' : ((r' : Int) + s == 0) = true := by simp; omega
  clear hz
  clear hr1
  go_enter Try.func21, Try.ntmps21
  go_wp2_with fail
  have hb0 : Below w.heap.size w (w.alloc (.cells #[.bool nm, .int .u8 (lb.toNat : Int), .int .u16 (nu.toNat : Int), .int .u16 (ge.toNat : Int)] 41)) := by go_grown
  have kB0 : Blk (w.alloc (.cells #[.bool nm, .int .u8 (lb.toNat : Int), .int .u16 (nu.toNat : Int), .int .u16 (ge.toNat : Int)] 41)) w.heap.size 41 #[.bool nm, .int .u8 (lb.toNat : Int), .int .u16 (nu.toNat : Int), .int .u16 (ge.toNat : Int)] := Blk.new _ _ _
  refine (has_any p mb nx M nm lb nu ge (w.alloc (.cells #[.bool nm, .int .u8 (lb.toNat : Int), .int .u16 (nu.toNat : Int), .int .u16 (ge.toNat : Int)] 41)) A n c r s (hB.below hb0 hB.lt) (hM.keep (hb0.block mb hM.lt)) HV.out).mono ?_
  rintro e w1 ⟨rfl, hb1b⟩
  rw [HI.out]
  have hb1 := hb0.trans (hb1b.mono hb0.size)
  have kB := kB0.below hb1b (by simp)
  clear hb1b hb0 kB0
  have hp := hB.lt
  have hk := kB.lt
  have hp1 : p < w1.heap.size := by have := hb1.size; omega
  have p1 : w1.cell? ⟨p, 0, none⟩ = some (.map (some mb)) := (hb1.cell (p := ⟨p, 0, none⟩) hp).trans (hB.cell 0)
  have k0 := kB.cell 0
  have k1 := kB.cell 1
  have k2 := kB.cell 2
  have k3 := kB.cell 3
  go_wp2_with fail
  refine wp_region_text [0, 0, 0, 0, 0, 0, 1, 1] (Below w1.heap.size w1) (by kernel_rfl) (by kernel_rfl) (Below.refl _ _).drew ?_
  iterate 6 (refine wpOrd_q (v := ?_) (by rfl) (fun W hW => ?_) ?_; rotate_left; (focus ((obtain ⟨hWc, hWf⟩ := bcell hW); have hlW := hlk W (hb1.trans (hW.mono hb1.size)); go_simp; try with_reducible rfl)); try simp only [Act.put, List.setIfInBounds_toArray, List.set_cons_zero, List.set_cons_succ])
  refine wpOrd_x (by rfl) (fun K hK => ?_)
  go_simp
  refine hK _ _ _ (fun _ h => h) (by go_grown) ?_
  clear hK K
  try simp only [Act.put, List.setIfInBounds_toArray, List.set_cons_zero, List.set_cons_succ]
  refine wpOrd_x (by rfl) (fun K hK => ?_)
  go_simp
  refine hK _ _ _ (fun _ h => h) (by go_grown) ?_
  clear hK K
  try simp only [Act.put, List.setIfInBounds_toArray, List.set_cons_zero, List.set_cons_succ]
  refine wpOrd_nil ?_
  refine at_world (fun W => Below w1.heap.size w1 W ∧ Blk W w1.heap.size 83 #[.slice A n c, .int .i64 (r : Int), .int .i64 (s : Int)]) ⟨by go_grown, (Blk.new _ _ _).drew⟩ (fun w2 h2 => ?_)
  obtain ⟨hb2, xB⟩ := h2
  have hx := xB.lt
  have hk2 : w.heap.size < w2.heap.size := by have := hb2.size; omega
  have hp2 : p < w2.heap.size := by have := hb2.size; omega
  have x0 := xB.cell 0
  have x1 := xB.cell 1
  have x2 := xB.cell 2
  have f0 := xB.frozen 0
  have f1 := xB.frozen 1
  have f2 := xB.frozen 2
  clear hlk k0 k1 k2 k3 p1
  go_wp2_with fail
  refine at_world (fun W => Below w1.heap.size w1 W ∧ Blk W w1.heap.size 83 #[.slice A n c, .int .i64 (r' : Int), .int .i64 (s : Int)]) ⟨Below.trans hb2 (Below.mono (B := w1.heap.size) (by repeat' (first | exact Below.refl _ _ | refine Below.setCell ?_ (by simp) _)) (Nat.le_refl _)), by simpa using (xB.set_ 1 _)⟩ (fun w3 h3 => ?_)
  obtain ⟨hb3, xB3⟩ := h3
  have HB3 := hb1.trans (hb3.mono hb1.size)
  have kB3 := kB.below hb3 hk
  have p3 : w3.cell? ⟨p, 0, none⟩ = some (.map (some mb)) := (HB3.cell (p := ⟨p, 0, none⟩) hp).trans (hB.cell 0)
  have hp3 : p < w3.heap.size := by have := HB3.size; omega
  have k0 := kB3.cell 0
  have k1 := kB3.cell 1
  have k2 := kB3.cell 2
  have k3 := kB3.cell 3
  have y0 := xB3.cell 0
  have y1 := xB3.cell 1
  have y2 := xB3.cell 2
  have hk3 := kB3.lt
  have hx3 := xB3.lt
  clear x0 x1 x2 f0 f1 f2 xB kB
  obtain ⟨w5, hrun, hM5, hO5⟩ := (hM.keep (w' := w3.drew) (HB3.block mb hM.lt)).update pkeyEnc Try.underlying78 (nm, lb, nu, ge) (.agg #[.slice A n c, .int .i64 (r' : Int), .int .i64 (s : Int)])
  simp only [pkv] at hrun
  refine wp_region_text [0, 0, 0, 0, 0, 0, 2] (Below w3.heap.size w3) (by kernel_rfl) (by kernel_rfl) (Below.refl _ _).drew ?_
  iterate 6 (refine wpOrd_q (v := ?_) (by rfl) (fun W hW => ?_) ?_; rotate_left; (focus ((obtain ⟨hWc, hWf⟩ := bcell hW); go_simp; try with_reducible rfl)); try simp only [Act.put, List.setIfInBounds_toArray, List.set_cons_zero, List.set_cons_succ])
  refine wpOrd_b (by rfl) (fun K hK => ?_)
  go_simp
  refine hK (fun _ => True) _ _ trivial ?_
  clear hK K
  try simp only [Act.put, List.setIfInBounds_toArray, List.set_cons_zero, List.set_cons_succ]
  refine wpOrd_nil ?_
  clear y0 y1 y2 k0 k1 k2 k3 p3
  have hs35 : w3.heap.size ≤ w5.heap.size := hO5.1.size
  have hmbw := hM.lt
  have xB5 := xB3.drew.grown hO5.1 (fun e => by simp only [Option.some.injEq] at e; omega)
  have y1 := xB5.cell 1
  have y2 := xB5.cell 2
  have hx5 := xB5.lt
  have HB5 := (Tch.of_below (S := fun x => x = mb) HB3.drew).trans (Tch.of_only hO5 HB3.size)
  have kB5 := kB3.drew.grown hO5.1 (fun e => by simp only [Option.some.injEq] at e; omega)
  have p5 : w5.cell? ⟨p, 0, none⟩ = some (.map (some mb)) := (((hB.below HB3 hp).drew).grown hO5.1 (fun e => by simp only [Option.some.injEq] at e; subst e; exact blk_not_map hB hM rfl)).cell 0
  have hp5 : p < w5.heap.size := by omega
  have k0 := kB5.cell 0
  have k1 := kB5.cell 1
  have k2 := kB5.cell 2
  have k3 := kB5.cell 3
  have hk5 := kB5.lt
  go_wp2_with fail
  obtain ⟨w7, hrun7, hM7, hO7⟩ := (hM5.keep (w' := w5.drew) rfl).delete pkeyEnc Try.underlying78 (nm, lb, nu, ge) 41 0
  simp only [pkv] at hrun7
  refine wp_region_text [0, 0, 0, 0, 0, 2] (Below w5.heap.size w5) (by kernel_rfl) (by kernel_rfl) (Below.refl _ _).drew ?_
  iterate 5 (refine wpOrd_q (v := ?_) (by rfl) (fun W hW => ?_) ?_; rotate_left; (focus ((obtain ⟨hWc, hWf⟩ := bcell hW); go_simp; try with_reducible rfl)); try simp only [Act.put, List.setIfInBounds_toArray, List.set_cons_zero, List.set_cons_succ])
  refine wpOrd_b (by rfl) (fun K hK => ?_)
  go_simp
  refine hK (fun _ => True) _ _ trivial ?_
  clear hK K
  try simp only [Act.put, List.setIfInBounds_toArray, List.set_cons_zero, List.set_cons_succ]
  refine wpOrd_nil ?_
  go_wp2
  go_end0
  exact ⟨rfl, hM7, HB5.drew.trans (Tch.of_only hO7 HB5.size)⟩

set_option maxRecDepth 100000 in
set_option maxHeartbeats 400000 in
theorem leave_w_stay (A : Option Addr) (n c : Nat) (r s : Nat) (hB : Blk w p 80 (pcells mb nx)) (hM : MapIs pkv w mb M) (hv : (mget M (nm, lb, nu, ge)).getD pzero = .agg #[.slice A n c, .int .i64 (r : Int), .int .i64 (s : Int)]) (hr : r < 60000) (hs : s < 60000) (hi : (mget M (nm, lb, nu, ge)).isSome = true) (s' : Nat) (hs1 : s' = s - 1) (hz : r + s' ≠ 0) :
    Calls Try.prog 21 #[.pointer (some ⟨p, 0, none⟩), .agg #[.bool nm, .int .u8 (lb.toNat : Int), .int .u16 (nu.toNat : Int), .int .u16 (ge.toNat : Int)], .bool false, .bool true] w fun e w' => e = .returned (.tuple #[]) ∧ MapIs pkv w' mb (mput M (nm, lb, nu, ge) (.agg #[.slice A n c, .int .i64 (r : Int), .int .i64 (s' : Int)])) ∧ Tch w.heap.size (· = mb) w w' := by
  have hlk := fun W hW => look_pipe hM nm lb nu ge hv W hW
  have hr' : (r : Int) < 60000 := by omega
  have hs' : (s : Int) < 60000 := by omega
  have HV := hide hv
  have HI := hide hi
  clear hv hi
  have hms : (if (s : Int) - 1 < 0 then (0 : Int) else s - 1) = s' := by omega
  have hz' : ((r : Int) + s' == 0) = false := by simp; omega
  clear hz
  clear hs1
  go_enter Try.func21, Try.ntmps21
  go_wp2_with fail
  have hb0 : Below w.heap.size w (w.alloc (.cells #[.bool nm, .int .u8 (lb.toNat : Int), .int .u16 (nu.toNat : Int), .int .u16 (ge.toNat : Int)] 41)) := by go_grown
  have kB0 : Blk (w.alloc (.cells #[.bool nm, .int .u8 (lb.toNat : Int), .int .u16 (nu.toNat : Int), .int .u16 (ge.toNat : Int)] 41)) w.heap.size 41 #[.bool nm, .int .u8 (lb.toNat : Int), .int .u16 (nu.toNat : Int), .int .u16 (ge.toNat : Int)] := Blk.new _ _ _
  refine (has_any p mb nx M nm lb nu ge (w.alloc (.cells #[.bool nm, .int .u8 (lb.toNat : Int), .int .u16 (nu.toNat : Int), .int .u16 (ge.toNat : Int)] 41)) A n c r s (hB.below hb0 hB.lt) (hM.keep (hb0.block mb hM.lt)) HV.out).mono ?_
  rintro e w1 ⟨rfl, hb1b⟩
  rw [HI.out]
  have hb1 := hb0.trans (hb1b.mono hb0.size)
  have kB := kB0.below hb1b (by simp)
  clear hb1b hb0 kB0
  have hp := hB.lt
  have hk := kB.lt
  have hp1 : p < w1.heap.size := by have := hb1.size; omega
  have p1 : w1.cell? ⟨p, 0, none⟩ = some (.map (some mb)) := (hb1.cell (p := ⟨p, 0, none⟩) hp).trans (hB.cell 0)
  have k0 := kB.cell 0
  have k1 := kB.cell 1
  have k2 := kB.cell 2
  have k3 := kB.cell 3
  go_wp2_with fail
  refine wp_region_text [0, 0, 0, 0, 0, 0, 1, 1] (Below w1.heap.size w1) (by kernel_rfl) (by kernel_rfl) (Below.refl _ _).drew ?_
  iterate 6 (refine wpOrd_q (v := ?_) (by rfl) (fun W hW => ?_) ?_; rotate_left; (focus ((obtain ⟨hWc, hWf⟩ := bcell hW); have hlW := hlk W (hb1.trans (hW.mono hb1.size)); go_simp; try with_reducible rfl)); try simp only [Act.put, List.setIfInBounds_toArray, List.set_cons_zero, List.set_cons_succ])
  refine wpOrd_x (by rfl) (fun K hK => ?_)
  go_simp
  refine hK _ _ _ (fun _ h => h) (by go_grown) ?_
  clear hK K
  try simp only [Act.put, List.setIfInBounds_toArray, List.set_cons_zero, List.set_cons_succ]
  refine wpOrd_x (by rfl) (fun K hK => ?_)
  go_simp
  refine hK _ _ _ (fun _ h => h) (by go_grown) ?_
  clear hK K
  try simp only [Act.put, List.setIfInBounds_toArray, List.set_cons_zero, List.set_cons_succ]
  refine wpOrd_nil ?_
  refine at_world (fun W => Below w1.heap.size w1 W ∧ Blk W w1.heap.size 83 #[.slice A n c, .int .i64 (r : Int), .int .i64 (s : Int)]) ⟨by go_grown, (Blk.new _ _ _).drew⟩ (fun w2 h2 => ?_)
  obtain ⟨hb2, xB⟩ := h2
  have hx := xB.lt
  have hk2 : w.heap.size < w2.heap.size := by have := hb2.size; omega
  have hp2 : p < w2.heap.size := by have := hb2.size; omega
  have x0 := xB.cell 0
  have x1 := xB.cell 1
  have x2 := xB.cell 2
  have f0 := xB.frozen 0
  have f1 := xB.frozen 1
  have f2 := xB.frozen 2
  clear hlk k0 k1 k2 k3 p1
  go_wp2_with fail
  refine at_world (fun W => Below w1.heap.size w1 W ∧ Blk W w1.heap.size 83 #[.slice A n c, .int .i64 (r : Int), .int .i64 (s' : Int)]) ⟨Below.trans hb2 (Below.mono (B := w1.heap.size) (by repeat' (first | exact Below.refl _ _ | refine Below.setCell ?_ (by simp) _)) (Nat.le_refl _)), by simpa using (xB.set_ 2 _)⟩ (fun w3 h3 => ?_)
  obtain ⟨hb3, xB3⟩ := h3
  have HB3 := hb1.trans (hb3.mono hb1.size)
  have kB3 := kB.below hb3 hk
  have p3 : w3.cell? ⟨p, 0, none⟩ = some (.map (some mb)) := (HB3.cell (p := ⟨p, 0, none⟩) hp).trans (hB.cell 0)
  have hp3 : p < w3.heap.size := by have := HB3.size; omega
  have k0 := kB3.cell 0
  have k1 := kB3.cell 1
  have k2 := kB3.cell 2
  have k3 := kB3.cell 3
  have y0 := xB3.cell 0
  have y1 := xB3.cell 1
  have y2 := xB3.cell 2
  have hk3 := kB3.lt
  have hx3 := xB3.lt
  clear x0 x1 x2 f0 f1 f2 xB kB
  obtain ⟨w5, hrun, hM5, hO5⟩ := (hM.keep (w' := w3.drew) (HB3.block mb hM.lt)).update pkeyEnc Try.underlying78 (nm, lb, nu, ge) (.agg #[.slice A n c, .int .i64 (r : Int), .int .i64 (s' : Int)])
  simp only [pkv] at hrun
  refine wp_region_text [0, 0, 0, 0, 0, 0, 2] (Below w3.heap.size w3) (by kernel_rfl) (by kernel_rfl) (Below.refl _ _).drew ?_
  iterate 6 (refine wpOrd_q (v := ?_) (by rfl) (fun W hW => ?_) ?_; rotate_left; (focus ((obtain ⟨hWc, hWf⟩ := bcell hW); go_simp; try with_reducible rfl)); try simp only [Act.put, List.setIfInBounds_toArray, List.set_cons_zero, List.set_cons_succ])
  refine wpOrd_b (by rfl) (fun K hK => ?_)
  go_simp
  refine hK (fun _ => True) _ _ trivial ?_
  clear hK K
  try simp only [Act.put, List.setIfInBounds_toArray, List.set_cons_zero, List.set_cons_succ]
  refine wpOrd_nil ?_
  clear y0 y1 y2 k0 k1 k2 k3 p3
  have hs35 : w3.heap.size ≤ w5.heap.size := hO5.1.size
  have hmbw := hM.lt
  have xB5 := xB3.drew.grown hO5.1 (fun e => by simp only [Option.some.injEq] at e; omega)
  have y1 := xB5.cell 1
  have y2 := xB5.cell 2
  have hx5 := xB5.lt
  go_wp2
  go_end0
  exact ⟨rfl, hM5, (Tch.of_below (HB3.drew)).trans (Tch.of_only hO5 HB3.size)⟩

set_option maxRecDepth 100000 in
set_option maxHeartbeats 400000 in
theorem leave_w_gone (A : Option Addr) (n c : Nat) (r s : Nat) (hB : Blk w p 80 (pcells mb nx)) (hM : MapIs pkv w mb M) (hv : (mget M (nm, lb, nu, ge)).getD pzero = .agg #[.slice A n c, .int .i64 (r : Int), .int .i64 (s : Int)]) (hr : r < 60000) (hs : s < 60000) (hi : (mget M (nm, lb, nu, ge)).isSome = true) (s' : Nat) (hs1 : s' = s - 1) (hz : r + s' = 0) :
    Calls Try.prog 21 #[.pointer (some ⟨p, 0, none⟩), .agg #[.bool nm, .int .u8 (lb.toNat : Int), .int .u16 (nu.toNat : Int), .int .u16 (ge.toNat : Int)], .bool false, .bool true] w fun e w' => e = .returned (.tuple #[]) ∧ MapIs pkv w' mb (mdel (mput M (nm, lb, nu, ge) (.agg #[.slice A n c, .int .i64 (r : Int), .int .i64 (s' : Int)])) (nm, lb, nu, ge)) ∧ Tch w.heap.size (· = mb) w w' := by
  have hlk := fun W hW => look_pipe hM nm lb nu ge hv W hW
  have hr' : (r : Int) < 60000 := by omega
  have hs' : (s : Int) < 60000 := by omega
  have HV := hide hv
  have HI := hide hi
  clear hv hi
  have hms : (if (s : Int) - 1 < 0 then (0 : Int) else s - 1) = s' := by omega
  have hz' : ((r : Int) + s' == 0) = true := by simp; omega
  clear hz
  clear hs1
  go_enter Try.func21, Try.ntmps21
  go_wp2_with fail
  have hb0 : Below w.heap.size w (w.alloc (.cells #[.bool nm, .int .u8 (lb.toNat : Int), .int .u16 (nu.toNat : Int), .int .u16 (ge.toNat : Int)] 41)) := by go_grown
  have kB0 : Blk (w.alloc (.cells #[.bool nm, .int .u8 (lb.toNat : Int), .int .u16 (nu.toNat : Int), .int .u16 (ge.toNat : Int)] 41)) w.heap.size 41 #[.bool nm, .int .u8 (lb.toNat : Int), .int .u16 (nu.toNat : Int), .int .u16 (ge.toNat : Int)] := Blk.new _ _ _
  refine (has_any p mb nx M nm lb nu ge (w.alloc (.cells #[.bool nm, .int .u8 (lb.toNat : Int), .int .u16 (nu.toNat : Int), .int .u16 (ge.toNat : Int)] 41)) A n c r s (hB.below hb0 hB.lt) (hM.keep (hb0.block mb hM.lt)) HV.out).mono ?_
  rintro e w1 ⟨rfl, hb1b⟩
  rw [HI.out]
  have hb1 := hb0.trans (hb1b.mono hb0.size)
  have kB := kB0.below hb1b (by simp)
  clear hb1b hb0 kB0
  have hp := hB.lt
  have hk := kB.lt
  have hp1 : p < w1.heap.size := by have := hb1.size; omega
  have p1 : w1.cell? ⟨p, 0, none⟩ = some (.map (some mb)) := (hb1.cell (p := ⟨p, 0, none⟩) hp).trans (hB.cell 0)
  have k0 := kB.cell 0
  have k1 := kB.cell 1
  have k2 := kB.cell 2
  have k3 := kB.cell 3
  go_wp2_with fail
  refine wp_region_text [0, 0, 0, 0, 0, 0, 1, 1] (Below w1.heap.size w1) (by kernel_rfl) (by kernel_rfl) (Below.refl _ _).drew ?_
  iterate 6 (refine wpOrd_q (v := ?_) (by rfl) (fun W hW => ?_) ?_; rotate_left; (focus ((obtain ⟨hWc, hWf⟩ := bcell hW); have hlW := hlk W (hb1.trans (hW.mono hb1.size)); go_simp; try with_reducible rfl)); try simp only [Act.put, List.setIfInBounds_toArray, List.set_cons_zero, List.set_cons_succ])
  refine wpOrd_x (by rfl) (fun K hK => ?_)
  go_simp
  refine hK _ _ _ (fun _ h => h) (by go_grown) ?_
  clear hK K
  try simp only [Act.put, List.setIfInBounds_toArray, List.set_cons_zero, List.set_cons_succ]
  refine wpOrd_x (by rfl) (fun K hK => ?_)
  go_simp
  refine hK _ _ _ (fun _ h => h) (by go_grown) ?_
  clear hK K
  try simp only [Act.put, List.setIfInBounds_toArray, List.set_cons_zero, List.set_cons_succ]
  refine wpOrd_nil ?_
  refine at_world (fun W => Below w1.heap.size w1 W ∧ Blk W w1.heap.size 83 #[.slice A n c, .int .i64 (r : Int), .int .i64 (s : Int)]) ⟨by go_grown, (Blk.new _ _ _).drew⟩ (fun w2 h2 => ?_)
  obtain ⟨hb2, xB⟩ := h2
  have hx := xB.lt
  have hk2 : w.heap.size < w2.heap.size := by have := hb2.size; omega
  have hp2 : p < w2.heap.size := by have := hb2.size; omega
  have x0 := xB.cell 0
  have x1 := xB.cell 1
  have x2 := xB.cell 2
  have f0 := xB.frozen 0
  have f1 := xB.frozen 1
  have f2 := xB.frozen 2
  clear hlk k0 k1 k2 k3 p1
  go_wp2_with fail
  refine at_world (fun W => Below w1.heap.size w1 W ∧ Blk W w1.heap.size 83 #[.slice A n c, .int .i64 (r : Int), .int .i64 (s' : Int)]) ⟨Below.trans hb2 (Below.mono (B := w1.heap.size) (by repeat' (first | exact Below.refl _ _ | refine Below.setCell ?_ (by simp) _)) (Nat.le_refl _)), by simpa using (xB.set_ 2 _)⟩ (fun w3 h3 => ?_)
  obtain ⟨hb3, xB3⟩ := h3
  have HB3 := hb1.trans (hb3.mono hb1.size)
  have kB3 := kB.below hb3 hk
  have p3 : w3.cell? ⟨p, 0, none⟩ = some (.map (some mb)) := (HB3.cell (p := ⟨p, 0, none⟩) hp).trans (hB.cell 0)
  have hp3 : p < w3.heap.size := by have := HB3.size; omega
  have k0 := kB3.cell 0
  have k1 := kB3.cell 1
  have k2 := kB3.cell 2
  have k3 := kB3.cell 3
  have y0 := xB3.cell 0
  have y1 := xB3.cell 1
  have y2 := xB3.cell 2
  have hk3 := kB3.lt
  have hx3 := xB3.lt
  clear x0 x1 x2 f0 f1 f2 xB kB
  obtain ⟨w5, hrun, hM5, hO5⟩ := (hM.keep (w' := w3.drew) (HB3.block mb hM.lt)).update pkeyEnc Try.underlying78 (nm, lb, nu, ge) (.agg #[.slice A n c, .int .i64 (r : Int), .int .i64 (s' : Int)])
  simp only [pkv] at hrun
  refine wp_region_text [0, 0, 0, 0, 0, 0, 2] (Below w3.heap.size w3) (by kernel_rfl) (by kernel_rfl) (Below.refl _ _).drew ?_
  iterate 6 (refine wpOrd_q (v := ?_) (by rfl) (fun W hW => ?_) ?_; rotate_left; (focus ((obtain ⟨hWc, hWf⟩ := bcell hW); go_simp; try with_reducible rfl)); try simp only [Act.put, List.setIfInBounds_toArray, List.set_cons_zero, List.set_cons_succ])
  refine wpOrd_b (by rfl) (fun K hK => ?_)
  go_simp
  refine hK (fun _ => True) _ _ trivial ?_
  clear hK K
  try simp only [Act.put, List.setIfInBounds_toArray, List.set_cons_zero, List.set_cons_succ]
  refine wpOrd_nil ?_
  clear y0 y1 y2 k0 k1 k2 k3 p3
  have hs35 : w3.heap.size ≤ w5.heap.size := hO5.1.size
  have hmbw := hM.lt
  have xB5 := xB3.drew.grown hO5.1 (fun e => by simp only [Option.some.injEq] at e; omega)
  have y1 := xB5.cell 1
  have y2 := xB5.cell 2
  have hx5 := xB5.lt
  have HB5 := (Tch.of_below (S := fun x => x = mb) HB3.drew).trans (Tch.of_only hO5 HB3.size)
  have kB5 := kB3.drew.grown hO5.1 (fun e => by simp only [Option.some.injEq] at e; omega)
  have p5 : w5.cell? ⟨p, 0, none⟩ = some (.map (some mb)) := (((hB.below HB3 hp).drew).grown hO5.1 (fun e => by simp only [Option.some.injEq] at e; subst e; exact blk_not_map hB hM rfl)).cell 0
  have hp5 : p < w5.heap.size := by omega
  have k0 := kB5.cell 0
  have k1 := kB5.cell 1
  have k2 := kB5.cell 2
  have k3 := kB5.cell 3
  have hk5 := kB5.lt
  go_wp2_with fail
  obtain ⟨w7, hrun7, hM7, hO7⟩ := (hM5.keep (w' := w5.drew) rfl).delete pkeyEnc Try.underlying78 (nm, lb, nu, ge) 41 0
  simp only [pkv] at hrun7
  refine wp_region_text [0, 0, 0, 0, 0, 2] (Below w5.heap.size w5) (by kernel_rfl) (by kernel_rfl) (Below.refl _ _).drew ?_
  iterate 5 (refine wpOrd_q (v := ?_) (by rfl) (fun W hW => ?_) ?_; rotate_left; (focus ((obtain ⟨hWc, hWf⟩ := bcell hW); go_simp; try with_reducible rfl)); try simp only [Act.put, List.setIfInBounds_toArray, List.set_cons_zero, List.set_cons_succ])
  refine wpOrd_b (by rfl) (fun K hK => ?_)
  go_simp
  refine hK (fun _ => True) _ _ trivial ?_
  clear hK K
  try simp only [Act.put, List.setIfInBounds_toArray, List.set_cons_zero, List.set_cons_succ]
  refine wpOrd_nil ?_
  go_wp2
  go_end0
  exact ⟨rfl, hM7, HB5.drew.trans (Tch.of_only hO7 HB5.size)⟩

set_option maxRecDepth 100000 in
set_option maxHeartbeats 400000 in
theorem leave__stay (A : Option Addr) (n c : Nat) (r s : Nat) (hB : Blk w p 80 (pcells mb nx)) (hM : MapIs pkv w mb M) (hv : (mget M (nm, lb, nu, ge)).getD pzero = .agg #[.slice A n c, .int .i64 (r : Int), .int .i64 (s : Int)]) (hr : r < 60000) (hs : s < 60000) (hi : (mget M (nm, lb, nu, ge)).isSome = true) (hz : r + s ≠ 0) :
    Calls Try.prog 21 #[.pointer (some ⟨p, 0, none⟩), .agg #[.bool nm, .int .u8 (lb.toNat : Int), .int .u16 (nu.toNat : Int), .int .u16 (ge.toNat : Int)], .bool false, .bool false] w fun e w' => e = .returned (.tuple #[]) ∧ MapIs pkv w' mb (mput M (nm, lb, nu, ge) (.agg #[.slice A n c, .int .i64 (r : Int), .int .i64 (s : Int)])) ∧ Tch w.heap.size (· = mb) w w' := by
  have hlk := fun W hW => look_pipe hM nm lb nu ge hv W hW
  have hr' : (r : Int) < 60000 := by omega
  have hs' : (s : Int) < 60000 := by omega
  have HV := hide hv
  have HI := hide hi
  clear hv hi
  have hz' : ((r : Int) + s == 0) = false := by simp; omega
  clear hz
  go_enter Try.func21, Try.ntmps21
  go_wp2_with fail
  have hb0 : Below w.heap.size w (w.alloc (.cells #[.bool nm, .int .u8 (lb.toNat : Int), .int .u16 (nu.toNat : Int), .int .u16 (ge.toNat : Int)] 41)) := by go_grown
  have kB0 : Blk (w.alloc (.cells #[.bool nm, .int .u8 (lb.toNat : Int), .int .u16 (nu.toNat : Int), .int .u16 (ge.toNat : Int)] 41)) w.heap.size 41 #[.bool nm, .int .u8 (lb.toNat : Int), .int .u16 (nu.toNat : Int), .int .u16 (ge.toNat : Int)] := Blk.new _ _ _
  refine (has_any p mb nx M nm lb nu ge (w.alloc (.cells #[.bool nm, .int .u8 (lb.toNat : Int), .int .u16 (nu.toNat : Int), .int .u16 (ge.toNat : Int)] 41)) A n c r s (hB.below hb0 hB.lt) (hM.keep (hb0.block mb hM.lt)) HV.out).mono ?_
  rintro e w1 ⟨rfl, hb1b⟩
  rw [HI.out]
  have hb1 := hb0.trans (hb1b.mono hb0.size)
  have kB := kB0.below hb1b (by simp)
  clear hb1b hb0 kB0
  have hp := hB.lt
  have hk := kB.lt
  have hp1 : p < w1.heap.size := by have := hb1.size; omega
  have p1 : w1.cell? ⟨p, 0, none⟩ = some (.map (some mb)) := (hb1.cell (p := ⟨p, 0, none⟩) hp).trans (hB.cell 0)
  have k0 := kB.cell 0
  have k1 := kB.cell 1
  have k2 := kB.cell 2
  have k3 := kB.cell 3
  go_wp2_with fail
  refine wp_region_text [0, 0, 0, 0, 0, 0, 1, 1] (Below w1.heap.size w1) (by kernel_rfl) (by kernel_rfl) (Below.refl _ _).drew ?_
  iterate 6 (refine wpOrd_q (v := ?_) (by rfl) (fun W hW => ?_) ?_; rotate_left; (focus ((obtain ⟨hWc, hWf⟩ := bcell hW); have hlW := hlk W (hb1.trans (hW.mono hb1.size)); go_simp; try with_reducible rfl)); try simp only [Act.put, List.setIfInBounds_toArray, List.set_cons_zero, List.set_cons_succ])
  refine wpOrd_x (by rfl) (fun K hK => ?_)
  go_simp
  refine hK _ _ _ (fun _ h => h) (by go_grown) ?_
  clear hK K
  try simp only [Act.put, List.setIfInBounds_toArray, List.set_cons_zero, List.set_cons_succ]
  refine wpOrd_x (by rfl) (fun K hK => ?_)
  go_simp
  refine hK _ _ _ (fun _ h => h) (by go_grown) ?_
  clear hK K
  try simp only [Act.put, List.setIfInBounds_toArray, List.set_cons_zero, List.set_cons_succ]
  refine wpOrd_nil ?_
  refine at_world (fun W => Below w1.heap.size w1 W ∧ Blk W w1.heap.size 83 #[.slice A n c, .int .i64 (r : Int), .int .i64 (s : Int)]) ⟨by go_grown, (Blk.new _ _ _).drew⟩ (fun w2 h2 => ?_)
  obtain ⟨hb2, xB⟩ := h2
  have hx := xB.lt
  have hk2 : w.heap.size < w2.heap.size := by have := hb2.size; omega
  have hp2 : p < w2.heap.size := by have := hb2.size; omega
  have x0 := xB.cell 0
  have x1 := xB.cell 1
  have x2 := xB.cell 2
  have f0 := xB.frozen 0
  have f1 := xB.frozen 1
  have f2 := xB.frozen 2
  clear hlk k0 k1 k2 k3 p1
  go_wp2_with fail
  refine at_world (fun W => Below w1.heap.size w1 W ∧ Blk W w1.heap.size 83 #[.slice A n c, .int .i64 (r : Int), .int .i64 (s : Int)]) ⟨Below.trans hb2 (Below.mono (B := w1.heap.size) (by repeat' (first | exact Below.refl _ _ | refine Below.setCell ?_ (by simp) _)) (Nat.le_refl _)), by simpa using xB⟩ (fun w3 h3 => ?_)
  obtain ⟨hb3, xB3⟩ := h3
  have HB3 := hb1.trans (hb3.mono hb1.size)
  have kB3 := kB.below hb3 hk
  have p3 : w3.cell? ⟨p, 0, none⟩ = some (.map (some mb)) := (HB3.cell (p := ⟨p, 0, none⟩) hp).trans (hB.cell 0)
  have hp3 : p < w3.heap.size := by have := HB3.size; omega
  have k0 := kB3.cell 0
  have k1 := kB3.cell 1
  have k2 := kB3.cell 2
  have k3 := kB3.cell 3
  have y0 := xB3.cell 0
  have y1 := xB3.cell 1
  have y2 := xB3.cell 2
  have hk3 := kB3.lt
  have hx3 := xB3.lt
  clear x0 x1 x2 f0 f1 f2 xB kB
  obtain ⟨w5, hrun, hM5, hO5⟩ := (hM.keep (w' := w3.drew) (HB3.block mb hM.lt)).update pkeyEnc Try.underlying78 (nm, lb, nu, ge) (.agg #[.slice A n c, .int .i64 (r : Int), .int .i64 (s : Int)])
  simp only [pkv] at hrun
  refine wp_region_text [0, 0, 0, 0, 0, 0, 2] (Below w3.heap.size w3) (by kernel_rfl) (by kernel_rfl) (Below.refl _ _).drew ?_
  iterate 6 (refine wpOrd_q (v := ?_) (by rfl) (fun W hW => ?_) ?_; rotate_left; (focus ((obtain ⟨hWc, hWf⟩ := bcell hW); go_simp; try with_reducible rfl)); try simp only [Act.put, List.setIfInBounds_toArray, List.set_cons_zero, List.set_cons_succ])
  refine wpOrd_b (by rfl) (fun K hK => ?_)
  go_simp
  refine hK (fun _ => True) _ _ trivial ?_
  clear hK K
  try simp only [Act.put, List.setIfInBounds_toArray, List.set_cons_zero, List.set_cons_succ]
  refine wpOrd_nil ?_
  clear y0 y1 y2 k0 k1 k2 k3 p3
  have hs35 : w3.heap.size ≤ w5.heap.size := hO5.1.size
  have hmbw := hM.lt
  have xB5 := xB3.drew.grown hO5.1 (fun e => by simp only [Option.some.injEq] at e; omega)
  have y1 := xB5.cell 1
  have y2 := xB5.cell 2
  have hx5 := xB5.lt
  go_wp2
  go_end0
  exact ⟨rfl, hM5, (Tch.of_below (HB3.drew)).trans (Tch.of_only hO5 HB3.size)⟩

set_option maxRecDepth 100000 in
set_option maxHeartbeats 400000 in
theorem leave__gone (A : Option Addr) (n c : Nat) (r s : Nat) (hB : Blk w p 80 (pcells mb nx)) (hM : MapIs pkv w mb M) (hv : (mget M (nm, lb, nu, ge)).getD pzero = .agg #[.slice A n c, .int .i64 (r : Int), .int .i64 (s : Int)]) (hr : r < 60000) (hs : s < 60000) (hi : (mget M (nm, lb, nu, ge)).isSome = true) (hz : r + s = 0) :
    Calls Try.prog 21 #[.pointer (some ⟨p, 0, none⟩), .agg #[.bool nm, .int .u8 (lb.toNat : Int), .int .u16 (nu.toNat : Int), .int .u16 (ge.toNat : Int)], .bool false, .bool false] w fun e w' => e = .returned (.tuple #[]) ∧ MapIs pkv w' mb (mdel (mput M (nm, lb, nu, ge) (.agg #[.slice A n c, .int .i64 (r : Int), .int .i64 (s : Int)])) (nm, lb, nu, ge)) ∧ Tch w.heap.size (· = mb) w w' := by
  have hlk := fun W hW => look_pipe hM nm lb nu ge hv W hW
  have hr' : (r : Int) < 60000 := by omega
  have hs' : (s : Int) < 60000 := by omega
  have HV := hide hv
  have HI := hide hi
  clear hv hi
  have hz' : ((r : Int) + s == 0) = true := by simp; omega
  clear hz
  go_enter Try.func21, Try.ntmps21
  go_wp2_with fail
  have hb0 : Below w.heap.size w (w.alloc (.cells #[.bool nm, .int .u8 (lb.toNat : Int), .int .u16 (nu.toNat : Int), .int .u16 (ge.toNat : Int)] 41)) := by go_grown
  have kB0 : Blk (w.alloc (.cells #[.bool nm, .int .u8 (lb.toNat : Int), .int .u16 (nu.toNat : Int), .int .u16 (ge.toNat : Int)] 41)) w.heap.size 41 #[.bool nm, .int .u8 (lb.toNat : Int), .int .u16 (nu.toNat : Int), .int .u16 (ge.toNat : Int)] := Blk.new _ _ _
  refine (has_any p mb nx M nm lb nu ge (w.alloc (.cells #[.bool nm, .int .u8 (lb.toNat : Int), .int .u16 (nu.toNat : Int), .int .u16 (ge.toNat : Int)] 41)) A n c r s (hB.below hb0 hB.lt) (hM.keep (hb0.block mb hM.lt)) HV.out).mono ?_
  rintro e w1 ⟨rfl, hb1b⟩
  rw [HI.out]
  have hb1 := hb0.trans (hb1b.mono hb0.size)
  have kB := kB0.below hb1b (by simp)
  clear hb1b hb0 kB0
  have hp := hB.lt
  have hk := kB.lt
  have hp1 : p < w1.heap.size := by have := hb1.size; omega
  have p1 : w1.cell? ⟨p, 0, none⟩ = some (.map (some mb)) := (hb1.cell (p := ⟨p, 0, none⟩) hp).trans (hB.cell 0)
  have k0 := kB.cell 0
  have k1 := kB.cell 1
  have k2 := kB.cell 2
  have k3 := kB.cell 3
  go_wp2_with fail
  refine wp_region_text [0, 0, 0, 0, 0, 0, 1, 1] (Below w1.heap.size w1) (by kernel_rfl) (by kernel_rfl) (Below.refl _ _).drew ?_
  iterate 6 (refine wpOrd_q (v := ?_) (by rfl) (fun W hW => ?_) ?_; rotate_left; (focus ((obtain ⟨hWc, hWf⟩ := bcell hW); have hlW := hlk W (hb1.trans (hW.mono hb1.size)); go_simp; try with_reducible rfl)); try simp only [Act.put, List.setIfInBounds_toArray, List.set_cons_zero, List.set_cons_succ])
  refine wpOrd_x (by rfl) (fun K hK => ?_)
  go_simp
  refine hK _ _ _ (fun _ h => h) (by go_grown) ?_
  clear hK K
  try simp only [Act.put, List.setIfInBounds_toArray, List.set_cons_zero, List.set_cons_succ]
  refine wpOrd_x (by rfl) (fun K hK => ?_)
  go_simp
  refine hK _ _ _ (fun _ h => h) (by go_grown) ?_
  clear hK K
  try simp only [Act.put, List.setIfInBounds_toArray, List.set_cons_zero, List.set_cons_succ]
  refine wpOrd_nil ?_
  refine at_world (fun W => Below w1.heap.size w1 W ∧ Blk W w1.heap.size 83 #[.slice A n c, .int .i64 (r : Int), .int .i64 (s : Int)]) ⟨by go_grown, (Blk.new _ _ _).drew⟩ (fun w2 h2 => ?_)
  obtain ⟨hb2, xB⟩ := h2
  have hx := xB.lt
  have hk2 : w.heap.size < w2.heap.size := by have := hb2.size; omega
  have hp2 : p < w2.heap.size := by have := hb2.size; omega
  have x0 := xB.cell 0
  have x1 := xB.cell 1
  have x2 := xB.cell 2
  have f0 := xB.frozen 0
  have f1 := xB.frozen 1
  have f2 := xB.frozen 2
  clear hlk k0 k1 k2 k3 p1
  go_wp2_with fail
  refine at_world (fun W => Below w1.heap.size w1 W ∧ Blk W w1.heap.size 83 #[.slice A n c, .int .i64 (r : Int), .int .i64 (s : Int)]) ⟨Below.trans hb2 (Below.mono (B := w1.heap.size) (by repeat' (first | exact Below.refl _ _ | refine Below.setCell ?_ (by simp) _)) (Nat.le_refl _)), by simpa using xB⟩ (fun w3 h3 => ?_)
  obtain ⟨hb3, xB3⟩ := h3
  have HB3 := hb1.trans (hb3.mono hb1.size)
  have kB3 := kB.below hb3 hk
  have p3 : w3.cell? ⟨p, 0, none⟩ = some (.map (some mb)) := (HB3.cell (p := ⟨p, 0, none⟩) hp).trans (hB.cell 0)
  have hp3 : p < w3.heap.size := by have := HB3.size; omega
  have k0 := kB3.cell 0
  have k1 := kB3.cell 1
  have k2 := kB3.cell 2
  have k3 := kB3.cell 3
  have y0 := xB3.cell 0
  have y1 := xB3.cell 1
  have y2 := xB3.cell 2
  have hk3 := kB3.lt
  have hx3 := xB3.lt
  clear x0 x1 x2 f0 f1 f2 xB kB
  obtain ⟨w5, hrun, hM5, hO5⟩ := (hM.keep (w' := w3.drew) (HB3.block mb hM.lt)).update pkeyEnc Try.underlying78 (nm, lb, nu, ge) (.agg #[.slice A n c, .int .i64 (r : Int), .int .i64 (s : Int)])
  simp only [pkv] at hrun
  refine wp_region_text [0, 0, 0, 0, 0, 0, 2] (Below w3.heap.size w3) (by kernel_rfl) (by kernel_rfl) (Below.refl _ _).drew ?_
  iterate 6 (refine wpOrd_q (v := ?_) (by rfl) (fun W hW => ?_) ?_; rotate_left; (focus ((obtain ⟨hWc, hWf⟩ := bcell hW); go_simp; try with_reducible rfl)); try simp only [Act.put, List.setIfInBounds_toArray, List.set_cons_zero, List.set_cons_succ])
  refine wpOrd_b (by rfl) (fun K hK => ?_)
  go_simp
  refine hK (fun _ => True) _ _ trivial ?_
  clear hK K
  try simp only [Act.put, List.setIfInBounds_toArray, List.set_cons_zero, List.set_cons_succ]
  refine wpOrd_nil ?_
  clear y0 y1 y2 k0 k1 k2 k3 p3
  have hs35 : w3.heap.size ≤ w5.heap.size := hO5.1.size
  have hmbw := hM.lt
  have xB5 := xB3.drew.grown hO5.1 (fun e => by simp only [Option.some.injEq] at e; omega)
  have y1 := xB5.cell 1
  have y2 := xB5.cell 2
  have hx5 := xB5.lt
  have HB5 := (Tch.of_below (S := fun x => x = mb) HB3.drew).trans (Tch.of_only hO5 HB3.size)
  have kB5 := kB3.drew.grown hO5.1 (fun e => by simp only [Option.some.injEq] at e; omega)
  have p5 : w5.cell? ⟨p, 0, none⟩ = some (.map (some mb)) := (((hB.below HB3 hp).drew).grown hO5.1 (fun e => by simp only [Option.some.injEq] at e; subst e; exact blk_not_map hB hM rfl)).cell 0
  have hp5 : p < w5.heap.size := by omega
  have k0 := kB5.cell 0
  have k1 := kB5.cell 1
  have k2 := kB5.cell 2
  have k3 := kB5.cell 3
  have hk5 := kB5.lt
  go_wp2_with fail
  obtain ⟨w7, hrun7, hM7, hO7⟩ := (hM5.keep (w' := w5.drew) rfl).delete pkeyEnc Try.underlying78 (nm, lb, nu, ge) 41 0
  simp only [pkv] at hrun7
  refine wp_region_text [0, 0, 0, 0, 0, 2] (Below w5.heap.size w5) (by kernel_rfl) (by kernel_rfl) (Below.refl _ _).drew ?_
  iterate 5 (refine wpOrd_q (v := ?_) (by rfl) (fun W hW => ?_) ?_; rotate_left; (focus ((obtain ⟨hWc, hWf⟩ := bcell hW); go_simp; try with_reducible rfl)); try simp only [Act.put, List.setIfInBounds_toArray, List.set_cons_zero, List.set_cons_succ])
  refine wpOrd_b (by rfl) (fun K hK => ?_)
  go_simp
  refine hK (fun _ => True) _ _ trivial ?_
  clear hK K
  try simp only [Act.put, List.setIfInBounds_toArray, List.set_cons_zero, List.set_cons_succ]
  refine wpOrd_nil ?_
  go_wp2
  go_end0
  exact ⟨rfl, hM7, HB5.drew.trans (Tch.of_only hO7 HB5.size)⟩

set_option maxRecDepth 100000 in
set_option maxHeartbeats 400000 in
theorem blind_nobody (A : Option Addr) (n c : Nat) (s : Nat) (hB : Blk w p 80 (pcells mb nx)) (hM : MapIs pkv w mb M) (hv : (mget M (nm, lb, nu, ge)).getD pzero = .agg #[.slice A n c, .int .i64 0, .int .i64 (s : Int)]) (hs : s < 60000) (A2 : Option Addr) (n2 c2 : Nat) :
    Calls Try.prog 22 #[.pointer (some ⟨p, 0, none⟩), .agg #[.bool nm, .int .u8 (lb.toNat : Int), .int .u16 (nu.toNat : Int), .int .u16 (ge.toNat : Int)], .slice A2 n2 c2] w fun e w' => e = .returned (.tuple #[]) ∧ Below w.heap.size w w' := by
  have hlk := fun W hW => look_pipe hM nm lb nu ge hv W hW
  have hs' : (s : Int) < 60000 := by omega
  have HV := hide hv
  clear hv HV
  go_enter Try.func22, Try.ntmps22
  go_wp2
  refine at_world (fun W => Below w.heap.size w W ∧ Blk W w.heap.size 41 #[.bool nm, .int .u8 (lb.toNat : Int), .int .u16 (nu.toNat : Int), .int .u16 (ge.toNat : Int)]) ⟨by go_grown, Blk.new _ _ _⟩ (fun w1 h1 => ?_)
  obtain ⟨hb1, kB⟩ := h1
  have hp := hB.lt
  have hk := kB.lt
  have hp1 : p < w1.heap.size := by have := hb1.size; omega
  have p1 : w1.cell? ⟨p, 0, none⟩ = some (.map (some mb)) := (hb1.cell (p := ⟨p, 0, none⟩) hp).trans (hB.cell 0)
  have k0 := kB.cell 0
  have k1 := kB.cell 1
  have k2 := kB.cell 2
  have k3 := kB.cell 3
  refine wp_region_text [0, 0, 0, 0, 0, 0, 1, 1] (Below w1.heap.size w1) (by kernel_rfl) (by kernel_rfl) (Below.refl _ _).drew ?_
  iterate 6 (refine wpOrd_q (v := ?_) (by rfl) (fun W hW => ?_) ?_; rotate_left; (focus ((obtain ⟨hWc, hWf⟩ := bcell hW); have hlW := hlk W (hb1.trans (hW.mono hb1.size)); go_simp; try with_reducible rfl)); try simp only [Act.put, List.setIfInBounds_toArray, List.set_cons_zero, List.set_cons_succ])
  refine wpOrd_x (by rfl) (fun K hK => ?_)
  go_simp
  refine hK _ _ _ (fun _ h => h) (by go_grown) ?_
  clear hK K
  try simp only [Act.put, List.setIfInBounds_toArray, List.set_cons_zero, List.set_cons_succ]
  refine wpOrd_x (by rfl) (fun K hK => ?_)
  go_simp
  refine hK _ _ _ (fun _ h => h) (by go_grown) ?_
  clear hK K
  try simp only [Act.put, List.setIfInBounds_toArray, List.set_cons_zero, List.set_cons_succ]
  refine wpOrd_nil ?_
  refine at_world (fun W => Below w1.heap.size w1 W ∧ Blk W w1.heap.size 83 #[.slice A n c, .int .i64 0, .int .i64 (s : Int)]) ⟨by go_grown, (Blk.new _ _ _).drew⟩ (fun w2 h2 => ?_)
  obtain ⟨hb2, xB⟩ := h2
  have hx := xB.lt
  have hk2 : w.heap.size < w2.heap.size := by have := hb2.size; omega
  have hp2 : p < w2.heap.size := by have := hb2.size; omega
  have x0 := xB.cell 0
  have x1 := xB.cell 1
  have x2 := xB.cell 2
  have f0 := xB.frozen 0
  have f1 := xB.frozen 1
  have f2 := xB.frozen 2
  clear hlk k0 k1 k2 k3 p1
  go_wp2
  go_end0
  exact ⟨rfl, hb1.trans (hb2.mono hb1.size)⟩

set_option maxRecDepth 100000 in
set_option maxHeartbeats 400000 in
theorem blind_long (A : Option Addr) (n c : Nat) (r s : Nat) (hB : Blk w p 80 (pcells mb nx)) (hM : MapIs pkv w mb M) (hv : (mget M (nm, lb, nu, ge)).getD pzero = .agg #[.slice A n c, .int .i64 (r : Int), .int .i64 (s : Int)]) (hr : r < 60000) (hs : s < 60000) (A2 : Option Addr) (n2 c2 : Nat) (hn : n ≤ 256) (h0 : 0 < r) (hk : 256 < n2 + n) :
    Calls Try.prog 22 #[.pointer (some ⟨p, 0, none⟩), .agg #[.bool nm, .int .u8 (lb.toNat : Int), .int .u16 (nu.toNat : Int), .int .u16 (ge.toNat : Int)], .slice A2 n2 c2] w fun e w' => e = .returned (.tuple #[]) ∧ Below w.heap.size w w' := by
  have hlk := fun W hW => look_pipe hM nm lb nu ge hv W hW
  have hr' : (r : Int) < 60000 := by omega
  have hs' : (s : Int) < 60000 := by omega
  have HV := hide hv
  clear hv HV
  have hz : (0 : Int) < r := by omega
  have hge : decide ((n2 : Int) ≤ 256 - n) = false := by simp; omega
  go_enter Try.func22, Try.ntmps22
  go_wp2
  refine at_world (fun W => Below w.heap.size w W ∧ Blk W w.heap.size 41 #[.bool nm, .int .u8 (lb.toNat : Int), .int .u16 (nu.toNat : Int), .int .u16 (ge.toNat : Int)]) ⟨by go_grown, Blk.new _ _ _⟩ (fun w1 h1 => ?_)
  obtain ⟨hb1, kB⟩ := h1
  have hp := hB.lt
  have hk := kB.lt
  have hp1 : p < w1.heap.size := by have := hb1.size; omega
  have p1 : w1.cell? ⟨p, 0, none⟩ = some (.map (some mb)) := (hb1.cell (p := ⟨p, 0, none⟩) hp).trans (hB.cell 0)
  have k0 := kB.cell 0
  have k1 := kB.cell 1
  have k2 := kB.cell 2
  have k3 := kB.cell 3
  refine wp_region_text [0, 0, 0, 0, 0, 0, 1, 1] (Below w1.heap.size w1) (by kernel_rfl) (by kernel_rfl) (Below.refl _ _).drew ?_
  iterate 6 (refine wpOrd_q (v := ?_) (by rfl) (fun W hW => ?_) ?_; rotate_left; (focus ((obtain ⟨hWc, hWf⟩ := bcell hW); have hlW := hlk W (hb1.trans (hW.mono hb1.size)); go_simp; try with_reducible rfl)); try simp only [Act.put, List.setIfInBounds_toArray, List.set_cons_zero, List.set_cons_succ])
  refine wpOrd_x (by rfl) (fun K hK => ?_)
  go_simp
  refine hK _ _ _ (fun _ h => h) (by go_grown) ?_
  clear hK K
  try simp only [Act.put, List.setIfInBounds_toArray, List.set_cons_zero, List.set_cons_succ]
  refine wpOrd_x (by rfl) (fun K hK => ?_)
  go_simp
  refine hK _ _ _ (fun _ h => h) (by go_grown) ?_
  clear hK K
  try simp only [Act.put, List.setIfInBounds_toArray, List.set_cons_zero, List.set_cons_succ]
  refine wpOrd_nil ?_
  refine at_world (fun W => Below w1.heap.size w1 W ∧ Blk W w1.heap.size 83 #[.slice A n c, .int .i64 (r : Int), .int .i64 (s : Int)]) ⟨by go_grown, (Blk.new _ _ _).drew⟩ (fun w2 h2 => ?_)
  obtain ⟨hb2, xB⟩ := h2
  have hx := xB.lt
  have hk2 : w.heap.size < w2.heap.size := by have := hb2.size; omega
  have hp2 : p < w2.heap.size := by have := hb2.size; omega
  have x0 := xB.cell 0
  have x1 := xB.cell 1
  have x2 := xB.cell 2
  have f0 := xB.frozen 0
  have f1 := xB.frozen 1
  have f2 := xB.frozen 2
  clear hlk k0 k1 k2 k3 p1
  go_wp2
  go_end0
  exact ⟨rfl, hb1.trans (hb2.mono hb1.size)⟩

set_option maxRecDepth 100000 in
set_option maxHeartbeats 400000 in
theorem blind_ok (A : Option Addr) (n c : Nat) (r s : Nat) (hB : Blk w p 80 (pcells mb nx)) (hM : MapIs pkv w mb M) (hv : (mget M (nm, lb, nu, ge)).getD pzero = .agg #[.slice A n c, .int .i64 (r : Int), .int .i64 (s : Int)]) (hr : r < 60000) (hs : s < 60000) (h0 : 0 < r) (l : List UInt8) (hown : w.ownsRow 0 5 1 (.slice A n c) n (bvs l)) (A2 : Option Addr) (n2 c2 : Nat) (l2 : List UInt8) (hr2 : Rd w w.heap.size 1 A2 n2 (bvs l2)) (hk : n2 + n ≤ 256) :
    Calls Try.prog 22 #[.pointer (some ⟨p, 0, none⟩), .agg #[.bool nm, .int .u8 (lb.toNat : Int), .int .u16 (nu.toNat : Int), .int .u16 (ge.toNat : Int)], .slice A2 n2 c2] w fun e w' => ∃ A' c', e = .returned (.tuple #[]) ∧ w'.ownsRow 0 5 1 (.slice A' (n + n2) c') (n + n2) (bvs (l ++ l2)) ∧
      MapIs pkv w' mb (mput M (nm, lb, nu, ge) (.agg #[.slice A' (n + n2) c', .int .i64 (r : Int), .int .i64 (s : Int)])) ∧
      ((Value.slice A' (n + n2) c').ownBlock = (Value.slice A n c).ownBlock ∨ ∃ g, (Value.slice A' (n + n2) c').ownBlock = some g ∧ w.heap.size ≤ g) ∧
      Tch w.heap.size (fun x => x = mb ∨ (Value.slice A n c).ownBlock = some x) w w' := by
  have hlk := fun W hW => look_pipe hM nm lb nu ge hv W hW
  have hr' : (r : Int) < 60000 := by omega
  have hs' : (s : Int) < 60000 := by omega
  have HV := hide hv
  clear hv HV
  have hz : (0 : Int) < r := by omega
  have hge : (n2 : Int) ≤ 256 - n := by omega
  obtain ⟨i0, hi0, i1, i2, i3⟩ := info_parts info_u8p
  go_enter Try.func22, Try.ntmps22
  go_wp2
  refine at_world (fun W => Below w.heap.size w W ∧ Blk W w.heap.size 41 #[.bool nm, .int .u8 (lb.toNat : Int), .int .u16 (nu.toNat : Int), .int .u16 (ge.toNat : Int)]) ⟨by go_grown, Blk.new _ _ _⟩ (fun w1 h1 => ?_)
  obtain ⟨hb1, kB⟩ := h1
  have hp := hB.lt
  have hk' := kB.lt
  have hp1 : p < w1.heap.size := by have := hb1.size; omega
  have p1 : w1.cell? ⟨p, 0, none⟩ = some (.map (some mb)) := (hb1.cell (p := ⟨p, 0, none⟩) hp).trans (hB.cell 0)
  have k0 := kB.cell 0
  have k1 := kB.cell 1
  have k2 := kB.cell 2
  have k3 := kB.cell 3
  refine wp_region_text [0, 0, 0, 0, 0, 0, 1, 1] (Below w1.heap.size w1) (by kernel_rfl) (by kernel_rfl) (Below.refl _ _).drew ?_
  iterate 6 (refine wpOrd_q (v := ?_) (by rfl) (fun W hW => ?_) ?_; rotate_left; (focus ((obtain ⟨hWc, hWf⟩ := bcell hW); have hlW := hlk W (hb1.trans (hW.mono hb1.size)); go_simp; try with_reducible rfl)); try simp only [Act.put, List.setIfInBounds_toArray, List.set_cons_zero, List.set_cons_succ])
  refine wpOrd_x (by rfl) (fun K hK => ?_)
  go_simp
  refine hK _ _ _ (fun _ h => h) (by go_grown) ?_
  clear hK K
  try simp only [Act.put, List.setIfInBounds_toArray, List.set_cons_zero, List.set_cons_succ]
  refine wpOrd_x (by rfl) (fun K hK => ?_)
  go_simp
  refine hK _ _ _ (fun _ h => h) (by go_grown) ?_
  clear hK K
  try simp only [Act.put, List.setIfInBounds_toArray, List.set_cons_zero, List.set_cons_succ]
  refine wpOrd_nil ?_
  refine at_world (fun W => Below w1.heap.size w1 W ∧ Blk W w1.heap.size 83 #[.slice A n c, .int .i64 (r : Int), .int .i64 (s : Int)]) ⟨by go_grown, (Blk.new _ _ _).drew⟩ (fun w2 h2 => ?_)
  obtain ⟨hb2, xB⟩ := h2
  have hx := xB.lt
  have hk2 : w.heap.size < w2.heap.size := by have := hb2.size; omega
  have hp2 : p < w2.heap.size := by have := hb2.size; omega
  have x0 := xB.cell 0
  have x1 := xB.cell 1
  have x2 := xB.cell 2
  have f0 := xB.frozen 0
  have f1 := xB.frozen 1
  have f2 := xB.frozen 2
  clear hlk k0 k1 k2 k3 p1
  have HB3 := hb1.trans (hb2.mono hb1.size)
  have hown2 : w2.ownsRow 0 5 1 (.slice A n c) n (bvs l) := own_keep hown (fun g hg => HB3.block g (hown.lt g hg).2)
  have hrd2 := hr2.below HB3
  have xB3 := xB
  have kB3 := kB.below hb2 hk'
  have hx3 := hx
  go_upto_region 4 with (fail)
  go_wp2_with (at_builtin; refine wpList_append_rd _ rfl (.tmp 28) (.tmp 29) 23 rfl 0 5 i0 (.int .u8 0) 1 1 Try.underlying23 hi0 i1 i2 i3 rfl (by decide) (.slice A n c) n (bvs l) rfl hown2 w.heap.size A2 n2 c2 (bvs l2) rfl hrd2 (bvs_one l2) (by simp only [maxLen]; omega) (by omega) (Nat.zero_le _) ?_)
  intro v' w4 hown4 hg4 hnil hat
  obtain ⟨A', c', rfl, hnc', hcm', -⟩ := own_form hown4
  try simp only [Nat.add_zero] at hown4 hat
  have hng : ∀ g, (Value.slice A n c).ownBlock = some g → g < w.heap.size := fun g hg => (hown.lt g hg).2
  have xB4 := xB3.grown hg4 (fun e => by have := hng _ e.symm; omega)
  have kB4 := kB3.grown hg4 (fun e => by have := hng _ e.symm; omega)
  have hBp := hB.below HB3 hp
  have pB4 := hBp.grown hg4 (fun e => blk_not_own hBp hown2 (by decide) e.symm)
  have hM3 := hM.keep (w' := w2) (HB3.block mb hM.lt)
  have hmo := hM3.not_own hown2
  have hM4 := hM3.keep (hg4.block mb hM3.lt (fun e => hmo e.symm))
  have hx4 := xB4.lt
  have z0 := xB4.cell 0
  have z1 := xB4.frozen 0
  go_wp2_with fail
  have hlt4 : w2.heap.size ≤ w4.heap.size := hg4.size
  refine at_world (fun W => Blk W w1.heap.size 83 #[.slice A' (n + n2) c', .int .i64 (r : Int), .int .i64 (s : Int)] ∧ Blk W w.heap.size 41 #[.bool nm, .int .u8 (lb.toNat : Int), .int .u16 (nu.toNat : Int), .int .u16 (ge.toNat : Int)] ∧ Blk W p 80 (pcells mb nx) ∧ MapIs pkv W mb M ∧ W.ownsRow 0 5 1 (.slice A' (n + n2) c') (n + n2) (bvs l ++ bvs l2) ∧ Tch w.heap.size (fun x => x = mb ∨ (Value.slice A n c).ownBlock = some x) w W) ?_ (fun w5 h5 => ?_)
  · refine ⟨by simpa using xB4.set_ 0 _, kB4.far (by show _ ≠ w1.heap.size; omega) _, pB4.far (by show _ ≠ w1.heap.size; omega) _, hM4.keep (Below.heap_setCell _ _ _ _ (by show _ ≠ w1.heap.size; have := hM.lt; omega)), own_keep hown4 (fun g hg => Below.heap_setCell _ _ _ _ (show g ≠ w1.heap.size from ?_)), ((Tch.of_below HB3).trans (Tch.grown hg4 (by have := HB3.size; simpa using this) (fun k hk _ => .inr hk))).trans (Tch.setCell (fun h => absurd (show w1.heap.size < _ from h) (by omega)))⟩
    rcases hat with e | e <;> rw [e] at hg
    · have := hng _ hg; omega
    · simp only [Option.some.injEq] at hg
      have : w2.heap.size = w2.heap.size := rfl
      omega
  obtain ⟨xB5, kB5, pB5, hM5, hown5, hT5⟩ := h5
  have hnb : ∀ g, (Value.slice A' (n + n2) c').ownBlock = some g → g ≠ mb := by
    intro g hg e
    rcases hat with e1 | e1 <;> rw [e1] at hg
    · exact hmo (by rw [hg, e])
    · simp only [Option.some.injEq] at hg
      have h1 : w2.heap.size = w2.heap.size := rfl
      have h2 := hM.lt
      have h3 := HB3.size
      omega
  clear z0 z1 x0 x1 x2 f0 f1 f2 hx3 hp2 hx4
  have p5 : w5.cell? ⟨p, 0, none⟩ = some (.map (some mb)) := pB5.cell 0
  have k0 := kB5.cell 0
  have k1 := kB5.cell 1
  have k2 := kB5.cell 2
  have k3 := kB5.cell 3
  have y0 := xB5.cell 0
  have y1 := xB5.cell 1
  have y2 := xB5.cell 2
  have hp5 := pB5.lt
  have hk5 := kB5.lt
  have hx5 := xB5.lt
  go_wp2_with fail
  obtain ⟨w7, hrun, hM7, hO7⟩ := (hM5.keep (w' := w5.drew) rfl).update pkeyEnc Try.underlying78 (nm, lb, nu, ge) (.agg #[.slice A' (n + n2) c', .int .i64 (r : Int), .int .i64 (s : Int)])
  simp only [pkv] at hrun
  refine wp_region_text [0, 0, 0, 0, 0, 0, 2] (Below w5.heap.size w5) (by kernel_rfl) (by kernel_rfl) (Below.refl _ _).drew ?_
  iterate 6 (refine wpOrd_q (v := ?_) (by rfl) (fun W hW => ?_) ?_; rotate_left; (focus ((obtain ⟨hWc, hWf⟩ := bcell hW); go_simp; try with_reducible rfl)); try simp only [Act.put, List.setIfInBounds_toArray, List.set_cons_zero, List.set_cons_succ])
  refine wpOrd_b (by rfl) (fun K hK => ?_)
  go_simp
  refine hK (fun _ => True) _ _ trivial ?_
  clear hK K
  try simp only [Act.put, List.setIfInBounds_toArray, List.set_cons_zero, List.set_cons_succ]
  refine wpOrd_nil ?_
  go_wp2
  go_end0
  refine ⟨A', c', rfl, ?_, hM7, ?_, hT5.drew.trans ((Tch.of_only hO7 hT5.size).mono (Nat.le_refl _) (fun _ _ h => .inl h))⟩
  · rw [bvs_append]
    exact own_keep hown5 (fun g hg => hO7.1.block g (hown5.lt g hg).2 (by simpa using hnb g hg))
  · rcases hat with e | e
    · exact .inl e
    · exact .inr ⟨_, e, HB3.size⟩

set_option maxRecDepth 100000 in
set_option maxHeartbeats 400000 in
theorem read_none (A : Option Addr) (n c : Nat) (r s : Nat) (hB : Blk w p 80 (pcells mb nx)) (hM : MapIs pkv w mb M) (hv : (mget M (nm, lb, nu, ge)).getD pzero = .agg #[.slice A n c, .int .i64 (r : Int), .int .i64 (s : Int)]) (hr : r < 60000) (hs : s < 60000) (hi : (mget M (nm, lb, nu, ge)).isSome = false) (m : Int) :
    Calls Try.prog 19 #[.pointer (some ⟨p, 0, none⟩), .agg #[.bool nm, .int .u8 (lb.toNat : Int), .int .u16 (nu.toNat : Int), .int .u16 (ge.toNat : Int)], .int .i64 m] w fun e w' => e = .returned (.tuple #[.slice none 0 0, .int .i64 3]) ∧ Below w.heap.size w w' := by
  have hlk := fun W hW => look_pipe hM nm lb nu ge hv W hW
  have hr' : (r : Int) < 60000 := by omega
  have hs' : (s : Int) < 60000 := by omega
  have HV := hide hv
  have HI := hide hi
  clear hv hi
  go_enter Try.func19, Try.ntmps19
  go_wp2
  refine at_world (fun W => Below w.heap.size w W ∧ Blk W w.heap.size 41 #[.bool nm, .int .u8 (lb.toNat : Int), .int .u16 (nu.toNat : Int), .int .u16 (ge.toNat : Int)]) ⟨by go_grown, Blk.new _ _ _⟩ (fun w1 h1 => ?_)
  obtain ⟨hb1, kB⟩ := h1
  have hp := hB.lt
  have hk := kB.lt
  have hp1 : p < w1.heap.size := by have := hb1.size; omega
  have p1 : w1.cell? ⟨p, 0, none⟩ = some (.map (some mb)) := (hb1.cell (p := ⟨p, 0, none⟩) hp).trans (hB.cell 0)
  have k0 := kB.cell 0
  have k1 := kB.cell 1
  have k2 := kB.cell 2
  have k3 := kB.cell 3
  refine wp_region_text [0, 0, 0, 0, 0, 0, 1, 1] (Below w1.heap.size w1) (by kernel_rfl) (by kernel_rfl) (Below.refl _ _).drew ?_
  iterate 6 (refine wpOrd_q (v := ?_) (by rfl) (fun W hW => ?_) ?_; rotate_left; (focus ((obtain ⟨hWc, hWf⟩ := bcell hW); have hlW := hlk W (hb1.trans (hW.mono hb1.size)); go_simp; try with_reducible rfl)); try simp only [Act.put, List.setIfInBounds_toArray, List.set_cons_zero, List.set_cons_succ])
  refine wpOrd_x (by rfl) (fun K hK => ?_)
  go_simp
  refine hK _ _ _ (fun _ h => h) (by go_grown) ?_
  clear hK K
  try simp only [Act.put, List.setIfInBounds_toArray, List.set_cons_zero, List.set_cons_succ]
  refine wpOrd_x (by rfl) (fun K hK => ?_)
  go_simp
  refine hK _ _ _ (fun _ h => h) (by go_grown) ?_
  clear hK K
  try simp only [Act.put, List.setIfInBounds_toArray, List.set_cons_zero, List.set_cons_succ]
  refine wpOrd_nil ?_
  refine at_world (fun W => Below w1.heap.size w1 W ∧ Blk W w1.heap.size 83 #[.slice A n c, .int .i64 (r : Int), .int .i64 (s : Int)]) ⟨by go_grown, (Blk.new _ _ _).drew⟩ (fun w2 h2 => ?_)
  obtain ⟨hb2, xB⟩ := h2
  have hx := xB.lt
  have hk2 : w.heap.size < w2.heap.size := by have := hb2.size; omega
  have hp2 : p < w2.heap.size := by have := hb2.size; omega
  have x0 := xB.cell 0
  have x1 := xB.cell 1
  have x2 := xB.cell 2
  have f0 := xB.frozen 0
  have f1 := xB.frozen 1
  have f2 := xB.frozen 2
  have kB2 := kB.below hb2 hk
  have j0 := kB2.cell 0
  have j1 := kB2.cell 1
  have j2 := kB2.cell 2
  have j3 := kB2.cell 3
  clear hlk k0 k1 k2 k3 p1
  go_wp2_with fail
  clear j0 j1 j2 j3
  refine (has_any p mb nx M nm lb nu ge w2 A n c r s (hB.below (hb1.trans (hb2.mono hb1.size)) hp) (hM.keep ((hb1.trans (hb2.mono hb1.size)).block mb hM.lt)) HV.out).mono ?_
  rintro e w3 ⟨rfl, hb23⟩
  rw [HI.out]
  have HB3 := (hb1.trans (hb2.mono hb1.size)).trans (hb23.mono (hb1.trans (hb2.mono hb1.size)).size)
  have xB3 := xB.below hb23 hx
  have kB3 := (kB.below hb2 hk).below hb23 (by have := hb2.size; omega)
  have p3 : w3.cell? ⟨p, 0, none⟩ = some (.map (some mb)) := (HB3.cell (p := ⟨p, 0, none⟩) hp).trans (hB.cell 0)
  have hp3 : p < w3.heap.size := by have := HB3.size; omega
  have k0 := kB3.cell 0
  have k1 := kB3.cell 1
  have k2 := kB3.cell 2
  have k3 := kB3.cell 3
  have y0 := xB3.cell 0
  have y1 := xB3.cell 1
  have y2 := xB3.cell 2
  have g0 := xB3.frozen 0
  have g1 := xB3.frozen 1
  have g2 := xB3.frozen 2
  have hk3 := kB3.lt
  have hx3 := xB3.lt
  clear x0 x1 x2 f0 f1 f2
  clear k0 k1 k2 k3 p3
  go_wp2
  go_ret2
  exact ⟨rfl, HB3⟩

set_option maxRecDepth 100000 in
set_option maxHeartbeats 400000 in
theorem read_range (A : Option Addr) (n c : Nat) (r s : Nat) (hB : Blk w p 80 (pcells mb nx)) (hM : MapIs pkv w mb M) (hv : (mget M (nm, lb, nu, ge)).getD pzero = .agg #[.slice A n c, .int .i64 (r : Int), .int .i64 (s : Int)]) (hr : r < 60000) (hs : s < 60000) (hi : (mget M (nm, lb, nu, ge)).isSome = true) (m : Int) (hm : m < 0) :
    Calls Try.prog 19 #[.pointer (some ⟨p, 0, none⟩), .agg #[.bool nm, .int .u8 (lb.toNat : Int), .int .u16 (nu.toNat : Int), .int .u16 (ge.toNat : Int)], .int .i64 m] w fun e w' => e = .returned (.tuple #[.slice none 0 0, .int .i64 27]) ∧ Below w.heap.size w w' := by
  have hlk := fun W hW => look_pipe hM nm lb nu ge hv W hW
  have hr' : (r : Int) < 60000 := by omega
  have hs' : (s : Int) < 60000 := by omega
  have HV := hide hv
  have HI := hide hi
  clear hv hi
  go_enter Try.func19, Try.ntmps19
  go_wp2
  refine at_world (fun W => Below w.heap.size w W ∧ Blk W w.heap.size 41 #[.bool nm, .int .u8 (lb.toNat : Int), .int .u16 (nu.toNat : Int), .int .u16 (ge.toNat : Int)]) ⟨by go_grown, Blk.new _ _ _⟩ (fun w1 h1 => ?_)
  obtain ⟨hb1, kB⟩ := h1
  have hp := hB.lt
  have hk := kB.lt
  have hp1 : p < w1.heap.size := by have := hb1.size; omega
  have p1 : w1.cell? ⟨p, 0, none⟩ = some (.map (some mb)) := (hb1.cell (p := ⟨p, 0, none⟩) hp).trans (hB.cell 0)
  have k0 := kB.cell 0
  have k1 := kB.cell 1
  have k2 := kB.cell 2
  have k3 := kB.cell 3
  refine wp_region_text [0, 0, 0, 0, 0, 0, 1, 1] (Below w1.heap.size w1) (by kernel_rfl) (by kernel_rfl) (Below.refl _ _).drew ?_
  iterate 6 (refine wpOrd_q (v := ?_) (by rfl) (fun W hW => ?_) ?_; rotate_left; (focus ((obtain ⟨hWc, hWf⟩ := bcell hW); have hlW := hlk W (hb1.trans (hW.mono hb1.size)); go_simp; try with_reducible rfl)); try simp only [Act.put, List.setIfInBounds_toArray, List.set_cons_zero, List.set_cons_succ])
  refine wpOrd_x (by rfl) (fun K hK => ?_)
  go_simp
  refine hK _ _ _ (fun _ h => h) (by go_grown) ?_
  clear hK K
  try simp only [Act.put, List.setIfInBounds_toArray, List.set_cons_zero, List.set_cons_succ]
  refine wpOrd_x (by rfl) (fun K hK => ?_)
  go_simp
  refine hK _ _ _ (fun _ h => h) (by go_grown) ?_
  clear hK K
  try simp only [Act.put, List.setIfInBounds_toArray, List.set_cons_zero, List.set_cons_succ]
  refine wpOrd_nil ?_
  refine at_world (fun W => Below w1.heap.size w1 W ∧ Blk W w1.heap.size 83 #[.slice A n c, .int .i64 (r : Int), .int .i64 (s : Int)]) ⟨by go_grown, (Blk.new _ _ _).drew⟩ (fun w2 h2 => ?_)
  obtain ⟨hb2, xB⟩ := h2
  have hx := xB.lt
  have hk2 : w.heap.size < w2.heap.size := by have := hb2.size; omega
  have hp2 : p < w2.heap.size := by have := hb2.size; omega
  have x0 := xB.cell 0
  have x1 := xB.cell 1
  have x2 := xB.cell 2
  have f0 := xB.frozen 0
  have f1 := xB.frozen 1
  have f2 := xB.frozen 2
  have kB2 := kB.below hb2 hk
  have j0 := kB2.cell 0
  have j1 := kB2.cell 1
  have j2 := kB2.cell 2
  have j3 := kB2.cell 3
  clear hlk k0 k1 k2 k3 p1
  go_wp2_with fail
  clear j0 j1 j2 j3
  refine (has_any p mb nx M nm lb nu ge w2 A n c r s (hB.below (hb1.trans (hb2.mono hb1.size)) hp) (hM.keep ((hb1.trans (hb2.mono hb1.size)).block mb hM.lt)) HV.out).mono ?_
  rintro e w3 ⟨rfl, hb23⟩
  rw [HI.out]
  have HB3 := (hb1.trans (hb2.mono hb1.size)).trans (hb23.mono (hb1.trans (hb2.mono hb1.size)).size)
  have xB3 := xB.below hb23 hx
  have kB3 := (kB.below hb2 hk).below hb23 (by have := hb2.size; omega)
  have p3 : w3.cell? ⟨p, 0, none⟩ = some (.map (some mb)) := (HB3.cell (p := ⟨p, 0, none⟩) hp).trans (hB.cell 0)
  have hp3 : p < w3.heap.size := by have := HB3.size; omega
  have k0 := kB3.cell 0
  have k1 := kB3.cell 1
  have k2 := kB3.cell 2
  have k3 := kB3.cell 3
  have y0 := xB3.cell 0
  have y1 := xB3.cell 1
  have y2 := xB3.cell 2
  have g0 := xB3.frozen 0
  have g1 := xB3.frozen 1
  have g2 := xB3.frozen 2
  have hk3 := kB3.lt
  have hx3 := xB3.lt
  clear x0 x1 x2 f0 f1 f2
  clear k0 k1 k2 k3 p3
  go_wp2
  go_ret2
  exact ⟨rfl, HB3⟩

set_option maxRecDepth 100000 in
set_option maxHeartbeats 400000 in
theorem read_wait (A : Option Addr) (c : Nat) (r s : Nat) (hB : Blk w p 80 (pcells mb nx)) (hM : MapIs pkv w mb M) (hv : (mget M (nm, lb, nu, ge)).getD pzero = .agg #[.slice A 0 c, .int .i64 (r : Int), .int .i64 (s : Int)]) (hr : r < 60000) (hs : s < 60000) (hi : (mget M (nm, lb, nu, ge)).isSome = true) (h0 : 0 < s) (m : Int) (hm : 0 < m) :
    Calls Try.prog 19 #[.pointer (some ⟨p, 0, none⟩), .agg #[.bool nm, .int .u8 (lb.toNat : Int), .int .u16 (nu.toNat : Int), .int .u16 (ge.toNat : Int)], .int .i64 m] w fun e w' => e = .returned (.tuple #[.slice none 0 0, .int .i64 33]) ∧ Below w.heap.size w w' := by
  have hlk := fun W hW => look_pipe hM nm lb nu ge hv W hW
  have hr' : (r : Int) < 60000 := by omega
  have hs' : (s : Int) < 60000 := by omega
  have HV := hide hv
  have HI := hide hi
  clear hv hi
  have hz : (0 : Int) < s := by omega
  have hm' : decide (m < 0) = false := by simp; omega
  go_enter Try.func19, Try.ntmps19
  go_wp2
  refine at_world (fun W => Below w.heap.size w W ∧ Blk W w.heap.size 41 #[.bool nm, .int .u8 (lb.toNat : Int), .int .u16 (nu.toNat : Int), .int .u16 (ge.toNat : Int)]) ⟨by go_grown, Blk.new _ _ _⟩ (fun w1 h1 => ?_)
  obtain ⟨hb1, kB⟩ := h1
  have hp := hB.lt
  have hk := kB.lt
  have hp1 : p < w1.heap.size := by have := hb1.size; omega
  have p1 : w1.cell? ⟨p, 0, none⟩ = some (.map (some mb)) := (hb1.cell (p := ⟨p, 0, none⟩) hp).trans (hB.cell 0)
  have k0 := kB.cell 0
  have k1 := kB.cell 1
  have k2 := kB.cell 2
  have k3 := kB.cell 3
  refine wp_region_text [0, 0, 0, 0, 0, 0, 1, 1] (Below w1.heap.size w1) (by kernel_rfl) (by kernel_rfl) (Below.refl _ _).drew ?_
  iterate 6 (refine wpOrd_q (v := ?_) (by rfl) (fun W hW => ?_) ?_; rotate_left; (focus ((obtain ⟨hWc, hWf⟩ := bcell hW); have hlW := hlk W (hb1.trans (hW.mono hb1.size)); go_simp; try with_reducible rfl)); try simp only [Act.put, List.setIfInBounds_toArray, List.set_cons_zero, List.set_cons_succ])
  refine wpOrd_x (by rfl) (fun K hK => ?_)
  go_simp
  refine hK _ _ _ (fun _ h => h) (by go_grown) ?_
  clear hK K
  try simp only [Act.put, List.setIfInBounds_toArray, List.set_cons_zero, List.set_cons_succ]
  refine wpOrd_x (by rfl) (fun K hK => ?_)
  go_simp
  refine hK _ _ _ (fun _ h => h) (by go_grown) ?_
  clear hK K
  try simp only [Act.put, List.setIfInBounds_toArray, List.set_cons_zero, List.set_cons_succ]
  refine wpOrd_nil ?_
  refine at_world (fun W => Below w1.heap.size w1 W ∧ Blk W w1.heap.size 83 #[.slice A 0 c, .int .i64 (r : Int), .int .i64 (s : Int)]) ⟨by go_grown, (Blk.new _ _ _).drew⟩ (fun w2 h2 => ?_)
  obtain ⟨hb2, xB⟩ := h2
  have hx := xB.lt
  have hk2 : w.heap.size < w2.heap.size := by have := hb2.size; omega
  have hp2 : p < w2.heap.size := by have := hb2.size; omega
  have x0 := xB.cell 0
  have x1 := xB.cell 1
  have x2 := xB.cell 2
  have f0 := xB.frozen 0
  have f1 := xB.frozen 1
  have f2 := xB.frozen 2
  have kB2 := kB.below hb2 hk
  have j0 := kB2.cell 0
  have j1 := kB2.cell 1
  have j2 := kB2.cell 2
  have j3 := kB2.cell 3
  clear hlk k0 k1 k2 k3 p1
  go_wp2_with fail
  clear j0 j1 j2 j3
  refine (has_any p mb nx M nm lb nu ge w2 A 0 c r s (hB.below (hb1.trans (hb2.mono hb1.size)) hp) (hM.keep ((hb1.trans (hb2.mono hb1.size)).block mb hM.lt)) HV.out).mono ?_
  rintro e w3 ⟨rfl, hb23⟩
  rw [HI.out]
  have HB3 := (hb1.trans (hb2.mono hb1.size)).trans (hb23.mono (hb1.trans (hb2.mono hb1.size)).size)
  have xB3 := xB.below hb23 hx
  have kB3 := (kB.below hb2 hk).below hb23 (by have := hb2.size; omega)
  have p3 : w3.cell? ⟨p, 0, none⟩ = some (.map (some mb)) := (HB3.cell (p := ⟨p, 0, none⟩) hp).trans (hB.cell 0)
  have hp3 : p < w3.heap.size := by have := HB3.size; omega
  have k0 := kB3.cell 0
  have k1 := kB3.cell 1
  have k2 := kB3.cell 2
  have k3 := kB3.cell 3
  have y0 := xB3.cell 0
  have y1 := xB3.cell 1
  have y2 := xB3.cell 2
  have g0 := xB3.frozen 0
  have g1 := xB3.frozen 1
  have g2 := xB3.frozen 2
  have hk3 := kB3.lt
  have hx3 := xB3.lt
  clear x0 x1 x2 f0 f1 f2
  clear k0 k1 k2 k3 p3
  go_wp2
  go_ret2
  exact ⟨rfl, HB3⟩

set_option maxRecDepth 100000 in
set_option maxHeartbeats 400000 in
theorem read_some (A : Option Addr) (n c : Nat) (r s : Nat) (hB : Blk w p 80 (pcells mb nx)) (hM : MapIs pkv w mb M) (hv : (mget M (nm, lb, nu, ge)).getD pzero = .agg #[.slice A n c, .int .i64 (r : Int), .int .i64 (s : Int)]) (hr : r < 60000) (hs : s < 60000) (hi : (mget M (nm, lb, nu, ge)).isSome = true) (l : List UInt8) (hown : w.ownsRow 0 5 1 (.slice A n c) n (bvs l)) (hn : n ≤ 256) (m : Int) (k : Nat) (hm : 0 ≤ m) (hk : (k : Int) = min m n) (hn0 : 0 < n) :
    Calls Try.prog 19 #[.pointer (some ⟨p, 0, none⟩), .agg #[.bool nm, .int .u8 (lb.toNat : Int), .int .u16 (nu.toNat : Int), .int .u16 (ge.toNat : Int)], .int .i64 m] w fun e w' => ∃ A1 c1 A2 c2, e = .returned (.tuple #[.slice A1 k c1, .int .i64 0]) ∧ TwoOwn w' w.heap.size 5 (.slice A1 k c1) (.slice A2 (n - k) c2) k (n - k) (bvs (l.take k)) (bvs (l.drop k)) ∧
      MapIs pkv w' mb (mput M (nm, lb, nu, ge) (.agg #[.slice A2 (n - k) c2, .int .i64 (r : Int), .int .i64 (s : Int)])) ∧
      Tch w.heap.size (· = mb) w w' := by
  have hlk := fun W hW => look_pipe hM nm lb nu ge hv W hW
  have hr' : (r : Int) < 60000 := by omega
  have hs' : (s : Int) < 60000 := by omega
  have HV := hide hv
  have HI := hide hi
  clear hv hi
  have hm' : decide (m < 0) = false := by simp; omega
  have hmin : (if (n : Int) < m then (n : Int) else m) = k := by omega
  have hwt : ((n : Int) == 0) = false := by simp; omega
  have hkn : k ≤ n := by omega
  clear hk
  go_enter Try.func19, Try.ntmps19
  go_wp2
  refine at_world (fun W => Below w.heap.size w W ∧ Blk W w.heap.size 41 #[.bool nm, .int .u8 (lb.toNat : Int), .int .u16 (nu.toNat : Int), .int .u16 (ge.toNat : Int)]) ⟨by go_grown, Blk.new _ _ _⟩ (fun w1 h1 => ?_)
  obtain ⟨hb1, kB⟩ := h1
  have hp := hB.lt
  have hk := kB.lt
  have hp1 : p < w1.heap.size := by have := hb1.size; omega
  have p1 : w1.cell? ⟨p, 0, none⟩ = some (.map (some mb)) := (hb1.cell (p := ⟨p, 0, none⟩) hp).trans (hB.cell 0)
  have k0 := kB.cell 0
  have k1 := kB.cell 1
  have k2 := kB.cell 2
  have k3 := kB.cell 3
  refine wp_region_text [0, 0, 0, 0, 0, 0, 1, 1] (Below w1.heap.size w1) (by kernel_rfl) (by kernel_rfl) (Below.refl _ _).drew ?_
  iterate 6 (refine wpOrd_q (v := ?_) (by rfl) (fun W hW => ?_) ?_; rotate_left; (focus ((obtain ⟨hWc, hWf⟩ := bcell hW); have hlW := hlk W (hb1.trans (hW.mono hb1.size)); go_simp; try with_reducible rfl)); try simp only [Act.put, List.setIfInBounds_toArray, List.set_cons_zero, List.set_cons_succ])
  refine wpOrd_x (by rfl) (fun K hK => ?_)
  go_simp
  refine hK _ _ _ (fun _ h => h) (by go_grown) ?_
  clear hK K
  try simp only [Act.put, List.setIfInBounds_toArray, List.set_cons_zero, List.set_cons_succ]
  refine wpOrd_x (by rfl) (fun K hK => ?_)
  go_simp
  refine hK _ _ _ (fun _ h => h) (by go_grown) ?_
  clear hK K
  try simp only [Act.put, List.setIfInBounds_toArray, List.set_cons_zero, List.set_cons_succ]
  refine wpOrd_nil ?_
  refine at_world (fun W => Below w1.heap.size w1 W ∧ Blk W w1.heap.size 83 #[.slice A n c, .int .i64 (r : Int), .int .i64 (s : Int)]) ⟨by go_grown, (Blk.new _ _ _).drew⟩ (fun w2 h2 => ?_)
  obtain ⟨hb2, xB⟩ := h2
  have hx := xB.lt
  have hk2 : w.heap.size < w2.heap.size := by have := hb2.size; omega
  have hp2 : p < w2.heap.size := by have := hb2.size; omega
  have x0 := xB.cell 0
  have x1 := xB.cell 1
  have x2 := xB.cell 2
  have f0 := xB.frozen 0
  have f1 := xB.frozen 1
  have f2 := xB.frozen 2
  have kB2 := kB.below hb2 hk
  have j0 := kB2.cell 0
  have j1 := kB2.cell 1
  have j2 := kB2.cell 2
  have j3 := kB2.cell 3
  clear hlk k0 k1 k2 k3 p1
  go_wp2_with fail
  clear j0 j1 j2 j3
  refine (has_any p mb nx M nm lb nu ge w2 A n c r s (hB.below (hb1.trans (hb2.mono hb1.size)) hp) (hM.keep ((hb1.trans (hb2.mono hb1.size)).block mb hM.lt)) HV.out).mono ?_
  rintro e w3 ⟨rfl, hb23⟩
  rw [HI.out]
  have HB3 := (hb1.trans (hb2.mono hb1.size)).trans (hb23.mono (hb1.trans (hb2.mono hb1.size)).size)
  have xB3 := xB.below hb23 hx
  have kB3 := (kB.below hb2 hk).below hb23 (by have := hb2.size; omega)
  have p3 : w3.cell? ⟨p, 0, none⟩ = some (.map (some mb)) := (HB3.cell (p := ⟨p, 0, none⟩) hp).trans (hB.cell 0)
  have hp3 : p < w3.heap.size := by have := HB3.size; omega
  have k0 := kB3.cell 0
  have k1 := kB3.cell 1
  have k2 := kB3.cell 2
  have k3 := kB3.cell 3
  have y0 := xB3.cell 0
  have y1 := xB3.cell 1
  have y2 := xB3.cell 2
  have g0 := xB3.frozen 0
  have g1 := xB3.frozen 1
  have g2 := xB3.frozen 2
  have hk3 := kB3.lt
  have hx3 := xB3.lt
  clear x0 x1 x2 f0 f1 f2
  clear k0 k1 k2 k3 p3
  go_wp2_with fail
  have hown3 : w3.ownsRow 0 5 1 (.slice A n c) n (bvs l) := own_keep hown (fun g hg => HB3.block g (hown.lt g hg).2)
  have hnc : n ≤ c := by
    obtain ⟨A', c', he, hc, _⟩ := own_form hown
    simp only [Value.slice.injEq] at he
    omega
  refine (split_ok A n c k l w3 (Rd.of_own hown3) (by omega) hnc (by omega)).mono ?_
  rintro e w4 ⟨A1, c1, A2, c2, rfl, hTwo, hb34⟩
  have HB4 := HB3.trans (hb34.mono HB3.size)
  have xB4 := xB3.below hb34 hx3
  have kB4 := kB3.below hb34 hk3
  have z0 := xB4.cell 0
  have z1 := xB4.frozen 0
  have hx4 := xB4.lt
  clear y0 y1 y2 g0 g1 g2 hk3 hp3 hmin
  go_wp2_with fail
  refine at_world (fun W => Blk W w1.heap.size 83 #[.slice A2 (n - k) c2, .int .i64 (r : Int), .int .i64 (s : Int)] ∧ Blk W w.heap.size 41 #[.bool nm, .int .u8 (lb.toNat : Int), .int .u16 (nu.toNat : Int), .int .u16 (ge.toNat : Int)] ∧ Below w.heap.size w W ∧ TwoOwn W w3.heap.size 5 (.slice A1 k c1) (.slice A2 (n - k) c2) k (n - k) (bvs (l.take k)) (bvs (l.drop k))) ?_ (fun w5 h5 => ?_)
  · refine ⟨by simpa using xB4.set_ 0 _, kB4.far (by show _ ≠ w1.heap.size; omega) _, HB4.setCell (by show _ ≤ w1.heap.size; omega) _, own_keep hTwo.1 (fun g hg => Below.heap_setCell _ _ _ _ (show g ≠ w1.heap.size from ?_)), own_keep hTwo.2.1 (fun g hg => Below.heap_setCell _ _ _ _ (show g ≠ w1.heap.size from ?_)), hTwo.2.2⟩
    · have := (hTwo.1.lt g hg).1; omega
    · have := (hTwo.2.1.lt g hg).1; omega
  obtain ⟨xB5, kB5, HB5, hTwo5⟩ := h5
  clear z0 z1 hx3 hx4 hTwo
  have p5 : w5.cell? ⟨p, 0, none⟩ = some (.map (some mb)) := (HB5.cell (p := ⟨p, 0, none⟩) hp).trans (hB.cell 0)
  have hp5 : p < w5.heap.size := by have := HB5.size; omega
  have hM5 := hM.keep (HB5.block mb hM.lt)
  have k0 := kB5.cell 0
  have k1 := kB5.cell 1
  have k2 := kB5.cell 2
  have k3 := kB5.cell 3
  have y0 := xB5.cell 0
  have y1 := xB5.cell 1
  have y2 := xB5.cell 2
  have hk5 := kB5.lt
  have hx5 := xB5.lt
  go_wp2_with fail
  obtain ⟨w7, hrun, hM7, hO7⟩ := (hM5.keep (w' := w5.drew) rfl).update pkeyEnc Try.underlying78 (nm, lb, nu, ge) (.agg #[.slice A2 (n - k) c2, .int .i64 (r : Int), .int .i64 (s : Int)])
  simp only [pkv] at hrun
  refine wp_region_text [0, 0, 0, 0, 0, 0, 2] (Below w5.heap.size w5) (by kernel_rfl) (by kernel_rfl) (Below.refl _ _).drew ?_
  iterate 6 (refine wpOrd_q (v := ?_) (by rfl) (fun W hW => ?_) ?_; rotate_left; (focus ((obtain ⟨hWc, hWf⟩ := bcell hW); go_simp; try with_reducible rfl)); try simp only [Act.put, List.setIfInBounds_toArray, List.set_cons_zero, List.set_cons_succ])
  refine wpOrd_b (by rfl) (fun K hK => ?_)
  go_simp
  refine hK (fun _ => True) _ _ trivial ?_
  clear hK K
  try simp only [Act.put, List.setIfInBounds_toArray, List.set_cons_zero, List.set_cons_succ]
  refine wpOrd_nil ?_
  go_wp2
  go_ret2
  have hb0 := HB3.size
  have hml := hM.lt
  refine ⟨A1, c1, A2, c2, rfl, ⟨own_mono (own_keep hTwo5.1 (fun g hg => hO7.1.block g (hTwo5.1.lt g hg).2 ?_)) hb0, own_mono (own_keep hTwo5.2.1 (fun g hg => hO7.1.block g (hTwo5.2.1.lt g hg).2 ?_)) hb0, hTwo5.2.2⟩, hM7, (Tch.of_below HB5.drew).trans (Tch.of_only hO7 HB5.size)⟩
  · have := (hTwo5.1.lt g hg).1
    simp only [ne_eq, Option.some.injEq]
    omega
  · have := (hTwo5.2.1.lt g hg).1
    simp only [ne_eq, Option.some.injEq]
    omega

set_option maxRecDepth 100000 in
set_option maxHeartbeats 400000 in
theorem read_over (A : Option Addr) (c : Nat) (r : Nat) (hB : Blk w p 80 (pcells mb nx)) (hM : MapIs pkv w mb M) (hv : (mget M (nm, lb, nu, ge)).getD pzero = .agg #[.slice A 0 c, .int .i64 (r : Int), .int .i64 (0 : Int)]) (hr : r < 60000) (hi : (mget M (nm, lb, nu, ge)).isSome = true) (l : List UInt8) (hown : w.ownsRow 0 5 1 (.slice A 0 c) 0 (bvs l)) (m : Int) (hm : 0 ≤ m) :
    Calls Try.prog 19 #[.pointer (some ⟨p, 0, none⟩), .agg #[.bool nm, .int .u8 (lb.toNat : Int), .int .u16 (nu.toNat : Int), .int .u16 (ge.toNat : Int)], .int .i64 m] w fun e w' => ∃ A1 c1 A2 c2, e = .returned (.tuple #[.slice A1 0 c1, .int .i64 0]) ∧ TwoOwn w' w.heap.size 5 (.slice A1 0 c1) (.slice A2 0 c2) 0 0 (bvs (l.take 0)) (bvs (l.drop 0)) ∧
      MapIs pkv w' mb (mput M (nm, lb, nu, ge) (.agg #[.slice A2 0 c2, .int .i64 (r : Int), .int .i64 (0 : Int)])) ∧
      Tch w.heap.size (· = mb) w w' := by
  have hlk := fun W hW => look_pipe hM nm lb nu ge hv W hW
  have hr' : (r : Int) < 60000 := by omega
  have HV := hide hv
  have HI := hide hi
  clear hv hi
  have hm' : decide (m < 0) = false := by simp; omega
  have hmin : (if (0 : Int) < m then (0 : Int) else m) = 0 := by omega
  go_enter Try.func19, Try.ntmps19
  go_wp2
  refine at_world (fun W => Below w.heap.size w W ∧ Blk W w.heap.size 41 #[.bool nm, .int .u8 (lb.toNat : Int), .int .u16 (nu.toNat : Int), .int .u16 (ge.toNat : Int)]) ⟨by go_grown, Blk.new _ _ _⟩ (fun w1 h1 => ?_)
  obtain ⟨hb1, kB⟩ := h1
  have hp := hB.lt
  have hk := kB.lt
  have hp1 : p < w1.heap.size := by have := hb1.size; omega
  have p1 : w1.cell? ⟨p, 0, none⟩ = some (.map (some mb)) := (hb1.cell (p := ⟨p, 0, none⟩) hp).trans (hB.cell 0)
  have k0 := kB.cell 0
  have k1 := kB.cell 1
  have k2 := kB.cell 2
  have k3 := kB.cell 3
  refine wp_region_text [0, 0, 0, 0, 0, 0, 1, 1] (Below w1.heap.size w1) (by kernel_rfl) (by kernel_rfl) (Below.refl _ _).drew ?_
  iterate 6 (refine wpOrd_q (v := ?_) (by rfl) (fun W hW => ?_) ?_; rotate_left; (focus ((obtain ⟨hWc, hWf⟩ := bcell hW); have hlW := hlk W (hb1.trans (hW.mono hb1.size)); go_simp; try with_reducible rfl)); try simp only [Act.put, List.setIfInBounds_toArray, List.set_cons_zero, List.set_cons_succ])
  refine wpOrd_x (by rfl) (fun K hK => ?_)
  go_simp
  refine hK _ _ _ (fun _ h => h) (by go_grown) ?_
  clear hK K
  try simp only [Act.put, List.setIfInBounds_toArray, List.set_cons_zero, List.set_cons_succ]
  refine wpOrd_x (by rfl) (fun K hK => ?_)
  go_simp
  refine hK _ _ _ (fun _ h => h) (by go_grown) ?_
  clear hK K
  try simp only [Act.put, List.setIfInBounds_toArray, List.set_cons_zero, List.set_cons_succ]
  refine wpOrd_nil ?_
  refine at_world (fun W => Below w1.heap.size w1 W ∧ Blk W w1.heap.size 83 #[.slice A 0 c, .int .i64 (r : Int), .int .i64 (0 : Int)]) ⟨by go_grown, (Blk.new _ _ _).drew⟩ (fun w2 h2 => ?_)
  obtain ⟨hb2, xB⟩ := h2
  have hx := xB.lt
  have hk2 : w.heap.size < w2.heap.size := by have := hb2.size; omega
  have hp2 : p < w2.heap.size := by have := hb2.size; omega
  have x0 := xB.cell 0
  have x1 := xB.cell 1
  have x2 := xB.cell 2
  have f0 := xB.frozen 0
  have f1 := xB.frozen 1
  have f2 := xB.frozen 2
  have kB2 := kB.below hb2 hk
  have j0 := kB2.cell 0
  have j1 := kB2.cell 1
  have j2 := kB2.cell 2
  have j3 := kB2.cell 3
  clear hlk k0 k1 k2 k3 p1
  go_wp2_with fail
  clear j0 j1 j2 j3
  refine (has_any p mb nx M nm lb nu ge w2 A 0 c r 0 (hB.below (hb1.trans (hb2.mono hb1.size)) hp) (hM.keep ((hb1.trans (hb2.mono hb1.size)).block mb hM.lt)) HV.out).mono ?_
  rintro e w3 ⟨rfl, hb23⟩
  rw [HI.out]
  have HB3 := (hb1.trans (hb2.mono hb1.size)).trans (hb23.mono (hb1.trans (hb2.mono hb1.size)).size)
  have xB3 := xB.below hb23 hx
  have kB3 := (kB.below hb2 hk).below hb23 (by have := hb2.size; omega)
  have p3 : w3.cell? ⟨p, 0, none⟩ = some (.map (some mb)) := (HB3.cell (p := ⟨p, 0, none⟩) hp).trans (hB.cell 0)
  have hp3 : p < w3.heap.size := by have := HB3.size; omega
  have k0 := kB3.cell 0
  have k1 := kB3.cell 1
  have k2 := kB3.cell 2
  have k3 := kB3.cell 3
  have y0 := xB3.cell 0
  have y1 := xB3.cell 1
  have y2 := xB3.cell 2
  have g0 := xB3.frozen 0
  have g1 := xB3.frozen 1
  have g2 := xB3.frozen 2
  have hk3 := kB3.lt
  have hx3 := xB3.lt
  clear x0 x1 x2 f0 f1 f2
  clear k0 k1 k2 k3 p3
  go_wp2_with fail
  have hown3 : w3.ownsRow 0 5 1 (.slice A 0 c) 0 (bvs l) := own_keep hown (fun g hg => HB3.block g (hown.lt g hg).2)
  have hnc : 0 ≤ c := by
    obtain ⟨A', c', he, hc, _⟩ := own_form hown
    simp only [Value.slice.injEq] at he
    omega
  refine (split_ok A 0 c 0 l w3 (Rd.of_own hown3) (by omega) hnc (by omega)).mono ?_
  rintro e w4 ⟨A1, c1, A2, c2, rfl, hTwo, hb34⟩
  have HB4 := HB3.trans (hb34.mono HB3.size)
  have xB4 := xB3.below hb34 hx3
  have kB4 := kB3.below hb34 hk3
  have z0 := xB4.cell 0
  have z1 := xB4.frozen 0
  have hx4 := xB4.lt
  clear y0 y1 y2 g0 g1 g2 hk3 hp3
  go_wp2_with fail
  refine at_world (fun W => Blk W w1.heap.size 83 #[.slice A2 0 c2, .int .i64 (r : Int), .int .i64 (0 : Int)] ∧ Blk W w.heap.size 41 #[.bool nm, .int .u8 (lb.toNat : Int), .int .u16 (nu.toNat : Int), .int .u16 (ge.toNat : Int)] ∧ Below w.heap.size w W ∧ TwoOwn W w3.heap.size 5 (.slice A1 0 c1) (.slice A2 0 c2) 0 0 (bvs (l.take 0)) (bvs (l.drop 0))) ?_ (fun w5 h5 => ?_)
  · refine ⟨by simpa using xB4.set_ 0 _, kB4.far (by show _ ≠ w1.heap.size; omega) _, HB4.setCell (by show _ ≤ w1.heap.size; omega) _, own_keep hTwo.1 (fun g hg => Below.heap_setCell _ _ _ _ (show g ≠ w1.heap.size from ?_)), own_keep hTwo.2.1 (fun g hg => Below.heap_setCell _ _ _ _ (show g ≠ w1.heap.size from ?_)), hTwo.2.2⟩
    · have := (hTwo.1.lt g hg).1; omega
    · have := (hTwo.2.1.lt g hg).1; omega
  obtain ⟨xB5, kB5, HB5, hTwo5⟩ := h5
  clear z0 z1 hx3 hx4 hTwo
  have p5 : w5.cell? ⟨p, 0, none⟩ = some (.map (some mb)) := (HB5.cell (p := ⟨p, 0, none⟩) hp).trans (hB.cell 0)
  have hp5 : p < w5.heap.size := by have := HB5.size; omega
  have hM5 := hM.keep (HB5.block mb hM.lt)
  have k0 := kB5.cell 0
  have k1 := kB5.cell 1
  have k2 := kB5.cell 2
  have k3 := kB5.cell 3
  have y0 := xB5.cell 0
  have y1 := xB5.cell 1
  have y2 := xB5.cell 2
  have hk5 := kB5.lt
  have hx5 := xB5.lt
  go_wp2_with fail
  obtain ⟨w7, hrun, hM7, hO7⟩ := (hM5.keep (w' := w5.drew) rfl).update pkeyEnc Try.underlying78 (nm, lb, nu, ge) (.agg #[.slice A2 0 c2, .int .i64 (r : Int), .int .i64 (0 : Int)])
  simp only [pkv] at hrun
  refine wp_region_text [0, 0, 0, 0, 0, 0, 2] (Below w5.heap.size w5) (by kernel_rfl) (by kernel_rfl) (Below.refl _ _).drew ?_
  iterate 6 (refine wpOrd_q (v := ?_) (by rfl) (fun W hW => ?_) ?_; rotate_left; (focus ((obtain ⟨hWc, hWf⟩ := bcell hW); go_simp; try with_reducible rfl)); try simp only [Act.put, List.setIfInBounds_toArray, List.set_cons_zero, List.set_cons_succ])
  refine wpOrd_b (by rfl) (fun K hK => ?_)
  go_simp
  refine hK (fun _ => True) _ _ trivial ?_
  clear hK K
  try simp only [Act.put, List.setIfInBounds_toArray, List.set_cons_zero, List.set_cons_succ]
  refine wpOrd_nil ?_
  go_wp2
  go_ret2
  have hb0 := HB3.size
  have hml := hM.lt
  refine ⟨A1, c1, A2, c2, rfl, ⟨own_mono (own_keep hTwo5.1 (fun g hg => hO7.1.block g (hTwo5.1.lt g hg).2 ?_)) hb0, own_mono (own_keep hTwo5.2.1 (fun g hg => hO7.1.block g (hTwo5.2.1.lt g hg).2 ?_)) hb0, hTwo5.2.2⟩, hM7, (Tch.of_below HB5.drew).trans (Tch.of_only hO7 HB5.size)⟩
  · have := (hTwo5.1.lt g hg).1
    simp only [ne_eq, Option.some.injEq]
    omega
  · have := (hTwo5.2.1.lt g hg).1
    simp only [ne_eq, Option.some.injEq]
    omega

set_option maxRecDepth 100000 in
set_option maxHeartbeats 400000 in
theorem read_naught (A : Option Addr) (c : Nat) (r s : Nat) (hB : Blk w p 80 (pcells mb nx)) (hM : MapIs pkv w mb M) (hv : (mget M (nm, lb, nu, ge)).getD pzero = .agg #[.slice A 0 c, .int .i64 (r : Int), .int .i64 (s : Int)]) (hr : r < 60000) (hs : s < 60000) (hi : (mget M (nm, lb, nu, ge)).isSome = true) (l : List UInt8) (hown : w.ownsRow 0 5 1 (.slice A 0 c) 0 (bvs l)) (h0 : 0 < s) :
    Calls Try.prog 19 #[.pointer (some ⟨p, 0, none⟩), .agg #[.bool nm, .int .u8 (lb.toNat : Int), .int .u16 (nu.toNat : Int), .int .u16 (ge.toNat : Int)], .int .i64 0] w fun e w' => ∃ A1 c1 A2 c2, e = .returned (.tuple #[.slice A1 0 c1, .int .i64 0]) ∧ TwoOwn w' w.heap.size 5 (.slice A1 0 c1) (.slice A2 0 c2) 0 0 (bvs (l.take 0)) (bvs (l.drop 0)) ∧
      MapIs pkv w' mb (mput M (nm, lb, nu, ge) (.agg #[.slice A2 0 c2, .int .i64 (r : Int), .int .i64 (s : Int)])) ∧
      Tch w.heap.size (· = mb) w w' := by
  have hlk := fun W hW => look_pipe hM nm lb nu ge hv W hW
  have hr' : (r : Int) < 60000 := by omega
  have hs' : (s : Int) < 60000 := by omega
  have HV := hide hv
  have HI := hide hi
  clear hv hi
  have hz : (0 : Int) < s := by omega
  go_enter Try.func19, Try.ntmps19
  go_wp2
  refine at_world (fun W => Below w.heap.size w W ∧ Blk W w.heap.size 41 #[.bool nm, .int .u8 (lb.toNat : Int), .int .u16 (nu.toNat : Int), .int .u16 (ge.toNat : Int)]) ⟨by go_grown, Blk.new _ _ _⟩ (fun w1 h1 => ?_)
  obtain ⟨hb1, kB⟩ := h1
  have hp := hB.lt
  have hk := kB.lt
  have hp1 : p < w1.heap.size := by have := hb1.size; omega
  have p1 : w1.cell? ⟨p, 0, none⟩ = some (.map (some mb)) := (hb1.cell (p := ⟨p, 0, none⟩) hp).trans (hB.cell 0)
  have k0 := kB.cell 0
  have k1 := kB.cell 1
  have k2 := kB.cell 2
  have k3 := kB.cell 3
  refine wp_region_text [0, 0, 0, 0, 0, 0, 1, 1] (Below w1.heap.size w1) (by kernel_rfl) (by kernel_rfl) (Below.refl _ _).drew ?_
  iterate 6 (refine wpOrd_q (v := ?_) (by rfl) (fun W hW => ?_) ?_; rotate_left; (focus ((obtain ⟨hWc, hWf⟩ := bcell hW); have hlW := hlk W (hb1.trans (hW.mono hb1.size)); go_simp; try with_reducible rfl)); try simp only [Act.put, List.setIfInBounds_toArray, List.set_cons_zero, List.set_cons_succ])
  refine wpOrd_x (by rfl) (fun K hK => ?_)
  go_simp
  refine hK _ _ _ (fun _ h => h) (by go_grown) ?_
  clear hK K
  try simp only [Act.put, List.setIfInBounds_toArray, List.set_cons_zero, List.set_cons_succ]
  refine wpOrd_x (by rfl) (fun K hK => ?_)
  go_simp
  refine hK _ _ _ (fun _ h => h) (by go_grown) ?_
  clear hK K
  try simp only [Act.put, List.setIfInBounds_toArray, List.set_cons_zero, List.set_cons_succ]
  refine wpOrd_nil ?_
  refine at_world (fun W => Below w1.heap.size w1 W ∧ Blk W w1.heap.size 83 #[.slice A 0 c, .int .i64 (r : Int), .int .i64 (s : Int)]) ⟨by go_grown, (Blk.new _ _ _).drew⟩ (fun w2 h2 => ?_)
  obtain ⟨hb2, xB⟩ := h2
  have hx := xB.lt
  have hk2 : w.heap.size < w2.heap.size := by have := hb2.size; omega
  have hp2 : p < w2.heap.size := by have := hb2.size; omega
  have x0 := xB.cell 0
  have x1 := xB.cell 1
  have x2 := xB.cell 2
  have f0 := xB.frozen 0
  have f1 := xB.frozen 1
  have f2 := xB.frozen 2
  have kB2 := kB.below hb2 hk
  have j0 := kB2.cell 0
  have j1 := kB2.cell 1
  have j2 := kB2.cell 2
  have j3 := kB2.cell 3
  clear hlk k0 k1 k2 k3 p1
  go_wp2_with fail
  clear j0 j1 j2 j3
  refine (has_any p mb nx M nm lb nu ge w2 A 0 c r s (hB.below (hb1.trans (hb2.mono hb1.size)) hp) (hM.keep ((hb1.trans (hb2.mono hb1.size)).block mb hM.lt)) HV.out).mono ?_
  rintro e w3 ⟨rfl, hb23⟩
  rw [HI.out]
  have HB3 := (hb1.trans (hb2.mono hb1.size)).trans (hb23.mono (hb1.trans (hb2.mono hb1.size)).size)
  have xB3 := xB.below hb23 hx
  have kB3 := (kB.below hb2 hk).below hb23 (by have := hb2.size; omega)
  have p3 : w3.cell? ⟨p, 0, none⟩ = some (.map (some mb)) := (HB3.cell (p := ⟨p, 0, none⟩) hp).trans (hB.cell 0)
  have hp3 : p < w3.heap.size := by have := HB3.size; omega
  have k0 := kB3.cell 0
  have k1 := kB3.cell 1
  have k2 := kB3.cell 2
  have k3 := kB3.cell 3
  have y0 := xB3.cell 0
  have y1 := xB3.cell 1
  have y2 := xB3.cell 2
  have g0 := xB3.frozen 0
  have g1 := xB3.frozen 1
  have g2 := xB3.frozen 2
  have hk3 := kB3.lt
  have hx3 := xB3.lt
  clear x0 x1 x2 f0 f1 f2
  clear k0 k1 k2 k3 p3
  go_wp2_with fail
  have hown3 : w3.ownsRow 0 5 1 (.slice A 0 c) 0 (bvs l) := own_keep hown (fun g hg => HB3.block g (hown.lt g hg).2)
  have hnc : 0 ≤ c := by
    obtain ⟨A', c', he, hc, _⟩ := own_form hown
    simp only [Value.slice.injEq] at he
    omega
  refine (split_ok A 0 c 0 l w3 (Rd.of_own hown3) (by omega) hnc (by omega)).mono ?_
  rintro e w4 ⟨A1, c1, A2, c2, rfl, hTwo, hb34⟩
  have HB4 := HB3.trans (hb34.mono HB3.size)
  have xB4 := xB3.below hb34 hx3
  have kB4 := kB3.below hb34 hk3
  have z0 := xB4.cell 0
  have z1 := xB4.frozen 0
  have hx4 := xB4.lt
  clear y0 y1 y2 g0 g1 g2 hk3 hp3
  go_wp2_with fail
  refine at_world (fun W => Blk W w1.heap.size 83 #[.slice A2 0 c2, .int .i64 (r : Int), .int .i64 (s : Int)] ∧ Blk W w.heap.size 41 #[.bool nm, .int .u8 (lb.toNat : Int), .int .u16 (nu.toNat : Int), .int .u16 (ge.toNat : Int)] ∧ Below w.heap.size w W ∧ TwoOwn W w3.heap.size 5 (.slice A1 0 c1) (.slice A2 0 c2) 0 0 (bvs (l.take 0)) (bvs (l.drop 0))) ?_ (fun w5 h5 => ?_)
  · refine ⟨by simpa using xB4.set_ 0 _, kB4.far (by show _ ≠ w1.heap.size; omega) _, HB4.setCell (by show _ ≤ w1.heap.size; omega) _, own_keep hTwo.1 (fun g hg => Below.heap_setCell _ _ _ _ (show g ≠ w1.heap.size from ?_)), own_keep hTwo.2.1 (fun g hg => Below.heap_setCell _ _ _ _ (show g ≠ w1.heap.size from ?_)), hTwo.2.2⟩
    · have := (hTwo.1.lt g hg).1; omega
    · have := (hTwo.2.1.lt g hg).1; omega
  obtain ⟨xB5, kB5, HB5, hTwo5⟩ := h5
  clear z0 z1 hx3 hx4 hTwo
  have p5 : w5.cell? ⟨p, 0, none⟩ = some (.map (some mb)) := (HB5.cell (p := ⟨p, 0, none⟩) hp).trans (hB.cell 0)
  have hp5 : p < w5.heap.size := by have := HB5.size; omega
  have hM5 := hM.keep (HB5.block mb hM.lt)
  have k0 := kB5.cell 0
  have k1 := kB5.cell 1
  have k2 := kB5.cell 2
  have k3 := kB5.cell 3
  have y0 := xB5.cell 0
  have y1 := xB5.cell 1
  have y2 := xB5.cell 2
  have hk5 := kB5.lt
  have hx5 := xB5.lt
  go_wp2_with fail
  obtain ⟨w7, hrun, hM7, hO7⟩ := (hM5.keep (w' := w5.drew) rfl).update pkeyEnc Try.underlying78 (nm, lb, nu, ge) (.agg #[.slice A2 0 c2, .int .i64 (r : Int), .int .i64 (s : Int)])
  simp only [pkv] at hrun
  refine wp_region_text [0, 0, 0, 0, 0, 0, 2] (Below w5.heap.size w5) (by kernel_rfl) (by kernel_rfl) (Below.refl _ _).drew ?_
  iterate 6 (refine wpOrd_q (v := ?_) (by rfl) (fun W hW => ?_) ?_; rotate_left; (focus ((obtain ⟨hWc, hWf⟩ := bcell hW); go_simp; try with_reducible rfl)); try simp only [Act.put, List.setIfInBounds_toArray, List.set_cons_zero, List.set_cons_succ])
  refine wpOrd_b (by rfl) (fun K hK => ?_)
  go_simp
  refine hK (fun _ => True) _ _ trivial ?_
  clear hK K
  try simp only [Act.put, List.setIfInBounds_toArray, List.set_cons_zero, List.set_cons_succ]
  refine wpOrd_nil ?_
  go_wp2
  go_ret2
  have hb0 := HB3.size
  have hml := hM.lt
  refine ⟨A1, c1, A2, c2, rfl, ⟨own_mono (own_keep hTwo5.1 (fun g hg => hO7.1.block g (hTwo5.1.lt g hg).2 ?_)) hb0, own_mono (own_keep hTwo5.2.1 (fun g hg => hO7.1.block g (hTwo5.2.1.lt g hg).2 ?_)) hb0, hTwo5.2.2⟩, hM7, (Tch.of_below HB5.drew).trans (Tch.of_only hO7 HB5.size)⟩
  · have := (hTwo5.1.lt g hg).1
    simp only [ne_eq, Option.some.injEq]
    omega
  · have := (hTwo5.2.1.lt g hg).1
    simp only [ne_eq, Option.some.injEq]
    omega

set_option maxRecDepth 100000 in
set_option maxHeartbeats 400000 in
theorem ends_none (A : Option Addr) (n c : Nat) (r s : Nat) (hB : Blk w p 80 (pcells mb nx)) (hM : MapIs pkv w mb M) (hv : (mget M (nm, lb, nu, ge)).getD pzero = .agg #[.slice A n c, .int .i64 (r : Int), .int .i64 (s : Int)]) (hi : (mget M (nm, lb, nu, ge)).isSome = false) :
    Calls Try.prog 20 #[.pointer (some ⟨p, 0, none⟩), .agg #[.bool nm, .int .u8 (lb.toNat : Int), .int .u16 (nu.toNat : Int), .int .u16 (ge.toNat : Int)]] w fun e w' => e = .returned (.tuple #[.int .i64 0, .int .i64 0, .int .i64 0]) ∧ Below w.heap.size w w' := by
  have HV := hide hv
  have HI := hide hi
  clear hv hi
  go_enter Try.func20, Try.ntmps20
  go_wp2_with fail
  have hb0 : Below w.heap.size w (w.alloc (.cells #[.bool nm, .int .u8 (lb.toNat : Int), .int .u16 (nu.toNat : Int), .int .u16 (ge.toNat : Int)] 41)) := by go_grown
  have kB0 : Blk (w.alloc (.cells #[.bool nm, .int .u8 (lb.toNat : Int), .int .u16 (nu.toNat : Int), .int .u16 (ge.toNat : Int)] 41)) w.heap.size 41 #[.bool nm, .int .u8 (lb.toNat : Int), .int .u16 (nu.toNat : Int), .int .u16 (ge.toNat : Int)] := Blk.new _ _ _
  refine (has_any p mb nx M nm lb nu ge (w.alloc (.cells #[.bool nm, .int .u8 (lb.toNat : Int), .int .u16 (nu.toNat : Int), .int .u16 (ge.toNat : Int)] 41)) A n c r s (hB.below hb0 hB.lt) (hM.keep (hb0.block mb hM.lt)) HV.out).mono ?_
  rintro e w1 ⟨rfl, hb1b⟩
  rw [HI.out]
  have hb1 := hb0.trans (hb1b.mono hb0.size)
  have kB := kB0.below hb1b (by simp)
  clear hb1b hb0 kB0
  have hp := hB.lt
  have hk := kB.lt
  have hp1 : p < w1.heap.size := by have := hb1.size; omega
  have p1 : w1.cell? ⟨p, 0, none⟩ = some (.map (some mb)) := (hb1.cell (p := ⟨p, 0, none⟩) hp).trans (hB.cell 0)
  have k0 := kB.cell 0
  have k1 := kB.cell 1
  have k2 := kB.cell 2
  have k3 := kB.cell 3
  go_wp2
  go_returns
  exact ⟨rfl, hb1⟩

set_option maxRecDepth 100000 in
set_option maxHeartbeats 400000 in
theorem ends_ok (A : Option Addr) (n c : Nat) (r s : Nat) (hB : Blk w p 80 (pcells mb nx)) (hM : MapIs pkv w mb M) (hv : (mget M (nm, lb, nu, ge)).getD pzero = .agg #[.slice A n c, .int .i64 (r : Int), .int .i64 (s : Int)]) (hr : r < 60000) (hs : s < 60000) (hi : (mget M (nm, lb, nu, ge)).isSome = true) :
    Calls Try.prog 20 #[.pointer (some ⟨p, 0, none⟩), .agg #[.bool nm, .int .u8 (lb.toNat : Int), .int .u16 (nu.toNat : Int), .int .u16 (ge.toNat : Int)]] w fun e w' => e = .returned (.tuple #[.int .i64 r, .int .i64 s, .int .i64 n]) ∧ Below w.heap.size w w' := by
  have hlk := fun W hW => look_pipe hM nm lb nu ge hv W hW
  have hr' : (r : Int) < 60000 := by omega
  have hs' : (s : Int) < 60000 := by omega
  have HV := hide hv
  have HI := hide hi
  clear hv hi
  go_enter Try.func20, Try.ntmps20
  go_wp2_with fail
  have hb0 : Below w.heap.size w (w.alloc (.cells #[.bool nm, .int .u8 (lb.toNat : Int), .int .u16 (nu.toNat : Int), .int .u16 (ge.toNat : Int)] 41)) := by go_grown
  have kB0 : Blk (w.alloc (.cells #[.bool nm, .int .u8 (lb.toNat : Int), .int .u16 (nu.toNat : Int), .int .u16 (ge.toNat : Int)] 41)) w.heap.size 41 #[.bool nm, .int .u8 (lb.toNat : Int), .int .u16 (nu.toNat : Int), .int .u16 (ge.toNat : Int)] := Blk.new _ _ _
  refine (has_any p mb nx M nm lb nu ge (w.alloc (.cells #[.bool nm, .int .u8 (lb.toNat : Int), .int .u16 (nu.toNat : Int), .int .u16 (ge.toNat : Int)] 41)) A n c r s (hB.below hb0 hB.lt) (hM.keep (hb0.block mb hM.lt)) HV.out).mono ?_
  rintro e w1 ⟨rfl, hb1b⟩
  rw [HI.out]
  have hb1 := hb0.trans (hb1b.mono hb0.size)
  have kB := kB0.below hb1b (by simp)
  clear hb1b hb0 kB0
  have hp := hB.lt
  have hk := kB.lt
  have hp1 : p < w1.heap.size := by have := hb1.size; omega
  have p1 : w1.cell? ⟨p, 0, none⟩ = some (.map (some mb)) := (hb1.cell (p := ⟨p, 0, none⟩) hp).trans (hB.cell 0)
  have k0 := kB.cell 0
  have k1 := kB.cell 1
  have k2 := kB.cell 2
  have k3 := kB.cell 3
  go_wp2_with fail
  refine wp_region_text [0, 0, 0, 0, 0, 0, 1, 1] (Below w1.heap.size w1) (by kernel_rfl) (by kernel_rfl) (Below.refl _ _).drew ?_
  iterate 6 (refine wpOrd_q (v := ?_) (by rfl) (fun W hW => ?_) ?_; rotate_left; (focus ((obtain ⟨hWc, hWf⟩ := bcell hW); have hlW := hlk W (hb1.trans (hW.mono hb1.size)); go_simp; try with_reducible rfl)); try simp only [Act.put, List.setIfInBounds_toArray, List.set_cons_zero, List.set_cons_succ])
  refine wpOrd_x (by rfl) (fun K hK => ?_)
  go_simp
  refine hK _ _ _ (fun _ h => h) (by go_grown) ?_
  clear hK K
  try simp only [Act.put, List.setIfInBounds_toArray, List.set_cons_zero, List.set_cons_succ]
  refine wpOrd_x (by rfl) (fun K hK => ?_)
  go_simp
  refine hK _ _ _ (fun _ h => h) (by go_grown) ?_
  clear hK K
  try simp only [Act.put, List.setIfInBounds_toArray, List.set_cons_zero, List.set_cons_succ]
  refine wpOrd_nil ?_
  refine at_world (fun W => Below w1.heap.size w1 W ∧ Blk W w1.heap.size 83 #[.slice A n c, .int .i64 (r : Int), .int .i64 (s : Int)]) ⟨by go_grown, (Blk.new _ _ _).drew⟩ (fun w2 h2 => ?_)
  obtain ⟨hb2, xB⟩ := h2
  have hx := xB.lt
  have hk2 : w.heap.size < w2.heap.size := by have := hb2.size; omega
  have hp2 : p < w2.heap.size := by have := hb2.size; omega
  have x0 := xB.cell 0
  have x1 := xB.cell 1
  have x2 := xB.cell 2
  have f0 := xB.frozen 0
  have f1 := xB.frozen 1
  have f2 := xB.frozen 2
  clear hlk k0 k1 k2 k3 p1
  go_wp2_with fail
  refine wp_region_text [0, 0, 0, 0, 0, 0, 0, 0, 0, 0] (Below w2.heap.size w2) (by kernel_rfl) (by kernel_rfl) (Below.refl _ _).drew ?_
  iterate 10 (refine wpOrd_q (v := ?_) (by rfl) (fun W hW => ?_) ?_; rotate_left; (focus ((obtain ⟨hWc, hWf⟩ := bcell hW); go_simp; try with_reducible rfl)); try simp only [Act.put, List.setIfInBounds_toArray, List.set_cons_zero, List.set_cons_succ])
  refine wpOrd_nil ?_
  go_wp2
  go_returns
  exact ⟨rfl, (hb1.trans (hb2.mono hb1.size)).drew⟩

set_option maxRecDepth 100000 in
set_option maxHeartbeats 400000 in
theorem len_ok (hB : Blk w p 80 (pcells mb nx)) (hM : MapIs pkv w mb M) :
    Calls Try.prog 23 #[.pointer (some ⟨p, 0, none⟩)] w fun e w' => e = .returned (.int .i64 M.length) ∧ Below w.heap.size w w' := by
  have hl := hM.len Try.underlying78 3
  have p0 := hB.cell 0
  have hp := hB.lt
  simp only [pcells] at p0
  go_enter Try.func23, Try.ntmps23
  go_wp2
  go_returns
  exact ⟨rfl, Below.refl _ _⟩

set_option maxRecDepth 100000 in
set_option maxHeartbeats 400000 in
theorem nil_join (rd wr : Bool) :
    Calls Try.prog 16 #[.pointer none, .agg #[.bool nm, .int .u8 (lb.toNat : Int), .int .u16 (nu.toNat : Int), .int .u16 (ge.toNat : Int)], .bool rd, .bool wr] w fun e w' => e = .returned (.tuple #[]) ∧ Below w.heap.size w w' := by
  go_enter Try.func16, Try.ntmps16
  go_wp2
  go_returns
  exact ⟨rfl, by go_grown⟩

set_option maxRecDepth 100000 in
set_option maxHeartbeats 400000 in
theorem nil_leave (rd wr : Bool) :
    Calls Try.prog 21 #[.pointer none, .agg #[.bool nm, .int .u8 (lb.toNat : Int), .int .u16 (nu.toNat : Int), .int .u16 (ge.toNat : Int)], .bool rd, .bool wr] w fun e w' => e = .returned (.tuple #[]) ∧ Below w.heap.size w w' := by
  go_enter Try.func21, Try.ntmps21
  go_wp2
  go_returns
  exact ⟨rfl, by go_grown⟩

set_option maxRecDepth 100000 in
set_option maxHeartbeats 400000 in
theorem nil_blind (A2 : Option Addr) (n2 c2 : Nat) :
    Calls Try.prog 22 #[.pointer none, .agg #[.bool nm, .int .u8 (lb.toNat : Int), .int .u16 (nu.toNat : Int), .int .u16 (ge.toNat : Int)], .slice A2 n2 c2] w fun e w' => e = .returned (.tuple #[]) ∧ Below w.heap.size w w' := by
  go_enter Try.func22, Try.ntmps22
  go_wp2
  go_returns
  exact ⟨rfl, by go_grown⟩

set_option maxRecDepth 100000 in
set_option maxHeartbeats 400000 in
theorem nil_write (A2 : Option Addr) (n2 c2 : Nat) :
    Calls Try.prog 17 #[.pointer none, .agg #[.bool nm, .int .u8 (lb.toNat : Int), .int .u16 (nu.toNat : Int), .int .u16 (ge.toNat : Int)], .slice A2 n2 c2] w fun e w' => e = .returned (.tuple #[.int .i64 0, .int .i64 1]) ∧ Below w.heap.size w w' := by
  go_enter Try.func17, Try.ntmps17
  go_wp2
  go_returns
  exact ⟨rfl, by go_grown⟩

set_option maxRecDepth 100000 in
set_option maxHeartbeats 400000 in
theorem nil_read (m : Int) :
    Calls Try.prog 19 #[.pointer none, .agg #[.bool nm, .int .u8 (lb.toNat : Int), .int .u16 (nu.toNat : Int), .int .u16 (ge.toNat : Int)], .int .i64 m] w fun e w' => e = .returned (.tuple #[.slice none 0 0, .int .i64 1]) ∧ Below w.heap.size w w' := by
  go_enter Try.func19, Try.ntmps19
  go_wp2
  go_returns
  exact ⟨rfl, by go_grown⟩

set_option maxRecDepth 100000 in
set_option maxHeartbeats 400000 in
theorem nil_ends :
    Calls Try.prog 20 #[.pointer none, .agg #[.bool nm, .int .u8 (lb.toNat : Int), .int .u16 (nu.toNat : Int), .int .u16 (ge.toNat : Int)]] w fun e w' => e = .returned (.tuple #[.int .i64 0, .int .i64 0, .int .i64 0]) ∧ Below w.heap.size w w' := by
  go_enter Try.func20, Try.ntmps20
  go_wp2
  go_returns
  exact ⟨rfl, by go_grown⟩

set_option maxRecDepth 100000 in
set_option maxHeartbeats 400000 in
theorem nil_len :
    Calls Try.prog 23 #[.pointer none] w fun e w' => e = .returned (.int .i64 0) ∧ Below w.heap.size w w' := by
  go_enter Try.func23, Try.ntmps23
  go_wp2
  go_returns
  exact ⟨rfl, by go_grown⟩

set_option maxRecDepth 100000 in
set_option maxHeartbeats 400000 in
theorem nil_plain (m : Int) :
    Calls Try.prog 15 #[.pointer none, .int .i64 m] w fun e w' => e = .returned (.tuple #[.agg #[.bool false, .int .u8 0, .int .u16 0, .int .u16 0], .int .i64 1]) ∧ Below w.heap.size w w' := by
  go_enter Try.func15, Try.ntmps15
  go_wp2
  go_returns
  exact ⟨rfl, by go_grown⟩

set_option maxRecDepth 100000 in
set_option maxHeartbeats 400000 in
theorem join_ :
    Calls Try.prog 16 #[.pointer (some ⟨p, 0, none⟩), .agg #[.bool nm, .int .u8 (lb.toNat : Int), .int .u16 (nu.toNat : Int), .int .u16 (ge.toNat : Int)], .bool false, .bool false] w fun e w' => e = .returned (.tuple #[]) ∧ Below w.heap.size w w' := by
  go_enter Try.func16, Try.ntmps16
  go_wp2
  go_returns
  exact ⟨rfl, by go_grown⟩

set_option maxRecDepth 100000 in
set_option maxHeartbeats 400000 in
theorem of_ok :
    Calls Try.prog 18 #[.agg #[.int .u8 (lb.toNat : Int), .int .u16 (nu.toNat : Int), .int .u16 (ge.toNat : Int)]] w fun e w' => e = .returned (.agg #[.bool true, .int .u8 (lb.toNat : Int), .int .u16 (nu.toNat : Int), .int .u16 (ge.toNat : Int)]) ∧ Below w.heap.size w w' := by
  go_enter Try.func18, Try.ntmps18
  go_wp2
  go_returns
  exact ⟨rfl, by go_grown⟩

theorem build_pipes (W : World) (m : Nat) : (Instr.build 80 #[(0, .map (some m))]).run Try.prog W = .ok (.agg (pcells m (List.replicate 64 0))) W := by kernel_rfl
section
attribute [-go_sem] Instr.build
attribute [local go_sem] build_pipes
set_option maxRecDepth 100000 in
set_option maxHeartbeats 400000 in
theorem new_ok :
    Calls Try.prog 14 #[] w fun e w' => ∃ q mq, e = .returned (.pointer (some ⟨q, 0, none⟩)) ∧ Blk w' q 80 (pcells mq (List.replicate 64 0)) ∧ MapIs pkv w' mq ([] : List (PKey × Value)) ∧ w.heap.size ≤ q ∧ w.heap.size ≤ mq ∧ Below w.heap.size w w' := by
  have hmm := @run_makeMap Try.prog
  go_enter Try.func14, Try.ntmps14
  go_wp2
  go_returns
  refine ⟨w.heap.size + 1, w.heap.size, ?_, by simpa using Blk.new (w.alloc (.map #[] 0)) 80 (pcells w.heap.size (List.replicate 64 0)), (MapIs.made w pkv).keep (Below.heap_alloc _ _ _ (by simp)), by omega, by omega, by go_grown⟩
  simp
end

/-- The search for a free number: g rounds, from x on, to y. -/
def Tk (f : UInt16 → Bool) : Nat → UInt16 → UInt16 → Prop
  | 0, x, y => f x = false ∧ x = y
  | g + 1, x, y => f x = true ∧ Tk f g (x + 1) y
theorem u16_mod (x : UInt16) : (((x.toNat : Int) + 1) % 65536) = ((x + 1).toNat : Int) := by simp [UInt16.toNat_add]
theorem pcells_set (mb : Nat) (nx : List UInt16) (k : Nat) (y : UInt16) : pcells mb (nx.set k y) = (pcells mb nx).setIfInBounds (1 + k) (.int .u16 (y.toNat : Int)) := by
  simp [pcells, Nat.add_comm 1, List.map_set]
theorem u16_add (x : UInt16) : IntKind.u16.wrap ((x.toNat : Int) + 1) = ((x + 1).toNat : Int) := by
  have h : (x + 1).toNat = (x.toNat + 1) % 65536 := by simp [UInt16.toNat_add]
  have hx := x.toNat_lt
  simp [IntKind.wrap, IntKind.signed, IntKind.bits]

/-- each entry is a pipe -/
def Shaped (M : List (PKey × Value)) : Prop := ∀ k v, mget M k = some v → ∃ A n c r s, v = .agg #[.slice A n c, .int .i64 ((r : Nat) : Int), .int .i64 ((s : Nat) : Int)]
theorem has_key (hall : Shaped M) (x : UInt16) (W : World) (hB : Blk W p 80 (pcells mb nx)) (hM : MapIs pkv W mb M) :
    Calls Try.prog 31 #[.pointer (some ⟨p, 0, none⟩), .agg #[.bool false, .int .u8 (lb.toNat : Int), .int .u16 (x.toNat : Int), .int .u16 0]] W fun e w' => e = .returned (.bool (mget M (false, lb, x, 0)).isSome) ∧ Below W.heap.size W w' := by
  obtain ⟨A, n, c, r, s, hv⟩ : ∃ A n c r s, (mget M (false, lb, x, 0)).getD pzero = .agg #[.slice A n c, .int .i64 ((r : Nat) : Int), .int .i64 ((s : Nat) : Int)] := by
    cases h : mget M (false, lb, x, 0) with
    | none => exact ⟨none, 0, 0, 0, 0, rfl⟩
    | some v => exact hall _ v h
  exact has_any p mb nx M false lb x 0 W A n c r s hB hM hv

set_option maxRecDepth 100000 in
set_option maxHeartbeats 400000 in
theorem plain_range (hB : Blk w p 80 (pcells mb nx)) (m : Int) (hm : m < 0 ∨ 64 ≤ m) :
    Calls Try.prog 15 #[.pointer (some ⟨p, 0, none⟩), .int .i64 m] w fun e w' => e = .returned (.tuple #[.agg #[.bool false, .int .u8 0, .int .u16 0, .int .u16 0], .int .i64 27]) ∧ Below w.heap.size w w' := by
  have hp := hB.lt
  rcases hm with hm | hm
  · have h1 : decide (m < 0) = true := by simpa using hm
    go_enter Try.func15, Try.ntmps15
    go_wp2
    go_returns
    exact ⟨rfl, by go_grown⟩
  · have h1 : decide (m < 0) = false := by simp; omega
    have h2 : decide ((64 : Int) ≤ m) = true := by simpa using hm
    go_enter Try.func15, Try.ntmps15
    go_wp2
    go_returns
    exact ⟨rfl, by go_grown⟩

set_option maxRecDepth 100000 in
set_option maxHeartbeats 400000 in
theorem plain_ok (hall : Shaped M) (hB : Blk w p 80 (pcells mb nx)) (hM : MapIs pkv w mb M) (hl : lb.toNat < 64) (x : UInt16) (hnx : nx[lb.toNat]? = some x) (i : Nat) (y : UInt16) (hT : Tk (fun z => (mget M (false, lb, z, 0)).isSome) i x y) :
    Calls Try.prog 15 #[.pointer (some ⟨p, 0, none⟩), .int .i64 (lb.toNat : Int)] w fun e w' => e = .returned (.tuple #[.agg #[.bool false, .int .u8 (lb.toNat : Int), .int .u16 (y.toNat : Int), .int .u16 0], .int .i64 0]) ∧ Blk w' p 80 (pcells mb (nx.set lb.toNat (y + 1))) ∧ Tch w.heap.size (· = p) w w' := by
  have hp := hB.lt
  have hl0 : (lb.toNat : Int) < 64 := by omega
  have hl1 : decide ((64 : Int) ≤ (lb.toNat : Int)) = false := by simp; omega
  have hl2 : decide ((lb.toNat : Int) < 0) = false := by simp
  have pc : w.cell? ⟨p, 1 + lb.toNat, none⟩ = some (.int .u16 (x.toNat : Int)) := by
    rw [hB.cell]
    simp [pcells, Nat.add_comm 1, hnx]
  have A := show Aside _ from hT
  clear hT hnx
  go_enter Try.func15, Try.ntmps15
  go_wp2
  refine at_world (fun W => Below w.heap.size w W ∧ Blk W w.heap.size 41 #[.bool false, .int .u8 0, .int .u16 0, .int .u16 0] ∧ Blk W (w.heap.size + 1) 41 #[.bool false, .int .u8 (lb.toNat : Int), .int .u16 (x.toNat : Int), .int .u16 0]) ⟨by go_grown, (Blk.new _ _ _).alloc _, by simpa using Blk.new (w.alloc (.cells #[.bool false, .int .u8 0, .int .u16 0, .int .u16 0] 41)) 41 #[.bool false, .int .u8 (lb.toNat : Int), .int .u16 (x.toNat : Int), .int .u16 0]⟩ (fun w1 h1 => ?_)
  obtain ⟨hb1, zB, xB⟩ := h1
  go_loopg [] i (fun g wr => ∃ z, Aside (Tk (fun z => (mget M (false, lb, z, 0)).isSome) g z y) ∧ Below w.heap.size w wr ∧ Blk wr w.heap.size 41 #[.bool false, .int .u8 0, .int .u16 0, .int .u16 0] ∧ Blk wr (w.heap.size + 1) 41 #[.bool false, .int .u8 (lb.toNat : Int), .int .u16 (z.toNat : Int), .int .u16 0])
  case atStart => exact ⟨x, A, hb1, zB, xB⟩
  case round =>
    obtain ⟨z, hz, hbr, zR, xR⟩ := hrel
    have PC := show Aside _ from pc
    clear hb1 zB xB A pc
    have k0 := xR.cell 0
    have k1 := xR.cell 1
    have k2 := xR.cell 2
    have k3 := xR.cell 3
    have hk := xR.lt
    have hpr : p < wr.heap.size := by have := hbr.size; omega
    go_wp2_with fail
    refine (has_key p mb nx M lb hall z wr (hB.below hbr hp) (hM.keep (hbr.block mb hM.lt))).mono ?_
    rintro e w2 ⟨rfl, hb2⟩
    have HB2 := hbr.trans (hb2.mono hbr.size)
    have x2 := xR.below hb2 hk
    have z2 := zR.below hb2 zR.lt
    have pB2 := hB.below HB2 hp
    have hk2 := x2.lt
    have hp2 := pB2.lt
    clear k0 k1 k2 k3 hk hpr
    cases gk with
    | zero =>
      obtain ⟨hf, rfl⟩ := hz.out
      rw [show (mget M (false, lb, z, 0)).isSome = false from hf]
      clear hf hz
      have k0 := x2.cell 0
      have k1 := x2.cell 1
      have k2 := x2.cell 2
      have k3 := x2.cell 3
      have f2 := pB2.frozen (1 + lb.toNat)
      have pc2 := (HB2.cell (p := ⟨p, 1 + lb.toNat, none⟩) hp).trans PC.out
      have u1 := u16_add z
      go_wp2_with fail
      refine wp_region_text [0, 0, 0, 0, 0, 0, 0, 0, 0, 2] (Below w2.heap.size w2) (by kernel_rfl) (by kernel_rfl) (Below.refl _ _).drew ?_
      iterate 9 (refine wpOrd_q (v := ?_) (by rfl) (fun W hW => ?_) ?_; rotate_left; (focus ((obtain ⟨hWc, hWf⟩ := bcell hW); go_simp; try with_reducible rfl)); try simp only [Act.put, List.setIfInBounds_toArray, List.set_cons_zero, List.set_cons_succ])
      refine wpOrd_b (by rfl) (fun K hK => ?_)
      go_simp
      refine hK (fun _ => True) _ _ trivial ?_
      clear hK K
      try simp only [Act.put, List.setIfInBounds_toArray, List.set_cons_zero, List.set_cons_succ]
      refine wpOrd_nil ?_
      have u2 := (u16_mod z).symm
      refine at_world (fun W => Blk W p 80 (pcells mb (nx.set lb.toNat (z + 1))) ∧ Blk W w.heap.size 41 #[.bool false, .int .u8 0, .int .u16 0, .int .u16 0] ∧ Blk W (w.heap.size + 1) 41 #[.bool false, .int .u8 (lb.toNat : Int), .int .u16 (z.toNat : Int), .int .u16 0] ∧ Tch w.heap.size (· = p) w W) ⟨?_, (z2.far (show w.heap.size ≠ p by omega) _).drew, (x2.far (show w.heap.size + 1 ≠ p by omega) _).drew, ((Tch.of_below HB2).trans (Tch.setCell (S := fun x => x = p) (p := ⟨p, 1 + lb.toNat, none⟩) (fun _ => rfl))).drew⟩ (fun w5 h5 => ?_)
      · rw [pcells_set, u2]
        exact (pB2.set_ _ _).drew
      obtain ⟨pB5, z5, x5, hT5⟩ := h5
      clear k0 k1 k2 k3 f2 pc2 u1 u2 hk2 hp2
      have k0 := x5.cell 0
      have k1 := x5.cell 1
      have k2 := x5.cell 2
      have k3 := x5.cell 3
      have j0 := z5.cell 0
      have j1 := z5.cell 1
      have j2 := z5.cell 2
      have j3 := z5.cell 3
      have f0 := z5.frozen 0
      have f1 := z5.frozen 1
      have f2 := z5.frozen 2
      have f3 := z5.frozen 3
      have hk5 := x5.lt
      have hj5 := z5.lt
      go_wp2
      have B := (((z5.set_ 0 (.bool false)).set_ 1 (.int .u8 (lb.toNat : Int))).set_ 2 (.int .u16 (z.toNat : Int))).set_ 3 (.int .u16 0)
      simp only [List.setIfInBounds_toArray, List.set_cons_zero, List.set_cons_succ] at B
      have hne : p ≠ w.heap.size := by omega
      refine bodyPost_ret (results_run2 rfl (ResV.struct rfl B Try.underlying41 (by kernel_rfl)) rfl) rfl ?_
      exact ⟨rfl, (((pB5.far hne _).far hne _).far hne _).far hne _, (((hT5.trans (Tch.setCell (fun h => absurd h (Nat.lt_irrefl _)))).trans (Tch.setCell (fun h => absurd h (Nat.lt_irrefl _)))).trans (Tch.setCell (fun h => absurd h (Nat.lt_irrefl _)))).trans (Tch.setCell (fun h => absurd h (Nat.lt_irrefl _)))⟩
    | succ g =>
      obtain ⟨hf, hz'⟩ := hz.out
      rw [show (mget M (false, lb, z, 0)).isSome = true from hf]
      have A' := show Aside _ from hz'
      clear hf hz hz'
      have k0 := x2.cell 0
      have k1 := x2.cell 1
      have k2 := x2.cell 2
      have k3 := x2.cell 3
      have f2 := x2.frozen 2
      have u1 := u16_add z
      go_wp2
      go_roundg g
      case measure => omega
      case rel => exact ⟨z + 1, A', HB2.setCell (by simp) _, z2.far (by simp) _, by simpa using x2.set_ 2 _⟩

end

end Go.Proofs.Ytkjgieehiimiiaa

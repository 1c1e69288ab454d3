/- Words for memory that the proofs of this seat share: what a slice reads as, blocks known whole, frames. No program in sight. Layer 27's records as bytes: the walks of audit.Encode, audit.Decode, the reference's Record, and the law's same. Maps as lists of pairs: look-up, update, delete, length, for whatever keys read as keys (structs of numbers too). No program in sight. Maps whose entries' stamps are apart: update, clear, and what a range over them meets, in whatever order. No program in sight. Blocks of sixty-four bytes, a transaction's changed blocks, bits and nodes in blocks. No program in sight. Operations on blocks known whole: an array laid, read, written, whatever its length. No program in sight. A region that draws its order, walked once in an order of one's own: what is known of the world may grow behind each call (after the elder law that takes a load first: Derived/OrdersHeld, whose knowledge stays). No program in sight. A region that draws its order, walked once in an order that is named. No program in sight. Configurations: what they are, in lists and numbers; which are right. No program in sight. Configurations: the walks of conf's and label's small functions. A region that draws its order, walked in a tree of orders, each read's knowledge of the world in a class of its own: an operation that waits for all reads of a class may break what that class knows. No program in sight. Configurations in memory: what a pointer at one that is being made stands for. -/
import Derived.WalkKit
import Derived.WalkSpells
import Derived.WalkLawsBesides
import Derived.Maps.AppendAt
import Derived.Deep.Draws
import Derived.Lib.SlBytesConst
import Derived.Test.YthmkgohfeahdhaaGreatProg
import Derived.Deep.RegionHeld3
import Derived.Deep.RegionLaw
import Derived.Deep.QuietTactic
import Derived.BigQuiet
import Derived.Handy
import Derived.Maps.Keyed
import Derived.DeepKeys4
import Derived.Carry
import Derived.Maps.RangeWalk
import Derived.Laws.Tables
import Derived.Laws.CopyRow
import Derived.Deep.MidRow
import Derived.OwnWalk
import Derived.Deep.LoopGhost
import Derived.Deep.Cut
import Derived.Deep.CutRange
import Derived.Lib.IndexBytes
import Derived.StringKeys
namespace Go.Proofs.YthmkgohfeahdhaaGreat
open Go.RowKit

/-- A fact kept from the walk. -/
theorem hide {p : Prop} (h : p) : Hid p := h

/-! ### what a call leaves of old memory -/

theorem bcell {W w1 : World} (hb : Below W.heap.size W w1) :
    (∀ b o, b < W.heap.size → w1.cell? ⟨b, o, none⟩ = W.cell? ⟨b, o, none⟩) ∧ (∀ b o, b < W.heap.size → w1.frozen? ⟨b, o, none⟩ = W.frozen? ⟨b, o, none⟩) :=
  ⟨fun b o h => hb.cell (p := ⟨b, o, none⟩) h, fun b o h => hb.frozen (p := ⟨b, o, none⟩) h⟩

theorem below_drewN {B : Nat} {a w : World} (h : Below B a w) (n : Nat) : Below B a (w.drewN n) := ⟨h.os, h.tape, h.output, h.size, h.block⟩

/-- Fresh memory behind fresh memory. -/
theorem Below.then_ {B : Nat} {a w w' : World} (h : Below B a w) (hB : B ≤ w.heap.size) (k : Below w.heap.size w w') : Below B a w' := h.trans (k.mono hB)

/-- What grows without a row of its own to write is fresh memory. -/
theorem grown_none {w w' : World} (h : w.grownBy w' none) : Below w.heap.size w w' := ⟨h.os, h.tape, h.output, h.size, fun k hk => h.block k hk (by simp)⟩

/-! ### slices that are read -/

/-- The address A, read for n elements of 'sz' cells each, holds the cells xs, in a block below B. -/
def Rd (w : World) (B sz : Nat) (A : Option Addr) (n : Nat) (xs : List Value) : Prop :=
  xs.length = n * sz ∧ (0 < n → ∃ b o, A = some ⟨b, o, none⟩ ∧ b < B ∧ ∀ j u, xs[j]? = some u → w.cell? ⟨b, o + j, none⟩ = some u)

/-- A byte as a cell. -/
abbrev bv (b : UInt8) : Value := .int .u8 (b.toNat : Int)
/-- Bytes as cells. -/
def bvs (l : List UInt8) : List Value := l.map bv
theorem bvs_length (l : List UInt8) : (bvs l).length = l.length := by simp [bvs]
theorem bvs_get (l : List UInt8) (i : Nat) : (bvs l)[i]? = (l[i]?).map bv := by simp [bvs]
theorem bvs_append (a b : List UInt8) : bvs (a ++ b) = bvs a ++ bvs b := by simp [bvs]
theorem bvs_take (l : List UInt8) (n : Nat) : (bvs l).take n = bvs (l.take n) := by simp [bvs, List.map_take]
theorem bvs_drop (l : List UInt8) (n : Nat) : (bvs l).drop n = bvs (l.drop n) := by simp [bvs, List.map_drop]
theorem bvs_one (l : List UInt8) : ∀ u ∈ bvs l, u.oneCell' = true := by
  intro u hu
  simp only [bvs, List.mem_map] at hu
  obtain ⟨x, _, rfl⟩ := hu
  rfl

section
variable {w w' : World} {B B' sz n : Nat} {A : Option Addr} {xs : List Value}

theorem Rd.nil (w : World) (B sz : Nat) (A : Option Addr) : Rd w B sz A 0 [] := ⟨by simp, fun h => absurd h (by omega)⟩
theorem Rd.len (h : Rd w B sz A n xs) : xs.length = n * sz := h.1
theorem Rd.keep (h : Rd w B sz A n xs) (hk : ∀ b o, b < B → w'.cell? ⟨b, o, none⟩ = w.cell? ⟨b, o, none⟩) : Rd w' B sz A n xs :=
  ⟨h.1, fun hn => by
    obtain ⟨b, o, e, hb, hc⟩ := h.2 hn
    exact ⟨b, o, e, hb, fun j u hu => (hk _ _ hb).trans (hc j u hu)⟩⟩
theorem Rd.more (h : Rd w B sz A n xs) (hB : B ≤ B') : Rd w B' sz A n xs :=
  ⟨h.1, fun hn => by
    obtain ⟨b, o, e, hb, hc⟩ := h.2 hn
    exact ⟨b, o, e, by omega, hc⟩⟩
theorem Rd.below (h : Rd w B sz A n xs) (hb : Below B w w') : Rd w' B sz A n xs := h.keep fun b o hp => hb.cell (p := ⟨b, o, none⟩) hp
theorem Rd.drew (h : Rd w B sz A n xs) : Rd w.drew B sz A n xs := h
theorem Rd.drewN (h : Rd w B sz A n xs) (k : Nat) : Rd (w.drewN k) B sz A n xs := h
theorem Rd.alloc (h : Rd w B sz A n xs) (hB : B ≤ w.heap.size) (o : Obj) : Rd (w.alloc o) B sz A n xs :=
  h.keep fun b i hp => World.cell?_alloc_lt w o ⟨b, i, none⟩ (by show b < _; omega)
theorem Rd.setCell (h : Rd w B sz A n xs) {p : Addr} (hB : B ≤ p.block) (u : Value) : Rd (w.setCell p u) B sz A n xs :=
  h.keep fun b i hq => World.cell?_setCell_other w p ⟨b, i, none⟩ u (fun e => by subst e; simp at hB; omega)
theorem Rd.grown (h : Rd w B sz A n xs) {row : Option Nat} (hg : w.grownBy w' row) (hB : B ≤ w.heap.size) (hr : ∀ g, row = some g → B ≤ g) : Rd w' B sz A n xs :=
  h.keep fun b o hp => World.cell?_of_block (a := ⟨b, o, none⟩) (hg.block b (by omega) (fun e => by have := hr _ e.symm; omega))
/-- A slice cut at its front ('s[k:]'), in the model's own spelling. -/
theorem Rd.cut (h : Rd w B sz A n xs) {k cap : Nat} (hk : k ≤ n) (hc : n ≤ cap) :
    Rd w B sz (if cap = k then A else A.map (·.add (k * sz))) (n - k) (xs.drop (k * sz)) := by
  refine ⟨by rw [List.length_drop, h.1, Nat.sub_mul], fun hn => ?_⟩
  obtain ⟨b, o, rfl, hb, hcell⟩ := h.2 (by omega)
  rw [if_neg (by omega)]
  by_cases h0 : k * sz = 0
  · exact ⟨b, o, by simp [Addr.add, h0], hb, fun j u hu => hcell j u (by rw [h0] at hu; simpa using hu)⟩
  · refine ⟨b, o + k * sz, by simp [Addr.add, h0], hb, fun j u hu => ?_⟩
    have := hcell (k * sz + j) u (by rw [← hu, List.getElem?_drop])
    rwa [← Nat.add_assoc] at this
/-- A slice cut at its end ('s[:m]'). -/
theorem Rd.take (h : Rd w B sz A n xs) {m : Nat} (hm : m ≤ n) : Rd w B sz A m (xs.take (m * sz)) := by
  refine ⟨by rw [List.length_take, h.1]; exact Nat.min_eq_left (Nat.mul_le_mul_right _ hm), fun hn => ?_⟩
  obtain ⟨b, o, rfl, hb, hcell⟩ := h.2 (by omega)
  refine ⟨b, o, rfl, hb, fun j u hu => hcell j u ?_⟩
  rw [List.getElem?_take] at hu
  split at hu
  · exact hu
  · cases hu
theorem Rd.of_own {base : Nat} {e : TypeId} {c : Nat} (h : w.ownsRow base e sz (.slice A n c) n xs) : Rd w w.heap.size sz A n xs := by
  refine ⟨h.1, fun hn => ?_⟩
  rcases h.2 with ⟨h', rfl⟩ | ⟨g, cap', cur, h', hg, hh, hnc, hcm, hcs, htake⟩
  · omega
  · simp only [Value.slice.injEq] at h'
    obtain ⟨rfl, _, _⟩ := h'
    have hlt : g < w.heap.size := (Array.getElem?_eq_some_iff.1 hh).1
    refine ⟨g, 0, rfl, hlt, fun j u hu => ?_⟩
    rw [Nat.zero_add, cell_of_row w g j cur e (0, 0) hh, ← Array.getElem?_toList]
    rw [← htake, List.getElem?_take] at hu
    split at hu
    · exact hu
    · cases hu
/-- the cells at an address, as the laws on append ask for them -/
theorem Rd.addr (h : Rd w B sz A n xs) : (A = none ∧ n = 0) ∨ (n = 0 ∧ xs = []) ∨ ∃ b o, A = some ⟨b, o, none⟩ ∧ b < B ∧ ∀ j u, xs[j]? = some u → w.cell? ((⟨b, o, none⟩ : Addr).add j) = some u := by
  by_cases hn : 0 < n
  · obtain ⟨b, o, rfl, hb, hc⟩ := h.2 hn
    refine .inr (.inr ⟨b, o, rfl, hb, fun j u hu => ?_⟩)
    have := hc j u hu
    by_cases hj : j = 0
    · subst hj; simpa [Addr.add] using this
    · simpa [Addr.add, hj] using this
  · have : n = 0 := by omega
    subst this
    exact .inr (.inl ⟨rfl, List.eq_nil_of_length_eq_zero (by simpa using h.1)⟩)
end

/-- one byte of a byte slice -/
theorem Rd.byte {w : World} {B n : Nat} {A : Option Addr} {l : List UInt8} (h : Rd w B 1 A n (bvs l)) {i : Nat} (hi : i < n) :
    ∃ b o, A = some ⟨b, o, none⟩ ∧ b < B ∧ ∀ j, j < n → w.cell? ⟨b, o + j, none⟩ = some (.int .u8 ((l.getD j 0).toNat : Int)) := by
  obtain ⟨b, o, rfl, hb, hc⟩ := h.2 (by omega)
  refine ⟨b, o, rfl, hb, fun j hj => ?_⟩
  have hl : l.length = n := by have := h.1; simpa [bvs] using this
  have := hc j (bv (l.getD j 0)) (by rw [bvs_get, List.getElem?_eq_getElem (by omega)]; simp [List.getD_eq_getElem?_getD, List.getElem?_eq_getElem (show j < l.length by omega)])
  exact this

/-! ### append -/
section
variable {P : Program} (w : World)

theorem run_append_nothing (base : Nat) (t ty e : TypeId) (i : TypeInfo) (size : Nat) (ht : P.underlying t = some (.slice e)) (hi : P.info? e = some i)
    (v : Value) (n : Nat) (xs : List Value) (hown : w.ownsRow base e size v n xs) (c : Nat) : (Builtin.append_ #[t, t] ty #[v, .slice none 0 c]).run P w = .ok v w := by
  rcases hown.2 with ⟨rfl, rfl⟩ | ⟨g, cap, cur, rfl, _, _, hnc, _⟩
  · simp [Builtin.append_, run_underlying ht, sizeOf, typeInfo, hi, Builtin.lenOf, Builtin.firstCells]
  · simp [Builtin.append_, run_underlying ht, sizeOf, typeInfo, hi, Builtin.lenOf, Builtin.firstCells, hnc, storeCells]

theorem run_append_rd (base : Nat) (t ty e : TypeId) (i : TypeInfo) (z : Value) (size bytes : Nat) (ht : P.underlying t = some (.slice e)) (hi : P.info? e = some i) (hz : i.zero = some z)
    (hsize : i.size = size) (hby : i.bytes = bytes) (hzs : z.cells.size = size) (hsz : 0 < size)
    (v : Value) (n : Nat) (xs : List Value) (hown : w.ownsRow base e size v n xs)
    (B : Nat) (A : Option Addr) (m c : Nat) (news : List Value) (hr : Rd w B size A m news) (h1 : ∀ u ∈ news, u.oneCell' = true)
    (h63 : n + m ≤ maxLen) (hbytes : (n + m) * bytes ≤ 140737488355328) (hbase : base ≤ w.heap.size) :
    ∃ v' w', (Builtin.append_ #[t, t] ty #[v, .slice A m c]).run P w = .ok v' w' ∧ w'.ownsRow base e size v' (n + m) (xs ++ news) ∧ w.grownBy w' v.ownBlock ∧
      (v' = .slice none 0 0 ↔ v = .slice none 0 0 ∧ m = 0) ∧ (v'.ownBlock = v.ownBlock ∨ v'.ownBlock = some w.heap.size) := by
  rcases A with _ | ad
  · have hm : m = 0 := by
      rcases Nat.eq_zero_or_pos m with h0 | h0
      · exact h0
      · obtain ⟨b, o, h, _⟩ := hr.2 h0
        cases h
    subst hm
    have hn : news = [] := List.eq_nil_of_length_eq_zero (by simpa using hr.1)
    subst hn
    exact ⟨v, w, run_append_nothing w base t ty e i size ht hi v n xs hown c, by simpa using hown, World.grownBy.refl w _, by simp, .inl rfl⟩
  · have hcells : ∀ j u, news[j]? = some u → w.cell? (ad.add j) = some u := by
      rcases hr.addr with ⟨h, _⟩ | ⟨_, h⟩ | ⟨b, o, h, _, hc⟩
      · cases h
      · subst h; intro j u hu; simp at hu
      · injection h with h; subst h; exact hc
    obtain ⟨v', w', hrun, h2, h3, h4, h5⟩ := run_append_own_at (P := P) w base t ty e i z size bytes ht hi hz hsize hby hzs hsz v n xs hown ad m c news hr.1 hcells h1 h63 hbytes hbase
    exact ⟨v', w', hrun, h2, h3, h4, h5⟩

theorem wp_append_rd {o : Oper} {a : Act} {K : Act → World → Prop} {Q : Exit → Act → World → Prop} (s x : Operand) (t : TypeId)
    (ho : o.op = .call { callee := .builtin .append, args := #[s, x], argTypes := #[t, t] })
    (base : Nat) (e : TypeId) (i : TypeInfo) (z : Value) (size bytes : Nat) (ht : P.underlying t = some (.slice e)) (hi : P.info? e = some i) (hz : i.zero = some z)
    (hsize : i.size = size) (hby : i.bytes = bytes) (hzs : z.cells.size = size) (hsz : 0 < size)
    (v : Value) (n : Nat) (xs : List Value) (hs : a.eval s = v) (hown : w.ownsRow base e size v n xs)
    (B : Nat) (A : Option Addr) (m c : Nat) (news : List Value) (hx : a.eval x = .slice A m c) (hr : Rd w B size A m news) (h1 : ∀ u ∈ news, u.oneCell' = true)
    (h63 : n + m ≤ maxLen) (hbytes : (n + m) * bytes ≤ 140737488355328) (hbase : base ≤ w.heap.size)
    (h : ∀ v' w', w'.ownsRow base e size v' (n + m) (xs ++ news) → w.grownBy w' v.ownBlock → (v' = .slice none 0 0 ↔ v = .slice none 0 0 ∧ m = 0) → (v'.ownBlock = v.ownBlock ∨ v'.ownBlock = some w.heap.size) → K (a.put o.dst v') w') : o.wp P a w K Q := by
  obtain ⟨v', w', hrun, h2, h3, h4, h5⟩ := run_append_rd (P := P) w base t o.type e i z size bytes ht hi hz hsize hby hzs hsz v n xs hown B A m c news hr h1 h63 hbytes hbase
  unfold Oper.wp execOp
  simp only [ho, resolve, invoke, builtin, Sem.run_bind, Sem.run_pure, Result.andThen_ok, List.map_toArray, List.map_cons, List.map_nil, hs, hx, hrun]
  exact h v' w' h2 h3 h4 h5

theorem wpList_append_rd {ops : Array Oper} {rest : List Oper} {o : Oper} {a : Act} {Q : Exit → Act → World → Prop} (hgd : o.guard = none) (s x : Operand) (t : TypeId)
    (ho : o.op = .call { callee := .builtin .append, args := #[s, x], argTypes := #[t, t] })
    (base : Nat) (e : TypeId) (i : TypeInfo) (z : Value) (size bytes : Nat) (ht : P.underlying t = some (.slice e)) (hi : P.info? e = some i) (hz : i.zero = some z)
    (hsize : i.size = size) (hby : i.bytes = bytes) (hzs : z.cells.size = size) (hsz : 0 < size)
    (v : Value) (n : Nat) (xs : List Value) (hs : a.eval s = v) (hown : w.ownsRow base e size v n xs)
    (B : Nat) (A : Option Addr) (m c : Nat) (news : List Value) (hx : a.eval x = .slice A m c) (hr : Rd w B size A m news) (h1 : ∀ u ∈ news, u.oneCell' = true)
    (h63 : n + m ≤ maxLen) (hbytes : (n + m) * bytes ≤ 140737488355328) (hbase : base ≤ w.heap.size)
    (h : ∀ v' w', w'.ownsRow base e size v' (n + m) (xs ++ news) → w.grownBy w' v.ownBlock → (v' = .slice none 0 0 ↔ v = .slice none 0 0 ∧ m = 0) → (v'.ownBlock = v.ownBlock ∨ v'.ownBlock = some w.heap.size) → wpList P ops Q rest (a.put o.dst v') w') : wpList P ops Q (o :: rest) a w :=
  wpList_plain hgd fun _ hK => wp_append_rd w s x t ho base e i z size bytes ht hi hz hsize hby hzs hsz v n xs hs hown B A m c news hx hr h1 h63 hbytes hbase fun v' w' h2 h3 h4 h5 => hK _ _ (h v' w' h2 h3 h4 h5)

end

/-! ### blocks known whole -/

/-- Block g is just the cells cs of element type t, none of them frozen. -/
def Blk (w : World) (g : Nat) (t : TypeId) (cs : Array Value) : Prop := w.heap[g]? = some (.cells cs t (0, 0))

section
variable {w w' : World} {g : Nat} {t : TypeId} {cs : Array Value}
theorem Blk.lt (h : Blk w g t cs) : g < w.heap.size := (Array.getElem?_eq_some_iff.1 h).1
theorem Blk.cell (h : Blk w g t cs) (i : Nat) : w.cell? ⟨g, i, none⟩ = cs[i]? := cell_of_row w g i cs t (0, 0) h
theorem Blk.frozen (h : Blk w g t cs) (i : Nat) : w.frozen? ⟨g, i, none⟩ = false := by
  unfold Blk at h
  simp [World.frozen?, h]
theorem Blk.new (w : World) (t : TypeId) (cs : Array Value) : Blk (w.alloc (.cells cs t)) w.heap.size t cs := heap_alloc_new w _
theorem Blk.drew (h : Blk w g t cs) : Blk w.drew g t cs := h
theorem Blk.drewN (h : Blk w g t cs) (n : Nat) : Blk (w.drewN n) g t cs := h
theorem Blk.alloc (h : Blk w g t cs) (o : Obj) : Blk (w.alloc o) g t cs := (Below.heap_alloc w o g h.lt).trans h
theorem Blk.set_ (h : Blk w g t cs) (i : Nat) (u : Value) : Blk (w.setCell ⟨g, i, none⟩ u) g t (cs.setIfInBounds i u) := by
  unfold Blk at h ⊢
  simp [World.setCell, Array.getElem?_modify, h]
theorem Blk.far (h : Blk w g t cs) {p : Addr} (hp : g ≠ p.block) (u : Value) : Blk (w.setCell p u) g t cs := (Below.heap_setCell w p u g hp).trans h
theorem Blk.below {B : Nat} (h : Blk w g t cs) (hb : Below B w w') (hg : g < B) : Blk w' g t cs := (hb.block g hg).trans h
theorem Blk.grown {row : Option Nat} (h : Blk w g t cs) (hb : w.grownBy w' row) (hg : some g ≠ row) : Blk w' g t cs := (hb.block g h.lt hg).trans h
end

/-- A block of another element type is not the row's own. -/
theorem blk_not_own {w : World} {g base n size : Nat} {t e : TypeId} {cs : Array Value} {v : Value} {xs : List Value} (h : Blk w g t cs) (ho : w.ownsRow base e size v n xs) (hne : t ≠ e) : v.ownBlock ≠ some g := by
  intro hv
  rcases ho.2 with ⟨rfl, _⟩ | ⟨g', cap, cur, rfl, _, hh, _⟩
  · cases hv
  · simp only [Value.ownBlock, Option.some.injEq] at hv
    subst hv
    unfold Blk at h
    rw [h] at hh
    simp only [Option.some.injEq, Obj.cells.injEq] at hh
    exact hne hh.2.1

/-- The world at hand, under a name, with what is known of it. -/
theorem at_world {G : World → Prop} {W : World} (F : World → Prop) (hF : F W) (h : ∀ w1, F w1 → G w1) : G W := h W hF

/-- Of the blocks below B those in S alone may be others than they were. -/
structure Tch (B : Nat) (S : Nat → Prop) (w w' : World) : Prop where
  os : w'.os = w.os
  tape : w'.tape = w.tape
  output : w'.output = w.output
  size : w.heap.size ≤ w'.heap.size
  block : ∀ k, k < B → ¬ S k → w'.heap[k]? = w.heap[k]?
section
variable {B B' : Nat} {S S' : Nat → Prop} {a w w' : World}
theorem Tch.of_below (h : Below B w w') : Tch B S w w' := ⟨h.os, h.tape, h.output, h.size, fun k hk _ => h.block k hk⟩
theorem Tch.drew (h : Tch B S w w') : Tch B S w w'.drew := ⟨h.os, h.tape, h.output, h.size, h.block⟩
theorem Tch.trans (h : Tch B S a w) (k : Tch B S w w') : Tch B S a w' := ⟨k.os.trans h.os, k.tape.trans h.tape, k.output.trans h.output, Nat.le_trans h.size k.size, fun i hi hS => (k.block i hi hS).trans (h.block i hi hS)⟩
theorem Tch.mono (h : Tch B S w w') (hB : B' ≤ B) (hS : ∀ k, k < B' → S k → S' k) : Tch B' S' w w' := ⟨h.os, h.tape, h.output, h.size, fun k hk hn => h.block k (by omega) (fun hs => hn (hS k hk hs))⟩
theorem Tch.below (h : Tch B S w w') (hS : ∀ k, k < B → ¬ S k) : Below B w w' := ⟨h.os, h.tape, h.output, h.size, fun k hk => h.block k hk (hS k hk)⟩
theorem Tch.grown {row : Option Nat} (h : w.grownBy w' row) (hB : B ≤ w.heap.size) (hr : ∀ k, row = some k → k < B → S k) : Tch B S w w' :=
  ⟨h.os, h.tape, h.output, h.size, fun k hk hn => h.block k (by omega) (fun e => hn (hr k e.symm hk))⟩
theorem Tch.setCell {p : Addr} {u : Value} (hp : p.block < B → S p.block) : Tch B S w (w.setCell p u) :=
  ⟨rfl, rfl, rfl, by simp [World.setCell], fun k hk hn => Below.heap_setCell _ _ _ _ (fun e => hn (by subst e; exact hp hk))⟩
end

/-! ### strings out of bytes -/

/-- The string of some bytes. -/
def str (l : List UInt8) : ByteArray := ⟨l.toArray⟩

theorem bv_ofNat {k : Nat} (h : k < 256) : bv (UInt8.ofNat k) = .int .u8 (k : Int) := by
  have : (UInt8.ofNat k).toNat = k := by simp [UInt8.toNat_ofNat']; omega
  simp [bv, this]

/-- 'string(b)' -/
theorem run_string_rd {P : Program} {w : World} {B n c : Nat} {A : Option Addr} {l : List UInt8} (src e dst : TypeId) (hs : P.underlying src = some (.slice e)) (he : P.underlying e = some (.int .u8)) (hd : P.underlying dst = some .string)
    (h : Rd w B 1 A n (bvs l)) : (convert src dst (.slice A n c)).run P w = .ok (.string (str l)) w := by
  have hl : l.length = n := by have := h.1; simpa [bvs] using this
  rcases A with _ | a
  · have h0 : n = 0 := by
      rcases Nat.eq_zero_or_pos n with h0 | h0
      · exact h0
      · obtain ⟨b, o, h', _⟩ := h.2 h0
        cases h'
    have hnil : l = [] := List.eq_nil_of_length_eq_zero (by omega)
    subst hnil
    exact run_convert_bytes_nil w src e hs he n c dst hd
  · have hx : (l.map fun b => (b.toNat : Int)).length = n := by simpa using hl
    have hstr : strOfNums (l.map fun b => (b.toNat : Int)) = str l := by
      simp only [strOfNums, str, List.map_map]
      congr 2
      conv => rhs; rw [← List.map_id l]
      apply List.map_congr_left
      intro b _
      simp
    rcases Nat.eq_zero_or_pos n with h0 | h0
    · subst h0
      have hnil : l = [] := List.eq_nil_of_length_eq_zero (by omega)
      subst hnil
      rw [run_convert_bytes_string w src dst e _ 0 c hs he hd, run_bytesToString w a 0 c [] (by simp [loadCells, loadCellsFrom, Sem.run_pure])]
      rfl
    · obtain ⟨b, o, ha, _, hc⟩ := h.2 h0
      injection ha with ha
      subst ha
      rw [← hstr]
      refine run_convert_bytes_arg w src e hs he b o n c _ hx (fun i hi => ?_) dst hd
      have := hc i (bv (l[i]'(by omega))) (by rw [bvs_get, List.getElem?_eq_getElem (by omega)]; rfl)
      rw [this]
      simp [List.getD_eq_getElem?_getD, List.getElem?_eq_getElem (show i < l.length by omega)]

/-- A row that was just laid with these cells is the call's own. -/
theorem own_lit {w W : World} {base g n : Nat} {e : TypeId} {size : Nat} {cs : Array Value} (hW : W = w.alloc (.cells cs e)) (hg : g = w.heap.size) (hb : base ≤ w.heap.size) (hm : n ≤ maxLen) (hs : cs.size = n * size) :
    W.ownsRow base e size (.slice (some ⟨g, 0, none⟩) n n) n cs.toList := by
  subst hW; subst hg
  exact World.ownsRow_lit w cs n hb hm hs

theorem own_form {w : World} {base n : Nat} {e : TypeId} {size : Nat} {v : Value} {xs : List Value} (h : w.ownsRow base e size v n xs) :
    ∃ A c, v = .slice A n c ∧ n ≤ c ∧ c ≤ maxLen ∧ (A = none → n = 0 ∧ c = 0) := by
  rcases h.2 with ⟨rfl, rfl⟩ | ⟨g, cap, cur, rfl, _, _, hnc, hcm, _⟩
  · exact ⟨none, 0, rfl, Nat.le_refl _, by simp [maxLen], fun _ => ⟨rfl, rfl⟩⟩
  · exact ⟨_, _, rfl, hnc, hcm, fun h => by cases h⟩
theorem own_mono {w : World} {base base' n : Nat} {e : TypeId} {size : Nat} {v : Value} {xs : List Value} (h : w.ownsRow base e size v n xs) (hb : base' ≤ base) : w.ownsRow base' e size v n xs := by
  refine ⟨h.1, ?_⟩
  rcases h.2 with h | ⟨g, cap, cur, hv, hg, r⟩
  · exact .inl h
  · exact .inr ⟨g, cap, cur, hv, by omega, r⟩
theorem own_keep {w w' : World} {base n : Nat} {e : TypeId} {size : Nat} {v : Value} {xs : List Value} (h : w.ownsRow base e size v n xs) (hb : ∀ g, v.ownBlock = some g → w'.heap[g]? = w.heap[g]?) : w'.ownsRow base e size v n xs := by
  refine ⟨h.1, ?_⟩
  rcases h.2 with h2 | ⟨g, cap, cur, hv, hg, hh, r⟩
  · exact .inl h2
  · exact .inr ⟨g, cap, cur, hv, hg, (hb g (by rw [hv]; rfl)).trans hh, r⟩
theorem own_below {w w' : World} {base n : Nat} {e : TypeId} {size : Nat} {v : Value} {xs : List Value} (h : w.ownsRow base e size v n xs) (hb : Below w.heap.size w w') : w'.ownsRow base e size v n xs := by
  refine ⟨h.1, ?_⟩
  rcases h.2 with h2 | ⟨g, cap, cur, hv, hg, hh, r⟩
  · exact .inl h2
  · exact .inr ⟨g, cap, cur, hv, hg, (hb.block g (Array.getElem?_eq_some_iff.1 hh).1).trans hh, r⟩


/-! ### results -/

/-- One result: a temporary, or what lies in memory. -/
def resRun (tmps : Array Value) (r : ResultVar) : Sem Value :=
  match r with
  | .tmp t => pure (tmps.getD t undef)
  | .cell a t => do loadVar t (← asAddr (tmps.getD a undef))
def ResV (P : Program) (w : World) (tmps : Array Value) (r : ResultVar) (v : Value) : Prop := (resRun tmps r).run P w = .ok v w
theorem results_eq (fn : Func) (tmps : Array Value) : results fn tmps = (do let vs ← fn.results.mapM (resRun tmps); pure (if h : vs.size = 1 then vs[0] else .tuple vs)) := rfl

section
variable {P : Program} {fn : Func} {w : World} {tmps : Array Value} {r0 r1 r2 : ResultVar} {v0 v1 v2 : Value}
theorem results_run1 (h : fn.results = #[r0]) (h0 : ResV P w tmps r0 v0) : (results fn tmps).run P w = .ok v0 w := by
  unfold ResV at h0
  rw [results_eq, h]
  simp [h0]
theorem results_run2 (h : fn.results = #[r0, r1]) (h0 : ResV P w tmps r0 v0) (h1 : ResV P w tmps r1 v1) : (results fn tmps).run P w = .ok (.tuple #[v0, v1]) w := by
  unfold ResV at h0 h1
  rw [results_eq, h]
  simp [Sem.run_bind, h0, h1]
theorem ResV.tmp (t : Tmp) : ResV P w tmps (.tmp t) (tmps.getD t undef) := rfl
theorem ResV.struct {p : Tmp} {ty g : Nat} {t : TypeId} {cs : Array Value} {fs : Array Field} (hp : tmps.getD p undef = .pointer (some ⟨g, 0, none⟩)) (hb : Blk w g t cs)
    (hu : P.underlying ty = some (.struct fs)) (hi : (P.info? ty).map (·.size) = some cs.size) : ResV P w tmps (.cell p ty) (.agg cs) := by
  unfold ResV resRun
  simp only [hp]
  simp [asAddr, run_loadVar_row w g t ty cs (0, 0) _ hb hu rfl hi]
end

end Go.Proofs.YthmkgohfeahdhaaGreat
namespace Go.Proofs.YthmkgohfeahdhaaGreat
open Go.RowKit
set_option maxRecDepth 100000


/-- A record as bytes. -/
def encB (s f t : Nat) (l : List UInt8) : List UInt8 :=
  [UInt8.ofNat (s % 256), UInt8.ofNat (s / 256 % 256), UInt8.ofNat (s / 65536 % 256), UInt8.ofNat (s / 16777216), UInt8.ofNat f, UInt8.ofNat t, UInt8.ofNat l.length] ++ l





/-! ### Decode -/







/-! ### the law's own functions -/


/-! ### what was encoded, decoded -/





end Go.Proofs.YthmkgohfeahdhaaGreat
namespace Go.Proofs.YthmkgohfeahdhaaGreat
open Go.RowKit Go.Maps
open Go.ChangeMaps (setBlock)
set_option linter.unusedSimpArgs false
set_option linter.unusedVariables false

section lists
variable {κ : Type} [DecidableEq κ] {β : Type}
def mget : List (κ × β) → κ → Option β
  | [], _ => none
  | (a, v) :: r, k => if a = k then some v else mget r k
def mput : List (κ × β) → κ → β → List (κ × β)
  | [], k, v => [(k, v)]
  | (a, u) :: r, k, v => if a = k then (a, v) :: r else (a, u) :: mput r k v

theorem mget_none_of {L : List (κ × β)} {k : κ} (h : ∀ x ∈ L, x.1 ≠ k) : mget L k = none := by
  induction L with
  | nil => rfl
  | cons x r ih =>
    simp only [mget]
    rw [if_neg (h x (by simp)), ih fun y hy => h y (by simp [hy])]
theorem mput_none_of {L : List (κ × β)} {k : κ} {v : β} (h : ∀ x ∈ L, x.1 ≠ k) : mput L k v = L ++ [(k, v)] := by
  induction L with
  | nil => rfl
  | cons x r ih =>
    simp only [mput]
    rw [if_neg (h x (by simp)), ih fun y hy => h y (by simp [hy])]
    rfl
theorem mget_at {L : List (κ × β)} {k : κ} {v : β} {j : Nat} (hn : (L.map (·.1)).Nodup) (h : L[j]? = some (k, v)) : mget L k = some v := by
  induction L generalizing j with
  | nil => simp at h
  | cons x r ih =>
    simp only [List.map_cons, List.nodup_cons] at hn
    cases j with
    | zero => simp at h; subst h; simp [mget]
    | succ j =>
      simp at h
      have hne : x.1 ≠ k := fun e => hn.1 (e ▸ List.mem_map.2 ⟨_, List.mem_of_getElem? h, rfl⟩)
      simp only [mget]
      rw [if_neg hne, ih hn.2 h]
theorem mput_at {L : List (κ × β)} {k : κ} {v u : β} {j : Nat} (hn : (L.map (·.1)).Nodup) (h : L[j]? = some (k, v)) : mput L k u = L.set j (k, u) := by
  induction L generalizing j with
  | nil => simp at h
  | cons x r ih =>
    simp only [List.map_cons, List.nodup_cons] at hn
    cases j with
    | zero => simp at h; subst h; simp [mput]
    | succ j =>
      simp at h
      have hne : x.1 ≠ k := fun e => hn.1 (e ▸ List.mem_map.2 ⟨_, List.mem_of_getElem? h, rfl⟩)
      simp only [mput]
      rw [if_neg hne, ih hn.2 h]
      rfl
theorem mput_keys (L : List (κ × β)) (k : κ) (v : β) : (mput L k v).map (·.1) = if k ∈ L.map (·.1) then L.map (·.1) else L.map (·.1) ++ [k] := by
  induction L with
  | nil => simp [mput]
  | cons x r ih =>
    simp only [mput]
    by_cases h : x.1 = k
    · simp [h]
    · rw [if_neg h]
      simp only [List.map_cons, ih, List.mem_cons]
      by_cases h2 : k ∈ r.map (·.1)
      · simp [h2]
      · rw [if_neg h2, if_neg (by rintro (h3 | h3); exact h h3.symm; exact h2 h3)]
        rfl
theorem mput_nodup {L : List (κ × β)} (k : κ) (v : β) (h : (L.map (·.1)).Nodup) : ((mput L k v).map (·.1)).Nodup := by
  rw [mput_keys]
  split
  · exact h
  · rename_i hk
    rw [List.nodup_append]
    exact ⟨h, by simp, fun a ha b hb => by simp at hb; subst hb; exact fun e => hk (e ▸ ha)⟩
theorem mget_put (L : List (κ × β)) (k k' : κ) (v : β) : mget (mput L k v) k' = if k = k' then some v else mget L k' := by
  induction L with
  | nil => simp [mput, mget]
  | cons x r ih =>
    simp only [mput]
    by_cases h : x.1 = k
    · rw [if_pos h]
      simp only [mget, h]
      split <;> rfl
    · rw [if_neg h]
      simp only [mget, ih]
      by_cases h2 : x.1 = k'
      · rw [if_pos h2, if_pos h2, if_neg (fun e => h (h2.trans e.symm))]
      · rw [if_neg h2, if_neg h2]
theorem mget_mem {L : List (κ × β)} {k : κ} {v : β} (h : mget L k = some v) : (k, v) ∈ L := by
  induction L with
  | nil => simp [mget] at h
  | cons x r ih =>
    simp only [mget] at h
    split at h
    · rename_i hx
      simp at h
      subst h; subst hx
      simp
    · simp [ih h]
theorem mget_none_iff {L : List (κ × β)} {k : κ} : mget L k = none ↔ k ∉ L.map (·.1) := by
  constructor
  · intro h hk
    induction L with
    | nil => simp at hk
    | cons x r ih =>
      simp only [mget] at h
      split at h
      · cases h
      · rename_i hx
        simp only [List.map_cons, List.mem_cons] at hk
        rcases hk with hk | hk
        · exact hx hk.symm
        · exact ih h hk
  · intro h
    exact mget_none_of fun x hx e => h (e ▸ List.mem_map.2 ⟨x, hx, rfl⟩)
end lists

/-- Keys of type K, as Lean knows them. -/
structure KeyEnc (P : Program) (K : TypeId) {κ : Type} (kv : κ → Value) : Prop where
  keyed : Keyed P K
  reads : ∀ a, ∃ l, keyOf P K (kv a) = some l
  inj : ∀ a b, kv a = kv b → a = b

/-- Block m is a map that holds just these. -/
def MapIs {κ : Type} (kv : κ → Value) (w : World) (m : Nat) (L : List (κ × Value)) : Prop :=
  ∃ es clock, w.heap[m]? = some (.map es clock) ∧ es.toList.map (fun e => (e.key, e.val)) = L.map (fun x => (kv x.1, x.2)) ∧ (L.map (·.1)).Nodup

section
variable {P : Program} {K E T : TypeId} {κ : Type} {kv : κ → Value} {w w' : World} {m : Nat} {L : List (κ × Value)}

theorem MapIs.lt (h : MapIs kv w m L) : m < w.heap.size := by
  obtain ⟨es, c, hb, _⟩ := h
  exact (Array.getElem?_eq_some_iff.1 hb).1
theorem MapIs.keep (h : MapIs kv w m L) (hk : w'.heap[m]? = w.heap[m]?) : MapIs kv w' m L := by
  obtain ⟨es, c, hb, r⟩ := h
  exact ⟨es, c, hk.trans hb, r⟩
theorem MapIs.not_own {base n size : Nat} {e : TypeId} {v : Value} {xs : List Value} (h : MapIs kv w m L) (ho : w.ownsRow base e size v n xs) : v.ownBlock ≠ some m := by
  intro hv
  obtain ⟨es, c, hb, _⟩ := h
  rcases ho.2 with ⟨rfl, _⟩ | ⟨g', cap, cur, rfl, _, hh, _⟩
  · cases hv
  · simp only [Value.ownBlock, Option.some.injEq] at hv
    subst hv
    rw [hb] at hh
    cases hh
theorem blk_not_map {g : Nat} {t : TypeId} {cs : Array Value} (hB : Blk w g t cs) (h : MapIs kv w m L) (e : g = m) : False := by
  obtain ⟨es, c, hb, _⟩ := h
  subst e
  unfold Blk at hB
  rw [hb] at hB
  cases hB
theorem MapIs.made (w : World) (kv : κ → Value) : MapIs kv (w.alloc (.map #[] 0)) w.heap.size ([] : List (κ × Value)) :=
  ⟨#[], 0, heap_alloc_new w _, by simp, by simp⟩
theorem MapIs.nodup (h : MapIs kv w m L) : (L.map (·.1)).Nodup := by
  obtain ⟨es, c, hb, he, hn⟩ := h
  exact hn

theorem MapIs.find (he : KeyEnc P K kv) {es : Array MapEntry} (hes : es.toList.map (fun e => (e.key, e.val)) = L.map (fun x => (kv x.1, x.2))) (k : κ) (w : World) :
    ((Instr.findKey K (kv k) es.toList).run P w = .ok none w ∧ ∀ x ∈ L, x.1 ≠ k) ∨
    ∃ j v, (Instr.findKey K (kv k) es.toList).run P w = .ok (some (j, v)) w ∧ L[j]? = some (k, v) ∧ (es[j]?).map (·.key) = some (kv k) := by
  obtain ⟨lk, hlk⟩ := he.reads k
  have hall : ∀ e ∈ es.toList, ∃ l, keyOf P K e.key = some l := fun e hm => by
    have : (e.key, e.val) ∈ L.map (fun x => (kv x.1, x.2)) := hes ▸ List.mem_map.2 ⟨e, hm, rfl⟩
    obtain ⟨x, _, hx⟩ := List.mem_map.1 this
    simp only [Prod.mk.injEq] at hx
    rw [← hx.1]
    exact he.reads x.1
  rcases he.keyed.find w hlk es.toList hall with ⟨h1, h2⟩ | ⟨j, e, h1, h2, h3⟩
  · refine .inl ⟨h1, fun x hx ek => ?_⟩
    have : (kv x.1, x.2) ∈ es.toList.map (fun e => (e.key, e.val)) := hes ▸ List.mem_map.2 ⟨x, hx, rfl⟩
    obtain ⟨e, hm, hx'⟩ := List.mem_map.1 this
    simp only [Prod.mk.injEq] at hx'
    exact h2 e hm (by rw [hx'.1, ek])
  · refine .inr ⟨j, e.val, h1, ?_, ?_⟩
    · have h4 : (L.map (fun x => (kv x.1, x.2)))[j]? = some (e.key, e.val) := by rw [← hes, List.getElem?_map, h2]; rfl
      rw [List.getElem?_map] at h4
      cases hj : L[j]? with
      | none => rw [hj] at h4; simp at h4
      | some x =>
        rw [hj] at h4
        simp only [Option.map_some, Option.some.injEq, Prod.mk.injEq] at h4
        have : x.1 = k := he.inj _ _ (h4.1.trans h3)
        rw [← this, ← h4.2]
    · rw [Array.getElem?_toList] at h2
      rw [h2]; simp [h3]

variable [DecidableEq κ]
theorem MapIs.lookup (h : MapIs kv w m L) (he : KeyEnc P K kv) (ht : P.underlying T = some (.map K E)) {z : Value} (hz : (zeroValue E).run P w = .ok z w) (k : κ) (ok : Bool) :
    (Instr.lookup T (.map (some m)) (kv k) ok).run P w = .ok (if ok then .tuple #[(mget L k).getD z, .bool (mget L k).isSome] else (mget L k).getD z) w := by
  obtain ⟨es, c, hb, hes, hn⟩ := h
  obtain ⟨lk, hlk⟩ := he.reads k
  have hck := he.keyed.check w (em := es.isEmpty) hlk
  rcases MapIs.find he hes k w with ⟨h1, h2⟩ | ⟨j, v, h1, h2, _⟩
  · rw [mget_none_of h2]
    simp [Instr.lookup, run_underlying ht, MapKept.run_getObj_map hb, hck, h1, hz, Result.andThen]
  · rw [mget_at hn h2]
    simp [Instr.lookup, run_underlying ht, MapKept.run_getObj_map hb, hck, h1, Result.andThen]

/-- What a step on the map leaves: that block alone is another. -/
def OnlyMap (w w' : World) (m : Nat) : Prop := w.grownBy w' (some m) ∧ w'.heap.size = w.heap.size

theorem Tch.of_only {B : Nat} {w w' : World} {m : Nat} (h : OnlyMap w w' m) (hB : B ≤ w.heap.size) : Tch B (· = m) w w' :=
  Tch.grown h.1 hB fun k hk _ => by injection hk with hk; exact hk.symm

theorem onlyMap_set (w : World) (m : Nat) (o : Obj) (hm : m < w.heap.size) : OnlyMap w { w with heap := w.heap.setIfInBounds m o } m ∧ ({ w with heap := w.heap.setIfInBounds m o } : World).heap[m]? = some o := by
  refine ⟨⟨⟨rfl, rfl, rfl, by simp, fun k _ hk => ?_⟩, by simp⟩, by simp [hm]⟩
  have hne : m ≠ k := fun e => hk (by rw [e])
  simp [Array.getElem?_setIfInBounds_ne hne]

theorem MapIs.update (h : MapIs kv w m L) (he : KeyEnc P K kv) (ht : P.underlying T = some (.map K E)) (k : κ) (v : Value) :
    ∃ w', (Instr.mapUpdate T (.map (some m)) (kv k) v).run P w = .ok () w' ∧ MapIs kv w' m (mput L k v) ∧ OnlyMap w w' m := by
  have hlt := h.lt
  have hnd := mput_nodup k v h.nodup
  obtain ⟨es, c, hb, hes, hn⟩ := h
  obtain ⟨lk, hlk⟩ := he.reads k
  have hck := he.keyed.check w (em := false) hlk
  have hst := he.keyed.stays w hlk
  rcases MapIs.find he hes k w with ⟨h1, h2⟩ | ⟨j, u, h1, h2, h3⟩
  · obtain ⟨q1, q2⟩ := onlyMap_set w m (.map (es.push { key := kv k, val := v, born := c }) (c + 1)) hlt
    refine ⟨_, ?_, ⟨_, _, q2, ?_, hnd⟩, q1⟩
    · simp [Instr.mapUpdate, run_underlying ht, MapKept.run_getObj_map hb, hck, h1, MapKept.run_setObj_map _ hb, Result.andThen]
    · rw [mput_none_of h2]
      simp [hes]
  · obtain ⟨q1, q2⟩ := onlyMap_set w m (.map (es.modify j fun e => { e with key := kv k, val := v }) c) hlt
    refine ⟨_, ?_, ⟨_, _, q2, ?_, hnd⟩, q1⟩
    · simp [Instr.mapUpdate, run_underlying ht, MapKept.run_getObj_map hb, hck, h1, h3, hst, MapKept.run_setObj_map _ hb, Result.andThen]
    · rw [mput_at hn h2, Array.toList_modify]
      have hl : es.toList.length = L.length := by have := congrArg List.length hes; simpa using this
      have hj : j < L.length := (List.getElem?_eq_some_iff.1 h2).1
      apply List.ext_getElem?
      intro i
      simp only [List.getElem?_map, List.getElem?_modify, List.getElem?_set]
      have hi : (es.toList[i]?).map (fun e => (e.key, e.val)) = (L[i]?).map (fun x => (kv x.1, x.2)) := by
        have := congrArg (·[i]?) hes
        simpa [List.getElem?_map] using this
      by_cases hij : j = i
      · subst hij
        simp only [if_true, if_pos hj]
        have : j < es.toList.length := by omega
        rw [List.getElem?_eq_getElem this]
        simp
      · simp only [if_neg hij]
        cases hq : es.toList[i]? with
        | none => rw [hq] at hi; simpa using hi
        | some e => rw [hq] at hi; simpa using hi


omit [DecidableEq κ] in
theorem MapIs.len (h : MapIs kv w m L) (ht : P.underlying T = some (.map K E)) (ty : TypeId) : (Builtin.len_ #[T] ty #[.map (some m)]).run P w = .ok (.int .i64 L.length) w := by
  obtain ⟨es, c, hb, hes, hn⟩ := h
  have hl : es.size = L.length := by have := congrArg List.length hes; simpa using this
  simp [Builtin.len_, run_underlying ht, MapKept.run_getObj_map hb, hl, goInt, Result.andThen]
end

end Go.Proofs.YthmkgohfeahdhaaGreat
namespace Go.Proofs.YthmkgohfeahdhaaGreat
open Go.RowKit Go.Maps
open Go.ChangeMaps (setBlock)
set_option linter.unusedSimpArgs false
set_option linter.unusedVariables false

/-- the facts of a map's entries -/
structure Ents {κ : Type} (kv : κ → Value) (es : Array MapEntry) (clock : Nat) (L : List (κ × Value)) : Prop where
  ents : es.toList.map (fun e => (e.key, e.val)) = L.map (fun x => (kv x.1, x.2))
  nodup : (L.map (·.1)).Nodup
  old : ∀ e ∈ es.toList, e.born < clock
  apart : (es.toList.map (·.born)).Nodup

/-- Block m is a map that holds just these, its stamps apart. -/
def MapR {κ : Type} (kv : κ → Value) (w : World) (m : Nat) (L : List (κ × Value)) : Prop :=
  ∃ es clock, w.heap[m]? = some (.map es clock) ∧ Ents kv es clock L

section
variable {P : Program} {K E T : TypeId} {κ : Type} {kv : κ → Value} {w w' : World} {m r : Nat} {L : List (κ × Value)} {done : List κ}

theorem MapR.is (h : MapR kv w m L) : MapIs kv w m L := by
  obtain ⟨es, c, hb, he⟩ := h
  exact ⟨es, c, hb, he.ents, he.nodup⟩
theorem MapR.lt (h : MapR kv w m L) : m < w.heap.size := h.is.lt
theorem MapR.keep (h : MapR kv w m L) (hk : w'.heap[m]? = w.heap[m]?) : MapR kv w' m L := by
  obtain ⟨es, c, hb, r⟩ := h
  exact ⟨es, c, hk.trans hb, r⟩
theorem MapR.below {B : Nat} (h : MapR kv w m L) (hb : Below B w w') (hm : m < B) : MapR kv w' m L := h.keep (hb.block m hm)
theorem MapR.made (w : World) (kv : κ → Value) : MapR kv (w.alloc (.map #[] 0)) w.heap.size ([] : List (κ × Value)) :=
  ⟨#[], 0, heap_alloc_new w _, by simp, by simp, by simp, by simp⟩
theorem MapR.nodup (h : MapR kv w m L) : (L.map (·.1)).Nodup := h.is.nodup

theorem MapR.clear (h : MapR kv w m L) {t ty : TypeId} (ht : P.underlying t = some (.map K E)) :
    ∃ w', (Builtin.clear_ #[t] ty #[.map (some m)]).run P w = .ok (.tuple #[]) w' ∧ MapR kv w' m ([] : List (κ × Value)) ∧ OnlyMap w w' m := by
  have hlt := h.lt
  obtain ⟨es, c, hb, _⟩ := h
  obtain ⟨q1, q2⟩ := onlyMap_set w m (.map #[] c) hlt
  refine ⟨_, ?_, ⟨_, _, q2, by simp, by simp, by simp, by simp⟩, q1⟩
  simp [Builtin.clear_, run_underlying ht, MapKept.run_getObj_map hb, MapKept.run_setObj_map _ hb, Result.andThen]

variable [DecidableEq κ]
theorem MapR.update (h : MapR kv w m L) (he : KeyEnc P K kv) (ht : P.underlying T = some (.map K E)) (k : κ) (v : Value) :
    ∃ w', (Instr.mapUpdate T (.map (some m)) (kv k) v).run P w = .ok () w' ∧ MapR kv w' m (mput L k v) ∧ OnlyMap w w' m := by
  have hlt := h.lt
  have hnd := mput_nodup k v h.nodup
  obtain ⟨es, c, hb, hE⟩ := h
  obtain ⟨hes, hn, ho, ha⟩ := hE
  obtain ⟨lk, hlk⟩ := he.reads k
  have hck := he.keyed.check w (em := false) hlk
  have hst := he.keyed.stays w hlk
  rcases MapIs.find he hes k w with ⟨h1, h2⟩ | ⟨j, u, h1, h2, h3⟩
  · obtain ⟨q1, q2⟩ := onlyMap_set w m (.map (es.push { key := kv k, val := v, born := c }) (c + 1)) hlt
    refine ⟨_, ?_, ⟨_, _, q2, ?_, hnd, ?_, ?_⟩, q1⟩
    · simp [Instr.mapUpdate, run_underlying ht, MapKept.run_getObj_map hb, hck, h1, MapKept.run_setObj_map _ hb, Result.andThen]
    · rw [mput_none_of h2]
      simp [hes]
    · intro e hm
      rw [Array.toList_push, List.mem_append, List.mem_singleton] at hm
      rcases hm with hm | rfl
      · have := ho e hm; omega
      · simp
    · rw [Array.toList_push, List.map_append, List.nodup_append]
      refine ⟨ha, by simp, ?_⟩
      intro a ha' b hb' e
      simp only [List.map_cons, List.map_nil, List.mem_singleton] at hb'
      obtain ⟨x, hx, rfl⟩ := List.mem_map.1 ha'
      have := ho x hx
      omega
  · obtain ⟨q1, q2⟩ := onlyMap_set w m (.map (es.modify j fun e => { e with key := kv k, val := v }) c) hlt
    have hb9 : ((es.modify j fun e => { e with key := kv k, val := v }).toList.map (·.born)) = es.toList.map (·.born) := by
      rw [Array.toList_modify]
      apply List.ext_getElem?
      intro i
      simp only [List.getElem?_map, List.getElem?_modify]
      cases hq : es.toList[i]? with
      | none => simp
      | some e => by_cases hij : j = i <;> simp [hij]
    refine ⟨_, ?_, ⟨_, _, q2, ?_, hnd, ?_, by rw [hb9]; exact ha⟩, q1⟩
    · simp [Instr.mapUpdate, run_underlying ht, MapKept.run_getObj_map hb, hck, h1, h3, hst, MapKept.run_setObj_map _ hb, Result.andThen]
    · rw [mput_at hn h2, Array.toList_modify]
      have hl : es.toList.length = L.length := by have := congrArg List.length hes; simpa using this
      have hj : j < L.length := (List.getElem?_eq_some_iff.1 h2).1
      apply List.ext_getElem?
      intro i
      simp only [List.getElem?_map, List.getElem?_modify, List.getElem?_set]
      have hi : (es.toList[i]?).map (fun e => (e.key, e.val)) = (L[i]?).map (fun x => (kv x.1, x.2)) := by
        have := congrArg (·[i]?) hes
        simpa [List.getElem?_map] using this
      by_cases hij : j = i
      · subst hij
        simp only [if_true, if_pos hj]
        have : j < es.toList.length := by omega
        rw [List.getElem?_eq_getElem this]
        simp
      · simp only [if_neg hij]
        cases hq : es.toList[i]? with
        | none => rw [hq] at hi; simpa using hi
        | some e => rw [hq] at hi; simpa using hi
    · intro e hm
      have : e.born ∈ es.toList.map (·.born) := hb9 ▸ List.mem_map.2 ⟨e, hm, rfl⟩
      obtain ⟨x, hx, hxe⟩ := List.mem_map.1 this
      have := ho x hx
      omega

/-- Map m, in which an entry of a key that was none has been made, and not been stored into. -/
def MapE (kv : κ → Value) (w : World) (m : Nat) (L : List (κ × Value)) (k : κ) (b : Nat) : Prop :=
  ∃ es clock z, w.heap[m]? = some (.map (es.push { key := kv k, val := z, born := clock }) (clock + 1)) ∧ Ents kv es clock L ∧ b = clock ∧ mget L k = none
theorem MapR.entry (h : MapR kv w m L) (he : KeyEnc P K kv) (ht : P.underlying T = some (.map K E)) {z : Value} (hz : ∀ w, (zeroValue E).run P w = .ok z w) (k : κ) (hk : mget L k = none) :
    ∃ (b : Nat) (w' : World), (Instr.mapEntry T (.map (some m)) (kv k)).run P w = .ok (.tuple #[z, .int .i64 (b : Int)]) w' ∧ MapE kv w' m L k b ∧ OnlyMap w w' m := by
  have hlt := h.lt
  obtain ⟨es, c, hb, hE⟩ := h
  obtain ⟨lk, hlk⟩ := he.reads k
  have hck := he.keyed.check w (em := false) hlk
  rcases MapIs.find he hE.ents k w with ⟨h1, h2⟩ | ⟨j, u, h1, h2, h3⟩
  · obtain ⟨q1, q2⟩ := onlyMap_set w m (.map (es.push { key := kv k, val := z, born := c }) (c + 1)) hlt
    refine ⟨c, _, ?_, ⟨es, c, z, q2, hE, rfl, hk⟩, q1⟩
    simp [Instr.mapEntry, run_underlying ht, MapKept.run_getObj_map hb, hck, h1, hz, MapKept.run_setObj_map _ hb, Result.andThen, goInt]
  · rw [mget_at hE.nodup h2] at hk
    cases hk
theorem MapE.lt {b : Nat} {k : κ} (h : MapE kv w m L k b) : m < w.heap.size := by
  obtain ⟨es, c, z, hb, _⟩ := h
  exact (Array.getElem?_eq_some_iff.1 hb).1
theorem MapE.keep {b : Nat} {k : κ} (h : MapE kv w m L k b) (hk : w'.heap[m]? = w.heap[m]?) : MapE kv w' m L k b := by
  obtain ⟨es, c, z, hb, r⟩ := h
  exact ⟨es, c, z, hk.trans hb, r⟩
theorem MapE.store {b : Nat} {k : κ} (h : MapE kv w m L k b) (v : Value) :
    ∃ w', (Instr.entryStore T (.map (some m)) (.int .i64 (b : Int)) v).run P w = .ok () w' ∧ MapR kv w' m (mput L k v) ∧ OnlyMap w w' m := by
  have hlt := h.lt
  obtain ⟨es, c, z, hb, hE, rfl, hk⟩ := h
  have hfi : (es.push { key := kv k, val := z, born := b }).findIdx? (fun e => (e.born : Int) == (b : Int)) = some es.size := by
    have h0 : es.findIdx? (fun e => (e.born : Int) == (b : Int)) = none := by
      rw [Array.findIdx?_eq_none_iff]
      intro x hx
      have := hE.old x (by simpa using hx)
      simp
      omega
    simp [Array.findIdx?_push, h0]
  obtain ⟨q1, q2⟩ := onlyMap_set w m (.map ((es.push { key := kv k, val := z, born := b }).modify es.size fun e => { e with val := v }) (b + 1)) hlt
  have hmod : (es.push { key := kv k, val := z, born := b }).modify es.size (fun e => { e with val := v }) = es.push { key := kv k, val := v, born := b } := by
    apply Array.toList_inj.1
    rw [Array.toList_modify, Array.toList_push, Array.toList_push]
    have : es.size = es.toList.length := by simp
    rw [this]
    apply List.ext_getElem?
    intro i
    rw [List.getElem?_modify]
    by_cases hi : i < es.toList.length
    · rw [List.getElem?_append_left hi, List.getElem?_append_left hi]
      have hne : es.size ≠ i := by rw [this]; omega
      cases es.toList[i]? <;> simp [hne]
    · by_cases h2 : i = es.toList.length
      · subst h2
        simp
      · rw [List.getElem?_eq_none (by simp at hi ⊢; omega), List.getElem?_eq_none (by simp at hi ⊢; omega)]
        rfl
  rw [hmod] at q1 q2
  refine ⟨_, ?_, ⟨_, _, q2, ?_, mput_nodup k v hE.nodup, ?_, ?_⟩, q1⟩
  · simp [Instr.entryStore, MapKept.run_getObj_map hb, hfi, MapKept.run_setObj_map _ hb, Result.andThen, asInt, asIntOf, hmod]
  · rw [mput_none_of fun x hx e => (mget_none_iff.1 hk) (List.mem_map.2 ⟨x, hx, e⟩)]
    simp [hE.ents]
  · intro e hm
    rw [Array.toList_push, List.mem_append, List.mem_singleton] at hm
    rcases hm with hm | rfl
    · have := hE.old e hm; omega
    · simp
  · rw [Array.toList_push, List.map_append, List.nodup_append]
    refine ⟨hE.apart, by simp, ?_⟩
    intro a ha' b' hb' e
    simp only [List.map_cons, List.map_nil, List.mem_singleton] at hb'
    obtain ⟨x, hx, rfl⟩ := List.mem_map.1 ha'
    have := hE.old x hx
    omega
omit [DecidableEq κ]

/-- A range over map m, its iterator in block r, under way: 'done' have come. -/
def Iter (kv : κ → Value) (w : World) (m r : Nat) (L : List (κ × Value)) (done : List κ) : Prop :=
  ∃ es clock seen, w.heap[m]? = some (.map es clock) ∧ Ents kv es clock L ∧ w.heap[r]? = some (.mapIter (some m) clock seen clock) ∧
    done.Nodup ∧ (∀ k ∈ done, k ∈ L.map (·.1)) ∧ ∀ (j : Nat) (x : κ × Value) (e : MapEntry), L[j]? = some x → es.toList[j]? = some e → (x.1 ∈ done ↔ seen.contains e.born = true)

theorem Iter.map (h : Iter kv w m r L done) : MapR kv w m L := by
  obtain ⟨es, clock, seen, hb, he, _⟩ := h
  exact ⟨es, clock, hb, he⟩
theorem Iter.lt (h : Iter kv w m r L done) : r < w.heap.size := by
  obtain ⟨es, clock, seen, hb, he, hr, _⟩ := h
  exact (Array.getElem?_eq_some_iff.1 hr).1
theorem Iter.ne (h : Iter kv w m r L done) : r ≠ m := by
  obtain ⟨es, clock, seen, hb, he, hr, _⟩ := h
  intro e
  rw [e, hb] at hr
  cases hr
theorem Iter.keep (h : Iter kv w m r L done) (hm : w'.heap[m]? = w.heap[m]?) (hr' : w'.heap[r]? = w.heap[r]?) : Iter kv w' m r L done := by
  obtain ⟨es, clock, seen, hb, he, hr, rest⟩ := h
  exact ⟨es, clock, seen, hm.trans hb, he, hr'.trans hr, rest⟩
theorem Iter.kept {row : Option Nat} (h : Iter kv w m r L done) (hg : w.grownBy w' row) (hm : some m ≠ row) (hr' : some r ≠ row) : Iter kv w' m r L done :=
  h.keep (hg.block m h.map.lt hm) (hg.block r h.lt hr')
theorem nodup_len {α : Type} : ∀ {l l' : List α}, l.Nodup → (∀ a ∈ l, a ∈ l') → l.length ≤ l'.length
  | [], _, _, _ => Nat.zero_le _
  | x :: r, l', hn, hs => by
    obtain ⟨p, q, rfl⟩ := List.append_of_mem (hs x (by simp))
    obtain ⟨h1, h2⟩ := List.nodup_cons.1 hn
    have := nodup_len (l' := p ++ q) h2 fun a ha => by
      have := hs a (by simp [ha])
      simp only [List.mem_append, List.mem_cons] at this ⊢
      rcases this with h | h | h
      · exact .inl h
      · subst h; exact absurd ha h1
      · exact .inr h
    simp only [List.length_append, List.length_cons] at this ⊢
    omega
theorem Iter.sub (h : Iter kv w m r L done) : done.length ≤ L.length := by
  obtain ⟨es, clock, seen, hb, he, hr, hn, hs, _⟩ := h
  simpa using nodup_len hn hs

theorem MapR.range {t e : TypeId} (h : MapR kv w m L) (ht : P.underlying t = some (.map K E)) :
    ∃ w', (Instr.range t (.map (some m))).run P w = .ok (.pointer (some ⟨w.heap.size, 0, none⟩)) w' ∧ Iter kv w' m w.heap.size L [] ∧ Below w.heap.size w w' ∧ w'.heap.size = w.heap.size + 1 := by
  have hlt := h.lt
  obtain ⟨es, clock, hb, he⟩ := h
  refine ⟨_, run_range_map w t K E m es clock ht hb, ⟨es, clock, #[], ((MapKept.heap_alloc w _).2 m hlt).trans hb, he, (MapKept.heap_alloc w _).1, by simp, by simp, by simp⟩, (Below.refl _ _).alloc (Nat.le_refl _) _, by simp⟩

theorem Iter.next (h : Iter kv w m r L done) (hk : ∀ a b, kv a = kv b → a = b) (ty : TypeId) :
    ((∀ k ∈ L.map (·.1), k ∈ done) ∧ (Instr.next (.pointer (some ⟨r, 0, none⟩)) false ty).run P w = .ok (.tuple #[.bool false]) w) ∨
    ∃ k v w', (k, v) ∈ L ∧ k ∉ done ∧ (Instr.next (.pointer (some ⟨r, 0, none⟩)) false ty).run P w = .ok (.tuple #[.bool true, kv k, v]) w' ∧
      Iter kv w' m r L (done ++ [k]) ∧ w.grownBy w' (some r) ∧ w'.heap.size = w.heap.size ∧ (Instr.entry (.pointer (some ⟨r, 0, none⟩))).run P w' = .ok (.tuple #[kv k, v]) w' := by
  have hne := h.ne
  obtain ⟨es, clock, seen, hb, hE, hr, hn, hs, hd⟩ := h
  have hl : es.toList.length = L.length := by have := congrArg List.length hE.ents; simpa using this
  rcases run_next_at (P := P) w ty r m clock clock seen es clock hr hb hE.old (Nat.le_refl _) with ⟨h0, hrun⟩ | ⟨e, he, w1, hal, hrun⟩
  · refine Or.inl ⟨fun k hkm => ?_, hrun⟩
    obtain ⟨x, hx, rfl⟩ := List.mem_map.1 hkm
    obtain ⟨j, hj⟩ := List.getElem?_of_mem hx
    have hjl : j < es.toList.length := by rw [hl]; exact (List.getElem?_eq_some_iff.1 hj).1
    have hej := List.getElem?_eq_getElem hjl
    exact (hd j x _ hj hej).2 (all_seen es seen h0 _ (List.getElem_mem hjl))
  · obtain ⟨hem, hes⟩ := mem_left he
    obtain ⟨j, hj⟩ := List.getElem?_of_mem hem
    have hjl : j < L.length := by rw [← hl]; exact (List.getElem?_eq_some_iff.1 hj).1
    have hxj := List.getElem?_eq_getElem hjl
    have hkv : (e.key, e.val) = (kv (L[j]).1, (L[j]).2) := by
      have := congrArg (·[j]?) hE.ents
      simp only [List.getElem?_map, hj, hxj, Option.map_some, Option.some.injEq] at this
      exact this
    simp only [Prod.mk.injEq] at hkv
    have hr1 : w1.heap[r]? = some (.mapIter (some m) clock seen clock) := by rcases hal with rfl | rfl <;> exact hr
    have hb1 : w1.heap[m]? = some (.map es clock) := by rcases hal with rfl | rfl <;> exact hb
    have hset := MapKept.heap_set (o' := .mapIter (some m) clock (seen.push e.born) clock) hr1
    have hb' : (setBlock w1 r (.mapIter (some m) clock (seen.push e.born) clock)).heap[m]? = some (.map es clock) := (hset.2 m (fun e1 => hne e1.symm)).trans hb1
    have hnd : (L[j]).1 ∉ done := fun hc => by
      have := (hd j _ e hxj hj).1 hc
      rw [hes] at this
      cases this
    refine Or.inr ⟨(L[j]).1, (L[j]).2, _, List.getElem_mem hjl, hnd, by rw [← hkv.1, ← hkv.2]; exact hrun, ⟨es, clock, seen.push e.born, hb', hE, hset.1, ?_, ?_, ?_⟩, ?_, ?_, ?_⟩
    · rw [List.nodup_append]
      exact ⟨hn, by simp, fun a ha b hb e' => by simp at hb; subst hb; subst e'; exact hnd ha⟩
    · intro k hkm
      rcases List.mem_append.1 hkm with h1 | h1
      · exact hs k h1
      · simp at h1
        subst h1
        exact List.mem_map.2 ⟨_, List.getElem_mem hjl, rfl⟩
    · intro i x y hx hy
      rw [List.mem_append, List.mem_singleton, hd i x y hx hy, contains_push]
      have hiff : x.1 = (L[j]).1 ↔ y.born = e.born := by
        constructor
        · intro hxe
          have hij : i = j := by
            have hi : i < (L.map (·.1)).length := by simpa using (List.getElem?_eq_some_iff.1 hx).1
            have hj' : j < (L.map (·.1)).length := by simpa using hjl
            refine (List.getElem_inj (h₀ := hi) (h₁ := hj') hE.nodup).1 ?_
            have := (List.getElem?_eq_some_iff.1 hx).2
            simp [this, hxe]
          subst hij
          rw [hj] at hy
          injection hy with hy
          rw [hy]
        · intro hye
          have hij : i = j := by
            have hi : i < (es.toList.map (·.born)).length := by simpa using (List.getElem?_eq_some_iff.1 hy).1
            have hj' : j < (es.toList.map (·.born)).length := by simpa using (List.getElem?_eq_some_iff.1 hj).1
            refine (List.getElem_inj (h₀ := hi) (h₁ := hj') hE.apart).1 ?_
            have h1 := (List.getElem?_eq_some_iff.1 hy).2
            have h2 := (List.getElem?_eq_some_iff.1 hj).2
            rw [List.getElem_map, List.getElem_map, h1, h2, hye]
          subst hij
          rw [hxj] at hx
          injection hx with hx
          rw [hx]
      rw [hiff]
      cases seen.contains y.born <;> simp
    · rcases hal with rfl | rfl <;> exact ⟨rfl, rfl, rfl, by simp [setBlock], fun i _ hi => hset.2 i (fun e1 => hi (by rw [e1]))⟩
    · rcases hal with rfl | rfl <;> simp [setBlock]
    · have := run_entry_at (P := P) _ r m clock seen es clock e hset.1 hb' hem hE.apart
      rw [← hkv.1, ← hkv.2]
      exact this

theorem Iter.perm (h : Iter kv w m r L done) (hall : ∀ k ∈ L.map (·.1), k ∈ done) : done.Perm (L.map (·.1)) := by
  obtain ⟨es, clock, seen, hb, he, hr, hn, hs, _⟩ := h
  exact (List.perm_ext_iff_of_nodup hn he.nodup).2 fun k => ⟨hs k, hall k⟩

section
variable {ops : Array Oper} {rest : List Oper} {o : Oper} {a : Act} {Q : Exit → Act → World → Prop}
theorem wpList_range_map (hg : o.guard = none) (x : Operand) (t : TypeId) (hop : o.op = Op.range t x) (ht : P.underlying t = some (.map K E))
    (hm : a.eval x = .map (some m)) (h : MapR kv w m L)
    (hK : ∀ w', Iter kv w' m w.heap.size L [] → Below w.heap.size w w' → w'.heap.size = w.heap.size + 1 → wpList P ops Q rest (a.put o.dst (.pointer (some ⟨w.heap.size, 0, none⟩))) w') :
    wpList P ops Q (o :: rest) a w := by
  refine wpList_plain hg fun K' hK' => ?_
  obtain ⟨w', hrun, r1, r2, r3⟩ := h.range (P := P) (e := E) ht
  unfold Oper.wp
  simp [execOp, hop, hm, hrun, Result.andThen]
  exact hK' _ _ (hK w' r1 r2 r3)

theorem wpList_next_map (hg : o.guard = none) (it : Operand) (hop : o.op = Op.next it false)
    (hit : a.eval it = .pointer (some ⟨r, 0, none⟩)) (h : Iter kv w m r L done) (hk : ∀ a b, kv a = kv b → a = b)
    (hDone : (∀ k ∈ L.map (·.1), k ∈ done) → wpList P ops Q rest (a.put o.dst (.tuple #[.bool false])) w)
    (hMore : ∀ (k : κ) (v : Value) (w' : World), (k, v) ∈ L → k ∉ done → Iter kv w' m r L (done ++ [k]) → w.grownBy w' (some r) → w'.heap.size = w.heap.size →
      (Instr.entry (.pointer (some ⟨r, 0, none⟩))).run P w' = .ok (.tuple #[kv k, v]) w' → wpList P ops Q rest (a.put o.dst (.tuple #[.bool true, kv k, v])) w') :
    wpList P ops Q (o :: rest) a w := by
  refine wpList_plain hg fun K' hK' => ?_
  unfold Oper.wp
  rcases h.next (P := P) hk o.type with ⟨h0, hrun⟩ | ⟨k, v, w', h1, h2, hrun, h3, h4, h5, h6⟩
  · simp [execOp, hop, hit, hrun, Result.andThen]
    exact hK' _ _ (hDone h0)
  · simp [execOp, hop, hit, hrun, Result.andThen]
    exact hK' _ _ (hMore k v w' h1 h2 h3 h4 h5 h6)
end
end

end Go.Proofs.YthmkgohfeahdhaaGreat
namespace Go.Proofs.YthmkgohfeahdhaaGreat
open Go.RowKit

/-- a block's bytes -/
abbrev BlkV := List UInt8
def bval (b : BlkV) : Value := .agg (bvs b).toArray
def zeroB : BlkV := List.replicate 64 0
theorem zeroB_length : zeroB.length = 64 := by simp [zeroB]

/-- a block's number as a key -/
abbrev NKey := Fin 65536
def nkv (k : NKey) : Value := .int .i64 (k.val : Int)
def nk (n : Nat) : NKey := Fin.ofNat 65536 n
theorem nk_val {n : Nat} (h : n < 65536) : (nk n).val = n := by simp [nk]; omega
theorem nkv_nk {n : Nat} (h : n < 65536) : nkv (nk n) = .int .i64 (n : Int) := by simp [nkv, nk_val h]
theorem nk_inj {n m : Nat} (h : n < 65536) (h' : m < 65536) (e : nk n = nk m) : n = m := by
  have := congrArg Fin.val e
  rwa [nk_val h, nk_val h'] at this

/-- what is to be written, as the map holds it -/
def dm (M : List (Nat × BlkV)) : List (NKey × Value) := M.map fun x => (nk x.1, bval x.2)
theorem dm_length (M : List (Nat × BlkV)) : (dm M).length = M.length := by simp [dm]
theorem dm_get {M : List (Nat × BlkV)} (hM : ∀ x ∈ M, x.1 < 65536) {n : Nat} (hn : n < 65536) : mget (dm M) (nk n) = (mget M n).map bval := by
  induction M with
  | nil => rfl
  | cons x r ih =>
    have hx := hM x (by simp)
    have ih := ih fun y hy => hM y (by simp [hy])
    simp only [dm, List.map_cons, mget] at ih ⊢
    by_cases h : x.1 = n
    · rw [if_pos h, if_pos (by rw [h])]; rfl
    · rw [if_neg h, if_neg (fun e => h (nk_inj hx hn e)), ih]
theorem dm_put {M : List (Nat × BlkV)} (hM : ∀ x ∈ M, x.1 < 65536) {n : Nat} (hn : n < 65536) (b : BlkV) : mput (dm M) (nk n) (bval b) = dm (mput M n b) := by
  induction M with
  | nil => rfl
  | cons x r ih =>
    have hx := hM x (by simp)
    have ih := ih fun y hy => hM y (by simp [hy])
    simp only [dm, List.map_cons, mput] at ih ⊢
    by_cases h : x.1 = n
    · rw [if_pos h, if_pos (by rw [h])]; simp [h]
    · rw [if_neg h, if_neg (fun e => h (nk_inj hx hn e)), ih]; simp
theorem dm_keys {M : List (Nat × BlkV)} (hM : ∀ x ∈ M, x.1 < 65536) : (dm M).map (fun x => x.1.val) = M.map (·.1) := by
  simp only [dm, List.map_map]
  apply List.map_congr_left
  intro x hx
  exact nk_val (hM x hx)
theorem mput_mem {β : Type} {L : List (Nat × β)} {k : Nat} {v : β} {x : Nat × β} (h : x ∈ mput L k v) : x ∈ L ∨ x = (k, v) := by
  induction L with
  | nil => simp [mput] at h; exact .inr h
  | cons y r ih =>
    simp only [mput] at h
    split at h
    · rename_i hy
      rcases List.mem_cons.1 h with h | h
      · exact .inr (by rw [h, hy])
      · exact .inl (by simp [h])
    · rcases List.mem_cons.1 h with h | h
      · exact .inl (by simp [h])
      · rcases ih h with h | h
        · exact .inl (by simp [h])
        · exact .inr h
theorem mput_length {β : Type} (L : List (Nat × β)) (k : Nat) (v : β) : (mput L k v).length = if (mget L k).isSome then L.length else L.length + 1 := by
  induction L with
  | nil => rfl
  | cons x r ih =>
    simp only [mput, mget]
    split
    · simp
    · simp only [List.length_cons, ih]; split <;> rfl

/-- a disk's blocks, a transaction's changed ones, its fault -/
structure Sto where
  D : List BlkV
  M : List (Nat × BlkV)
  bad : Int

namespace Sto
/-- a block as the transaction has it -/
def at_ (s : Sto) (n : Nat) : BlkV := (mget s.M n).getD (s.D.getD n zeroB)
def put (s : Sto) (n : Nat) (b : BlkV) : Sto := { s with M := mput s.M n b }
/-- not of the log -/
def free (n : Nat) : Prop := n = 0 ∨ 31 < n
structure Ok (s : Sto) : Prop where
  dlen : ∀ b ∈ s.D, b.length = 64
  mlen : ∀ x ∈ s.M, x.2.length = 64
  keys : ∀ x ∈ s.M, x.1 < s.D.length
  many : 32 ≤ s.D.length
  most : s.D.length ≤ 65536
  few : s.M.length ≤ 30
  nodup : (s.M.map (·.1)).Nodup
  off : ∀ x ∈ s.M, free x.1

theorem at_put (s : Sto) (n m : Nat) (b : BlkV) : (s.put n b).at_ m = if n = m then b else s.at_ m := by
  simp only [at_, put, mget_put]
  by_cases h : n = m <;> simp [h]
theorem at_length {s : Sto} (h : s.Ok) (n : Nat) : (s.at_ n).length = 64 := by
  unfold at_
  cases hm : mget s.M n with
  | some b => exact h.mlen _ (mget_mem hm)
  | none =>
    simp only [Option.getD_none, List.getD_eq_getElem?_getD]
    cases hd : s.D[n]? with
    | none => exact zeroB_length
    | some b => exact h.dlen _ (List.mem_of_getElem? hd)
theorem Ok.key {s : Sto} (h : s.Ok) {n : Nat} {b : BlkV} (hm : mget s.M n = some b) : n < s.D.length := h.keys _ (mget_mem hm)
theorem Ok.small {s : Sto} (h : s.Ok) : ∀ x ∈ s.M, x.1 < 65536 := fun x hx => Nat.lt_of_lt_of_le (h.keys x hx) h.most
theorem Ok.put {s : Sto} (h : s.Ok) {n : Nat} {b : BlkV} (hb : b.length = 64) (hn : n < s.D.length) (hf : free n) (hk : (mget s.M n).isSome = true ∨ s.M.length < 30) : (s.put n b).Ok where
  dlen := h.dlen
  mlen x hx := by rcases mput_mem hx with hx | rfl; exact h.mlen x hx; exact hb
  keys x hx := by rcases mput_mem hx with hx | rfl; exact h.keys x hx; exact hn
  many := h.many
  most := h.most
  few := by
    show (mput s.M n b).length ≤ 30
    rw [mput_length]
    have := h.few
    rcases hk with hk | hk
    · rw [if_pos hk]; omega
    · split <;> omega
  nodup := mput_nodup _ _ h.nodup
  off x hx := by rcases mput_mem hx with hx | rfl; exact h.off x hx; exact hf
theorem put_len (s : Sto) (n : Nat) (b : BlkV) : (s.put n b).M.length ≤ s.M.length + 1 := by
  show (mput s.M n b).length ≤ _
  rw [mput_length]
  split <;> omega
end Sto

/-- a list of blocks' cells, one behind the other -/
def flatB (D : List BlkV) : List Value := (D.map bvs).flatten
theorem flatB_length {D : List BlkV} (h : ∀ b ∈ D, b.length = 64) : (flatB D).length = 64 * D.length := by
  induction D with
  | nil => rfl
  | cons b r ih =>
    have hb : (bvs b).length = 64 := by rw [bvs_length]; exact h b (by simp)
    simp only [flatB, List.map_cons, List.flatten_cons, List.length_append, hb]
    have := ih fun x hx => h x (by simp [hx])
    simp only [flatB] at this
    rw [this, List.length_cons]
    omega
theorem flatB_get {D : List BlkV} (h : ∀ b ∈ D, b.length = 64) {k : Nat} {b : BlkV} (hk : D[k]? = some b) {j : Nat} (hj : j < 64) : (flatB D)[64 * k + j]? = (bvs b)[j]? := by
  induction D generalizing k with
  | nil => simp at hk
  | cons c r ih =>
    have hc : (bvs c).length = 64 := by rw [bvs_length]; exact h c (by simp)
    have e : flatB (c :: r) = bvs c ++ flatB r := rfl
    rw [e]
    cases k with
    | zero =>
      simp at hk
      subst hk
      rw [Nat.mul_zero, Nat.zero_add, List.getElem?_append_left (by omega)]
    | succ k =>
      simp at hk
      rw [List.getElem?_append_right (by rw [hc]; omega), hc, show 64 * (k + 1) + j - 64 = 64 * k + j from by omega]
      exact ih (fun x hx => h x (by simp [hx])) hk
end Go.Proofs.YthmkgohfeahdhaaGreat
namespace Go.Proofs.YthmkgohfeahdhaaGreat
open Go.RowKit
set_option linter.unusedSimpArgs false
set_option linter.unusedVariables false

theorem bvs_oneCell (b : List UInt8) : (bvs b).toArray.all (·.oneCell') = true := all_oneCell_toArray (bvs_one b)
theorem bvs_size {b : List UInt8} (h : b.length = 64) : (bvs b).toArray.size = 64 := by simp [bvs, h]
theorem zero_size : (bvs zeroB).toArray.size = 64 := bvs_size zeroB_length

section
variable {P : Program} {ops : Array Oper} {rest : List Oper} {o : Oper} {a : Act} {w : World} {Q : Exit → Act → World → Prop}

theorem at_store (ty : TypeId) (x y : Operand) {d : Option Tmp} {k : TypeId} {p : String} {f : Array Edge} {g : Option (Nat × Bool)} (h : wpList P ops Q (⟨d, .store ty x y, k, p, f, g⟩ :: rest) a w) : wpList P ops Q (⟨d, .store ty x y, k, p, f, g⟩ :: rest) a w := h
theorem at_load (ty : TypeId) (x : Operand) {d : Option Tmp} {k : TypeId} {p : String} {f : Array Edge} {g : Option (Nat × Bool)} (h : wpList P ops Q (⟨d, .load ty x, k, p, f, g⟩ :: rest) a w) : wpList P ops Q (⟨d, .load ty x, k, p, f, g⟩ :: rest) a w := h
theorem at_alloc (ty : TypeId) {d : Option Tmp} {k : TypeId} {p : String} {f : Array Edge} {g : Option (Nat × Bool)} (h : wpList P ops Q (⟨d, .alloc ty, k, p, f, g⟩ :: rest) a w) : wpList P ops Q (⟨d, .alloc ty, k, p, f, g⟩ :: rest) a w := h
theorem at_build (ty : TypeId) (l : Array (Nat × Operand)) {d : Option Tmp} {k : TypeId} {p : String} {f : Array Edge} {g : Option (Nat × Bool)} (h : wpList P ops Q (⟨d, .build ty l, k, p, f, g⟩ :: rest) a w) : wpList P ops Q (⟨d, .build ty l, k, p, f, g⟩ :: rest) a w := h
theorem at_look (ty : TypeId) (x y : Operand) (ok : Bool) {d : Option Tmp} {k : TypeId} {p : String} {f : Array Edge} {g : Option (Nat × Bool)} (h : wpList P ops Q (⟨d, .lookup ty x y ok, k, p, f, g⟩ :: rest) a w) : wpList P ops Q (⟨d, .lookup ty x y ok, k, p, f, g⟩ :: rest) a w := h

theorem at_end {fn : Func} {R : Ending → World → Prop} (h : bodyPost P fn R Exit.ret a w) : bodyPost P fn R Exit.ret a w := h

theorem wpList_alloc_as (hgd : o.guard = none) (ty : TypeId) (ho : o.op = .alloc ty) (cs : Array Value) (hz : (zeroValue ty).run P w = .ok (.agg cs) w)
    (h : wpList P ops Q rest (a.put o.dst (.pointer (some ⟨w.heap.size, 0, none⟩))) (w.alloc (.cells cs ty))) : wpList P ops Q (o :: rest) a w := by
  refine wpList_plain hgd fun K hK => ?_
  unfold Oper.wp
  simp only [execOp, ho, Instr.alloc, Sem.run_bind, hz, Result.andThen_ok]
  simp [newVar, newRow, Value.cells, Result.andThen, Oper.upon]
  exact hK _ _ h

theorem wpList_lookup_map {κ : Type} [DecidableEq κ] {kv : κ → Value} {K E : TypeId} {m : Nat} {L : List (κ × Value)} {z : Value} (hgd : o.guard = none) (t : TypeId) (x y : Operand) (ok : Bool) (ho : o.op = .lookup t x y ok) (k : κ)
    (hm : a.eval x = .map (some m)) (hy : a.eval y = kv k) (h : MapIs kv w m L) (he : KeyEnc P K kv) (ht : P.underlying t = some (.map K E)) (hz : (zeroValue E).run P w = .ok z w) (v : Value)
    (hv : (if ok then .tuple #[(mget L k).getD z, .bool (mget L k).isSome] else (mget L k).getD z) = v)
    (hK : wpList P ops Q rest (a.put o.dst v) w) : wpList P ops Q (o :: rest) a w := by
  refine wpList_plain hgd fun K' hK' => ?_
  have hrun := h.lookup he ht hz k ok
  rw [hv] at hrun
  unfold Oper.wp
  simp only [execOp, ho, hm, hy, Sem.run_bind, hrun, Result.andThen_ok]
  simp [Result.andThen, Oper.upon]
  exact hK' _ _ hK

theorem wp_update_map {κ : Type} [DecidableEq κ] {kv : κ → Value} {K E : TypeId} {m : Nat} {L : List (κ × Value)} {K' : Act → World → Prop} (t : TypeId) (x y z : Operand) (ho : o.op = .mapUpdate t x y z) (k : κ) (v : Value)
    (hm : a.eval x = .map (some m)) (hy : a.eval y = kv k) (hz : a.eval z = v) (h : MapR kv w m L) (he : KeyEnc P K kv) (ht : P.underlying t = some (.map K E))
    (hK : ∀ w', MapR kv w' m (mput L k v) → OnlyMap w w' m → K' (a.put o.dst undef) w') : o.wp P a w K' Q := by
  obtain ⟨w', hrun, h1, h2⟩ := h.update (P := P) (E := E) he ht k v
  unfold Oper.wp
  simp only [execOp, ho, hm, hy, hz, Sem.run_bind, hrun, Result.andThen_ok]
  simp [Result.andThen, Oper.upon]
  exact hK w' h1 h2

theorem at_index (ty : TypeId) (x y : Operand) {d : Option Tmp} {k : TypeId} {p : String} {f : Array Edge} {g : Option (Nat × Bool)} (h : wpList P ops Q (⟨d, .index ty x y, k, p, f, g⟩ :: rest) a w) : wpList P ops Q (⟨d, .index ty x y, k, p, f, g⟩ :: rest) a w := h
theorem run_index_arr (ty e : TypeId) (n j : Nat) (k : IntKind) (q : IntKind) (cs : Array Value) (v : Value) (hj : j < n) (hv : cs[j]? = some v)
    (hu : P.underlying ty = some (.array n e)) (he : P.underlying e = some (.int q)) (hs : (P.info? e).map (·.size) = some 1) : (Instr.index ty (.agg cs) (.int k (j : Int))).run P w = .ok v w := by
  cases hq : P.info? e with
  | none => simp [hq] at hs
  | some i =>
    have hi : i.size = 1 := by simpa [hq] using hs
    have hjz : (j : Int) < (n : Int) := by omega
    simp [Instr.index, asIntOf, run_underlying hu, hj, sizeOf, typeInfo, hq, hi, part, isAgg, run_underlying he, hv]
theorem wpList_index_arr (hgd : o.guard = none) (ty e : TypeId) (x y : Operand) (ho : o.op = .index ty x y) (n j : Nat) (k q : IntKind) (cs : Array Value) (v : Value) (hx : a.eval x = .agg cs) (hy : a.eval y = .int k (j : Int)) (hj : j < n) (hv : cs[j]? = some v)
    (hu : P.underlying ty = some (.array n e)) (he : P.underlying e = some (.int q)) (hs : (P.info? e).map (·.size) = some 1) (h : wpList P ops Q rest (a.put o.dst v) w) : wpList P ops Q (o :: rest) a w := by
  refine wpList_plain hgd fun K hK => ?_
  have hrun := run_index_arr (P := P) (w := w) ty e n j k q cs v hj hv hu he hs
  unfold Oper.wp
  simp only [execOp, ho, hx, hy, Sem.run_bind, hrun, Result.andThen_ok]
  simp [Result.andThen, Oper.upon]
  exact hK _ _ h

theorem run_storeVar_cell (ty : TypeId) (g i : Nat) (t : TypeId) (cs : Array Value) (v : Value) (hB : Blk w g t cs) (hi : i < cs.size) (h1 : v.oneCell' = true) (hs : (P.info? ty).map (·.size) = some 1) :
    (storeVar ty ⟨g, i, none⟩ v).run P w = .ok () (w.setCell ⟨g, i, none⟩ v) := by
  have hc : v.cells = #[v] := by cases v <;> first | rfl | cases h1
  have hcell := hB.cell i
  have hf := hB.frozen i
  rw [Array.getElem?_eq_getElem hi] at hcell
  cases hq : P.info? ty with
  | none => simp [hq] at hs
  | some j =>
    have hs : j.size = 1 := by simpa [hq] using hs
    have hadd : (⟨g, i, none⟩ : Addr).add 0 = ⟨g, i, none⟩ := by simp [Addr.add]
    have hst : (store ⟨g, i, none⟩ v).run P w = .ok () (w.setCell ⟨g, i, none⟩ v) := by
      rw [run_store P w _ v _ h1, hcell]
      simp [hf]
    simp [storeVar, sizeOf, typeInfo, hq, hs, hc, storeCells, Sem.run_bind, hadd, hst, Result.andThen]
/-- one cell of a block known whole is written -/
theorem wp_store_cell {K : Act → World → Prop} (ty : TypeId) (x y : Operand) (ho : o.op = .store ty x y) (g i : Nat) (t : TypeId) (cs : Array Value) (v : Value) (hx : a.eval x = .pointer (some ⟨g, i, none⟩)) (hy : a.eval y = v)
    (hB : Blk w g t cs) (hi : i < cs.size) (h1 : v.oneCell' = true) (hs : (P.info? ty).map (·.size) = some 1) (h : K (a.put o.dst undef) (w.setCell ⟨g, i, none⟩ v)) : o.wp P a w K Q := by
  unfold Oper.wp execOp
  simp only [ho, hx, hy, Instr.storeAt, Instr.sureAddr, Sem.run_bind, Sem.run_pure, Result.andThen_ok, run_storeVar_cell ty g i t cs v hB hi h1 hs]
  exact h

theorem wpList_store_cell (hgd : o.guard = none) (ty : TypeId) (x y : Operand) (ho : o.op = .store ty x y) (g i : Nat) (t : TypeId) (cs : Array Value) (v : Value) (hx : a.eval x = .pointer (some ⟨g, i, none⟩)) (hy : a.eval y = v)
    (hB : Blk w g t cs) (hi : i < cs.size) (h1 : v.oneCell' = true) (hs : (P.info? ty).map (·.size) = some 1) (h : wpList P ops Q rest (a.put o.dst undef) (w.setCell ⟨g, i, none⟩ v)) : wpList P ops Q (o :: rest) a w :=
  wpList_plain hgd fun _ hK => wp_store_cell ty x y ho g i t cs v hx hy hB hi h1 hs (hK _ _ h)
theorem wp_alloc_as {K : Act → World → Prop} (ty : TypeId) (ho : o.op = .alloc ty) (cs : Array Value) (hz : (zeroValue ty).run P w = .ok (.agg cs) w)
    (h : K (a.put o.dst (.pointer (some ⟨w.heap.size, 0, none⟩))) (w.alloc (.cells cs ty))) : o.wp P a w K Q := by
  unfold Oper.wp
  simp only [execOp, ho, Instr.alloc, Sem.run_bind, hz, Result.andThen_ok]
  simp [newVar, newRow, Value.cells, Result.andThen, Oper.upon]
  exact h
theorem wp_store_blk {K : Act → World → Prop} (ty : TypeId) (x y : Operand) (ho : o.op = .store ty x y) (g : Nat) (t : TypeId) (old cells : Array Value) (hx : a.eval x = .pointer (some ⟨g, 0, none⟩)) (hy : a.eval y = .agg cells)
    (hB : Blk w g t old) (hi : (P.info? ty).map (·.size) = some cells.size) (hold : old.size = cells.size) (h1 : cells.all (·.oneCell') = true)
    (h : Blk (w.setRow g cells) g t cells → K (a.put o.dst undef) (w.setRow g cells)) : o.wp P a w K Q :=
  wp_store_row ty x y ho g cells hx hy t old hB hi hold h1 (h (setRow_heap w g old cells t (0, 0) hB))

theorem wpList_zero_as (hgd : o.guard = none) (ty : TypeId) (ho : o.op = .build ty #[]) (v : Value) (hb : (Instr.build ty #[]).run P w = .ok v w)
    (h : wpList P ops Q rest (a.put o.dst v) w) : wpList P ops Q (o :: rest) a w := by
  refine wpList_plain hgd fun K hK => ?_
  unfold Oper.wp
  simp only [execOp, ho, Sem.run_bind, Array.map_empty, List.map_toArray, List.map_nil, hb, Result.andThen_ok]
  simp [Result.andThen, Oper.upon]
  exact hK _ _ h

/-- the whole of a block known whole is read -/
theorem wpList_load_blk (hgd : o.guard = none) (ty : TypeId) (x : Operand) (ho : o.op = .load ty x) (g : Nat) (t : TypeId) (cs : Array Value) (d : TypeDesc) (hx : a.eval x = .pointer (some ⟨g, 0, none⟩)) (hB : Blk w g t cs)
    (hu : P.underlying ty = some d) (hd : d.isRow = true) (hi : (P.info? ty).map (·.size) = some cs.size)
    (h : wpList P ops Q rest (a.put o.dst (.agg cs)) w) : wpList P ops Q (o :: rest) a w :=
  wpList_load_row hgd ty x ho g hx t cs (0, 0) d hB hu (by cases d <;> first | rfl | cases hd) hi h

theorem exec_load_blk (ty : TypeId) (x : Operand) (ho : o.op = .load ty x) (g : Nat) (t : TypeId) (cs : Array Value) (d : TypeDesc) (hx : a.eval x = .pointer (some ⟨g, 0, none⟩)) (hB : Blk w g t cs)
    (hu : P.underlying ty = some d) (hd : d.isRow = true) (hi : (P.info? ty).map (·.size) = some cs.size) : (execOp a.eval o).run P w = .ok (.value (.agg cs)) w := by
  unfold execOp
  simp only [ho, hx, Instr.loadAt, Instr.sureAddr, Sem.run_bind, Sem.run_pure, Result.andThen_ok, run_loadVar_row w g t ty cs (0, 0) d hB hu (by cases d <;> first | rfl | cases hd) hi]
theorem exec_load_mid (ty : TypeId) (x : Operand) (ho : o.op = .load ty x) (b q : Nat) (hx : a.eval x = .pointer (some ⟨b, q, none⟩)) (cs : List Value) (d : TypeDesc) (hc : w.rangeAt b q cs)
    (hu : P.underlying ty = some d) (hd : d.isRow = true) (hi : (P.info? ty).map (·.size) = some cs.length) : (execOp a.eval o).run P w = .ok (.value (.agg cs.toArray)) w := by
  unfold execOp
  simp only [ho, hx, Instr.loadAt, Instr.sureAddr, Sem.run_bind, Sem.run_pure, Result.andThen_ok, run_loadVar_mid w b q ty cs d hc hu hd hi]

/-- the whole of a block known whole is written -/
theorem wpList_store_blk (hgd : o.guard = none) (ty : TypeId) (x y : Operand) (ho : o.op = .store ty x y) (g : Nat) (t : TypeId) (old cells : Array Value) (hx : a.eval x = .pointer (some ⟨g, 0, none⟩)) (hy : a.eval y = .agg cells)
    (hB : Blk w g t old) (hi : (P.info? ty).map (·.size) = some cells.size) (hold : old.size = cells.size) (h1 : cells.all (·.oneCell') = true)
    (h : Blk (w.setRow g cells) g t cells → wpList P ops Q rest (a.put o.dst undef) (w.setRow g cells)) : wpList P ops Q (o :: rest) a w :=
  wpList_store_row hgd ty x y ho g cells hx hy t old hB hi hold h1 (h (setRow_heap w g old cells t (0, 0) hB))
end

section
variable {B g : Nat} {S : Nat → Prop} {t : TypeId} {cs : Array Value} {w w' : World}
theorem Blk.setRow_far (h : Blk w g t cs) {k : Nat} (hk : g ≠ k) (c : Array Value) : Blk (w.setRow k c) g t cs := (setRow_other w k g c hk).trans h
theorem Blk.setRow_same (h : Blk w g t cs) (c : Array Value) : Blk (w.setRow g c) g t c := setRow_heap w g cs c t (0, 0) h
theorem Blk.tch (h : Blk w g t cs) (ht : Tch B S w w') (hg : g < B) (hS : ¬ S g) : Blk w' g t cs := (ht.block g hg hS).trans h
theorem Tch.setRow {c : Array Value} (hp : g < B → S g) : Tch B S w (w.setRow g c) :=
  ⟨rfl, rfl, rfl, by simp, fun k hk hn => setRow_other w g k c (fun e => hn (by subst e; exact hp hk))⟩
theorem Tch.refl (B : Nat) (S : Nat → Prop) (w : World) : Tch B S w w := ⟨rfl, rfl, rfl, Nat.le_refl _, fun _ _ _ => rfl⟩
theorem Tch.alloc {w0 : World} (h : Tch B S w0 w) (hB : B ≤ w0.heap.size) (o : Obj) : Tch B S w0 (w.alloc o) :=
  h.trans (Tch.of_below (((Below.refl _ w).alloc (Nat.le_refl _) o).mono (Nat.le_trans hB h.size)))
theorem Tch.sub {S' : Nat → Prop} (h : Tch B S w w') (hS : ∀ k, S k → S' k) : Tch B S' w w' := h.mono (Nat.le_refl _) fun k _ hk => hS k hk
/-- two steps, each told from its own beginning -/
theorem Tch.then_ {w'' : World} (h : Tch w.heap.size S w w') (k : Tch w'.heap.size S w' w'') : Tch w.heap.size S w w'' := h.trans (k.mono h.size fun _ _ hk => hk)
/-- of a block there is only one element type -/
theorem Blk.ne {g' : Nat} {t' : TypeId} {cs' : Array Value} (h : Blk w g t cs) (h' : Blk w g' t' cs') (hne : t ≠ t') : g ≠ g' := by
  rintro rfl
  unfold Blk at h h'
  rw [h] at h'
  simp only [Option.some.injEq, Obj.cells.injEq] at h'
  exact hne h'.2.1
theorem Blk.ne_map {κ : Type} {kv : κ → Value} {m : Nat} {L : List (κ × Value)} (h : Blk w g t cs) (hm : MapIs kv w m L) : g ≠ m := fun e => blk_not_map h hm e
theorem Blk.same {t' : TypeId} {cs' : Array Value} (h : Blk w g t cs) (h' : Blk w g t' cs') : cs = cs' := by
  unfold Blk at h h'
  rw [h] at h'
  simp only [Option.some.injEq, Obj.cells.injEq] at h'
  exact h'.1
/-- a row of one's own, filled to its capacity, is a block known whole -/
theorem own_blk {base n size : Nat} {e : TypeId} {xs : List Value} (h : w.ownsRow base e size (.slice (some ⟨g, 0, none⟩) n n) n xs) : Blk w g e xs.toArray := by
  rcases h.2 with ⟨h', _⟩ | ⟨g', cap', cur, h', hg, hh, hnc, hcm, hcs, htake⟩
  · cases h'
  · simp only [Value.slice.injEq, Option.some.injEq, Addr.mk.injEq] at h'
    obtain ⟨⟨rfl, _, _⟩, _, rfl⟩ := h'
    have : cur.toList = xs := by rw [← htake, List.take_of_length_le (by simp; omega)]
    rw [← this]
    exact hh
/-- a piece of a block known whole -/
theorem Blk.range (h : Blk w g t cs) {o : Nat} {xs : List Value} (hx : ∀ j v, xs[j]? = some v → cs[o + j]? = some v) : w.rangeAt g o xs := fun j v hj => by
  rw [h.cell]; exact hx j v hj
theorem Blk.there (h : Blk w g t cs) {o n : Nat} (hn : o + n ≤ cs.size) : w.there g o n := fun j hj => by
  rw [h.cell, h.frozen]
  refine ⟨?_, rfl⟩
  rw [Array.getElem?_eq_getElem (by omega)]
  rfl
/-- a piece of a block known whole, written -/
theorem Blk.setCells (h : Blk w g t cs) (o : Nat) : ∀ (vs : List Value), o + vs.length ≤ cs.size → Blk (w.setCells g o vs) g t (cs.toList.take o ++ vs ++ cs.toList.drop (o + vs.length)).toArray := by
  intro vs
  induction vs generalizing w cs o with
  | nil => intro _; simpa [World.setCells] using h
  | cons v r ih =>
    intro hl
    simp only [List.length_cons] at hl
    have h1 := h.set_ o v
    have h2 := ih h1 (o + 1) (by simp; omega)
    have e : (w.setCells g o (v :: r)) = (w.setCell ⟨g, o, none⟩ v).setCells g (o + 1) r := rfl
    rw [e]
    have hl2 : o < cs.toList.length := by simp; omega
    have e2 : (cs.setIfInBounds o v).toList.take (o + 1) = cs.toList.take o ++ [v] := by
      rw [Array.toList_setIfInBounds, List.take_set, List.take_succ_eq_append_getElem hl2, List.set_append_right _ _ (by simp [Nat.min_eq_left (Nat.le_of_lt hl2)]; omega)]
      simp [Nat.min_eq_left (show o ≤ cs.size by omega)]
    have e3 : (cs.setIfInBounds o v).toList.drop (o + 1 + r.length) = cs.toList.drop (o + (v :: r).length) := by
      rw [Array.toList_setIfInBounds, List.drop_set_of_lt (by omega), List.length_cons, show o + 1 + r.length = o + (r.length + 1) from by omega]
    rw [e2, e3] at h2
    simpa using h2
theorem Tch.setCells (hp : g < B → S g) : ∀ (vs : List Value) (o : Nat) (w : World), Tch B S w (w.setCells g o vs)
  | [], o, w => Tch.refl _ _ _
  | v :: r, o, w => (Tch.setCell (p := ⟨g, o, none⟩) hp).trans (Tch.setCells hp r (o + 1) (w.setCell ⟨g, o, none⟩ v))
end

theorem ResV.row {P : Program} {w : World} {tmps : Array Value} {p : Tmp} {ty g : Nat} {t : TypeId} {cs : Array Value} {d : TypeDesc} (hp : tmps.getD p undef = .pointer (some ⟨g, 0, none⟩)) (hb : Blk w g t cs)
    (hu : P.underlying ty = some d) (hd : d.isRow = true) (hi : (P.info? ty).map (·.size) = some cs.size) : ResV P w tmps (.cell p ty) (.agg cs) := by
  unfold ResV resRun
  simp only [hp]
  simp [asAddr, run_loadVar_row w g t ty cs (0, 0) d hb hu (by cases d <;> first | rfl | cases hd) hi]

/-- one block among a disk's -/
theorem flatB_set {D : List BlkV} (h : ∀ b ∈ D, b.length = 64) {k : Nat} (hk : k < D.length) {b : BlkV} (hb : b.length = 64) :
    (flatB D).take (64 * k) ++ bvs b ++ (flatB D).drop (64 * k + 64) = flatB (D.set k b) := by
  induction D generalizing k with
  | nil => simp at hk
  | cons c r ih =>
    have hc : (bvs c).length = 64 := by rw [bvs_length]; exact h c (by simp)
    have e : flatB (c :: r) = bvs c ++ flatB r := rfl
    rw [e]
    cases k with
    | zero =>
      rw [Nat.mul_zero, Nat.zero_add, List.take_zero, List.nil_append, List.drop_append_of_le_length (by omega), List.drop_of_length_le (by omega)]
      rfl
    | succ k =>
      simp at hk
      have := ih (fun x hx => h x (by simp [hx])) hk
      rw [List.take_append, List.take_of_length_le (by omega), List.drop_append, List.drop_of_length_le (by omega), hc, show 64 * (k + 1) - 64 = 64 * k from by omega, show 64 * (k + 1) + 64 - 64 = 64 * k + 64 from by omega, List.nil_append]
      show _ = bvs c ++ flatB (r.set k b)
      rw [← this]
      simp
theorem set_lens {D : List BlkV} (h : ∀ b ∈ D, b.length = 64) {k : Nat} {b : BlkV} (hb : b.length = 64) : ∀ x ∈ D.set k b, x.length = 64 := fun x hx => by
  rcases List.mem_or_eq_of_mem_set hx with hx | rfl
  · exact h x hx
  · exact hb
theorem flatB_zero (n : Nat) : flatB (List.replicate n zeroB) = List.replicate (64 * n) (.int .u8 0) := by
  induction n with
  | zero => rfl
  | succ n ih =>
    rw [List.replicate_succ]
    show bvs zeroB ++ flatB (List.replicate n zeroB) = _
    have : bvs zeroB = List.replicate 64 (.int .u8 0) := by simp [bvs, zeroB, bv]
    rw [ih, this, List.replicate_append_replicate]
    congr 1
    omega
end Go.Proofs.YthmkgohfeahdhaaGreat
namespace Go.Proofs.YthmkgohfeahdhaaGreat
open Go.RowKit
set_option linter.unusedSimpArgs false
set_option linter.unusedVariables false

section
variable {P : Program} {ops : Array Oper} {Q : Exit → Act → World → Prop} {md : Region.Mode}

/-- What has come up holds all that each of it waits for. -/
def Closed (md : Region.Mode) (ops : Array Oper) (listed : Array Bool) : Prop :=
  ∀ j oj, ops[j]? = some oj → listed.getD j false = true → ∀ e ∈ oj.after, Region.binds md e = true → listed.getD e.on false = true

/-- Does j wait for i, at once or through others? -/
def waits (md : Region.Mode) (ops : Array Oper) : Nat → Nat → Nat → Bool
  | 0, _, _ => false
  | n + 1, j, i => match ops[j]? with
    | some oj => oj.after.any fun e => Region.binds md e && (e.on == i || waits md ops n e.on i)
    | none => false

theorem closed_waits {listed : Array Bool} (hc : Closed md ops listed) {i : Nat} : ∀ (n j : Nat), waits md ops n j i = true → listed.getD j false = true → listed.getD i false = true
  | 0, _, h, _ => by cases h
  | n + 1, j, h, hj => by
    unfold waits at h
    split at h
    · rename_i oj hoj
      obtain ⟨e, he, hb⟩ := Array.any_eq_true'.1 h
      simp only [Bool.and_eq_true, Bool.or_eq_true, beq_iff_eq] at hb
      have h1 := hc j oj hoj hj e he hb.1
      rcases hb.2 with h2 | h2
      · rw [← h2]; exact h1
      · exact closed_waits hc n e.on h2 h1
    · cases h
theorem ready_waits {listed : Array Bool} (hc : Closed md ops listed) {i j n : Nat} (hr : j ∈ Region.ready md ops listed) (h : waits md ops n j i = true) : listed.getD i false = true := by
  obtain ⟨_, oj, hoj, hall⟩ := mem_ready.1 hr
  cases n with
  | zero => cases h
  | succ n =>
    unfold waits at h
    rw [hoj] at h
    obtain ⟨e, he, hb⟩ := Array.any_eq_true'.1 h
    simp only [Bool.and_eq_true, Bool.or_eq_true, beq_iff_eq] at hb
    have h1 := hall e he hb.1
    rcases hb.2 with h2 | h2
    · rw [← h2]; exact h1
    · exact closed_waits hc n e.on h2 h1
theorem closed_set {listed : Array Bool} (hc : Closed md ops listed) {i : Nat} (hr : i ∈ Region.ready md ops listed) : Closed md ops (listed.setIfInBounds i true) := by
  intro j oj hoj hj e he hb
  by_cases hij : i = j
  · subst hij
    obtain ⟨_, oi, hoi, hall⟩ := mem_ready.1 hr
    have : oj = oi := Option.some.inj (hoj.symm.trans hoi)
    subst this
    exact getD_set_true (hall e he hb)
  · rw [getD_set_ne false hij] at hj
    exact getD_set_true (hc j oj hoj hj e he hb)

/-- Does j wait for all that has come up? -/
def Bar (md : Region.Mode) (ops : Array Oper) (listed : Array Bool) (j : Nat) : Prop := ∀ i, listed.getD i false = true → ∃ n, waits md ops n j i = true

/-- Whatever order is picked from here on; behind each operation that is carried out some stronger knowledge of the world may be taken, or any, if it waits for all that has come up. -/
def wpAnyG (P : Program) (md : Region.Mode) (ops : Array Oper) (Q : Exit → Act → World → Prop) : Nat → (World → Prop) → Array Bool → Act → World → Prop
  | 0, _, listed, a, w => Region.ready md ops listed = [] ∧ Q .normal a w
  | fuel + 1, S, listed, a, w =>
    (Region.ready md ops listed = [] → Q .normal a w) ∧
    ∀ i ∈ Region.ready md ops listed, wpOp P ops Q i (fun a' w' => ∃ S' : World → Prop, ((∀ x, S' x → S x) ∨ Bar md ops listed i) ∧ S' w' ∧ wpAnyG P md ops Q fuel S' (listed.setIfInBounds i true) a' w') a w

theorem wpAny_of_grown : ∀ (fuel : Nat) (S : World → Prop) (listed : Array Bool) (a : Act) (w : World), wpAnyG P md ops Q fuel S listed a w → wpAny P md ops Q fuel listed a w
  | 0, _, _, _, _, h => h
  | fuel + 1, _, _, _, _, h => ⟨h.1, fun i hi => wpOp_mono (fun a' w' ⟨S', _, _, h'⟩ => wpAny_of_grown fuel S' _ a' w' h') (h.2 i hi)⟩

theorem wpAnyG_first {i : Nat} {oi : Oper} {v : Value} (hi : ops[i]? = some oi) (hsel : ∀ (j : Nat) (o : Oper) cs b, ops[j]? = some o → o.op ≠ .select cs b)
    (hQ : ∀ c a w, Q (.panic c) (a.put oi.dst v) w → Q (.panic c) a w) :
    ∀ (fuel : Nat) (S : World → Prop) (listed : Array Bool) (a : Act) (w : World), Closed md ops listed →
      (∀ j oj, ops[j]? = some oj → j ≠ i → listed.getD j true = false → (∀ e ∈ oj.after, Region.binds md e = true → e.on ≠ i) → oi.apart ops oj = true) →
      i ∈ Region.ready md ops listed → YieldsIf P ops S oi v a → S w →
      wpAnyG P md ops Q fuel S (listed.setIfInBounds i true) (a.put oi.dst v) w → wpAnyG P md ops Q (fuel + 1) S listed a w := by
  intro fuel
  induction fuel with
  | zero =>
    intro S listed a w _ _ hr hy hS H
    refine ⟨fun h => (by rw [h] at hr; cases hr), fun j hj => ?_⟩
    by_cases hji : j = i
    · subst hji; exact hy.wpOp hi hS ⟨S, .inl fun _ h => h, hS, H⟩
    · have := ready_mono hj hji
      rw [H.1] at this
      cases this
  | succ fuel ih =>
    intro S listed a w hcl hfree hr hy hS H
    refine ⟨fun h => (by rw [h] at hr; cases hr), fun j hj => ?_⟩
    by_cases hji : j = i
    · subst hji; exact hy.wpOp hi hS ⟨S, .inl fun _ h => h, hS, H⟩
    · have h1 := H.2 j (ready_mono hj hji)
      obtain ⟨hjun, oj, hoj, hall⟩ := mem_ready.1 hj
      have hlt : i < listed.size := by
        rcases Nat.lt_or_ge i listed.size with h' | h'
        · exact h'
        · have h0 := (mem_ready.1 hr).1
          simp [Array.getElem?_eq_none h'] at h0
      have hun : listed.getD i false = false := by
        have h0 := (mem_ready.1 hr).1
        simp [hlt] at h0 ⊢
        exact h0
      have hnot : ∀ e ∈ oj.after, Region.binds md e = true → e.on ≠ i := fun e he hb heq => by
        have h1 := hall e he hb
        rw [heq, hun] at h1
        cases h1
      have hnobar : ¬ Bar md ops (listed.setIfInBounds i true) j := fun hb => by
        obtain ⟨n, hn⟩ := hb i (by simp [hlt])
        have := ready_waits hcl hj hn
        rw [hun] at this
        cases this
      have h2 := wpOp_putIf hoj (hfree j oj hoj hji hjun hnot) (fun cs b => hsel i oi cs b hi) (fun cs b => hsel j oj cs b hoj) hQ hy h1
      have hfree' : ∀ k ok, ops[k]? = some ok → k ≠ i → (listed.setIfInBounds j true).getD k true = false →
          (∀ e ∈ ok.after, Region.binds md e = true → e.on ≠ i) → oi.apart ops ok = true := fun k ok hk hki hun hno => by
        refine hfree k ok hk hki ?_ hno
        by_cases hjk : j = k
        · subst hjk; exact hjun
        · rw [getD_set_ne true hjk] at hun; exact hun
      refine wpOp_mono (fun a' w' h3 => ?_) h2
      obtain ⟨hy', S', hSS, hS', h4⟩ := h3
      have hSS := hSS.resolve_right hnobar
      have hy2 : YieldsIf P ops S' oi v a' := hy'.imp (fun ⟨hw, hv⟩ => ⟨hw, fun x hx => hv x (hSS x hx)⟩) id
      refine ⟨S', .inl hSS, hS', ih S' (listed.setIfInBounds j true) a' w' (closed_set hcl hj) hfree' (ready_mono hr (Ne.symm hji)) hy2 hS' ?_⟩
      rw [Array.setIfInBounds_comm _ _ hji]
      exact h4

/-- The walk in one order: 0: the operation only reads, under what is known; 1: it is carried out, alone; 2: likewise, and it waits for all ahead of it, so that anything may be known behind it. -/
def wpOrd (P : Program) (ops : Array Oper) (Q : Exit → Act → World → Prop) : List Oper → List Nat → (World → Prop) → Act → World → Prop
  | o :: l, n :: bs, S, a, w =>
    (n = 0 → ∃ v, YieldsIf P ops S o v a ∧ wpOrd P ops Q l bs S (a.put o.dst v) w) ∧
    (n = 1 → if Region.wanted o (yielded ops a.tmps) then o.wp P a w (fun a' w' => ∃ S' : World → Prop, (∀ x, S' x → S x) ∧ S' w' ∧ wpOrd P ops Q l bs S' a' w') Q
      else wpOrd P ops Q l bs S (a.put o.dst undef) w) ∧
    (2 ≤ n → if Region.wanted o (yielded ops a.tmps) then o.wp P a w (fun a' w' => ∃ S' : World → Prop, S' w' ∧ wpOrd P ops Q l bs S' a' w') Q
      else wpOrd P ops Q l bs S (a.put o.dst undef) w)
  | [], _, _, a, w => Q .normal a w
  | _, [], _, _, _ => False

/-- Is it an order that serves? -/
def ordOk (md : Region.Mode) (ops : Array Oper) : List (Nat × Nat) → Array Bool → Bool
  | [], listed => (Region.ready md ops listed).isEmpty
  | (i, 0) :: rest, listed => Region.free md ops listed i && (Region.ready md ops listed).contains i && ordOk md ops rest (listed.setIfInBounds i true)
  | (i, 1) :: rest, listed => Region.ready md ops listed == [i] && ordOk md ops rest (listed.setIfInBounds i true)
  | (i, _) :: rest, listed => Region.ready md ops listed == [i] && (List.range listed.size).all (fun k => !listed.getD k false || waits md ops ops.size i k) && ordOk md ops rest (listed.setIfInBounds i true)

theorem wpAnyG_of_ord (hsel : Region.noSelect ops = true) (hQ : ∀ c a d v w, Q (.panic c) (a.put d v) w → Q (.panic c) a w) :
    ∀ (is : List Nat) (l : List Oper) (bs : List Nat) (S : World → Prop) (listed : Array Bool) (a : Act) (w : World), Closed md ops listed → is.map (fun i => ops[i]?) = l.map some → is.length = bs.length → ordOk md ops (is.zip bs) listed = true → S w →
      wpOrd P ops Q l bs S a w → wpAnyG P md ops Q is.length S listed a w
  | [], l, bs, S, listed, a, w, _, hl, hb, hk, _, h => by
    have hl0 : l = [] := by simpa using hl.symm
    subst hl0
    refine ⟨by simpa [ordOk] using hk, ?_⟩
    cases bs <;> exact h
  | i :: is, [], bs, S, listed, a, w, _, hl, _, _, _, _ => by simp at hl
  | i :: is, o :: l, [], S, listed, a, w, _, _, hb, _, _, _ => by simp at hb
  | i :: is, o :: l, 0 :: bs, S, listed, a, w, hcl, hl, hb, hk, hS, h => by
    simp only [List.map_cons, List.cons.injEq] at hl
    simp only [List.zip_cons_cons, ordOk, Bool.and_eq_true] at hk
    obtain ⟨v, hy, h⟩ := h.1 rfl
    have hr : i ∈ Region.ready md ops listed := by simpa using hk.1.2
    exact wpAnyG_first hl.1 (Region.noSelect_spec hsel) (fun c a w => hQ c a _ _ w) _ S listed a w hcl (Region.free_spec hl.1 hk.1.1) hr hy hS
      (wpAnyG_of_ord hsel hQ is l bs S _ _ w (closed_set hcl hr) hl.2 (by simpa using hb) hk.2 hS h)
  | i :: is, o :: l, 1 :: bs, S, listed, a, w, hcl, hl, hb, hk, hS, h => by
    simp only [List.map_cons, List.cons.injEq] at hl
    simp only [List.zip_cons_cons, ordOk, Bool.and_eq_true, beq_iff_eq] at hk
    refine ⟨fun h0 => (by rw [hk.1] at h0; cases h0), fun j hj => ?_⟩
    have hj0 := hj
    rw [hk.1] at hj
    obtain rfl : j = i := by simpa using hj
    have h := h.2.1 rfl
    unfold wpOp
    simp only [hl.1]
    split
    · rename_i hw
      rw [if_pos hw] at h
      refine .inl (Oper.wp_mono (fun a' w' h3 => ?_) h)
      obtain ⟨S', hSS, hS', h4⟩ := h3
      exact ⟨S', .inl hSS, hS', wpAnyG_of_ord hsel hQ is l bs S' _ a' w' (closed_set hcl hj0) hl.2 (by simpa using hb) hk.2 hS' h4⟩
    · rename_i hw
      rw [if_neg hw] at h
      exact ⟨S, .inl fun _ h => h, hS, wpAnyG_of_ord hsel hQ is l bs S _ _ w (closed_set hcl hj0) hl.2 (by simpa using hb) hk.2 hS h⟩
  | i :: is, o :: l, (b + 2) :: bs, S, listed, a, w, hcl, hl, hb, hk, hS, h => by
    simp only [List.map_cons, List.cons.injEq] at hl
    simp only [List.zip_cons_cons, ordOk, Bool.and_eq_true, beq_iff_eq] at hk
    refine ⟨fun h0 => (by rw [hk.1.1] at h0; cases h0), fun j hj => ?_⟩
    have hj0 := hj
    rw [hk.1.1] at hj
    obtain rfl : j = i := by simpa using hj
    have hbar : Bar md ops listed j := fun k hk' => by
      have hks : k < listed.size := by
        rcases Nat.lt_or_ge k listed.size with h' | h'
        · exact h'
        · simp [Array.getElem?_eq_none h'] at hk'
      have := List.all_eq_true.1 hk.1.2 k (List.mem_range.2 hks)
      rw [hk'] at this
      exact ⟨_, by simpa using this⟩
    have h := h.2.2 (by omega)
    unfold wpOp
    simp only [hl.1]
    split
    · rename_i hw
      rw [if_pos hw] at h
      refine .inl (Oper.wp_mono (fun a' w' h3 => ?_) h)
      obtain ⟨S', hS', h4⟩ := h3
      exact ⟨S', .inr hbar, hS', wpAnyG_of_ord hsel hQ is l bs S' _ a' w' (closed_set hcl hj0) hl.2 (by simpa using hb) hk.2 hS' h4⟩
    · rename_i hw
      rw [if_neg hw] at h
      exact ⟨S, .inl fun _ h => h, hS, wpAnyG_of_ord hsel hQ is l bs S _ _ w (closed_set hcl hj0) hl.2 (by simpa using hb) hk.2 hS h⟩

/-- THE BEGINNING, in the order of the text. -/
theorem wp_region_text {id : Nat} {a : Act} {w : World} {l : List Oper} (bs : List Nat) (S : World → Prop) (hm : P.follows .mixedOrders = true)
    (hk : (Region.noSelect l.toArray && (decide (bs.length = l.length) && ordOk .any l.toArray ((List.range l.length).zip bs) (Array.replicate l.length false))) = true)
    (hS : S w.drew) (h : wpOrd P l.toArray (NoPanic Q) l bs S a w.drew) : (Code.region id l.toArray true).wp P Q a w := by
  simp only [Bool.and_eq_true, decide_eq_true_eq] at hk
  obtain ⟨hn, hl, hk⟩ := hk
  refine wp_region_noPanic (wp_region_any hm ?_)
  have hmap : (List.range l.length).map (fun i => l.toArray[i]?) = l.map some := by
    apply List.ext_getElem
    · simp
    · intro k h1 h2
      simp at h1 h2
      simp [h2]
  have hcl : Closed .any l.toArray (Array.replicate l.length false) := fun j oj _ hj => by
    rcases Nat.lt_or_ge j l.length with h' | h' <;> simp [h'] at hj
  have := wpAny_of_grown _ _ _ _ _ (wpAnyG_of_ord (md := .any) hn (fun _ _ _ _ _ h => h) (List.range l.length) l bs S (Array.replicate l.length false) a w.drew hcl hmap (by simp [hl]) hk hS h)
  simpa using this

/-- An operation that only reads. -/
theorem wpOrd_q {l : List Oper} {bs : List Nat} {S : World → Prop} {a : Act} {w : World} {o : Oper} {v : Value} (hw : Region.wanted o (yielded ops a.tmps) = true) (hy : ∀ W, S W → (execOp a.eval o).run P W = .ok (.value v) W)
    (h : wpOrd P ops Q l bs S (a.put o.dst v) w) : wpOrd P ops Q (o :: l) (0 :: bs) S a w :=
  ⟨(fun _ => ⟨v, .inl ⟨hw, hy⟩, h⟩), (fun e => by cases e), (fun e => by omega)⟩
/-- An operation that is carried out. -/
theorem wpOrd_x {l : List Oper} {bs : List Nat} {S : World → Prop} {a : Act} {w : World} {o : Oper} (hw : Region.wanted o (yielded ops a.tmps) = true)
    (h : ∀ K : Act → World → Prop, (∀ (S' : World → Prop) a' w', (∀ x, S' x → S x) → S' w' → wpOrd P ops Q l bs S' a' w' → K a' w') → o.wp P a w K Q) : wpOrd P ops Q (o :: l) (1 :: bs) S a w :=
  ⟨(fun e => by cases e), (fun _ => by rw [if_pos hw]; exact h _ fun S' a' w' h1 h2 h3 => ⟨S', h1, h2, h3⟩), (fun e => by omega)⟩
/-- An operation that is carried out and waits for all ahead of it. -/
theorem wpOrd_b {l : List Oper} {bs : List Nat} {S : World → Prop} {a : Act} {w : World} {o : Oper} (hw : Region.wanted o (yielded ops a.tmps) = true)
    (h : ∀ K : Act → World → Prop, (∀ (S' : World → Prop) a' w', S' w' → wpOrd P ops Q l bs S' a' w' → K a' w') → o.wp P a w K Q) : wpOrd P ops Q (o :: l) (2 :: bs) S a w :=
  ⟨(fun e => by cases e), (fun e => by cases e), (fun _ => by rw [if_pos hw]; exact h _ fun S' a' w' h2 h3 => ⟨S', h2, h3⟩)⟩
/-- One that its guard passes over. -/
theorem wpOrd_n {b : Nat} {l : List Oper} {bs : List Nat} {S : World → Prop} {a : Act} {w : World} {o : Oper} (hw : Region.wanted o (yielded ops a.tmps) = false)
    (h : wpOrd P ops Q l bs S (a.put o.dst undef) w) : wpOrd P ops Q (o :: l) (b :: bs) S a w :=
  ⟨(fun _ => ⟨undef, .inr ⟨hw, rfl⟩, h⟩), (fun _ => by rw [if_neg (by rw [hw]; exact Bool.false_ne_true)]; exact h), (fun _ => by rw [if_neg (by rw [hw]; exact Bool.false_ne_true)]; exact h)⟩
theorem wpOrd_nil {bs : List Nat} {S : World → Prop} {a : Act} {w : World} (h : Q .normal a w) : wpOrd P ops (NoPanic Q) [] bs S a w := by cases bs <;> exact h
end

end Go.Proofs.YthmkgohfeahdhaaGreat
namespace Go.Proofs.YthmkgohfeahdhaaGreat
open Go.RowKit
set_option linter.unusedSimpArgs false
set_option linter.unusedVariables false

/-- operations, in an order -/
def pick (l : List Oper) (is : List Nat) : List Oper := is.filterMap fun i => l[i]?

theorem pick_map {l : List Oper} : ∀ {is : List Nat}, (∀ i ∈ is, i < l.length) → is.map (fun i => l.toArray[i]?) = (pick l is).map some
  | [], _ => rfl
  | i :: is, h => by
    have h1 := h i (by simp)
    have ih := pick_map (l := l) (is := is) (fun j hj => h j (by simp [hj]))
    rw [List.map_cons, ih]
    unfold pick
    rw [List.filterMap_cons]
    simp [h1]

/-- THE BEGINNING, in an order of one's own. -/
theorem wp_region_ord {P : Program} {Q : Exit → Act → World → Prop} {id : Nat} {a : Act} {w : World} {l : List Oper} (is bs : List Nat) (S : World → Prop) (hm : P.follows .mixedOrders = true)
    (hk : (Region.noSelect l.toArray && (decide (bs.length = is.length ∧ is.length = l.length) && (is.all (fun i => decide (i < l.length)) && ordOk .any l.toArray (is.zip bs) (Array.replicate l.length false)))) = true)
    (hS : S w.drew) (h : wpOrd P l.toArray (NoPanic Q) (pick l is) bs S a w.drew) : (Code.region id l.toArray true).wp P Q a w := by
  simp only [Bool.and_eq_true, decide_eq_true_eq] at hk
  obtain ⟨hn, ⟨hl, hl2⟩, hall, hk⟩ := hk
  refine wp_region_noPanic (wp_region_any hm ?_)
  have hcl : Closed .any l.toArray (Array.replicate l.length false) := fun j oj _ hj => by
    rcases Nat.lt_or_ge j l.length with h' | h' <;> simp [h'] at hj
  have hmap := pick_map (l := l) (is := is) (fun i hi => by simpa using List.all_eq_true.1 hall i hi)
  have := wpAny_of_grown _ _ _ _ _ (wpAnyG_of_ord (md := .any) hn (fun _ _ _ _ _ h => h) is (pick l is) bs S (Array.replicate l.length false) a w.drew hcl hmap hl.symm hk hS h)
  rw [hl2] at this
  simpa using this

/-- The orders that are walked: an operation that only reads; one that is carried out alone; two that may come up in either order. -/
inductive OT where
  | nil : OT
  | q : Nat → OT → OT
  | x : Nat → OT → OT
  | br : Nat → OT → Nat → OT → OT
def OT.len : OT → Nat
  | .nil => 0
  | .q _ t => t.len + 1
  | .x _ t => t.len + 1
  | .br _ t _ _ => t.len + 1
def okT (md : Region.Mode) (ops : Array Oper) : OT → Array Bool → Bool
  | .nil, listed => (Region.ready md ops listed).isEmpty
  | .q i t, listed => Region.free md ops listed i && (Region.ready md ops listed).contains i && okT md ops t (listed.setIfInBounds i true)
  | .x i t, listed => Region.ready md ops listed == [i] && okT md ops t (listed.setIfInBounds i true)
  | .br i t j u, listed => (Region.ready md ops listed == [i, j] || Region.ready md ops listed == [j, i]) && (t.len == u.len && (okT md ops t (listed.setIfInBounds i true) && okT md ops u (listed.setIfInBounds j true)))
def wpT (P : Program) (ops : Array Oper) (Q : Exit → Act → World → Prop) : OT → (World → Prop) → Act → World → Prop
  | .nil, _, a, w => Q .normal a w
  | .q i t, S, a, w => ∃ o v, ops[i]? = some o ∧ YieldsIf P ops S o v a ∧ wpT P ops Q t S (a.put o.dst v) w
  | .x i t, S, a, w => ∃ o, ops[i]? = some o ∧ if Region.wanted o (yielded ops a.tmps) then o.wp P a w (fun a' w' => ∃ S' : World → Prop, (∀ x, S' x → S x) ∧ S' w' ∧ wpT P ops Q t S' a' w') Q else wpT P ops Q t S (a.put o.dst undef) w
  | .br i t j u, S, a, w =>
    (∃ o, ops[i]? = some o ∧ if Region.wanted o (yielded ops a.tmps) then o.wp P a w (fun a' w' => ∃ S' : World → Prop, (∀ x, S' x → S x) ∧ S' w' ∧ wpT P ops Q t S' a' w') Q else wpT P ops Q t S (a.put o.dst undef) w) ∧
    (∃ o, ops[j]? = some o ∧ if Region.wanted o (yielded ops a.tmps) then o.wp P a w (fun a' w' => ∃ S' : World → Prop, (∀ x, S' x → S x) ∧ S' w' ∧ wpT P ops Q u S' a' w') Q else wpT P ops Q u S (a.put o.dst undef) w)

section
variable {P : Program} {ops : Array Oper} {Q : Exit → Act → World → Prop} {md : Region.Mode}
theorem wpT_step {n i : Nat} {S : World → Prop} {listed : Array Bool} {a : Act} {w : World} {G : (World → Prop) → Act → World → Prop} (hS : S w)
    (h : ∃ o, ops[i]? = some o ∧ if Region.wanted o (yielded ops a.tmps) then o.wp P a w (fun a' w' => ∃ S' : World → Prop, (∀ x, S' x → S x) ∧ S' w' ∧ G S' a' w') Q else G S (a.put o.dst undef) w)
    (hG : ∀ S' a' w', S' w' → G S' a' w' → wpAnyG P md ops Q n S' (listed.setIfInBounds i true) a' w') :
    wpOp P ops Q i (fun a' w' => ∃ S' : World → Prop, ((∀ x, S' x → S x) ∨ Bar md ops listed i) ∧ S' w' ∧ wpAnyG P md ops Q n S' (listed.setIfInBounds i true) a' w') a w := by
  obtain ⟨o, ho, h⟩ := h
  unfold wpOp
  simp only [ho]
  split
  · rename_i hw
    rw [if_pos hw] at h
    refine .inl (Oper.wp_mono (fun a' w' h3 => ?_) h)
    obtain ⟨S', hSS, hS', h4⟩ := h3
    exact ⟨S', .inl hSS, hS', hG _ _ _ hS' h4⟩
  · rename_i hw
    rw [if_neg hw] at h
    exact ⟨S, .inl fun _ h => h, hS, hG _ _ _ hS h⟩

theorem wpAnyG_of_tree (hsel : Region.noSelect ops = true) (hQ : ∀ c a d v w, Q (.panic c) (a.put d v) w → Q (.panic c) a w) :
    ∀ (t : OT) (S : World → Prop) (listed : Array Bool) (a : Act) (w : World), Closed md ops listed → okT md ops t listed = true → S w → wpT P ops Q t S a w → wpAnyG P md ops Q t.len S listed a w
  | .nil, S, listed, a, w, _, hk, _, h => ⟨by simpa [okT] using hk, h⟩
  | .q i t, S, listed, a, w, hcl, hk, hS, h => by
    simp only [okT, Bool.and_eq_true] at hk
    obtain ⟨o, v, ho, hy, h⟩ := h
    have hr : i ∈ Region.ready md ops listed := by simpa using hk.1.2
    exact wpAnyG_first ho (Region.noSelect_spec hsel) (fun c a w => hQ c a _ _ w) _ S listed a w hcl (Region.free_spec ho hk.1.1) hr hy hS
      (wpAnyG_of_tree hsel hQ t S _ _ w (closed_set hcl hr) hk.2 hS h)
  | .x i t, S, listed, a, w, hcl, hk, hS, h => by
    simp only [okT, Bool.and_eq_true, beq_iff_eq] at hk
    refine ⟨fun h0 => (by rw [hk.1] at h0; cases h0), fun j hj => ?_⟩
    have hj0 := hj
    rw [hk.1] at hj
    obtain rfl : j = i := by simpa using hj
    exact wpT_step hS h (fun S' a' w' hS' h4 => wpAnyG_of_tree hsel hQ t S' _ a' w' (closed_set hcl hj0) hk.2 hS' h4)
  | .br i t j u, S, listed, a, w, hcl, hk, hS, h => by
    simp only [okT, Bool.and_eq_true, Bool.or_eq_true, beq_iff_eq] at hk
    refine ⟨fun h0 => (by rcases hk.1 with h1 | h1 <;> rw [h1] at h0 <;> cases h0), fun k hj => ?_⟩
    have hj0 := hj
    have hj : k = i ∨ k = j := by
      rcases hk.1 with h1 | h1
      · rw [h1] at hj; simpa using hj
      · rw [h1] at hj; exact (by simpa using hj : k = j ∨ k = i).symm
    have hlen : t.len = u.len := hk.2.1
    rcases hj with rfl | rfl
    · exact wpT_step hS h.1 (fun S' a' w' hS' h4 => wpAnyG_of_tree hsel hQ t S' _ a' w' (closed_set hcl hj0) hk.2.2.1 hS' h4)
    · refine wpT_step hS h.2 (fun S' a' w' hS' h4 => ?_)
      rw [hlen]
      exact wpAnyG_of_tree hsel hQ u S' _ a' w' (closed_set hcl hj0) hk.2.2.2 hS' h4

theorem wpT_q {i : Nat} {t : OT} {S : World → Prop} {a : Act} {w : World} {o : Oper} {v : Value} (ho : ops[i]? = some o) (hw : Region.wanted o (yielded ops a.tmps) = true) (hy : ∀ W, S W → (execOp a.eval o).run P W = .ok (.value v) W)
    (h : wpT P ops Q t S (a.put o.dst v) w) : wpT P ops Q (.q i t) S a w := ⟨o, v, ho, .inl ⟨hw, hy⟩, h⟩
theorem wpT_x {i : Nat} {t : OT} {S : World → Prop} {a : Act} {w : World} {o : Oper} (ho : ops[i]? = some o) (hw : Region.wanted o (yielded ops a.tmps) = true)
    (h : ∀ K : Act → World → Prop, (∀ (S' : World → Prop) a' w', (∀ x, S' x → S x) → S' w' → wpT P ops Q t S' a' w' → K a' w') → o.wp P a w K Q) : wpT P ops Q (.x i t) S a w :=
  ⟨o, ho, by rw [if_pos hw]; exact h _ fun S' a' w' h1 h2 h3 => ⟨S', h1, h2, h3⟩⟩
theorem wpT_br {i j : Nat} {t u : OT} {S : World → Prop} {a : Act} {w : World} (h1 : wpT P ops Q (.x i t) S a w) (h2 : wpT P ops Q (.x j u) S a w) : wpT P ops Q (.br i t j u) S a w := ⟨h1, h2⟩
theorem wpT_nil {S : World → Prop} {a : Act} {w : World} (h : Q .normal a w) : wpT P ops (NoPanic Q) .nil S a w := h

/-- THE BEGINNING, in the orders of a tree. -/
theorem wp_region_tree {id : Nat} {a : Act} {w : World} {l : List Oper} (t : OT) (S : World → Prop) (hm : P.follows .mixedOrders = true)
    (hk : (Region.noSelect l.toArray && (decide (t.len = l.length) && okT .any l.toArray t (Array.replicate l.length false))) = true)
    (hS : S w.drew) (h : wpT P l.toArray (NoPanic Q) t S a w.drew) : (Code.region id l.toArray true).wp P Q a w := by
  simp only [Bool.and_eq_true, decide_eq_true_eq] at hk
  obtain ⟨hn, hl, hk⟩ := hk
  refine wp_region_noPanic (wp_region_any hm ?_)
  have hcl : Closed .any l.toArray (Array.replicate l.length false) := fun j oj _ hj => by
    rcases Nat.lt_or_ge j l.length with h' | h' <;> simp [h'] at hj
  have := wpAny_of_grown _ _ _ _ _ (wpAnyG_of_tree (md := .any) hn (fun _ _ _ _ _ h => h) t S (Array.replicate l.length false) a w.drew hcl hk hS h)
  rw [hl] at this
  simpa using this
end
end Go.Proofs.YthmkgohfeahdhaaGreat
namespace Go.Proofs.YthmkgohfeahdhaaGreat
open Go.RowKit
set_option linter.unusedSimpArgs false
set_option linter.unusedVariables false

/-- a registered label -/
structure RegV where
  name : List UInt8
  lev : UInt8
  cats : UInt16
  blocks : Int
  nodes : Int
  frames : Int
  procs : Int
  opens : Int
  clear : Int
deriving DecidableEq, Inhabited
/-- a trusted node -/
abbrev MarkV := UInt8 × UInt16
/-- where a group lies -/
structure GeoV where
  base : Int
  bitmap : Int
  table : Int
  data : Int
  blocks : Int
  nodes : Int
deriving DecidableEq, Inhabited

def RegV.cells (r : RegV) : List Value :=
  [.string ⟨r.name.toArray⟩, .int .u8 (r.lev.toNat : Int), .int .u16 (r.cats.toNat : Int), .int .i64 r.blocks, .int .i64 r.nodes, .int .i64 r.frames, .int .i64 r.procs, .int .i64 r.opens, .int .i64 r.clear]
def GeoV.cells (g : GeoV) : List Value :=
  [.int .i64 g.base, .int .i64 g.bitmap, .int .i64 g.table, .int .i64 g.data, .int .i64 g.blocks, .int .i64 g.nodes]
def markCells (m : MarkV) : List Value := [.int .u8 (m.1.toNat : Int), .int .u16 (m.2.toNat : Int)]
def rcellsOf (l : List RegV) : List Value := l.flatMap RegV.cells
def gcellsOf (l : List GeoV) : List Value := l.flatMap GeoV.cells
def mcellsOf (l : List MarkV) : List Value := l.flatMap markCells

def smallB (c : UInt8) : Bool := 97 ≤ c && c ≤ 122
/-- small letters, one to eight -/
def nameB (l : List UInt8) : Bool := decide (1 ≤ l.length) && decide (l.length ≤ 8) && l.all smallB
def inB (n a b : Int) : Bool := decide (a ≤ n) && decide (n ≤ b)
def soundB (r : RegV) : Bool := inB r.blocks 4 512 && (inB r.nodes 4 128 && (decide (r.nodes % 2 = 0) && (inB r.frames 1 256 && (inB r.procs 1 16 && inB r.opens 1 32))))
def rightB (r : RegV) (many : Int) : Bool := decide (r.lev ≤ 15) && (soundB r && inB r.clear 0 (many - 1))
/-- what a label's being added says, behind others -/
def addE (old : List RegV) (r : RegV) (many : Int) : Int :=
  if nameB r.name = false then 30
  else if rightB r many = false then 27
  else if r.name ∈ old.map (·.name) then 29
  else if (r.lev, r.cats) ∈ old.map (fun x => (x.lev, x.cats)) then 29
  else 0
def addsE : List RegV → List RegV → Int → Int
  | _, [], _ => 0
  | old, r :: rest, many => if addE old r many = 0 then addsE (old ++ [r]) rest many else addE old r many
/-- are all categories among others? -/
def catB (x y : UInt16) : Bool := decide (x.toNat &&& (65535 - y.toNat) = 0)
def lleB (a : UInt8) (x : UInt16) (b : UInt8) (y : UInt16) : Bool := decide (a ≤ b) && catB x y
def leqB (a b : RegV) : Bool := lleB a.lev a.cats b.lev b.cats
def regAt (l : List RegV) (i : Int) : Option RegV := if 0 ≤ i then l[i.toNat]? else none
def leqAt (l : List RegV) (a b : Int) : Bool :=
  match regAt l a, regAt l b with
  | some x, some y => leqB x y
  | _, _ => false
def clearsE (l : List RegV) : Nat → List RegV → Int
  | _, [] => 0
  | i, r :: rest => if leqAt l i r.clear then clearsE l (i + 1) rest else 2
def markB (l : List RegV) (m : MarkV) : Bool :=
  match l[m.1.toNat]? with
  | some r => decide (1 ≤ m.2.toNat) && decide ((m.2.toNat : Int) ≤ r.nodes)
  | none => false
def marksE (l : List RegV) : List MarkV → List MarkV → Int
  | _, [] => 0
  | old, m :: rest => if markB l m = false then 27 else if m ∈ old then 29 else marksE l (old ++ [m]) rest
/-- what New says -/
def newE (l : List RegV) (ms : List MarkV) : Int :=
  match l with
  | [] => 23
  | r :: _ =>
    if l.length > 64 then 23
    else if addsE [] l l.length ≠ 0 then addsE [] l l.length
    else if r.lev ≠ 0 ∨ r.cats ≠ 0 then 25
    else if clearsE l 0 l ≠ 0 then clearsE l 0 l
    else marksE l [] ms

/-- a group's place, from a block on -/
def geoOf (at_ : Int) (r : RegV) : GeoV :=
  let bm := (r.blocks + 511) / 512
  let tb := (r.nodes * 32 + 63) / 64
  ⟨at_, bm, tb, at_ + bm + tb, r.blocks, r.nodes⟩
def GeoV.end_ (g : GeoV) : Int := g.data + g.blocks
def geosOf : Int → List RegV → List GeoV
  | _, [] => []
  | a, r :: rest => geoOf a r :: geosOf (geoOf a r).end_ rest
def totalOf : Int → List RegV → Int
  | a, [] => a
  | a, r :: rest => totalOf (geoOf a r).end_ rest

theorem geosOf_length (a : Int) (l : List RegV) : (geosOf a l).length = l.length := by
  induction l generalizing a with
  | nil => rfl
  | cons r rest ih => simp [geosOf, ih]
theorem geosOf_snoc (a : Int) (l : List RegV) (r : RegV) : geosOf a (l ++ [r]) = geosOf a l ++ [geoOf (totalOf a l) r] := by
  induction l generalizing a with
  | nil => rfl
  | cons x rest ih => simp [geosOf, totalOf, ih]
theorem totalOf_snoc (a : Int) (l : List RegV) (r : RegV) : totalOf a (l ++ [r]) = (geoOf (totalOf a l) r).end_ := by
  induction l generalizing a with
  | nil => rfl
  | cons x rest ih => simp [totalOf, ih]
theorem rcellsOf_snoc (l : List RegV) (r : RegV) : rcellsOf (l ++ [r]) = rcellsOf l ++ r.cells := by simp [rcellsOf]
theorem gcellsOf_snoc (l : List GeoV) (g : GeoV) : gcellsOf (l ++ [g]) = gcellsOf l ++ g.cells := by simp [gcellsOf]
theorem mcellsOf_snoc (l : List MarkV) (m : MarkV) : mcellsOf (l ++ [m]) = mcellsOf l ++ markCells m := by simp [mcellsOf]

/-- the cells of element k of a row whose elements have sz cells each -/
theorem flat_get {α : Type} (f : α → List Value) (sz : Nat) (hf : ∀ a, (f a).length = sz) : ∀ (l : List α) (k : Nat) (x : α), l[k]? = some x → ∀ (j : Nat) (v : Value), (f x)[j]? = some v → (l.flatMap f)[k * sz + j]? = some v
  | [], _, _, h, _, _, _ => by simp at h
  | a :: r, 0, x, h, j, v, hv => by
    simp at h
    subst h
    have hj : j < (f a).length := (List.getElem?_eq_some_iff.1 hv).1
    rw [List.flatMap_cons, List.getElem?_append_left (by simpa using hj)]
    simpa using hv
  | a :: r, k + 1, x, h, j, v, hv => by
    simp at h
    have := flat_get f sz hf r k x h j v hv
    rw [List.flatMap_cons, List.getElem?_append_right (by rw [hf a, Nat.add_mul]; omega), hf a]
    rw [← this]
    congr 1
    rw [Nat.add_mul]
    omega

end Go.Proofs.YthmkgohfeahdhaaGreat
namespace Go.Proofs.YthmkgohfeahdhaaGreat
open Go.RowKit
set_option linter.unusedSimpArgs false
set_option linter.unusedVariables false

theorem label_leq (a b : UInt8) (x y : UInt16) (w : World) :
    Calls Tryz.prog 142 #[.agg #[.int .u8 (a.toNat : Int), .int .u16 (x.toNat : Int)], .agg #[.int .u8 (b.toNat : Int), .int .u16 (y.toNat : Int)]] w fun e w' => e = .returned (.bool (lleB a x b y)) ∧ Below w.heap.size w w' := by
  have hB : Below w.heap.size w ((w.alloc (.cells #[.int .u8 (a.toNat : Int), .int .u16 (x.toNat : Int)] 39)).alloc (.cells #[.int .u8 (b.toNat : Int), .int .u16 (y.toNat : Int)] 39)) := ((Below.refl _ _).alloc (Nat.le_refl _) _).alloc (by simp) _
  have HB := hide hB
  clear hB
  by_cases h : a.toNat ≤ b.toNat
  · have h1 : decide ((a.toNat : Int) ≤ b.toNat) = true := by simpa using h
    have hb : (bits .andNot .u16 (x.toNat : Int) (y.toNat : Int) == 0) = catB x y := by
      rw [u16_andNot_nat _ _ x.toNat_lt y.toNat_lt, catB]
      by_cases h0 : x.toNat &&& (65535 - y.toNat) = 0 <;> simp [h0]
    go_enter Tryz.func142, Tryz.ntmps142
    go_wp2
    go_returns
    exact ⟨by simp [lleB, UInt8.le_iff_toNat_le, h], HB.out⟩
  · have h1 : decide ((a.toNat : Int) ≤ b.toNat) = false := by simpa using h
    go_enter Tryz.func142, Tryz.ntmps142
    go_wp2
    go_returns
    exact ⟨by simp [lleB, UInt8.le_iff_toNat_le, h], HB.out⟩

theorem label_valid (a : UInt8) (x : UInt16) (w : World) :
    Calls Tryz.prog 139 #[.agg #[.int .u8 (a.toNat : Int), .int .u16 (x.toNat : Int)]] w fun e w' => e = .returned (.bool (decide (a ≤ 15))) ∧ Below w.heap.size w w' := by
  have e1 : decide ((a.toNat : Int) ≤ 15) = decide (a ≤ 15) := by
    have : (a ≤ 15) ↔ ((a.toNat : Int) ≤ 15) := by rw [UInt8.le_iff_toNat_le]; simp; omega
    simp [this]
  go_enter Tryz.func139, Tryz.ntmps139
  go_wp2
  go_returns
  exact ⟨by simp [e1], (Below.refl _ _).alloc (Nat.le_refl _) _⟩

theorem within_ok (n a b : Int) (w : World) :
    Calls Tryz.prog 141 #[.int .i64 n, .int .i64 a, .int .i64 b] w fun e w' => e = .returned (.bool (inB n a b)) ∧ w' = w := by
  by_cases h : a ≤ n
  · have h1 : decide (a ≤ n) = true := by simpa using h
    go_enter Tryz.func141, Tryz.ntmps141
    go_wp2
    go_returns
    exact ⟨by simp [inB, h], rfl⟩
  · have h1 : decide (a ≤ n) = false := by simpa using h
    go_enter Tryz.func141, Tryz.ntmps141
    go_wp2
    go_returns
    exact ⟨by simp [inB]; omega, rfl⟩
theorem sz (s : ByteArray) : s.size = s.data.toList.length := by cases s; rfl
theorem get_byte (s : ByteArray) (k : Nat) (h : k < s.size) : s.data.toList[k]? = some s[k] := Lib.data_getElem? s k h
theorem all_upto {p : UInt8 → Bool} {l : List UInt8} (h : ∀ k, k < l.length → ∀ c, l[k]? = some c → p c = true) : l.all p = true := by
  rw [List.all_eq_true]
  intro x hx
  obtain ⟨k, hk, rfl⟩ := List.mem_iff_getElem.1 hx
  exact h k hk _ (List.getElem?_eq_getElem hk)
theorem not_all {p : UInt8 → Bool} {l : List UInt8} {k : Nat} {c : UInt8} (h : l[k]? = some c) (hp : p c = false) : l.all p = false := by
  rw [List.all_eq_false]
  exact ⟨c, List.mem_of_getElem? h, by simp [hp]⟩

set_option maxRecDepth 100000 in
theorem name_ok (s : ByteArray) (w : World) :
    Calls Tryz.prog 138 #[.string s] w fun e w' => e = .returned (.bool (nameB s.data.toList)) ∧ Below w.heap.size w w' := by
  by_cases h1 : s.size < 1
  · have t1 : decide ((s.size : Int) < 1) = true := by simp; omega
    have e : nameB s.data.toList = false := by have := sz s; simp [nameB]; omega
    go_enter Tryz.func138, Tryz.ntmps138
    go_wp2
    go_returns
    exact ⟨by rw [e]; rfl, Below.refl _ _⟩
  · have t1 : decide ((s.size : Int) < 1) = false := by simp; omega
    by_cases h8 : 8 < s.size
    · have t2 : decide ((8 : Int) < s.size) = true := by simp; omega
      have e : nameB s.data.toList = false := by have := sz s; simp [nameB]; omega
      go_enter Tryz.func138, Tryz.ntmps138
      go_wp2
      go_returns
      exact ⟨by rw [e]; rfl, Below.refl _ _⟩
    · have t2 : decide ((8 : Int) < s.size) = false := by simp; omega
      have hI : ∀ p, Below w.heap.size w (w.iter s p) := fun p => (Below.refl _ _).alloc (Nat.le_refl _) _
      have HI := hide hI
      clear hI
      go_enter Tryz.func138, Tryz.ntmps138
      go_wp2
      go_loopg [4] s.size (fun g i wr => ∃ k : Nat, k ≤ s.size ∧ g = s.size - k ∧ wr = w.iter s k ∧ Hid (∀ j, j < k → ∀ c, s.data.toList[j]? = some c → smallB c = true))
      case atStart => exact ⟨0, Nat.zero_le _, rfl, rfl, hide fun j hj => absurd hj (Nat.not_lt_zero _)⟩
      case round =>
        obtain ⟨k, hk, hg, rfl, hA⟩ := hrel
        by_cases hkm : k < s.size
        · have hb := hide (get_byte s k hkm)
          by_cases ha : (s[k]).toNat < 128
          · have hnx : ∀ ty, (Instr.next (.pointer (some ⟨w.heap.size, 0, none⟩)) true ty).run Tryz.prog (w.iter s k) = _ := fun ty => run_next_ascii w s k ty hkm ha
            by_cases hlo : (s[k]).toNat < 97
            · have q1 : decide (((s[k]).toNat : Int) < 97) = true := by simp; omega
              have hp : smallB s[k] = false := by simp [smallB, UInt8.le_iff_toNat_le]; omega
              have e : nameB s.data.toList = false := by
                have := not_all hb.out hp
                simp [nameB, this]
              have E := hide e
              clear e hp hlo
              go_wp2
              go_returns
              exact ⟨by rw [E.out]; rfl, HI.out _⟩
            · have q1 : decide (((s[k]).toNat : Int) < 97) = false := by simp; omega
              by_cases hhi : 122 < (s[k]).toNat
              · have q2 : decide ((122 : Int) < ((s[k]).toNat : Int)) = true := by simp; omega
                have hp : smallB s[k] = false := by simp [smallB, UInt8.le_iff_toNat_le]; omega
                have e : nameB s.data.toList = false := by
                  have := not_all hb.out hp
                  simp [nameB, this]
                have E := hide e
                clear e hp hlo hhi
                go_wp2
                go_returns
                exact ⟨by rw [E.out]; rfl, HI.out _⟩
              · have q2 : decide ((122 : Int) < ((s[k]).toNat : Int)) = false := by simp; omega
                have hp : smallB s[k] = true := by simp [smallB, UInt8.le_iff_toNat_le]; omega
                have HP := hide hp
                clear hp hlo hhi
                go_wp2
                go_roundg (s.size - (k + 1))
                case measure => omega
                case rel =>
                  refine ⟨k + 1, by omega, rfl, rfl, hide fun j hj c hc => ?_⟩
                  by_cases e : j = k
                  · subst e
                    rw [hb.out] at hc
                    injection hc with hc
                    rw [← hc]
                    exact HP.out
                  · exact hA.out j (by omega) c hc
          · have hnx : ∀ ty, (Instr.next (.pointer (some ⟨w.heap.size, 0, none⟩)) true ty).run Tryz.prog (w.iter s k) = _ := fun ty => run_next_any w s k ty hkm
            have hd := (decode_high s k hkm (by omega)).1
            have q1 : decide (((Utf8.decode s k).1 : Int) < 97) = false := by simp; omega
            have q2 : decide ((122 : Int) < ((Utf8.decode s k).1 : Int)) = true := by simp; omega
            have hp : smallB s[k] = false := by simp [smallB, UInt8.le_iff_toNat_le]; omega
            have e : nameB s.data.toList = false := by
              have := not_all hb.out hp
              simp [nameB, this]
            have E := hide e
            clear e hp ha hd
            generalize Utf8.decode s k = dd at hnx q1 q2
            go_wp2
            go_returns
            exact ⟨by rw [E.out]; rfl, HI.out _⟩
        · have hnx : ∀ ty, (Instr.next (.pointer (some ⟨w.heap.size, 0, none⟩)) true ty).run Tryz.prog (w.iter s k) = _ := fun ty => run_next_end w s k ty hkm
          obtain rfl : k = s.size := by omega
          have e : nameB s.data.toList = true := by
            have h2 := all_upto (p := smallB) (l := s.data.toList) fun j hj c hc => hA.out j (by rw [sz s]; exact hj) c hc
            have h3 := sz s
            simp [nameB, h2]
            omega
          have E := hide e
          clear e hA
          go_wp2
          go_returns
          exact ⟨by rw [E.out]; rfl, HI.out _⟩

-- GENERATED BELOW (wip/tools/conf.py)
def soundC (b n f p q : Int) : Bool := inB b 4 512 && (inB n 4 128 && ((n.tmod 2 == 0) && (inB f 1 256 && (inB p 1 16 && inB q 1 32))))
theorem sound_ok (s : ByteArray) (lv : UInt8) (ct : UInt16) (b n f p q c : Int) (w : World) :
    Calls Tryz.prog 140 #[.agg #[.string s, .int .u8 (lv.toNat : Int), .int .u16 (ct.toNat : Int), .int .i64 b, .int .i64 n, .int .i64 f, .int .i64 p, .int .i64 q, .int .i64 c]] w fun e w' => e = .returned (.bool (soundC b n f p q)) ∧ Below w.heap.size w w' := by
  cases h1 : inB b 4 512 with
  | false =>
    go_enter Tryz.func140, Tryz.ntmps140
    go_wp2_with (refine (within_ok _ _ _ _).mono ?_; rintro e w' ⟨rfl, rfl⟩)
    go_returns
    exact ⟨by simp [soundC, h1], (Below.refl _ _).alloc (Nat.le_refl _) _⟩
  | true =>
    cases h2 : inB n 4 128 with
    | false =>
      go_enter Tryz.func140, Tryz.ntmps140
      go_wp2_with (refine (within_ok _ _ _ _).mono ?_; rintro e w' ⟨rfl, rfl⟩)
      go_returns
      exact ⟨by simp [soundC, h1, h2], (Below.refl _ _).alloc (Nat.le_refl _) _⟩
    | true =>
      cases h3 : (n.tmod 2 == 0) with
      | false =>
        go_enter Tryz.func140, Tryz.ntmps140
        go_wp2_with (refine (within_ok _ _ _ _).mono ?_; rintro e w' ⟨rfl, rfl⟩)
        go_returns
        exact ⟨by simp [soundC, h1, h2, h3], (Below.refl _ _).alloc (Nat.le_refl _) _⟩
      | true =>
        cases h4 : inB f 1 256 with
        | false =>
          go_enter Tryz.func140, Tryz.ntmps140
          go_wp2_with (refine (within_ok _ _ _ _).mono ?_; rintro e w' ⟨rfl, rfl⟩)
          go_returns
          exact ⟨by simp [soundC, h1, h2, h3, h4], (Below.refl _ _).alloc (Nat.le_refl _) _⟩
        | true =>
          cases h5 : inB p 1 16 with
          | false =>
            go_enter Tryz.func140, Tryz.ntmps140
            go_wp2_with (refine (within_ok _ _ _ _).mono ?_; rintro e w' ⟨rfl, rfl⟩)
            go_returns
            exact ⟨by simp [soundC, h1, h2, h3, h4, h5], (Below.refl _ _).alloc (Nat.le_refl _) _⟩
          | true =>
            cases h6 : inB q 1 32 with
            | false =>
              go_enter Tryz.func140, Tryz.ntmps140
              go_wp2_with (refine (within_ok _ _ _ _).mono ?_; rintro e w' ⟨rfl, rfl⟩)
              go_returns
              exact ⟨by simp [soundC, h1, h2, h3, h4, h5, h6], (Below.refl _ _).alloc (Nat.le_refl _) _⟩
            | true =>
              go_enter Tryz.func140, Tryz.ntmps140
              go_wp2_with (refine (within_ok _ _ _ _).mono ?_; rintro e w' ⟨rfl, rfl⟩)
              go_returns
              exact ⟨by simp [soundC, h1, h2, h3, h4, h5, h6], (Below.refl _ _).alloc (Nat.le_refl _) _⟩

end Go.Proofs.YthmkgohfeahdhaaGreat
namespace Go.Proofs.YthmkgohfeahdhaaGreat
open Go.RowKit
set_option linter.unusedSimpArgs false
set_option linter.unusedVariables false

section
variable {P : Program} {ops : Array Oper} {Q : Exit → Act → World → Prop} {md : Region.Mode}

/-- j waits for all of class c that have come up -/
def Drops (md : Region.Mode) (ops : Array Oper) (cls : List Nat) (listed : Array Bool) (j c : Nat) : Prop :=
  ∀ i, listed.getD i false = true → cls.getD i 0 = c → ∃ n, waits md ops n j i = true

def wpAnyC (P : Program) (md : Region.Mode) (ops : Array Oper) (Q : Exit → Act → World → Prop) (cls : List Nat) : Nat → (Nat → World → Prop) → Array Bool → Act → World → Prop
  | 0, _, listed, a, w => Region.ready md ops listed = [] ∧ Q .normal a w
  | fuel + 1, S, listed, a, w =>
    (Region.ready md ops listed = [] → Q .normal a w) ∧
    ∀ i ∈ Region.ready md ops listed, wpOp P ops Q i (fun a' w' => ∃ S' : Nat → World → Prop, (∀ c, Drops md ops cls listed i c ∨ ∀ x, S' c x → S c x) ∧ (∀ c, S' c w') ∧ wpAnyC P md ops Q cls fuel S' (listed.setIfInBounds i true) a' w') a w

variable {cls : List Nat}
theorem wpAny_of_C : ∀ (fuel : Nat) (S : Nat → World → Prop) (listed : Array Bool) (a : Act) (w : World), wpAnyC P md ops Q cls fuel S listed a w → wpAny P md ops Q fuel listed a w
  | 0, _, _, _, _, h => h
  | fuel + 1, _, _, _, _, h => ⟨h.1, fun i hi => wpOp_mono (fun a' w' ⟨S', _, _, h'⟩ => wpAny_of_C fuel S' _ a' w' h') (h.2 i hi)⟩

theorem wpAnyC_first {i : Nat} {oi : Oper} {v : Value} (hi : ops[i]? = some oi) (hsel : ∀ (j : Nat) (o : Oper) cs b, ops[j]? = some o → o.op ≠ .select cs b)
    (hQ : ∀ c a w, Q (.panic c) (a.put oi.dst v) w → Q (.panic c) a w) :
    ∀ (fuel : Nat) (S : Nat → World → Prop) (listed : Array Bool) (a : Act) (w : World), Closed md ops listed →
      (∀ j oj, ops[j]? = some oj → j ≠ i → listed.getD j true = false → (∀ e ∈ oj.after, Region.binds md e = true → e.on ≠ i) → oi.apart ops oj = true) →
      i ∈ Region.ready md ops listed → YieldsIf P ops (S (cls.getD i 0)) oi v a → (∀ c, S c w) →
      wpAnyC P md ops Q cls fuel S (listed.setIfInBounds i true) (a.put oi.dst v) w → wpAnyC P md ops Q cls (fuel + 1) S listed a w := by
  intro fuel
  induction fuel with
  | zero =>
    intro S listed a w _ _ hr hy hS H
    refine ⟨fun h => (by rw [h] at hr; cases hr), fun j hj => ?_⟩
    by_cases hji : j = i
    · subst hji; exact hy.wpOp hi (hS _) ⟨S, fun _ => .inr fun _ h => h, hS, H⟩
    · have := ready_mono hj hji
      rw [H.1] at this
      cases this
  | succ fuel ih =>
    intro S listed a w hcl hfree hr hy hS H
    refine ⟨fun h => (by rw [h] at hr; cases hr), fun j hj => ?_⟩
    by_cases hji : j = i
    · subst hji; exact hy.wpOp hi (hS _) ⟨S, fun _ => .inr fun _ h => h, hS, H⟩
    · have h1 := H.2 j (ready_mono hj hji)
      obtain ⟨hjun, oj, hoj, hall⟩ := mem_ready.1 hj
      have hlt : i < listed.size := by
        rcases Nat.lt_or_ge i listed.size with h' | h'
        · exact h'
        · have h0 := (mem_ready.1 hr).1
          simp [Array.getElem?_eq_none h'] at h0
      have hun : listed.getD i false = false := by
        have h0 := (mem_ready.1 hr).1
        simp [hlt] at h0 ⊢
        exact h0
      have hnot : ∀ e ∈ oj.after, Region.binds md e = true → e.on ≠ i := fun e he hb heq => by
        have h1 := hall e he hb
        rw [heq, hun] at h1
        cases h1
      have hnodrop : ¬ Drops md ops cls (listed.setIfInBounds i true) j (cls.getD i 0) := fun hb => by
        obtain ⟨n, hn⟩ := hb i (by simp [hlt]) rfl
        have := ready_waits hcl hj hn
        rw [hun] at this
        cases this
      have h2 := wpOp_putIf hoj (hfree j oj hoj hji hjun hnot) (fun cs b => hsel i oi cs b hi) (fun cs b => hsel j oj cs b hoj) hQ hy h1
      have hfree' : ∀ k ok, ops[k]? = some ok → k ≠ i → (listed.setIfInBounds j true).getD k true = false →
          (∀ e ∈ ok.after, Region.binds md e = true → e.on ≠ i) → oi.apart ops ok = true := fun k ok hk hki hun hno => by
        refine hfree k ok hk hki ?_ hno
        by_cases hjk : j = k
        · subst hjk; exact hjun
        · rw [getD_set_ne true hjk] at hun; exact hun
      refine wpOp_mono (fun a' w' h3 => ?_) h2
      obtain ⟨hy', S', hSS, hS', h4⟩ := h3
      have hSi := (hSS (cls.getD i 0)).resolve_left hnodrop
      have hy2 : YieldsIf P ops (S' (cls.getD i 0)) oi v a' := hy'.imp (fun ⟨hw, hv⟩ => ⟨hw, fun x hx => hv x (hSi x hx)⟩) id
      refine ⟨S', fun c => ?_, hS', ih S' (listed.setIfInBounds j true) a' w' (closed_set hcl hj) hfree' (ready_mono hr (Ne.symm hji)) hy2 hS' ?_⟩
      · rcases hSS c with h5 | h5
        · refine .inl fun k hk hc => h5 k ?_ hc
          by_cases hik : i = k
          · subst hik; simp [hlt]
          · rw [getD_set_ne false hik]; exact hk
        · exact .inr h5
      · rw [Array.setIfInBounds_comm _ _ hji]
        exact h4

/-- The orders that are walked. -/
inductive OC where
  | nil : OC
  | q : Nat → OC → OC
  | x : Nat → List Nat → OC → OC
  | br : Nat → List Nat → OC → Nat → List Nat → OC → OC
def OC.len : OC → Nat
  | .nil => 0
  | .q _ t => t.len + 1
  | .x _ _ t => t.len + 1
  | .br _ _ t _ _ _ => t.len + 1
/-- quiet operations, then a tree -/
def OC.qs (is : List Nat) (t : OC) : OC := is.foldr OC.q t
def dropsB (md : Region.Mode) (ops : Array Oper) (cls : List Nat) (listed : Array Bool) (j : Nat) (d : List Nat) : Bool :=
  d.all fun c => (List.range listed.size).all fun k => !listed.getD k false || (cls.getD k 0 != c || waits md ops ops.size j k)
def okC (md : Region.Mode) (ops : Array Oper) (cls : List Nat) : OC → Array Bool → Bool
  | .nil, listed => (Region.ready md ops listed).isEmpty
  | .q i t, listed => Region.free md ops listed i && (Region.ready md ops listed).contains i && okC md ops cls t (listed.setIfInBounds i true)
  | .x i d t, listed => Region.ready md ops listed == [i] && (dropsB md ops cls listed i d && okC md ops cls t (listed.setIfInBounds i true))
  | .br i d t j d' u, listed => (Region.ready md ops listed == [i, j] || Region.ready md ops listed == [j, i]) && (t.len == u.len && (dropsB md ops cls listed i d && (dropsB md ops cls listed j d' && (okC md ops cls t (listed.setIfInBounds i true) && okC md ops cls u (listed.setIfInBounds j true)))))
theorem dropsB_spec {listed : Array Bool} {j : Nat} {d : List Nat} (h : dropsB md ops cls listed j d = true) : ∀ c ∈ d, Drops md ops cls listed j c := fun c hc k hk hck => by
  have hks : k < listed.size := by
    rcases Nat.lt_or_ge k listed.size with h' | h'
    · exact h'
    · simp [Array.getElem?_eq_none h'] at hk
  have := List.all_eq_true.1 (List.all_eq_true.1 h c hc) k (List.mem_range.2 hks)
  rw [hk, hck] at this
  exact ⟨_, by simpa using this⟩

/-- what an operation that is carried out must leave -/
def StepC (P : Program) (ops : Array Oper) (Q : Exit → Act → World → Prop) (G : (Nat → World → Prop) → Act → World → Prop) (i : Nat) (d : List Nat) (S : Nat → World → Prop) (a : Act) (w : World) : Prop :=
  ∃ o, ops[i]? = some o ∧ if Region.wanted o (yielded ops a.tmps) then o.wp P a w (fun a' w' => ∃ S' : Nat → World → Prop, (∀ c, c ∈ d ∨ ∀ x, S' c x → S c x) ∧ (∀ c, S' c w') ∧ G S' a' w') Q else G S (a.put o.dst undef) w
def wpC (P : Program) (ops : Array Oper) (Q : Exit → Act → World → Prop) (cls : List Nat) : OC → (Nat → World → Prop) → Act → World → Prop
  | .nil, _, a, w => Q .normal a w
  | .q i t, S, a, w => ∃ o v, ops[i]? = some o ∧ YieldsIf P ops (S (cls.getD i 0)) o v a ∧ wpC P ops Q cls t S (a.put o.dst v) w
  | .x i d t, S, a, w => StepC P ops Q (wpC P ops Q cls t) i d S a w
  | .br i d t j d' u, S, a, w => StepC P ops Q (wpC P ops Q cls t) i d S a w ∧ StepC P ops Q (wpC P ops Q cls u) j d' S a w

theorem stepC_op {n i : Nat} {d : List Nat} {S : Nat → World → Prop} {listed : Array Bool} {a : Act} {w : World} {G : (Nat → World → Prop) → Act → World → Prop} (hS : ∀ c, S c w) (hd : dropsB md ops cls listed i d = true)
    (h : StepC P ops Q G i d S a w)
    (hG : ∀ S' a' w', (∀ c, S' c w') → G S' a' w' → wpAnyC P md ops Q cls n S' (listed.setIfInBounds i true) a' w') :
    wpOp P ops Q i (fun a' w' => ∃ S' : Nat → World → Prop, (∀ c, Drops md ops cls listed i c ∨ ∀ x, S' c x → S c x) ∧ (∀ c, S' c w') ∧ wpAnyC P md ops Q cls n S' (listed.setIfInBounds i true) a' w') a w := by
  obtain ⟨o, ho, h⟩ := h
  unfold wpOp
  simp only [ho]
  split
  · rename_i hw
    rw [if_pos hw] at h
    refine .inl (Oper.wp_mono (fun a' w' h3 => ?_) h)
    obtain ⟨S', hSS, hS', h4⟩ := h3
    exact ⟨S', fun c => (hSS c).imp (dropsB_spec hd c) id, hS', hG _ _ _ hS' h4⟩
  · rename_i hw
    rw [if_neg hw] at h
    exact ⟨S, fun _ => .inr fun _ h => h, hS, hG _ _ _ hS h⟩

theorem wpAnyC_of_tree (hsel : Region.noSelect ops = true) (hQ : ∀ c a d v w, Q (.panic c) (a.put d v) w → Q (.panic c) a w) :
    ∀ (t : OC) (S : Nat → World → Prop) (listed : Array Bool) (a : Act) (w : World), Closed md ops listed → okC md ops cls t listed = true → (∀ c, S c w) → wpC P ops Q cls t S a w → wpAnyC P md ops Q cls t.len S listed a w
  | .nil, S, listed, a, w, _, hk, _, h => ⟨by simpa [okC] using hk, h⟩
  | .q i t, S, listed, a, w, hcl, hk, hS, h => by
    simp only [okC, Bool.and_eq_true] at hk
    obtain ⟨o, v, ho, hy, h⟩ := h
    have hr : i ∈ Region.ready md ops listed := by simpa using hk.1.2
    exact wpAnyC_first ho (Region.noSelect_spec hsel) (fun c a w => hQ c a _ _ w) _ S listed a w hcl (Region.free_spec ho hk.1.1) hr hy hS
      (wpAnyC_of_tree hsel hQ t S _ _ w (closed_set hcl hr) hk.2 hS h)
  | .x i d t, S, listed, a, w, hcl, hk, hS, h => by
    simp only [okC, Bool.and_eq_true, beq_iff_eq] at hk
    refine ⟨fun h0 => (by rw [hk.1] at h0; cases h0), fun j hj => ?_⟩
    have hj0 := hj
    rw [hk.1] at hj
    obtain rfl : j = i := by simpa using hj
    exact stepC_op hS hk.2.1 h (fun S' a' w' hS' h4 => wpAnyC_of_tree hsel hQ t S' _ a' w' (closed_set hcl hj0) hk.2.2 hS' h4)
  | .br i d t j d' u, S, listed, a, w, hcl, hk, hS, h => by
    simp only [okC, Bool.and_eq_true, Bool.or_eq_true, beq_iff_eq] at hk
    refine ⟨fun h0 => (by rcases hk.1 with h1 | h1 <;> rw [h1] at h0 <;> cases h0), fun k hj => ?_⟩
    have hj0 := hj
    have hj : k = i ∨ k = j := by
      rcases hk.1 with h1 | h1
      · rw [h1] at hj; simpa using hj
      · rw [h1] at hj; exact (by simpa using hj : k = j ∨ k = i).symm
    have hlen : t.len = u.len := hk.2.1
    rcases hj with rfl | rfl
    · exact stepC_op hS hk.2.2.1 h.1 (fun S' a' w' hS' h4 => wpAnyC_of_tree hsel hQ t S' _ a' w' (closed_set hcl hj0) hk.2.2.2.2.1 hS' h4)
    · refine stepC_op hS hk.2.2.2.1 h.2 (fun S' a' w' hS' h4 => ?_)
      rw [hlen]
      exact wpAnyC_of_tree hsel hQ u S' _ a' w' (closed_set hcl hj0) hk.2.2.2.2.2 hS' h4

theorem wpC_q {i : Nat} {t : OC} {S : Nat → World → Prop} {a : Act} {w : World} {o : Oper} {v : Value} (ho : ops[i]? = some o) (hw : Region.wanted o (yielded ops a.tmps) = true) (hy : ∀ W, S (cls.getD i 0) W → (execOp a.eval o).run P W = .ok (.value v) W)
    (h : wpC P ops Q cls t S (a.put o.dst v) w) : wpC P ops Q cls (.q i t) S a w := ⟨o, v, ho, .inl ⟨hw, hy⟩, h⟩
theorem wpC_x {i : Nat} {d : List Nat} {t : OC} {S : Nat → World → Prop} {a : Act} {w : World} {o : Oper} (ho : ops[i]? = some o) (hw : Region.wanted o (yielded ops a.tmps) = true)
    (h : ∀ K : Act → World → Prop, (∀ (S' : Nat → World → Prop) a' w', (∀ c, c ∈ d ∨ ∀ x, S' c x → S c x) → (∀ c, S' c w') → wpC P ops Q cls t S' a' w' → K a' w') → o.wp P a w K Q) : wpC P ops Q cls (.x i d t) S a w :=
  ⟨o, ho, by rw [if_pos hw]; exact h _ fun S' a' w' h1 h2 h3 => ⟨S', h1, h2, h3⟩⟩
/-- the classes stay what they are -/
theorem wpC_xs {i : Nat} {d : List Nat} {t : OC} {S : Nat → World → Prop} {a : Act} {w : World} {o : Oper} (ho : ops[i]? = some o) (hw : Region.wanted o (yielded ops a.tmps) = true)
    (h : ∀ K : Act → World → Prop, (∀ a' w', (∀ c, S c w') → wpC P ops Q cls t S a' w' → K a' w') → o.wp P a w K Q) : wpC P ops Q cls (.x i d t) S a w :=
  ⟨o, ho, by rw [if_pos hw]; exact h _ fun a' w' h2 h3 => ⟨S, fun _ => .inr fun _ h => h, h2, h3⟩⟩
theorem wpC_br {i j : Nat} {d d' : List Nat} {t u : OC} {S : Nat → World → Prop} {a : Act} {w : World} (h1 : wpC P ops Q cls (.x i d t) S a w) (h2 : wpC P ops Q cls (.x j d' u) S a w) : wpC P ops Q cls (.br i d t j d' u) S a w := ⟨h1, h2⟩
theorem wpC_nil {S : Nat → World → Prop} {a : Act} {w : World} (h : Q .normal a w) : wpC P ops (NoPanic Q) cls .nil S a w := h

/-- a part of the tree, walked once -/
theorem wpC_have {t t0 : OC} {S : Nat → World → Prop} {a0 : Act} {w0 : World} (F : Act → World → Prop) (h1 : ∀ a w, F a w → wpC P ops Q cls t S a w) (h2 : (∀ a w, F a w → wpC P ops Q cls t S a w) → wpC P ops Q cls t0 S a0 w0) : wpC P ops Q cls t0 S a0 w0 := h2 h1

/-- another name for the frame -/
theorem wpC_act {t : OC} {S : Nat → World → Prop} {a : Act} {w : World} (F : Act → Prop) (hF : F a) (h : ∀ a', F a' → wpC P ops Q cls t S a' w) : wpC P ops Q cls t S a w := h a hF

/-- THE BEGINNING. -/
theorem wp_region_C {id : Nat} {a : Act} {w : World} {l : List Oper} (cls : List Nat) (t : OC) (S : Nat → World → Prop) (hm : P.follows .mixedOrders = true)
    (hk : (Region.noSelect l.toArray && (decide (t.len = l.length) && okC .any l.toArray cls t (Array.replicate l.length false))) = true)
    (hS : ∀ c, S c w.drew) (h : wpC P l.toArray (NoPanic Q) cls t S a w.drew) : (Code.region id l.toArray true).wp P Q a w := by
  simp only [Bool.and_eq_true, decide_eq_true_eq] at hk
  obtain ⟨hn, hl, hk⟩ := hk
  refine wp_region_noPanic (wp_region_any hm ?_)
  have hcl : Closed .any l.toArray (Array.replicate l.length false) := fun j oj _ hj => by
    rcases Nat.lt_or_ge j l.length with h' | h' <;> simp [h'] at hj
  have := wpAny_of_C _ _ _ _ _ (wpAnyC_of_tree (md := .any) (cls := cls) hn (fun _ _ _ _ _ h => h) t S (Array.replicate l.length false) a w.drew hcl hk hS h)
  rw [hl] at this
  simpa using this
end

/-! ### a frame under a name -/
theorem at_act {P : Program} {c : Code} {Q : Exit → Act → World → Prop} {a : Act} {w : World} (F : Act → Prop) (hF : F a) (h : ∀ a', a' = a → F a' → Code.wp P c Q a' w) : Code.wp P c Q a w := h a rfl hF
theorem Act.eval_put_tmp (a : Act) (d t : Nat) (v : Value) (h : d < a.tmps.size) : (a.put (some d) v).eval (.tmp t) = if d = t then v else a.eval (.tmp t) := by
  simp only [Act.put, Act.eval]
  by_cases e : d = t
  · subst e
    simp [Array.getD_eq_getD_getElem?, h]
  · rw [if_neg e]
    simp [Array.getD_eq_getD_getElem?, Array.getElem?_setIfInBounds_ne e]
theorem Act.eval_put_none (a : Act) (t : Operand) (v : Value) : (a.put none v).eval t = a.eval t := rfl
theorem Act.size_put (a : Act) (d : Option Nat) (v : Value) : (a.put d v).tmps.size = a.tmps.size := by cases d <;> simp [Act.put]
theorem Act.defers_put (a : Act) (d : Option Nat) (v : Value) : (a.put d v).defers = a.defers := by cases d <;> rfl
theorem Act.eval_const' (a : Act) (v : Value) : a.eval (.const v) = v := rfl
theorem Act.eval_func' (a : Act) (f : Nat) : a.eval (.func f) = .func (.func f) #[] #[] := rfl

end Go.Proofs.YthmkgohfeahdhaaGreat
namespace Go.Proofs.YthmkgohfeahdhaaGreat
open Go.RowKit Go.WideMaps
set_option linter.unusedSimpArgs false
set_option linter.unusedVariables false

theorem conf_laid : laidOutB Tryz.prog = true := by kernel_rfl
theorem wf_u8 (x : UInt8) : (Lit.int .u8 (x.toNat : Int)).wf = true := by
  have := x.toNat_lt
  have h1 : IntKind.u8.min = 0 := by decide
  have h2 : IntKind.u8.max = 255 := by decide
  simp [Lit.wf, h1, h2]; omega
theorem wf_u16 (x : UInt16) : (Lit.int .u16 (x.toNat : Int)).wf = true := by
  have := x.toNat_lt
  have h1 : IntKind.u16.min = 0 := by decide
  have h2 : IntKind.u16.max = 65535 := by decide
  simp [Lit.wf, h1, h2]; omega
/-- two numbers as a struct -/
def dkv (k : UInt8 × UInt16) : Value := .agg #[.int .u8 (k.1.toNat : Int), .int .u16 (k.2.toNat : Int)]
theorem dkv_inj (a b : UInt8 × UInt16) (h : dkv a = dkv b) : a = b := by
  obtain ⟨a1, a2⟩ := a
  obtain ⟨b1, b2⟩ := b
  simp only [dkv, Value.agg.injEq, Array.mk.injEq, List.cons.injEq, Value.int.injEq, true_and, and_true] at h
  obtain ⟨h1, h2⟩ := h
  have e1 : a1 = b1 := UInt8.toNat_inj.1 (by omega)
  have e2 : a2 = b2 := UInt16.toNat_inj.1 (by omega)
  rw [e1, e2]
theorem labReads (l : UInt8) (c : UInt16) : ∃ lt, keyOf Tryz.prog 39 (.agg #[.int .u8 (l.toNat : Int), .int .u16 (c.toNat : Int)]) = some lt := by
  have hkt : Tryz.prog.keyType 39 = true := by kernel_rfl
  have h1 : Tryz.prog.cellsOf 39 = 2 := by kernel_rfl
  have h3 : Tryz.prog.cellsOf 5 = 1 := by kernel_rfl
  have h4 : Tryz.prog.cellsOf 37 = 1 := by kernel_rfl
  have hs : ∃ k, Tryz.prog.types.size + 1 = k + 3 := ⟨Tryz.prog.types.size - 2, by have : 2 ≤ Tryz.prog.types.size := (by decide +kernel); omega⟩
  obtain ⟨k, hk⟩ := hs
  have a2 : ∀ j (x : UInt8), Tryz.prog.keyLits (j + 1) 5 [.int .u8 (x.toNat : Int)] = some [.int .u8 (x.toNat : Int)] := fun j x => by unfold Program.keyLits; rw [Tryz.underlying5]; simp [wf_u8]
  have a3 : ∀ j (x : UInt16), Tryz.prog.keyLits (j + 1) 37 [.int .u16 (x.toNat : Int)] = some [.int .u16 (x.toNat : Int)] := fun j x => by unfold Program.keyLits; rw [Tryz.underlying37]; simp [wf_u16]
  have e : Tryz.prog.keyLits (k + 3) 39 [.int .u8 (l.toNat : Int), .int .u16 (c.toNat : Int)] = some [.int .u8 (l.toNat : Int), .int .u16 (c.toNat : Int)] := by
    unfold Program.keyLits
    rw [Tryz.underlying39]
    simp [h1, h3, h4, a2, a3]
  unfold keyOf
  rw [Tryz.underlying39, hk]
  simp [hkt, Value.formed, Tryz.underlying39, h1, Value.cells, e]
theorem markReads (l : UInt8) (c : UInt16) : ∃ lt, keyOf Tryz.prog 199 (.agg #[.int .u8 (l.toNat : Int), .int .u16 (c.toNat : Int)]) = some lt := by
  have hkt : Tryz.prog.keyType 199 = true := by kernel_rfl
  have h1 : Tryz.prog.cellsOf 199 = 2 := by kernel_rfl
  have h3 : Tryz.prog.cellsOf 5 = 1 := by kernel_rfl
  have h4 : Tryz.prog.cellsOf 37 = 1 := by kernel_rfl
  have hs : ∃ k, Tryz.prog.types.size + 1 = k + 3 := ⟨Tryz.prog.types.size - 2, by have : 2 ≤ Tryz.prog.types.size := (by decide +kernel); omega⟩
  obtain ⟨k, hk⟩ := hs
  have a2 : ∀ j (x : UInt8), Tryz.prog.keyLits (j + 1) 5 [.int .u8 (x.toNat : Int)] = some [.int .u8 (x.toNat : Int)] := fun j x => by unfold Program.keyLits; rw [Tryz.underlying5]; simp [wf_u8]
  have a3 : ∀ j (x : UInt16), Tryz.prog.keyLits (j + 1) 37 [.int .u16 (x.toNat : Int)] = some [.int .u16 (x.toNat : Int)] := fun j x => by unfold Program.keyLits; rw [Tryz.underlying37]; simp [wf_u16]
  have e : Tryz.prog.keyLits (k + 3) 199 [.int .u8 (l.toNat : Int), .int .u16 (c.toNat : Int)] = some [.int .u8 (l.toNat : Int), .int .u16 (c.toNat : Int)] := by
    unfold Program.keyLits
    rw [Tryz.underlying199]
    simp [h1, h3, h4, a2, a3]
  unfold keyOf
  rw [Tryz.underlying199, hk]
  simp [hkt, Value.formed, Tryz.underlying199, h1, Value.cells, e]
theorem labEnc : KeyEnc Tryz.prog 39 dkv where
  keyed := Maps.Keyed.of_law (deep_law_laid conf_laid (m := 2) (by omega) (by decide +kernel) (by kernel_rfl) (by kernel_rfl))
  reads := fun ⟨l, c⟩ => labReads l c
  inj := dkv_inj
theorem markEnc : KeyEnc Tryz.prog 199 dkv where
  keyed := Maps.Keyed.of_law (deep_law_laid conf_laid (m := 2) (by omega) (by decide +kernel) (by kernel_rfl) (by kernel_rfl))
  reads := fun ⟨l, c⟩ => markReads l c
  inj := dkv_inj
/-- a text as a key -/
abbrev SKey := { l : List UInt8 // l.length ≤ maxLen }
def skv (k : SKey) : Value := .string ⟨k.val.toArray⟩
def sk (s : ByteArray) (h : s.size ≤ maxLen) : SKey := ⟨s.data.toList, by rw [← sz s]; exact h⟩
theorem skv_sk (s : ByteArray) (h : s.size ≤ maxLen) : skv (sk s h) = .string s := by cases s; simp [skv, sk]
theorem strEnc : KeyEnc Tryz.prog 9 skv where
  keyed := Maps.string_keyed Tryz.underlying9
  reads := fun ⟨l, h⟩ => ⟨_, keyOf_string_mk Tryz.underlying9 (s := ⟨l.toArray⟩) (by simpa [ByteArray.size] using h)⟩
  inj := fun ⟨a, _⟩ ⟨b, _⟩ h => by
    simp only [skv, Value.string.injEq, ByteArray.mk.injEq] at h
    exact Subtype.ext (List.toArray_inj h)

def skey (l : List UInt8) : SKey := if h : l.length ≤ maxLen then ⟨l, h⟩ else ⟨[], by simp [maxLen]⟩
theorem skey_val {l : List UInt8} (h : l.length ≤ maxLen) : (skey l).val = l := by simp [skey, h]
theorem sk_skey (s : ByteArray) (h : s.size ≤ maxLen) : sk s h = skey s.data.toList := Subtype.ext (by rw [skey_val (by rw [← sz s]; exact h)]; rfl)
theorem name_short {l : List UInt8} (h : nameB l = true) : l.length ≤ 8 := by simp [nameB] at h; omega

def namesFrom : Nat → List RegV → List (SKey × Value)
  | _, [] => []
  | i, r :: rest => (skey r.name, .int .i64 (i : Int)) :: namesFrom (i + 1) rest
def labelsFrom : Nat → List RegV → List ((UInt8 × UInt16) × Value)
  | _, [] => []
  | i, r :: rest => ((r.lev, r.cats), .int .i64 (i : Int)) :: labelsFrom (i + 1) rest
def trustL (K : List MarkV) : List ((UInt8 × UInt16) × Value) := K.map fun m => (m, .bool true)
theorem namesFrom_snoc (i : Nat) (R : List RegV) (r : RegV) : namesFrom i (R ++ [r]) = namesFrom i R ++ [(skey r.name, .int .i64 ((i + R.length : Nat) : Int))] := by
  induction R generalizing i with
  | nil => simp [namesFrom]
  | cons x rest ih => simp [namesFrom, ih]; omega
theorem labelsFrom_snoc (i : Nat) (R : List RegV) (r : RegV) : labelsFrom i (R ++ [r]) = labelsFrom i R ++ [((r.lev, r.cats), .int .i64 ((i + R.length : Nat) : Int))] := by
  induction R generalizing i with
  | nil => simp [labelsFrom]
  | cons x rest ih => simp [labelsFrom, ih]; omega
theorem names_keys (i : Nat) (R : List RegV) : (namesFrom i R).map (·.1) = R.map (fun r => skey r.name) := by
  induction R generalizing i with
  | nil => rfl
  | cons x rest ih => simp [namesFrom, ih]
theorem labels_keys (i : Nat) (R : List RegV) : (labelsFrom i R).map (·.1) = R.map (fun r => (r.lev, r.cats)) := by
  induction R generalizing i with
  | nil => rfl
  | cons x rest ih => simp [labelsFrom, ih]

/-- what a label may be that was added -/
def okReg (r : RegV) : Prop := nameB r.name = true ∧ 4 ≤ r.blocks ∧ r.blocks ≤ 512 ∧ 4 ≤ r.nodes ∧ r.nodes ≤ 128

/-- A configuration that is being made, at c, in memory from block B on: rows of labels, marks, places; maps of marks, names, labels. -/
structure ConfG (B : Nat) (w : World) (c : Nat) (R : List RegV) (G : List GeoV) (tot : Int) (K : List MarkV) (T : List ((UInt8 × UInt16) × Value)) (N : List (SKey × Value)) (L : List ((UInt8 × UInt16) × Value)) (tb nb lb : Nat) (A1 A2 A3 : Option Addr) (c1 c2 c3 : Nat) : Prop where
  blk : Blk w c 179 #[.slice A1 R.length c1, .map (some tb), .slice A2 K.length c2, .map (some nb), .map (some lb), .slice A3 G.length c3, .int .i64 tot]
  regs : w.ownsRow B 41 9 (.slice A1 R.length c1) R.length (rcellsOf R)
  marks : w.ownsRow B 199 2 (.slice A2 K.length c2) K.length (mcellsOf K)
  geos : w.ownsRow B 169 6 (.slice A3 G.length c3) G.length (gcellsOf G)
  tr : MapR dkv w tb T
  nm : MapR skv w nb N
  lm : MapR dkv w lb L
  hc : B ≤ c
  htb : B ≤ tb
  hnb : B ≤ nb
  hlb : B ≤ lb
  n1 : tb ≠ nb
  n2 : tb ≠ lb
  n3 : nb ≠ lb

/-- A configuration at c, of labels R and marks K, in memory from block B on. -/
structure ConfIn (B : Nat) (w : World) (c : Nat) (R : List RegV) (K : List MarkV) (tb nb lb : Nat) (A1 A2 A3 : Option Addr) (c1 c2 c3 : Nat) : Prop
    extends ConfG B w c R (geosOf 32 R) (totalOf 32 R) K (trustL K) (namesFrom 0 R) (labelsFrom 0 R) tb nb lb A1 A2 A3 c1 c2 c3 where
  ok : ∀ r ∈ R, okReg r

theorem total_bounds {R : List RegV} (h : ∀ r ∈ R, okReg r) (a : Int) (ha : 0 ≤ a) : 0 ≤ totalOf a R ∧ totalOf a R ≤ a + 577 * (R.length : Int) := by
  induction R generalizing a with
  | nil => simp [totalOf, ha]
  | cons r rest ih =>
    obtain ⟨_, h1, h2, h3, h4⟩ := h r (by simp)
    have hb : 0 ≤ (geoOf a r).end_ ∧ (geoOf a r).end_ ≤ a + 577 := by simp only [geoOf, GeoV.end_]; omega
    have := ih (fun x hx => h x (by simp [hx])) (geoOf a r).end_ hb.1
    simp only [totalOf, List.length_cons]
    omega

section
variable {B : Nat} {w w' : World} {c : Nat} {R : List RegV} {K : List MarkV} {tb nb lb : Nat} {A1 A2 A3 : Option Addr} {c1 c2 c3 : Nat}
variable {G : List GeoV} {tot : Int} {T L : List ((UInt8 × UInt16) × Value)} {N : List (SKey × Value)}
theorem ConfG.keep (h : ConfG B w c R G tot K T N L tb nb lb A1 A2 A3 c1 c2 c3) (hb : ∀ g, g < w.heap.size → w'.heap[g]? = w.heap[g]?) : ConfG B w' c R G tot K T N L tb nb lb A1 A2 A3 c1 c2 c3 where
  blk := (hb c h.blk.lt).trans h.blk
  regs := own_keep h.regs fun g hg => hb g (h.regs.lt g hg).2
  marks := own_keep h.marks fun g hg => hb g (h.marks.lt g hg).2
  geos := own_keep h.geos fun g hg => hb g (h.geos.lt g hg).2
  tr := h.tr.keep (hb _ h.tr.lt)
  nm := h.nm.keep (hb _ h.nm.lt)
  lm := h.lm.keep (hb _ h.lm.lt)
  hc := h.hc
  htb := h.htb
  hnb := h.hnb
  hlb := h.hlb
  n1 := h.n1
  n2 := h.n2
  n3 := h.n3
theorem ConfG.below (h : ConfG B w c R G tot K T N L tb nb lb A1 A2 A3 c1 c2 c3) (hb : Below w.heap.size w w') : ConfG B w' c R G tot K T N L tb nb lb A1 A2 A3 c1 c2 c3 := h.keep fun g hg => hb.block g hg
theorem ConfIn.below (h : ConfIn B w c R K tb nb lb A1 A2 A3 c1 c2 c3) (hb : Below w.heap.size w w') : ConfIn B w' c R K tb nb lb A1 A2 A3 c1 c2 c3 := ⟨h.toConfG.below hb, h.ok⟩
theorem OnlyMap.trans {a b d : World} {m : Nat} (h : OnlyMap a b m) (k : OnlyMap b d m) : OnlyMap a d m :=
  ⟨h.1.andThen k.1 fun j hj => .inr hj, k.2.trans h.2⟩
theorem OnlyMap.blk {a b : World} {m g : Nat} (h : OnlyMap a b m) (hg : g ≠ m) (hl : g < a.heap.size) : b.heap[g]? = a.heap[g]? := h.1.block g hl fun e => hg (by injection e)
/-- another map of names -/
theorem ConfG.names {N' : List (SKey × Value)} (h : ConfG B w c R G tot K T N L tb nb lb A1 A2 A3 c1 c2 c3) (ho : OnlyMap w w' nb) (hm : MapR skv w' nb N') : ConfG B w' c R G tot K T N' L tb nb lb A1 A2 A3 c1 c2 c3 where
  blk := (ho.blk (fun e => blk_not_map h.blk h.nm.is e) h.blk.lt).trans h.blk
  regs := own_keep h.regs fun g hg => ho.blk (fun e => h.nm.is.not_own h.regs (e ▸ hg)) (h.regs.lt g hg).2
  marks := own_keep h.marks fun g hg => ho.blk (fun e => h.nm.is.not_own h.marks (e ▸ hg)) (h.marks.lt g hg).2
  geos := own_keep h.geos fun g hg => ho.blk (fun e => h.nm.is.not_own h.geos (e ▸ hg)) (h.geos.lt g hg).2
  tr := h.tr.keep (ho.blk h.n1 h.tr.lt)
  nm := hm
  lm := h.lm.keep (ho.blk (Ne.symm h.n3) h.lm.lt)
  hc := h.hc
  htb := h.htb
  hnb := h.hnb
  hlb := h.hlb
  n1 := h.n1
  n2 := h.n2
  n3 := h.n3
/-- another map of labels -/
theorem ConfG.labels {L' : List ((UInt8 × UInt16) × Value)} (h : ConfG B w c R G tot K T N L tb nb lb A1 A2 A3 c1 c2 c3) (ho : OnlyMap w w' lb) (hm : MapR dkv w' lb L') : ConfG B w' c R G tot K T N L' tb nb lb A1 A2 A3 c1 c2 c3 where
  blk := (ho.blk (fun e => blk_not_map h.blk h.lm.is e) h.blk.lt).trans h.blk
  regs := own_keep h.regs fun g hg => ho.blk (fun e => h.lm.is.not_own h.regs (e ▸ hg)) (h.regs.lt g hg).2
  marks := own_keep h.marks fun g hg => ho.blk (fun e => h.lm.is.not_own h.marks (e ▸ hg)) (h.marks.lt g hg).2
  geos := own_keep h.geos fun g hg => ho.blk (fun e => h.lm.is.not_own h.geos (e ▸ hg)) (h.geos.lt g hg).2
  tr := h.tr.keep (ho.blk h.n2 h.tr.lt)
  nm := h.nm.keep (ho.blk h.n3 h.nm.lt)
  lm := hm
  hc := h.hc
  htb := h.htb
  hnb := h.hnb
  hlb := h.hlb
  n1 := h.n1
  n2 := h.n2
  n3 := h.n3
/-- another map of marks -/
theorem ConfG.trust {T' : List ((UInt8 × UInt16) × Value)} (h : ConfG B w c R G tot K T N L tb nb lb A1 A2 A3 c1 c2 c3) (ho : OnlyMap w w' tb) (hm : MapR dkv w' tb T') : ConfG B w' c R G tot K T' N L tb nb lb A1 A2 A3 c1 c2 c3 where
  blk := (ho.blk (fun e => blk_not_map h.blk h.tr.is e) h.blk.lt).trans h.blk
  regs := own_keep h.regs fun g hg => ho.blk (fun e => h.tr.is.not_own h.regs (e ▸ hg)) (h.regs.lt g hg).2
  marks := own_keep h.marks fun g hg => ho.blk (fun e => h.tr.is.not_own h.marks (e ▸ hg)) (h.marks.lt g hg).2
  geos := own_keep h.geos fun g hg => ho.blk (fun e => h.tr.is.not_own h.geos (e ▸ hg)) (h.geos.lt g hg).2
  tr := hm
  nm := h.nm.keep (ho.blk (Ne.symm h.n1) h.nm.lt)
  lm := h.lm.keep (ho.blk (Ne.symm h.n2) h.lm.lt)
  hc := h.hc
  htb := h.htb
  hnb := h.hnb
  hlb := h.hlb
  n1 := h.n1
  n2 := h.n2
  n3 := h.n3

set_option maxRecDepth 100000 in
theorem add_name (s : ByteArray) (lv : UInt8) (ct : UInt16) (b n f p q cl many i : Int) (w : World) (hn : nameB s.data.toList = false) :
    Calls Tryz.prog 90 #[.pointer (some ⟨c, 0, none⟩), .int .i64 i, .agg #[.string s, .int .u8 (lv.toNat : Int), .int .u16 (ct.toNat : Int), .int .i64 b, .int .i64 n, .int .i64 f, .int .i64 p, .int .i64 q, .int .i64 cl], .int .i64 many] w fun e w' => e = .returned (.int .i64 30) ∧ Below w.heap.size w w' := by
  go_enter Tryz.func90, Tryz.ntmps90
  go_wp2_with fail
  refine (name_ok _ _).mono ?_
  rw [hn]
  rintro e w1 ⟨rfl, hb⟩
  have HB := hide (((Below.refl w.heap.size w).alloc (Nat.le_refl _) _).trans (hb.mono (by simp)))
  clear hb
  go_wp2
  go_returns
  exact ⟨rfl, HB.out⟩

set_option maxRecDepth 100000 in
theorem add_range (s : ByteArray) (lv : UInt8) (ct : UInt16) (b n f p q cl many i : Int) (w : World) (hn : nameB s.data.toList = true) (h1 : -9000000000000000000 ≤ many) (h2 : many ≤ 9000000000000000000)
    (hr : (decide (lv ≤ 15) && (soundC b n f p q && inB cl 0 (many - 1))) = false) :
    Calls Tryz.prog 90 #[.pointer (some ⟨c, 0, none⟩), .int .i64 i, .agg #[.string s, .int .u8 (lv.toNat : Int), .int .u16 (ct.toNat : Int), .int .i64 b, .int .i64 n, .int .i64 f, .int .i64 p, .int .i64 q, .int .i64 cl], .int .i64 many] w fun e w' => e = .returned (.int .i64 27) ∧ Below w.heap.size w w' := by
  go_enter Tryz.func90, Tryz.ntmps90
  go_wp2_with fail
  refine (name_ok _ _).mono ?_
  rw [hn]
  rintro e w1 ⟨rfl, hb⟩
  refine at_world (fun W => Below w.heap.size w W ∧ Blk W w.heap.size 41 #[.string s, .int .u8 (lv.toNat : Int), .int .u16 (ct.toNat : Int), .int .i64 b, .int .i64 n, .int .i64 f, .int .i64 p, .int .i64 q, .int .i64 cl]) ⟨((Below.refl w.heap.size w).alloc (Nat.le_refl _) _).trans (hb.mono (by simp)), (Blk.new w _ _).below hb (by simp)⟩ (fun W1 h => ?_)
  obtain ⟨hb1, rB⟩ := h
  have x0 := rB.cell 0
  have x1 := rB.cell 1
  have x2 := rB.cell 2
  have x3 := rB.cell 3
  have x4 := rB.cell 4
  have x5 := rB.cell 5
  have x6 := rB.cell 6
  have x7 := rB.cell 7
  have x8 := rB.cell 8
  have xl := rB.lt
  have HB := hide hb1
  have hbn := hb1.size
  clear hb hb1
  go_wp2_with fail
  refine (label_valid _ _ _).mono ?_
  cases hl : decide (lv ≤ 15) with
  | false =>
    rintro e w2 ⟨rfl, hb⟩
    have hb1 := HB.out.trans (hb.mono HB.out.size)
    have rB' := rB.below hb rB.lt
    clear x0 x1 x2 x3 x4 x5 x6 x7 x8 xl
    clear HB rB hb
    have rB := rB'
    clear rB'
    have x0 := rB.cell 0
    have x1 := rB.cell 1
    have x2 := rB.cell 2
    have x3 := rB.cell 3
    have x4 := rB.cell 4
    have x5 := rB.cell 5
    have x6 := rB.cell 6
    have x7 := rB.cell 7
    have x8 := rB.cell 8
    have xl := rB.lt
    have HB := hide hb1
    clear hb1
    clear hr
    go_wp2
    go_returns
    exact ⟨rfl, HB.out⟩
  | true =>
    rw [hl] at hr
    rintro e w2 ⟨rfl, hb⟩
    have hb1 := HB.out.trans (hb.mono HB.out.size)
    have rB' := rB.below hb rB.lt
    clear x0 x1 x2 x3 x4 x5 x6 x7 x8 xl
    clear HB rB hb
    have rB := rB'
    clear rB'
    have x0 := rB.cell 0
    have x1 := rB.cell 1
    have x2 := rB.cell 2
    have x3 := rB.cell 3
    have x4 := rB.cell 4
    have x5 := rB.cell 5
    have x6 := rB.cell 6
    have x7 := rB.cell 7
    have x8 := rB.cell 8
    have xl := rB.lt
    have HB := hide hb1
    clear hb1
    clear hl
    go_wp2_with fail
    refine (sound_ok _ _ _ _ _ _ _ _ _ _).mono ?_
    cases hs : soundC b n f p q with
    | false =>
      rintro e w3 ⟨rfl, hb⟩
      have hb1 := HB.out.trans (hb.mono HB.out.size)
      have rB' := rB.below hb rB.lt
      clear x0 x1 x2 x3 x4 x5 x6 x7 x8 xl
      clear HB rB hb
      have rB := rB'
      clear rB'
      have x0 := rB.cell 0
      have x1 := rB.cell 1
      have x2 := rB.cell 2
      have x3 := rB.cell 3
      have x4 := rB.cell 4
      have x5 := rB.cell 5
      have x6 := rB.cell 6
      have x7 := rB.cell 7
      have x8 := rB.cell 8
      have xl := rB.lt
      have HB := hide hb1
      clear hb1
      clear hr
      go_wp2
      go_returns
      exact ⟨rfl, HB.out⟩
    | true =>
      rw [hs] at hr
      rintro e w3 ⟨rfl, hb⟩
      have hb1 := HB.out.trans (hb.mono HB.out.size)
      have rB' := rB.below hb rB.lt
      clear x0 x1 x2 x3 x4 x5 x6 x7 x8 xl
      clear HB rB hb
      have rB := rB'
      clear rB'
      have x0 := rB.cell 0
      have x1 := rB.cell 1
      have x2 := rB.cell 2
      have x3 := rB.cell 3
      have x4 := rB.cell 4
      have x5 := rB.cell 5
      have x6 := rB.cell 6
      have x7 := rB.cell 7
      have x8 := rB.cell 8
      have xl := rB.lt
      have HB := hide hb1
      clear hb1
      clear hs
      have hw : wrap64 (many - 1) = many - 1 := IntWalk.wrap64_in _ (by omega)
      go_wp2_with fail
      refine (within_ok _ _ _ _).mono ?_
      rw [show inB cl 0 (many - 1) = false by simpa using hr]
      rintro e w4 ⟨rfl, rfl⟩
      clear hr
      go_wp2
      go_returns
      exact ⟨rfl, HB.out⟩
-- PRINTED BELOW (wip/tools/confat.py)

theorem look_names {w : World} {nb : Nat} {L : List (SKey × Value)} (h : MapR skv w nb L) (s : ByteArray) (hs : s.size ≤ maxLen) {v : Value} {b : Bool} (hv : (mget L (sk s hs)).getD (.int .i64 0) = v) (hb : (mget L (sk s hs)).isSome = b) (W : World) (hW : Below w.heap.size w W) :
    (Instr.lookup 175 (.map (some nb)) (.string s) true).run Tryz.prog W = .ok (.tuple #[v, .bool b]) W := by
  rw [← hv, ← hb, ← skv_sk s hs]
  exact (h.is.keep (hW.block nb h.lt)).lookup strEnc Tryz.underlying175 (z := .int .i64 0) (by kernel_rfl) (sk s hs) true
theorem look_labels {w : World} {lb : Nat} {L : List ((UInt8 × UInt16) × Value)} (h : MapR dkv w lb L) (l : UInt8) (c : UInt16) {v : Value} {b : Bool} (hv : (mget L (l, c)).getD (.int .i64 0) = v) (hb : (mget L (l, c)).isSome = b) (W : World) (hW : Below w.heap.size w W) :
    (Instr.lookup 176 (.map (some lb)) (.agg #[.int .u8 (l.toNat : Int), .int .u16 (c.toNat : Int)]) true).run Tryz.prog W = .ok (.tuple #[v, .bool b]) W := by
  rw [← hv, ← hb]
  exact (h.is.keep (hW.block lb h.lt)).lookup labEnc Tryz.underlying176 (z := .int .i64 0) (by kernel_rfl) (l, c) true

set_option maxRecDepth 100000 in
set_option maxHeartbeats 400000 in
theorem add_twice (h : ConfIn B w c R K tb nb lb A1 A2 A3 c1 c2 c3) (s : ByteArray) (lv : UInt8) (ct : UInt16) (b n f p q cl many : Int) (i : Nat) (hn : nameB s.data.toList = true) (h1 : -9000000000000000000 ≤ many) (h2 : many ≤ 9000000000000000000)
    (hr : (decide (lv ≤ 15) && (soundC b n f p q && inB cl 0 (many - 1))) = true) (ht : s.data.toList ∈ R.map (·.name)) :
    Calls Tryz.prog 90 #[.pointer (some ⟨c, 0, none⟩), .int .i64 (i : Int), .agg #[.string s, .int .u8 (lv.toNat : Int), .int .u16 (ct.toNat : Int), .int .i64 b, .int .i64 n, .int .i64 f, .int .i64 p, .int .i64 q, .int .i64 cl], .int .i64 many] w fun e w' => e = .returned (.int .i64 29) ∧ Below w.heap.size w w' := by
  have hsm : s.size ≤ maxLen := by have := name_short hn; have := sz s; simp only [maxLen]; omega
  have hl : decide (lv ≤ 15) = true := by simp only [Bool.and_eq_true] at hr; exact hr.1
  have hs : soundC b n f p q = true := by simp only [Bool.and_eq_true] at hr; exact hr.2.1
  have hcl : inB cl 0 (many - 1) = true := by simp only [Bool.and_eq_true] at hr; exact hr.2.2
  clear hr
  go_enter Tryz.func90, Tryz.ntmps90
  go_wp2_with fail
  refine (name_ok _ _).mono ?_
  rw [hn]
  rintro e w1 ⟨rfl, hb⟩
  refine at_world (fun W => Below w.heap.size w W ∧ Blk W w.heap.size 41 #[.string s, .int .u8 (lv.toNat : Int), .int .u16 (ct.toNat : Int), .int .i64 b, .int .i64 n, .int .i64 f, .int .i64 p, .int .i64 q, .int .i64 cl] ∧ ConfIn B W c R K tb nb lb A1 A2 A3 c1 c2 c3) ⟨((Below.refl w.heap.size w).alloc (Nat.le_refl _) _).trans (hb.mono (by simp)), (Blk.new w _ _).below hb (by simp), h.below (((Below.refl w.heap.size w).alloc (Nat.le_refl _) _).trans (hb.mono (by simp)))⟩ (fun W1 h9 => ?_)
  clear h
  obtain ⟨hb1, rB, h⟩ := h9
  have x0 := rB.cell 0
  have x1 := rB.cell 1
  have x2 := rB.cell 2
  have x3 := rB.cell 3
  have x4 := rB.cell 4
  have x5 := rB.cell 5
  have x6 := rB.cell 6
  have x7 := rB.cell 7
  have x8 := rB.cell 8
  have xl := rB.lt
  have HB := hide hb1
  have hbn := hb1.size
  clear hb hb1
  go_wp2_with fail
  refine (label_valid _ _ _).mono ?_
  rw [hl]
  rintro e w2 ⟨rfl, hb⟩
  have hb1 := HB.out.trans (hb.mono HB.out.size)
  have rB' := rB.below hb rB.lt
  have h' := h.below hb
  clear x0 x1 x2 x3 x4 x5 x6 x7 x8 xl
  clear HB rB hb h
  have rB := rB'
  have h := h'
  clear rB' h'
  have x0 := rB.cell 0
  have x1 := rB.cell 1
  have x2 := rB.cell 2
  have x3 := rB.cell 3
  have x4 := rB.cell 4
  have x5 := rB.cell 5
  have x6 := rB.cell 6
  have x7 := rB.cell 7
  have x8 := rB.cell 8
  have xl := rB.lt
  have HB := hide hb1
  clear hb1
  clear hl
  go_wp2_with fail
  refine (sound_ok _ _ _ _ _ _ _ _ _ _).mono ?_
  rw [hs]
  rintro e w3 ⟨rfl, hb⟩
  have hb1 := HB.out.trans (hb.mono HB.out.size)
  have rB' := rB.below hb rB.lt
  have h' := h.below hb
  clear x0 x1 x2 x3 x4 x5 x6 x7 x8 xl
  clear HB rB hb h
  have rB := rB'
  have h := h'
  clear rB' h'
  have x0 := rB.cell 0
  have x1 := rB.cell 1
  have x2 := rB.cell 2
  have x3 := rB.cell 3
  have x4 := rB.cell 4
  have x5 := rB.cell 5
  have x6 := rB.cell 6
  have x7 := rB.cell 7
  have x8 := rB.cell 8
  have xl := rB.lt
  have HB := hide hb1
  clear hb1
  have HS := hide hs
  clear hs
  have hw : wrap64 (many - 1) = many - 1 := IntWalk.wrap64_in _ (by omega)
  go_wp2_with fail
  refine (within_ok _ _ _ _).mono ?_
  rw [hcl]
  rintro e w4 ⟨rfl, rfl⟩
  clear hcl hw
  go_wp2_with fail
  obtain ⟨v, hv⟩ : ∃ v, mget (namesFrom 0 R) (sk s hsm) = some v := by
    cases hm : mget (namesFrom 0 R) (sk s hsm) with
    | some v => exact ⟨v, rfl⟩
    | none =>
      refine absurd ?_ (mget_none_iff.1 hm)
      rw [names_keys, sk_skey]
      obtain ⟨r, hr', e⟩ := List.mem_map.1 ht
      exact List.mem_map.2 ⟨r, hr', by rw [e]⟩
  have HLK : Hid (∀ (u : World), MapR skv u nb (namesFrom 0 R) → ∀ W, Below u.heap.size u W → (Instr.lookup 175 (.map (some nb)) (.string s) true).run Tryz.prog W = .ok (.tuple #[v, .bool true]) W) := hide fun u hu W hW => look_names hu s hsm (by rw [hv]; rfl) (by rw [hv]; rfl) W hW
  clear hv ht
  have c3 := h.blk.cell 3
  have cz := h.blk.lt
  have hlk : ∀ W, Below w4.heap.size w4 W → (Instr.lookup 175 (.map (some nb)) (.string s) true).run Tryz.prog W = .ok (.tuple #[v, .bool true]) W := HLK.out w4 h.nm
  have hnz := h.nm.lt
  refine wp_region_text [0, 0, 0, 0, 0, 0, 0, 0, 0, 0, 0, 0] (Below w4.heap.size w4) (by kernel_rfl) (by kernel_rfl) (Below.refl _ _).drew ?_
  iterate 12 (refine wpOrd_q (v := ?_) (by rfl) (fun W hW => ?_) ?_; rotate_left; (focus ((obtain ⟨hWc, hWf⟩ := bcell hW); have hq := hlk W hW; go_simp; try with_reducible rfl)); try simp only [Act.put, List.setIfInBounds_toArray, List.set_cons_zero, List.set_cons_succ])
  refine wpOrd_nil ?_
  clear c3 cz hlk hnz
  go_wp2
  go_returns
  exact ⟨rfl, HB.out.drew⟩

theorem names_none {R : List RegV} (hR : ∀ r ∈ R, okReg r) {s : ByteArray} (hs : s.size ≤ maxLen) (ht : s.data.toList ∉ R.map (·.name)) : mget (namesFrom 0 R) (sk s hs) = none := by
  rw [mget_none_iff, names_keys]
  intro hm
  obtain ⟨r, hr, e⟩ := List.mem_map.1 hm
  have h8 := name_short (hR r hr).1
  refine ht (List.mem_map.2 ⟨r, hr, ?_⟩)
  have := congrArg Subtype.val e
  rw [skey_val (by simp only [maxLen]; omega)] at this
  exact this
theorem labels_none {R : List RegV} {l : UInt8} {c : UInt16} (ht : (l, c) ∉ R.map (fun x => (x.lev, x.cats))) : mget (labelsFrom 0 R) (l, c) = none := by
  rw [mget_none_iff, labels_keys]
  exact ht
theorem names_put {R : List RegV} {r : RegV} {s : ByteArray} {hs : s.size ≤ maxLen} (h : mget (namesFrom 0 R) (sk s hs) = none) (e : r.name = s.data.toList) : mput (namesFrom 0 R) (sk s hs) (.int .i64 (R.length : Int)) = namesFrom 0 (R ++ [r]) := by
  rw [mput_none_of fun x hx e => (mget_none_iff.1 h) (List.mem_map.2 ⟨x, hx, e⟩), namesFrom_snoc, sk_skey, e]
  simp
theorem labels_put {R : List RegV} {r : RegV} (h : mget (labelsFrom 0 R) (r.lev, r.cats) = none) : mput (labelsFrom 0 R) (r.lev, r.cats) (.int .i64 (R.length : Int)) = labelsFrom 0 (R ++ [r]) := by
  rw [mput_none_of fun x hx e => (mget_none_iff.1 h) (List.mem_map.2 ⟨x, hx, e⟩), labelsFrom_snoc]
  simp
theorem names_put' {R : List RegV} {r : RegV} {i : Nat} {s : ByteArray} {hs : s.size ≤ maxLen} (h : mget (namesFrom 0 R) (sk s hs) = none) (e : r.name = s.data.toList) (hi : i = R.length) : mput (namesFrom 0 R) (sk s hs) (.int .i64 (i : Int)) = namesFrom 0 (R ++ [r]) := by subst hi; exact names_put h e
theorem labels_put' {R : List RegV} {r : RegV} {i : Nat} (h : mget (labelsFrom 0 R) (r.lev, r.cats) = none) (hi : i = R.length) : mput (labelsFrom 0 R) (r.lev, r.cats) (.int .i64 (i : Int)) = labelsFrom 0 (R ++ [r]) := by subst hi; exact labels_put h
/-- two rows of one's own of two kinds -/
theorem own_apart {w : World} {b1 b2 n1 n2 s1 s2 : Nat} {e1 e2 : TypeId} {v1 v2 : Value} {x1 x2 : List Value} (h1 : w.ownsRow b1 e1 s1 v1 n1 x1) (h2 : w.ownsRow b2 e2 s2 v2 n2 x2) (hne : e1 ≠ e2) : v1.ownBlock = none ∨ v1.ownBlock ≠ v2.ownBlock := by
  rcases h1.2 with ⟨rfl, _⟩ | ⟨g, cap, cur, rfl, _, hh, _⟩
  · exact .inl rfl
  · refine .inr fun e => ?_
    rcases h2.2 with ⟨rfl, _⟩ | ⟨g', cap', cur', rfl, _, hh', _⟩
    · cases e
    · simp only [Value.ownBlock, Option.some.injEq] at e
      subst e
      rw [hh] at hh'
      simp only [Option.some.injEq, Obj.cells.injEq] at hh'
      exact hne hh'.2.1
/-- two classes of knowledge -/
def S2 (A C : World → Prop) : Nat → World → Prop := fun k W => if k = 1 then A W else if k = 2 then True else C W
theorem S2.hold {A C : World → Prop} {w : World} (hA : A w) (hC : C w) : ∀ k, S2 A C k w := fun k => by
  unfold S2
  split
  · exact hA
  · split
    · trivial
    · exact hC
theorem S2.one {A C : World → Prop} {w : World} (h : S2 A C 1 w) : A w := h
theorem S2.rest {A C : World → Prop} {w : World} {k : Nat} (hk : k ≠ 1 ∧ k ≠ 2) (h : S2 A C k w) : C w := by
  unfold S2 at h
  rwa [if_neg hk.1, if_neg hk.2] at h
theorem S2.drop {A C : World → Prop} : ∀ k, k ∈ [1] ∨ ∀ x, S2 (fun _ => True) C k x → S2 A C k x := fun k => by
  by_cases h : k = 1
  · exact .inl (by simp [h])
  · refine .inr fun x hx => ?_
    unfold S2 at hx ⊢
    rwa [if_neg h] at hx ⊢
/-- what lies beside the rows that are appended to -/
structure AddSt (B : Nat) (X : World) (c rb gb : Nat) (cc rc gc : Array Value) (K : List MarkV) (T : List ((UInt8 × UInt16) × Value)) (N : List (SKey × Value)) (L : List ((UInt8 × UInt16) × Value)) (tb nb lb : Nat) (A2 : Option Addr) (c2 : Nat) : Prop where
  cB : Blk X c 179 cc
  rB : Blk X rb 41 rc
  gB : Blk X gb 169 gc
  marks : X.ownsRow B 199 2 (.slice A2 K.length c2) K.length (mcellsOf K)
  tr : MapR dkv X tb T
  nm : MapR skv X nb N
  lm : MapR dkv X lb L
theorem AddSt.below {B : Nat} {X X' : World} {c rb gb : Nat} {cc rc gc : Array Value} {K : List MarkV} {T : List ((UInt8 × UInt16) × Value)} {N : List (SKey × Value)} {L : List ((UInt8 × UInt16) × Value)} {tb nb lb : Nat} {A2 : Option Addr} {c2 : Nat} (h : AddSt B X c rb gb cc rc gc K T N L tb nb lb A2 c2) (hb : Below X.heap.size X X') : AddSt B X' c rb gb cc rc gc K T N L tb nb lb A2 c2 :=
  ⟨h.cB.below hb h.cB.lt, h.rB.below hb h.rB.lt, h.gB.below hb h.gB.lt, own_below h.marks hb, h.tr.below hb h.tr.lt, h.nm.below hb h.nm.lt, h.lm.below hb h.lm.lt⟩
theorem AddSt.row {B : Nat} {X X' : World} {c rb gb : Nat} {cc rc gc : Array Value} {K : List MarkV} {T : List ((UInt8 × UInt16) × Value)} {N : List (SKey × Value)} {L : List ((UInt8 × UInt16) × Value)} {tb nb lb : Nat} {A2 : Option Addr} {c2 : Nat} {b2 n sz : Nat} {e : TypeId} {v : Value} {xs : List Value}
    (h : AddSt B X c rb gb cc rc gc K T N L tb nb lb A2 c2) (ho : X.ownsRow b2 e sz v n xs) (e1 : 179 ≠ e) (e2 : 199 ≠ e) (hr : v.ownBlock ≠ some rb) (hg : v.ownBlock ≠ some gb) (hgr : X.grownBy X' v.ownBlock) : AddSt B X' c rb gb cc rc gc K T N L tb nb lb A2 c2 where
  cB := h.cB.grown hgr fun e => blk_not_own h.cB ho e1 e.symm
  rB := h.rB.grown hgr (Ne.symm hr)
  gB := h.gB.grown hgr (Ne.symm hg)
  marks := h.marks.kept hgr (own_apart h.marks ho e2)
  tr := h.tr.keep (hgr.block _ h.tr.lt fun e => h.tr.is.not_own ho e.symm)
  nm := h.nm.keep (hgr.block _ h.nm.lt fun e => h.nm.is.not_own ho e.symm)
  lm := h.lm.keep (hgr.block _ h.lm.lt fun e => h.lm.is.not_own ho e.symm)
theorem ConfIn.drew (h : ConfIn B w c R K tb nb lb A1 A2 A3 c1 c2 c3) : ConfIn B w.drew c R K tb nb lb A1 A2 A3 c1 c2 c3 := h.below (Below.refl _ _).drew

set_option maxRecDepth 100000 in
set_option maxHeartbeats 400000 in
theorem add_twice2 (h : ConfIn B w c R K tb nb lb A1 A2 A3 c1 c2 c3) (s : ByteArray) (lv : UInt8) (ct : UInt16) (b n f p q cl many : Int) (i : Nat) (hn : nameB s.data.toList = true) (h1 : -9000000000000000000 ≤ many) (h2 : many ≤ 9000000000000000000)
    (hr : (decide (lv ≤ 15) && (soundC b n f p q && inB cl 0 (many - 1))) = true) (ht : s.data.toList ∉ R.map (·.name)) (ht2 : (lv, ct) ∈ R.map (fun x => (x.lev, x.cats))) :
    Calls Tryz.prog 90 #[.pointer (some ⟨c, 0, none⟩), .int .i64 (i : Int), .agg #[.string s, .int .u8 (lv.toNat : Int), .int .u16 (ct.toNat : Int), .int .i64 b, .int .i64 n, .int .i64 f, .int .i64 p, .int .i64 q, .int .i64 cl], .int .i64 many] w fun e w' => e = .returned (.int .i64 29) ∧ Below w.heap.size w w' := by
  obtain ⟨v, hv⟩ : ∃ v, mget (labelsFrom 0 R) (lv, ct) = some v := by
    cases hm : mget (labelsFrom 0 R) (lv, ct) with
    | some v => exact ⟨v, rfl⟩
    | none =>
      refine absurd ?_ (mget_none_iff.1 hm)
      rw [labels_keys]
      exact ht2
  have HLL : Hid (∀ (u : World), MapR dkv u lb (labelsFrom 0 R) → ∀ W, Below u.heap.size u W → (Instr.lookup 176 (.map (some lb)) (.agg #[.int .u8 (lv.toNat : Int), .int .u16 (ct.toNat : Int)]) true).run Tryz.prog W = .ok (.tuple #[v, .bool true]) W) := hide fun u hu W hW => look_labels hu lv ct (by rw [hv]; rfl) (by rw [hv]; rfl) W hW
  clear hv ht2
  have hsm : s.size ≤ maxLen := by have := name_short hn; have := sz s; simp only [maxLen]; omega
  have hl : decide (lv ≤ 15) = true := by simp only [Bool.and_eq_true] at hr; exact hr.1
  have hs : soundC b n f p q = true := by simp only [Bool.and_eq_true] at hr; exact hr.2.1
  have hcl : inB cl 0 (many - 1) = true := by simp only [Bool.and_eq_true] at hr; exact hr.2.2
  clear hr
  go_enter Tryz.func90, Tryz.ntmps90
  go_wp2_with fail
  refine (name_ok _ _).mono ?_
  rw [hn]
  rintro e w1 ⟨rfl, hb⟩
  refine at_world (fun W => Below w.heap.size w W ∧ Blk W w.heap.size 41 #[.string s, .int .u8 (lv.toNat : Int), .int .u16 (ct.toNat : Int), .int .i64 b, .int .i64 n, .int .i64 f, .int .i64 p, .int .i64 q, .int .i64 cl] ∧ ConfIn B W c R K tb nb lb A1 A2 A3 c1 c2 c3) ⟨((Below.refl w.heap.size w).alloc (Nat.le_refl _) _).trans (hb.mono (by simp)), (Blk.new w _ _).below hb (by simp), h.below (((Below.refl w.heap.size w).alloc (Nat.le_refl _) _).trans (hb.mono (by simp)))⟩ (fun W1 h9 => ?_)
  clear h
  obtain ⟨hb1, rB, h⟩ := h9
  have x0 := rB.cell 0
  have x1 := rB.cell 1
  have x2 := rB.cell 2
  have x3 := rB.cell 3
  have x4 := rB.cell 4
  have x5 := rB.cell 5
  have x6 := rB.cell 6
  have x7 := rB.cell 7
  have x8 := rB.cell 8
  have xl := rB.lt
  have HB := hide hb1
  have hbn := hb1.size
  clear hb hb1
  go_wp2_with fail
  refine (label_valid _ _ _).mono ?_
  rw [hl]
  rintro e w2 ⟨rfl, hb⟩
  have hb1 := HB.out.trans (hb.mono HB.out.size)
  have rB' := rB.below hb rB.lt
  have h' := h.below hb
  clear x0 x1 x2 x3 x4 x5 x6 x7 x8 xl
  clear HB rB hb h
  have rB := rB'
  have h := h'
  clear rB' h'
  have x0 := rB.cell 0
  have x1 := rB.cell 1
  have x2 := rB.cell 2
  have x3 := rB.cell 3
  have x4 := rB.cell 4
  have x5 := rB.cell 5
  have x6 := rB.cell 6
  have x7 := rB.cell 7
  have x8 := rB.cell 8
  have xl := rB.lt
  have HB := hide hb1
  clear hb1
  clear hl
  go_wp2_with fail
  refine (sound_ok _ _ _ _ _ _ _ _ _ _).mono ?_
  rw [hs]
  rintro e w3 ⟨rfl, hb⟩
  have hb1 := HB.out.trans (hb.mono HB.out.size)
  have rB' := rB.below hb rB.lt
  have h' := h.below hb
  clear x0 x1 x2 x3 x4 x5 x6 x7 x8 xl
  clear HB rB hb h
  have rB := rB'
  have h := h'
  clear rB' h'
  have x0 := rB.cell 0
  have x1 := rB.cell 1
  have x2 := rB.cell 2
  have x3 := rB.cell 3
  have x4 := rB.cell 4
  have x5 := rB.cell 5
  have x6 := rB.cell 6
  have x7 := rB.cell 7
  have x8 := rB.cell 8
  have xl := rB.lt
  have HB := hide hb1
  clear hb1
  have HS := hide hs
  clear hs
  have hw : wrap64 (many - 1) = many - 1 := IntWalk.wrap64_in _ (by omega)
  go_wp2_with fail
  refine (within_ok _ _ _ _).mono ?_
  rw [hcl]
  rintro e w4 ⟨rfl, rfl⟩
  clear hcl hw
  go_wp2_with fail
  have hv : mget (namesFrom 0 R) (sk s hsm) = none := names_none h.ok hsm ht
  have HLK : Hid (∀ (u : World), MapR skv u nb (namesFrom 0 R) → ∀ W, Below u.heap.size u W → (Instr.lookup 175 (.map (some nb)) (.string s) true).run Tryz.prog W = .ok (.tuple #[.int .i64 0, .bool false]) W) := hide fun u hu W hW => look_names hu s hsm (by rw [hv]; rfl) (by rw [hv]; rfl) W hW
  have HV := hide hv
  have HT := hide ht
  clear hv ht
  have c3 := h.blk.cell 3
  have cz := h.blk.lt
  have hlk : ∀ W, Below w4.heap.size w4 W → (Instr.lookup 175 (.map (some nb)) (.string s) true).run Tryz.prog W = .ok (.tuple #[.int .i64 0, .bool false]) W := HLK.out w4 h.nm
  have hnz := h.nm.lt
  refine wp_region_text [0, 0, 0, 0, 0, 0, 0, 0, 0, 0, 0, 0] (Below w4.heap.size w4) (by kernel_rfl) (by kernel_rfl) (Below.refl _ _).drew ?_
  iterate 12 (refine wpOrd_q (v := ?_) (by rfl) (fun W hW => ?_) ?_; rotate_left; (focus ((obtain ⟨hWc, hWf⟩ := bcell hW); have hq := hlk W hW; go_simp; try with_reducible rfl)); try simp only [Act.put, List.setIfInBounds_toArray, List.set_cons_zero, List.set_cons_succ])
  refine wpOrd_nil ?_
  clear c3 cz hlk hnz
  go_wp2_with fail
  refine at_world (fun W => Below w.heap.size w W ∧ Blk W w.heap.size 41 #[.string s, .int .u8 (lv.toNat : Int), .int .u16 (ct.toNat : Int), .int .i64 b, .int .i64 n, .int .i64 f, .int .i64 p, .int .i64 q, .int .i64 cl] ∧ ConfIn B W c R K tb nb lb A1 A2 A3 c1 c2 c3) ⟨HB.out.drew, rB.drew, h.drew⟩ (fun W5 h9 => ?_)
  clear h rB HB x0 x1 x2 x3 x4 x5 x6 x7 x8 xl HLK
  obtain ⟨hb1, rB, h⟩ := h9
  have x0 := rB.cell 0
  have x1 := rB.cell 1
  have x2 := rB.cell 2
  have x3 := rB.cell 3
  have x4 := rB.cell 4
  have x5 := rB.cell 5
  have x6 := rB.cell 6
  have x7 := rB.cell 7
  have x8 := rB.cell 8
  have xl := rB.lt
  have HB := hide hb1
  clear hb1
  have c4 := h.blk.cell 4
  have cz := h.blk.lt
  have hlk : ∀ W, Below W5.heap.size W5 W → (Instr.lookup 176 (.map (some lb)) (.agg #[.int .u8 (lv.toNat : Int), .int .u16 (ct.toNat : Int)]) true).run Tryz.prog W = .ok (.tuple #[v, .bool true]) W := HLL.out W5 h.lm
  have hlz := h.lm.lt
  refine wp_region_text [0, 0, 0, 0, 0, 0, 0, 0, 0, 0, 0, 0] (Below W5.heap.size W5) (by kernel_rfl) (by kernel_rfl) (Below.refl _ _).drew ?_
  iterate 12 (refine wpOrd_q (v := ?_) (by rfl) (fun W hW => ?_) ?_; rotate_left; (focus ((obtain ⟨hWc, hWf⟩ := bcell hW); have hq := hlk W hW; go_simp; try with_reducible rfl)); try simp only [Act.put, List.setIfInBounds_toArray, List.set_cons_zero, List.set_cons_succ])
  refine wpOrd_nil ?_
  clear c4 cz hlk hlz
  go_wp2
  go_returns
  exact ⟨rfl, HB.out.drew⟩
end

end Go.Proofs.YthmkgohfeahdhaaGreat

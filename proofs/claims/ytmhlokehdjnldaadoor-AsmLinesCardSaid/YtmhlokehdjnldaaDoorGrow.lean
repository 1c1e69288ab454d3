/- A row that grows by one, whose new element lies in a row made for it. -/
import Derived.Test.YtmhlokehdjnldaaDoorMapR
namespace Go.Proofs.YtmhlokehdjnldaaDoor
open Go.RowKit
set_option linter.unusedSimpArgs false
set_option linter.unusedVariables false

theorem grown_alloc {W0 w' : World} {o : Obj} {row : Option Nat} (h : (W0.alloc o).grownBy w' row) : W0.grownBy w' row :=
  ⟨h.os, h.tape, h.output, Nat.le_trans (by simp) h.size, fun k hk hr => (h.block k (by simp; omega) hr).trans (Below.heap_alloc W0 o k hk)⟩
theorem own_block_ge {w : World} {base n size : Nat} {e : TypeId} {v : Value} {xs : List Value} (h : w.ownsRow base e size v n xs) {g : Nat} (hg : v.ownBlock = some g) : base ≤ g ∧ g < w.heap.size := by
  rcases h.2 with ⟨rfl, _⟩ | ⟨g', cap, cur, rfl, h1, h2, _⟩
  · cases hg
  · simp only [Value.ownBlock, Option.some.injEq] at hg
    subst hg
    exact ⟨h1, (Array.getElem?_eq_some_iff.1 h2).1⟩
theorem grown_below {base n size : Nat} {w w' : World} {e : TypeId} {v : Value} {xs : List Value} (ho : w.ownsRow base e size v n xs) (hb : base ≤ w.heap.size) (h : w.grownBy w' v.ownBlock) : Below base w w' :=
  ⟨h.os, h.tape, h.output, h.size, fun k hk => h.block k (by omega) fun e => by
    have := own_block_ge ho e.symm
    omega⟩
theorem own_at {w : World} {base n size : Nat} {e : TypeId} {v : Value} {xs : List Value} (h : w.ownsRow base e size v n xs) : ∃ A c, v = .slice A n c := by
  obtain ⟨A, c, h, _⟩ := own_form h
  exact ⟨A, c, h⟩

theorem wpList_append_one {P : Program} {w : World} {ops : Array Oper} {rest : List Oper} {o : Oper} {a : Act} {Q : Exit → Act → World → Prop} (hgd : o.guard = none) (s x : Operand) (t : TypeId)
    (ho : o.op = .call { callee := .builtin .append, args := #[s, x], argTypes := #[t, t] })
    (base : Nat) (e : TypeId) (i : TypeInfo) (z : Value) (size bytes : Nat) (ht : P.underlying t = some (.slice e)) (hi : P.info? e = some i) (hz : i.zero = some z)
    (hsize : i.size = size) (hby : i.bytes = bytes) (hzs : z.cells.size = size) (hsz : 0 < size)
    (A : Option Addr) (c n : Nat) (xs news : List Value) (W0 : World) (hs : a.eval s = .slice A n c) (hown : W0.ownsRow base e size (.slice A n c) n xs)
    (hw : w = W0.alloc (.cells news.toArray e)) (hx : a.eval x = .slice (some ⟨W0.heap.size, 0, none⟩) 1 1) (hl : news.length = size) (h1 : ∀ u ∈ news, u.oneCell' = true)
    (hn : n ≤ 1000000) (hb : bytes ≤ 1000) (hbase : base ≤ W0.heap.size)
    (h : ∀ A' c' w', w'.ownsRow base e size (.slice A' (n + 1) c') (n + 1) (xs ++ news) → W0.grownBy w' (Value.slice A n c).ownBlock → Below base W0 w' →
      ((Value.slice A' (n + 1) c').ownBlock = (Value.slice A n c).ownBlock ∨ (Value.slice A' (n + 1) c').ownBlock = some (W0.heap.size + 1)) → wpList P ops Q rest (a.put o.dst (.slice A' (n + 1) c')) w') : wpList P ops Q (o :: rest) a w := by
  subst hw
  have ra := own_lit (w := W0) (base := 0) (e := e) (size := size) (n := 1) (cs := news.toArray) rfl rfl (Nat.zero_le _) (by simp [maxLen]) (by simpa using hl)
  have hown2 := own_below (w' := W0.alloc (.cells news.toArray e)) hown ((Below.refl _ _).alloc (Nat.le_refl _) _)
  have hb2 : (n + 1) * bytes ≤ 1000001 * 1000 := Nat.mul_le_mul (by omega) hb
  refine wpList_append_rd _ hgd s x t ho base e i z size bytes ht hi hz hsize hby hzs hsz (.slice A n c) n xs hs hown2 _ (some ⟨W0.heap.size, 0, none⟩) 1 1 news hx (Rd.of_own ra) h1 (by simp only [maxLen]; omega) (by omega) (by simp; omega) ?_
  intro v' w' h2 h3 _ h5
  obtain ⟨A', c', rfl⟩ := own_at h2
  have hg := grown_alloc h3
  exact h A' c' w' h2 hg (grown_below hown hbase hg) (by rcases h5 with h5 | h5 <;> simp [h5])

end Go.Proofs.YtmhlokehdjnldaaDoor

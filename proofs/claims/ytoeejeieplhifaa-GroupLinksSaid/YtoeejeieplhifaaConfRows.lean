/- Rows of one's own and what leaves them as they are. -/
import Derived.Test.YtoeejeieplhifaaConfNew
import Derived.Test.YtoeejeieplhifaaGrow
import Derived.Laws.Tables
namespace Go.Proofs.Ytoeejeieplhifaa
open Go.RowKit Go.WideMaps
set_option linter.unusedSimpArgs false
set_option linter.unusedVariables false

theorem below_setRow {B g : Nat} {w w' : World} (h : Below B w w') (hg : B ≤ g) (cs : Array Value) : Below B w (w'.setRow g cs) :=
  ⟨h.os, h.tape, h.output, by rw [setRow_size]; exact h.size, fun k hk => (setRow_other w' g k cs (by omega)).trans (h.block k hk)⟩
/-- a row of other elements is not touched -/
theorem own_besides {w w' : World} {B B' n n' s s' : Nat} {e e' : TypeId} {v v' : Value} {xs xs' : List Value} (h : w.ownsRow B e s v n xs) (h' : w.ownsRow B' e' s' v' n' xs') (hne : e ≠ e') (hg : w.grownBy w' v'.ownBlock) : w'.ownsRow B e s v n xs := by
  refine own_keep h fun g hv => ?_
  have hgl := (own_block_ge h hv).2
  refine hg.block g hgl fun e2 => ?_
  rcases h.2 with ⟨rfl, _⟩ | ⟨g1, cap, cur, rfl, _, hh, _⟩
  · cases hv
  · simp only [Value.ownBlock, Option.some.injEq] at hv
    subst hv
    exact blk_not_own_any hh h' hne e2.symm
where blk_not_own_any {w : World} {B' n' s' g : Nat} {e e' : TypeId} {v' : Value} {xs' : List Value} {cur : Array Value} (hh : w.heap[g]? = some (.cells cur e (0, 0))) (h' : w.ownsRow B' e' s' v' n' xs') (hne : e ≠ e') : v'.ownBlock ≠ some g :=
  blk_not_own (t := e) (cs := cur) hh h' hne
theorem Rd.of_blk {w : World} {g sz : Nat} {t : TypeId} {cs : Array Value} {xs : List Value} (h : Blk w g t cs) (hx : cs.toList = xs) (hs : xs.length = sz) : Rd w w.heap.size sz (some ⟨g, 0, none⟩) 1 xs := by
  subst hx
  refine ⟨by simpa using hs, fun _ => ⟨g, 0, rfl, h.lt, fun j u hu => ?_⟩⟩
  rw [Nat.zero_add, h.cell, ← Array.getElem?_toList]
  exact hu

/-- a cell of one's own row, written -/
theorem own_set {w : World} {base g n c i size : Nat} {e : TypeId} {xs : List Value} {u : Value} (h : w.ownsRow base e size (.slice (some ⟨g, 0, none⟩) n c) n xs) :
    (w.setCell ⟨g, i, none⟩ u).ownsRow base e size (.slice (some ⟨g, 0, none⟩) n c) n (xs.set i u) := by
  refine ⟨by simpa using h.1, ?_⟩
  rcases h.2 with ⟨h', _⟩ | ⟨g', cap', cur, h', hg, hh, hnc, hcm, hcs, htake⟩
  · cases h'
  · simp only [Value.slice.injEq, Option.some.injEq, Addr.mk.injEq] at h'
    obtain ⟨⟨rfl, _, _⟩, _, rfl⟩ := h'
    refine .inr ⟨_, _, cur.setIfInBounds i u, rfl, hg, (Blk.set_ (t := e) (cs := cur) hh i u), hnc, hcm, by simpa using hcs, ?_⟩
    rw [Array.toList_setIfInBounds, List.take_set, htake]
theorem own_frozen {w : World} {base g n c i size : Nat} {e : TypeId} {xs : List Value} (h : w.ownsRow base e size (.slice (some ⟨g, 0, none⟩) n c) n xs) : w.frozen? ⟨g, i, none⟩ = false := by
  rcases h.2 with ⟨h', _⟩ | ⟨g', cap', cur, h', hg, hh, _⟩
  · cases h'
  · simp only [Value.slice.injEq, Option.some.injEq, Addr.mk.injEq] at h'
    obtain ⟨⟨rfl, _, _⟩, _, rfl⟩ := h'
    simp [World.frozen?, hh]
theorem own_only {w w' : World} {B n s m : Nat} {e : TypeId} {v : Value} {xs : List Value} {κ : Type} {kv : κ → Value} {L : List (κ × Value)} (h : w.ownsRow B e s v n xs) (hm : MapIs kv w m L) (ho : OnlyMap w w' m) : w'.ownsRow B e s v n xs :=
  own_keep h fun g hv => ho.1.block g (own_block_ge h hv).2 fun e2 => hm.not_own h (hv.trans e2)

theorem rcells_set : ∀ (L : List RegV) (k : Nat) (r : RegV) (c : Int), L[k]? = some r → (rcellsOf L).set (k * 9 + 8) (.int .i64 c) = rcellsOf (L.set k { r with clear := c })
  | [], _, _, _, h => by simp at h
  | x :: rest, 0, r, c, h => by
    simp at h
    subst h
    rfl
  | x :: rest, k + 1, r, c, h => by
    simp at h
    have ih := rcells_set rest k r c h
    rw [List.set_cons_succ]
    show (x.cells ++ rcellsOf rest).set ((k + 1) * 9 + 8) _ = x.cells ++ rcellsOf (rest.set k _)
    rw [← ih, List.set_append]
    have h9 : x.cells.length = 9 := rfl
    rw [if_neg (by rw [h9]; omega), h9]
    congr 2
    omega

theorem ConfIn.base {B B' c tb nb lb c1 c2 c3 : Nat} {w : World} {R : List RegV} {K : List MarkV} {A1 A2 A3 : Option Addr} (h : ConfIn B w c R K tb nb lb A1 A2 A3 c1 c2 c3) (hB : B' ≤ B) : ConfIn B' w c R K tb nb lb A1 A2 A3 c1 c2 c3 :=
  { h with regs := own_mono h.regs hB, marks := own_mono h.marks hB, geos := own_mono h.geos hB, hc := Nat.le_trans hB h.hc, htb := Nat.le_trans hB h.htb, hnb := Nat.le_trans hB h.hnb, hlb := Nat.le_trans hB h.hlb }
end Go.Proofs.Ytoeejeieplhifaa

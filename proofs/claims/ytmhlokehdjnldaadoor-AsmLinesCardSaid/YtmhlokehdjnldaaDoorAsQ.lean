/- Programs' texts: a source in memory: its lines, its places. -/
import Derived.Test.YtmhlokehdjnldaaDoorAsN
import Derived.Test.YtmhlokehdjnldaaDoorGrow
namespace Go.Proofs.YtmhlokehdjnldaaDoor
open Go.RowKit Go.WideMaps
set_option linter.unusedSimpArgs false
set_option linter.unusedVariables false

/-! ### suffixes of one byte -/
theorem suf_one (l : List UInt8) (c : UInt8) : Lib.hasSuffix l [c] = decide (l.getLast? = some c) := by
  unfold Lib.hasSuffix
  cases h : l.reverse with
  | nil =>
    have : l = [] := by simpa using h
    subst this; simp [List.isSuffixOf]
  | cons x t =>
    have : l = t.reverse ++ [x] := by have := congrArg List.reverse h; simpa using this
    subst this
    rw [List.getLast?_append]
    by_cases hx : c = x
    · subst hx; simp [List.isSuffixOf, List.isPrefixOf]
    · have hx' : ¬ x = c := fun e => hx e.symm
      have : (c == x) = false := by simpa using hx
      simp [List.isSuffixOf, List.isPrefixOf, hx', this]
theorem trim_one {l : List UInt8} {c : UInt8} (h : l.getLast? = some c) : Lib.trimSuffix l [c] = l.dropLast := by
  unfold Lib.trimSuffix
  rw [suf_one, h, if_pos (by simp), List.dropLast_eq_take]
  rfl

/-! ### memory -/
/-- a line in memory: at which line it stands, its words: all of a row's from one on -/
structure LnM where
  at_ : Nat
  g : Nat
  off : Nat
  full : List (List UInt8)
def LnM.ws (m : LnM) : List (List UInt8) := m.full.drop m.off
def LnM.cells (m : LnM) : List Value := [.int .i64 (m.at_ : Int), .slice (some ⟨m.g, m.off, none⟩) m.ws.length m.ws.length]
def rowL (Ms : List LnM) : List Value := Ms.flatMap LnM.cells
theorem rowL_snoc (Ms : List LnM) (m : LnM) : rowL (Ms ++ [m]) = rowL Ms ++ m.cells := by simp [rowL]
def lnsM (Ms : List LnM) : List Ln := Ms.map fun m => ⟨m.at_, m.ws⟩
theorem LnM.cells_one (m : LnM) : ∀ u ∈ m.cells, u.oneCell' = true := by intro u hu; simp [LnM.cells] at hu; rcases hu with rfl | rfl <;> rfl
abbrev Strs := List (Nat × Array Value)
def StrsIn (w : World) (Gs : Strs) : Prop := ∀ x ∈ Gs, Blk w x.1 9 x.2
/-- block b is a source -/
structure SrcAt (B : Nat) (w : World) (b mp : Nat) (v : Value) (st : Src) (Ms : List LnM) (Gs : Strs) : Prop where
  blk : Blk w b 59 #[v, .map (some mp), .int .u8 (st.extra : Int), .int .i64 (st.size : Int)]
  map : MapR skv w mp (lbV st.labels)
  own : w.ownsRow B 61 2 v Ms.length (rowL Ms)
  bb : B ≤ b
  bm : B ≤ mp
  lns : st.lines = lnsM Ms
  ins : ∀ m ∈ Ms, (m.g, (svs m.full).toArray) ∈ Gs ∧ m.off < m.full.length
  strs : StrsIn w Gs
  ok : LbOk st.labels
  sz : st.size ≤ 2048
  ex : st.extra ≤ 32
section
variable {B : Nat} {w w' : World} {b mp : Nat} {v : Value} {st : Src} {Ms : List LnM} {Gs : Strs}
theorem SrcAt.labs (h : SrcAt B w b mp v st Ms Gs) : LabsAt w b st.labels := ⟨mp, v, _, _, h.blk, h.map⟩
theorem SrcAt.blt (h : SrcAt B w b mp v st Ms Gs) : b < w.heap.size := h.blk.lt
theorem StrsIn.below (h : StrsIn w Gs) {B' : Nat} (hb : Below B' w w') (h2 : w.heap.size ≤ B') : StrsIn w' Gs := fun x hx => (h x hx).below hb (by have := (h x hx).lt; omega)
theorem SrcAt.below (h : SrcAt B w b mp v st Ms Gs) (hb : Below w.heap.size w w') : SrcAt B w' b mp v st Ms Gs :=
  ⟨h.blk.below hb h.blk.lt, h.map.below hb h.map.lt, own_below h.own hb, h.bb, h.bm, h.lns, h.ins, h.strs.below hb (Nat.le_refl _), h.ok, h.sz, h.ex⟩
theorem SrcAt.add (h : SrcAt B w b mp v st Ms Gs) {g : Nat} {cs : Array Value} (hg : Blk w g 9 cs) : SrcAt B w b mp v st Ms ((g, cs) :: Gs) :=
  ⟨h.blk, h.map, h.own, h.bb, h.bm, h.lns, fun m hm => ⟨List.mem_cons_of_mem _ (h.ins m hm).1, (h.ins m hm).2⟩, fun x hx => by
    rcases List.mem_cons.1 hx with rfl | hx
    · exact hg
    · exact h.strs x hx, h.ok, h.sz, h.ex⟩
theorem SrcAt.str (h : SrcAt B w b mp v st Ms Gs) {g : Nat} {cs : Array Value} (hm : (g, cs) ∈ Gs) : Blk w g 9 cs := h.strs _ hm
/-- a place more -/
theorem SrcAt.label (h : SrcAt B w b mp v st Ms Gs) {nm : List UInt8} (hm : MapR skv w' mp (mput (lbV st.labels) (skey nm) (.int .i64 (st.size : Int)))) (ho : OnlyMap w w' mp) (hn : mget st.labels nm = none) (hl : nm.length ≤ 16) :
    SrcAt B w' b mp v { st with labels := st.labels ++ [(nm, st.size)] } Ms Gs := by
  have hmx : nm.length ≤ maxLen := by simp only [maxLen]; omega
  have hput : mput (lbV st.labels) (skey nm) (.int .i64 (st.size : Int)) = lbV (st.labels ++ [(nm, st.size)]) := by
    rw [mput_none_of]
    · simp [lbV]
    · intro x hx e
      obtain ⟨y, hy, rfl⟩ := List.mem_map.1 hx
      have h16 := (h.ok y hy).1
      have := congrArg Subtype.val e
      rw [skey_val (by simp only [maxLen]; omega), skey_val hmx] at this
      have hg := mget_none_iff.1 hn
      exact hg (List.mem_map.2 ⟨y, hy, this⟩)
  rw [hput] at hm
  have hg := ho.1
  refine ⟨h.blk.grown hg (fun e => blk_not_map h.blk h.map.is (Option.some.inj e)), hm, own_keep h.own fun g hv => hg.block g ?_ ?_, h.bb, h.bm, h.lns, h.ins, fun x hx => (h.strs x hx).grown hg (fun e => blk_not_map (h.strs x hx) h.map.is (Option.some.inj e)), ?_, h.sz, h.ex⟩
  · rcases h.own.2 with ⟨rfl, _⟩ | ⟨g', cap, cur, rfl, _, hh, _⟩
    · cases hv
    · simp only [Value.ownBlock, Option.some.injEq] at hv
      subst hv
      exact (Array.getElem?_eq_some_iff.1 hh).1
  · intro e
    exact h.map.is.not_own h.own (by rw [hv, e])
  · intro x hx
    rcases List.mem_append.1 hx with hx | hx
    · exact h.ok x hx
    · rw [List.mem_singleton] at hx; subst hx; exact ⟨hl, h.sz⟩
/-- a cell of the source is another -/
theorem SrcAt.cell_ (h : SrcAt B w b mp v st Ms Gs) {i : Nat} {u : Value} {st' : Src}
    (hb : Blk (w.setCell ⟨b, i, none⟩ u) b 59 #[v, .map (some mp), .int .u8 (st'.extra : Int), .int .i64 (st'.size : Int)]) (hl : st'.labels = st.labels) (hln : st'.lines = st.lines) (hs : st'.size ≤ 2048) (he : st'.extra ≤ 32) :
    SrcAt B (w.setCell ⟨b, i, none⟩ u) b mp v st' Ms Gs := by
  have hk : ∀ k, k ≠ b → (w.setCell ⟨b, i, none⟩ u).heap[k]? = w.heap[k]? := fun k hk => Below.heap_setCell _ _ _ _ (fun e => hk e)
  refine ⟨hb, ?_, own_keep h.own fun g hv => hk g fun e => ?_, h.bb, h.bm, hln.trans h.lns, h.ins, fun x hx => (h.strs x hx).far (p := ⟨b, i, none⟩) ((h.strs x hx).ne h.blk (by decide)) u, by rw [hl]; exact h.ok, hs, he⟩
  · rw [hl]; exact h.map.keep (hk mp fun e => blk_not_map h.blk h.map.is e.symm)
  · exact blk_not_own h.blk h.own (by decide) (by rw [hv, e])
/-- a line more -/
theorem SrcAt.line (h : SrcAt B w b mp v st Ms Gs) {m : LnM} {A' : Option Addr} {c' : Nat} (hown : w'.ownsRow B 61 2 (.slice A' (Ms.length + 1) c') (Ms.length + 1) (rowL Ms ++ m.cells)) (hg : w.grownBy w' v.ownBlock) (hm : (m.g, (svs m.full).toArray) ∈ Gs) (ho : m.off < m.full.length) :
    SrcAt B (w'.setCell ⟨b, 0, none⟩ (.slice A' (Ms.length + 1) c')) b mp (.slice A' (Ms.length + 1) c') { st with lines := st.lines ++ [⟨m.at_, m.ws⟩] } (Ms ++ [m]) Gs := by
  have hbl := h.blk.grown hg (fun e => blk_not_own h.blk h.own (by decide) e.symm)
  have hk : ∀ k, k ≠ b → (w'.setCell ⟨b, 0, none⟩ (.slice A' (Ms.length + 1) c')).heap[k]? = w'.heap[k]? := fun k hk => Below.heap_setCell _ _ _ _ (fun e => hk e)
  refine ⟨hbl.set_ 0 _, ?_, ?_, h.bb, h.bm, by rw [h.lns]; simp [lnsM], ?_, fun x hx => ?_, h.ok, h.sz, h.ex⟩
  · refine (h.map.keep ?_).keep (hk mp fun e => blk_not_map h.blk h.map.is e.symm)
    exact hg.block mp h.map.lt (fun e => h.map.is.not_own h.own e.symm)
  · rw [rowL_snoc, List.length_append, List.length_singleton]
    refine own_keep hown fun g hv => hk g fun e => ?_
    exact blk_not_own hbl hown (by decide) (by rw [hv, e])
  · intro x hx
    rcases List.mem_append.1 hx with hx | hx
    · exact h.ins x hx
    · rw [List.mem_singleton] at hx; subst hx; exact ⟨hm, ho⟩
  · exact ((h.strs x hx).grown hg (fun e => blk_not_own (h.strs x hx) h.own (by decide) e.symm)).far (p := ⟨b, 0, none⟩) ((h.strs x hx).ne h.blk (by decide)) _
end
/-- the words of a line read as they do -/
theorem rd_line {w : World} {g : Nat} {full : List (List UInt8)} (h : Blk w g 9 (svs full).toArray) (off : Nat) (A : Option Addr) (hA : 0 < (full.drop off).length → A = some ⟨g, off, none⟩) :
    Rd w w.heap.size 1 A (full.drop off).length (svs (full.drop off)) := by
  refine ⟨by simp [svs], fun hp => ⟨g, off, hA hp, h.lt, fun j u hj => ?_⟩⟩
  rw [h.cell, List.getElem?_toArray]
  have e : svs (full.drop off) = (svs full).drop off := by unfold svs; rw [List.map_drop]
  rw [e, List.getElem?_drop] at hj
  exact hj
end Go.Proofs.YtmhlokehdjnldaaDoor

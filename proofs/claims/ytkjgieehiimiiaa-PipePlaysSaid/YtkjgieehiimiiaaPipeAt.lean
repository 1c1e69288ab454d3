/- Layer 21, pipes: what a pointer at pipes stands for, and each method's contract in these words. -/
import Derived.Test.YtkjgieehiimiiaaPipe
namespace Go.Proofs.Ytkjgieehiimiiaa
open Go.RowKit

/-- what a pipe has: its bytes; its ends that read, that write -/
abbrev PVal := List UInt8 × Nat × Nat
abbrev PL := List (PKey × PVal)

/-- the block of a pipe's bytes -/
def pown (v : Value) : Option Nat :=
  match v with
  | .agg cs => (cs.getD 0 (.bool false)).ownBlock
  | _ => none
theorem pown_mk (A : Option Addr) (n c : Nat) (x y : Value) : pown (.agg #[.slice A n c, x, y]) = (Value.slice A n c).ownBlock := rfl

def PV (w : World) (F : Nat → Prop) (v : Value) (x : PVal) : Prop :=
  ∃ A c, v = .agg #[.slice A x.1.length c, .int .i64 (x.2.1 : Int), .int .i64 (x.2.2 : Int)] ∧ w.ownsRow 0 5 1 (.slice A x.1.length c) x.1.length (bvs x.1) ∧ (∀ g, (Value.slice A x.1.length c).ownBlock = some g → F g) ∧ x.1.length ≤ 256

structure PipesIn (w : World) (p : Nat) (F : Nat → Prop) (L : PL) (nx : List UInt16) (mb : Nat) (M : List (PKey × Value)) : Prop where
  blk : Blk w p 80 (pcells mb nx)
  map : MapIs pkv w mb M
  fp : F p
  fm : F mb
  lt : ∀ b, F b → b < w.heap.size
  keys : M.map (·.1) = L.map (·.1)
  vals : ∀ k v, mget M k = some v → ∃ x, mget L k = some x ∧ PV w F v x
  apart : ∀ k k' v v' g, k ≠ k' → mget M k = some v → mget M k' = some v' → pown v = some g → pown v' ≠ some g

/-- At p stand the pipes L, the next numbers nx, in blocks of F alone. -/
def PipesAt (w : World) (p : Nat) (F : Nat → Prop) (L : PL) (nx : List UInt16) : Prop := ∃ mb M, PipesIn w p F L nx mb M

/-- What a call on pipes with the blocks F leaves: of old memory only blocks of F may have changed; pipes with the blocks F' stand in F, or in new memory. -/
structure Went (w w' : World) (F F' : Nat → Prop) : Prop where
  tch : Tch w.heap.size F w w'
  sub : ∀ b, F' b → F b ∨ w.heap.size ≤ b

section
variable {w w' : World} {p mb : Nat} {F F' : Nat → Prop} {L : PL} {nx : List UInt16} {M : List (PKey × Value)}

theorem PV.keep {v : Value} {x : PVal} (h : PV w F v x) (hF : ∀ b, F b → F' b) (hb : ∀ g, pown v = some g → w'.heap[g]? = w.heap[g]?) : PV w' F' v x := by
  obtain ⟨A, c, rfl, ho, hf, hl⟩ := h
  exact ⟨A, c, rfl, own_keep ho hb, fun g hg => hF g (hf g hg), hl⟩

theorem PipesIn.nodup (h : PipesIn w p F L nx mb M) : (L.map (·.1)).Nodup := h.keys ▸ h.map.nodup
theorem PipesIn.len (h : PipesIn w p F L nx mb M) : M.length = L.length := by simpa using congrArg List.length h.keys
theorem PipesIn.none_iff (h : PipesIn w p F L nx mb M) (k : PKey) : mget M k = none ↔ mget L k = none := by rw [mget_none_iff, mget_none_iff, h.keys]
theorem PipesIn.some_of (h : PipesIn w p F L nx mb M) {k : PKey} {x : PVal} (hx : mget L k = some x) : ∃ v, mget M k = some v ∧ PV w F v x := by
  cases hv : mget M k with
  | none => rw [(h.none_iff k).1 hv] at hx; cases hx
  | some v =>
    obtain ⟨x', hx', hp⟩ := h.vals k v hv
    rw [hx] at hx'
    cases hx'
    exact ⟨v, rfl, hp⟩
theorem PipesIn.shaped (h : PipesIn w p F L nx mb M) : Shaped M := by
  intro k v hv
  obtain ⟨x, _, A, c, rfl, _⟩ := h.vals k v hv
  exact ⟨_, _, _, _, _, rfl⟩
/-- Pipes stay what they are where their blocks do. -/
theorem PipesIn.keep (h : PipesIn w p F L nx mb M) (hk : ∀ b, F b → w'.heap[b]? = w.heap[b]?) (hs : w.heap.size ≤ w'.heap.size) : PipesIn w' p F L nx mb M where
  blk := (hk p h.fp).trans h.blk
  map := h.map.keep (hk mb h.fm)
  fp := h.fp
  fm := h.fm
  lt := fun b hb => Nat.lt_of_lt_of_le (h.lt b hb) hs
  keys := h.keys
  vals := fun k v hv => by
    obtain ⟨x, hx, hp⟩ := h.vals k v hv
    obtain ⟨A, c, rfl, ho, hf, hl⟩ := hp
    exact ⟨x, hx, A, c, rfl, own_keep ho (fun g hg => hk g (hf g hg)), hf, hl⟩
  apart := h.apart
theorem PipesAt.keep (h : PipesAt w p F L nx) (hk : ∀ b, F b → w'.heap[b]? = w.heap[b]?) (hs : w.heap.size ≤ w'.heap.size) : PipesAt w' p F L nx := by
  obtain ⟨mb, M, h⟩ := h
  exact ⟨mb, M, h.keep hk hs⟩
theorem PipesAt.lt (h : PipesAt w p F L nx) : ∀ b, F b → b < w.heap.size := by
  obtain ⟨mb, M, h⟩ := h
  exact h.lt
theorem PipesAt.below (h : PipesAt w p F L nx) (hb : Below w.heap.size w w') : PipesAt w' p F L nx := h.keep (fun b hf => hb.block b (h.lt b hf)) hb.size
theorem PipesAt.drew (h : PipesAt w p F L nx) : PipesAt w.drew p F L nx := h.keep (fun _ _ => rfl) (Nat.le_refl _)
/-- Other pipes stay. -/
theorem PipesAt.other {F1 F1' : Nat → Prop} (h : PipesAt w p F L nx) (hW : Went w w' F1 F1') (hd : ∀ b, F b → ¬ F1 b) : PipesAt w' p F L nx :=
  h.keep (fun b hf => hW.tch.block b (h.lt b hf) (hd b hf)) hW.tch.size
theorem Went.of_below (hb : Below w.heap.size w w') : Went w w' F F := ⟨Tch.of_below hb, fun _ h => .inl h⟩

theorem PipesIn.put {k : PKey} {v' : Value} {x' : PVal} (h : PipesIn w p F L nx mb M)
    (hT : Tch w.heap.size (fun b => b = mb ∨ ∃ v, mget M k = some v ∧ pown v = some b) w w') (hM' : MapIs pkv w' mb (mput M k v')) (hPV : PV w' F' v' x')
    (hF : ∀ b, F b → F' b) (hF' : ∀ b, F' b → b < w'.heap.size)
    (hnew : ∀ g, pown v' = some g → (∃ v, mget M k = some v ∧ pown v = some g) ∨ w.heap.size ≤ g) :
    PipesIn w' p F' (mput L k x') nx mb (mput M k v') := by
  have hrow : ∀ k1 v1 g, mget M k1 = some v1 → pown v1 = some g → g < w.heap.size ∧ g ≠ mb ∧ g ≠ p := by
    intro k1 v1 g h1 hg
    obtain ⟨x1, _, A, c, rfl, ho, hf, hl⟩ := h.vals k1 v1 h1
    rw [pown_mk] at hg
    refine ⟨h.lt g (hf g hg), fun e => h.map.not_own ho (e ▸ hg), fun e => blk_not_own h.blk ho (by decide) (e ▸ hg)⟩
  have hpm : p ≠ mb := fun e => blk_not_map h.blk h.map e
  refine ⟨?_, hM', hF _ h.fp, hF _ h.fm, hF', ?_, ?_, ?_⟩
  · refine (hT.block p h.blk.lt ?_).trans h.blk
    rintro (e | ⟨v, hv, hg⟩)
    · exact hpm e
    · exact (hrow k v p hv hg).2.2 rfl
  · rw [mput_keys, mput_keys, h.keys]
  · intro k1 v1 h1
    rw [mget_put] at h1 ⊢
    by_cases e : k = k1
    · rw [if_pos e] at h1 ⊢
      cases h1
      exact ⟨x', rfl, hPV⟩
    · rw [if_neg e] at h1 ⊢
      obtain ⟨x1, hx1, hp1⟩ := h.vals k1 v1 h1
      refine ⟨x1, hx1, hp1.keep hF (fun g hg => hT.block g (hrow k1 v1 g h1 hg).1 ?_)⟩
      rintro (e' | ⟨v, hv, hg'⟩)
      · exact (hrow k1 v1 g h1 hg).2.1 e'
      · exact h.apart k k1 v v1 g e hv h1 hg' hg
  · intro k1 k2 v1 v2 g hne h1 h2 hg1 hg2
    rw [mget_put] at h1 h2
    by_cases e1 : k = k1
    · by_cases e2 : k = k2
      · exact hne (e1.symm.trans e2)
      · rw [if_pos e1] at h1
        rw [if_neg e2] at h2
        cases h1
        rcases hnew g hg1 with ⟨v, hv, hg⟩ | hle
        · exact h.apart k k2 v v2 g e2 hv h2 hg hg2
        · have := (hrow k2 v2 g h2 hg2).1; omega
    · rw [if_neg e1] at h1
      by_cases e2 : k = k2
      · rw [if_pos e2] at h2
        cases h2
        rcases hnew g hg2 with ⟨v, hv, hg⟩ | hle
        · exact h.apart k k1 v v1 g e1 hv h1 hg hg1
        · have := (hrow k1 v1 g h1 hg1).1; omega
      · rw [if_neg e2] at h2
        exact h.apart k1 k2 v1 v2 g hne h1 h2 hg1 hg2

/-- what a key has: nothing -/
theorem PipesIn.at_none {k : PKey} (h : PipesIn w p F L nx mb M) (hx : mget L k = none) :
    (mget M k).getD pzero = .agg #[.slice none 0 0, .int .i64 ((0 : Nat) : Int), .int .i64 ((0 : Nat) : Int)] ∧ (mget M k).isSome = false := by
  rw [(h.none_iff k).2 hx]
  exact ⟨rfl, rfl⟩
/-- what a key has: a pipe -/
theorem PipesIn.at_some {k : PKey} {l : List UInt8} {r s : Nat} (h : PipesIn w p F L nx mb M) (hx : mget L k = some (l, r, s)) :
    ∃ A c, mget M k = some (.agg #[.slice A l.length c, .int .i64 (r : Int), .int .i64 (s : Int)]) ∧ (mget M k).getD pzero = .agg #[.slice A l.length c, .int .i64 (r : Int), .int .i64 (s : Int)] ∧ (mget M k).isSome = true ∧
      w.ownsRow 0 5 1 (.slice A l.length c) l.length (bvs l) ∧ l.length ≤ 256 ∧ ∀ g, (Value.slice A l.length c).ownBlock = some g → F g := by
  obtain ⟨v, hv, A, c, rfl, ho, hf, hl⟩ := h.some_of hx
  exact ⟨A, c, hv, by rw [hv]; rfl, by rw [hv]; rfl, ho, hl, hf⟩
/-- behind a call that has written key k -/
theorem PipesIn.post {k : PKey} {A' : Option Addr} {n' c' r' s' : Nat} {l' : List UInt8} (E : Nat → Prop) (h : PipesIn w p F L nx mb M)
    (hT : Tch w.heap.size (fun b => b = mb ∨ ∃ v, mget M k = some v ∧ pown v = some b) w w')
    (hM' : MapIs pkv w' mb (mput M k (.agg #[.slice A' n' c', .int .i64 (r' : Int), .int .i64 (s' : Int)])))
    (hown : w'.ownsRow 0 5 1 (.slice A' n' c') n' (bvs l')) (hln : l'.length = n') (hl : n' ≤ 256)
    (hnew : ∀ g, (Value.slice A' n' c').ownBlock = some g → (∃ v, mget M k = some v ∧ pown v = some g) ∨ w.heap.size ≤ g ∧ ¬ E g)
    (hE : ∀ b, E b → w.heap.size ≤ b) :
    ∃ F', PipesAt w' p F' (mput L k (l', r', s')) nx ∧ Went w w' F F' ∧ ∀ b, E b → ¬ F' b := by
  subst hln
  have hold : ∀ v g, mget M k = some v → pown v = some g → F g := by
    intro v g hv hg
    obtain ⟨x1, _, A, c, rfl, ho, hf, hl⟩ := h.vals k v hv
    exact hf g hg
  have hF1 : ∀ b, F b → b < w'.heap.size := fun b hb => Nat.lt_of_lt_of_le (h.lt b hb) hT.size
  refine ⟨fun b => (F b ∨ w.heap.size ≤ b ∧ ¬ E b) ∧ b < w'.heap.size, ⟨mb, _, h.put hT hM' ⟨A', c', rfl, hown, ?_, hl⟩ (fun b hb => ⟨.inl hb, hF1 b hb⟩) (fun b hb => hb.2) ?_⟩, ⟨hT.mono (Nat.le_refl _) ?_, fun b hb => hb.1.imp id And.left⟩, ?_⟩
  · intro g hg
    refine ⟨?_, (hown.lt g hg).2⟩
    rcases hnew g hg with ⟨v, hv, hg'⟩ | hle
    · exact .inl (hold v g hv hg')
    · exact .inr hle
  · intro g hg
    rcases hnew g hg with h1 | hle
    · exact .inl h1
    · exact .inr hle.1
  · rintro b hb (rfl | ⟨v, hv, hg⟩)
    · exact h.fm
    · exact hold v b hv hg
  · rintro b hb ⟨h1 | h1, _⟩
    · have := h.lt b h1; have := hE b hb; omega
    · exact h1.2 hb

def pjoin (L : PL) (k : PKey) (rd wr : Bool) : PL :=
  let x := (mget L k).getD ([], 0, 0)
  mput L k (x.1, x.2.1 + rd.toNat, x.2.2 + wr.toNat)

theorem join_at (h : PipesAt w p F L nx) (nm : Bool) (lb : UInt8) (nu ge : UInt16) (rd wr : Bool) (hrw : (rd || wr) = true)
    (hr : ((mget L (nm, lb, nu, ge)).getD ([], 0, 0)).2.1 < 60000) (hs : ((mget L (nm, lb, nu, ge)).getD ([], 0, 0)).2.2 < 60000) :
    Calls Try.prog 16 #[.pointer (some ⟨p, 0, none⟩), .agg #[.bool nm, .int .u8 (lb.toNat : Int), .int .u16 (nu.toNat : Int), .int .u16 (ge.toNat : Int)], .bool rd, .bool wr] w fun e w' =>
      e = .returned (.tuple #[]) ∧ ∃ F', PipesAt w' p F' (pjoin L (nm, lb, nu, ge) rd wr) nx ∧ Went w w' F F' := by
  obtain ⟨mb, M, h⟩ := h
  have key : ∀ A n c r s l, (mget M (nm, lb, nu, ge)).getD pzero = .agg #[.slice A n c, .int .i64 ((r : Nat) : Int), .int .i64 ((s : Nat) : Int)] → (mget L (nm, lb, nu, ge)).getD ([], 0, 0) = (l, r, s) → l.length = n → n ≤ 256 →
      w.ownsRow 0 5 1 (.slice A n c) n (bvs l) → (∀ g, (Value.slice A n c).ownBlock = some g → ∃ v, mget M (nm, lb, nu, ge) = some v ∧ pown v = some g) →
      Calls Try.prog 16 #[.pointer (some ⟨p, 0, none⟩), .agg #[.bool nm, .int .u8 (lb.toNat : Int), .int .u16 (nu.toNat : Int), .int .u16 (ge.toNat : Int)], .bool rd, .bool wr] w fun e w' =>
      e = .returned (.tuple #[]) ∧ ∃ F', PipesAt w' p F' (pjoin L (nm, lb, nu, ge) rd wr) nx ∧ Went w w' F F' := by
    intro A n c r s l hv hL hln hn hown hol
    rw [hL] at hr hs
    have fin : ∀ (r' s' : Nat) w', r' = r + rd.toNat → s' = s + wr.toNat → MapIs pkv w' mb (mput M (nm, lb, nu, ge) (.agg #[.slice A n c, .int .i64 (r' : Int), .int .i64 (s' : Int)])) → Tch w.heap.size (· = mb) w w' →
        ∃ F', PipesAt w' p F' (pjoin L (nm, lb, nu, ge) rd wr) nx ∧ Went w w' F F' := by
      intro r' s' w' e1 e2 hM' hT
      obtain ⟨F', h1, h2, _⟩ := h.post (k := (nm, lb, nu, ge)) (l' := l) (r' := r') (s' := s') (fun _ => False) (hT.mono (Nat.le_refl _) (fun b _ e => .inl e)) hM'
        (own_keep hown (fun g hg => hT.block g (hown.lt g hg).2 (fun e => h.map.not_own hown (e ▸ hg)))) hln hn (fun g hg => .inl (hol g hg)) (fun _ hb => hb.elim)
      refine ⟨F', ?_, h2⟩
      unfold pjoin
      subst e1 e2
      rw [hL]
      exact h1
    cases rd <;> cases wr
    · cases hrw
    · refine (join_w p mb nx M nm lb nu ge w A n c r s h.blk h.map hv hr hs).mono ?_
      rintro e w' ⟨rfl, hM', hT⟩
      exact ⟨rfl, fin r (s + 1) w' rfl rfl (by simpa using hM') hT⟩
    · refine (join_r p mb nx M nm lb nu ge w A n c r s h.blk h.map hv hr hs).mono ?_
      rintro e w' ⟨rfl, hM', hT⟩
      exact ⟨rfl, fin (r + 1) s w' rfl rfl (by simpa using hM') hT⟩
    · refine (join_rw p mb nx M nm lb nu ge w A n c r s h.blk h.map hv hr hs).mono ?_
      rintro e w' ⟨rfl, hM', hT⟩
      exact ⟨rfl, fin (r + 1) (s + 1) w' rfl rfl (by simpa using hM') hT⟩
  cases hx : mget L (nm, lb, nu, ge) with
  | none => exact key none 0 0 0 0 [] (h.at_none hx).1 (by rw [hx]; rfl) rfl (by omega) (World.ownsRow_nil _ _ _ _) (fun g hg => by cases hg)
  | some x =>
    obtain ⟨l, r, s⟩ := x
    obtain ⟨A, c, h1, h2, _, ho, hl, _⟩ := h.at_some hx
    exact key A l.length c r s l h2 (by rw [hx]; rfl) rfl hl ho (fun g hg => ⟨_, h1, hg⟩)

/-- Write's answer: how many, which error, what there is then -/
def pwrite (L : PL) (k : PKey) (b : List UInt8) : Nat × Int × PL :=
  match mget L k with
  | none => (0, 3, L)
  | some (l, r, s) =>
    if r = 0 then (0, 21, L)
    else if l.length = 256 ∧ b ≠ [] then (0, 33, L)
    else (min b.length (256 - l.length), 0, mput L k (l ++ b.take (min b.length (256 - l.length)), r, s))

theorem write_at (h : PipesAt w p F L nx) (nm : Bool) (lb : UInt8) (nu ge : UInt16) (A2 : Option Addr) (n2 c2 : Nat) (b : List UInt8) (hr2 : Rd w w.heap.size 1 A2 n2 (bvs b)) (hnc2 : n2 ≤ c2) (hn2 : n2 < 60000)
    (hr : ((mget L (nm, lb, nu, ge)).getD ([], 0, 0)).2.1 < 60000) (hs : ((mget L (nm, lb, nu, ge)).getD ([], 0, 0)).2.2 < 60000) :
    Calls Try.prog 17 #[.pointer (some ⟨p, 0, none⟩), .agg #[.bool nm, .int .u8 (lb.toNat : Int), .int .u16 (nu.toNat : Int), .int .u16 (ge.toNat : Int)], .slice A2 n2 c2] w fun e w' =>
      e = .returned (.tuple #[.int .i64 ((pwrite L (nm, lb, nu, ge) b).1 : Int), .int .i64 (pwrite L (nm, lb, nu, ge) b).2.1]) ∧ ∃ F', PipesAt w' p F' (pwrite L (nm, lb, nu, ge) b).2.2 nx ∧ Went w w' F F' := by
  obtain ⟨mb, M, h⟩ := h
  have hbl : b.length = n2 := by have := hr2.len; rw [bvs_length] at this; omega
  have same : ∀ w', Below w.heap.size w w' → ∃ F', PipesAt w' p F' L nx ∧ Went w w' F F' := fun w' hb => ⟨F, PipesAt.below ⟨mb, M, h⟩ hb, Went.of_below hb⟩
  cases hx : mget L (nm, lb, nu, ge) with
  | none =>
    obtain ⟨e1, e2⟩ := h.at_none hx
    refine (write_none p mb nx M nm lb nu ge w none 0 0 0 0 h.blk h.map e1 (by omega) (by omega) e2 A2 n2 c2).mono ?_
    rintro e w' ⟨rfl, hb⟩
    simp only [pwrite, hx]
    exact ⟨rfl, same w' hb⟩
  | some x =>
    obtain ⟨l, r, s⟩ := x
    rw [hx] at hr hs
    obtain ⟨A, c, h1, h2, h3, ho, hl, hf⟩ := h.at_some hx
    have hol : ∀ g, (Value.slice A l.length c).ownBlock = some g → ∃ v, mget M (nm, lb, nu, ge) = some v ∧ pown v = some g := fun g hg => ⟨_, h1, hg⟩
    simp only [pwrite, hx]
    rcases Nat.eq_zero_or_pos r with hr0 | hr0
    · subst hr0
      refine (write_nobody p mb nx M nm lb nu ge w A l.length c s h.blk h.map h2 hs h3 A2 n2 c2).mono ?_
      rintro e w' ⟨rfl, hb⟩
      simp only [if_true]
      exact ⟨rfl, same w' hb⟩
    · rw [if_neg (by omega)]
      have fin : ∀ (k : Nat) (A' : Option Addr) (c' : Nat) w', k = min b.length (256 - l.length) → w'.ownsRow 0 5 1 (.slice A' (l.length + k) c') (l.length + k) (bvs (l ++ b.take k)) →
          MapIs pkv w' mb (mput M (nm, lb, nu, ge) (.agg #[.slice A' (l.length + k) c', .int .i64 (r : Int), .int .i64 (s : Int)])) →
          ((Value.slice A' (l.length + k) c').ownBlock = (Value.slice A l.length c).ownBlock ∨ ∃ g, (Value.slice A' (l.length + k) c').ownBlock = some g ∧ w.heap.size ≤ g) →
          Tch w.heap.size (fun x => x = mb ∨ (Value.slice A l.length c).ownBlock = some x) w w' →
          ∃ F', PipesAt w' p F' (mput L (nm, lb, nu, ge) (l ++ b.take (min b.length (256 - l.length)), r, s)) nx ∧ Went w w' F F' := by
        intro k A' c' w' hk hown hM' hat hT
        obtain ⟨F', g1, g2, _⟩ := h.post (k := (nm, lb, nu, ge)) (l' := l ++ b.take k) (r' := r) (s' := s) (fun _ => False) (hT.mono (Nat.le_refl _) (fun b _ e => e.imp id (hol b))) hM' hown (by simp; omega) (by omega)
          (fun g hg => by
            rcases hat with e | ⟨g', e, hle⟩
            · exact .inl (hol g (e ▸ hg))
            · rw [e] at hg; cases hg; exact .inr ⟨hle, fun hf => hf⟩) (fun _ hb => hb.elim)
        rw [← hk]
        exact ⟨F', g1, g2⟩
      by_cases hfull : l.length = 256 ∧ b ≠ []
      · rw [if_pos hfull]
        have hb0 : 0 < n2 := by have := List.length_pos_iff.2 hfull.2; omega
        have h2' := h2
        rw [hfull.1] at h2'
        refine (write_wait p mb nx M nm lb nu ge w A c r s h.blk h.map h2' hr hs h3 hr0 A2 n2 c2 hn2 hb0).mono ?_
        rintro e w' ⟨rfl, hb⟩
        exact ⟨rfl, same w' hb⟩
      · rw [if_neg hfull]
        rcases Nat.eq_zero_or_pos n2 with h0 | h0
        · subst h0
          refine (write_zero p mb nx M nm lb nu ge w A l.length c r s h.blk h.map h2 hr hs h3 hr0 l ho A2 c2 b hr2 hl).mono ?_
          rintro e w' ⟨A', c', rfl, g1, g2, g3, g4⟩
          rw [show min b.length (256 - l.length) = 0 by omega]
          have := fin 0 A' c' w' (by omega) g1 g2 g3 g4
          rw [show min b.length (256 - l.length) = 0 by omega] at this
          exact ⟨rfl, this⟩
        · by_cases hk : n2 + l.length ≤ 256
          · refine (write_fits p mb nx M nm lb nu ge w A l.length c r s h.blk h.map h2 hr hs h3 hr0 l ho A2 n2 c2 b hr2 hnc2 hn2 hl hk h0).mono ?_
            rintro e w' ⟨A', c', rfl, g1, g2, g3, g4⟩
            refine ⟨?_, fin n2 A' c' w' (by omega) g1 g2 g3 g4⟩
            rw [show min b.length (256 - l.length) = n2 by omega]
          · have hne : l.length ≠ 256 := fun e => hfull ⟨e, fun e' => by rw [e'] at hbl; simp at hbl; omega⟩
            refine (write_part p mb nx M nm lb nu ge w A l.length c r s h.blk h.map h2 hr hs h3 hr0 l ho A2 n2 c2 (256 - l.length) b hr2 hnc2 hl (by omega) (by omega) (by omega)).mono ?_
            rintro e w' ⟨A', c', rfl, g1, g2, g3, g4⟩
            refine ⟨?_, fin (256 - l.length) A' c' w' (by omega) g1 g2 g3 g4⟩
            rw [show min b.length (256 - l.length) = 256 - l.length by omega]

/-- Read's answer: which bytes, which error, what there is then -/
def pread (L : PL) (k : PKey) (m : Int) : List UInt8 × Int × PL :=
  match mget L k with
  | none => ([], 3, L)
  | some (l, r, s) =>
    if m < 0 then ([], 27, L)
    else if l = [] ∧ 0 < s ∧ 0 < m then ([], 33, L)
    else (l.take m.toNat, 0, mput L k (l.drop m.toNat, r, s))

theorem read_at (h : PipesAt w p F L nx) (nm : Bool) (lb : UInt8) (nu ge : UInt16) (m : Int)
    (hr : ((mget L (nm, lb, nu, ge)).getD ([], 0, 0)).2.1 < 60000) (hs : ((mget L (nm, lb, nu, ge)).getD ([], 0, 0)).2.2 < 60000) :
    Calls Try.prog 19 #[.pointer (some ⟨p, 0, none⟩), .agg #[.bool nm, .int .u8 (lb.toNat : Int), .int .u16 (nu.toNat : Int), .int .u16 (ge.toNat : Int)], .int .i64 m] w fun e w' => ∃ A1 n1 c1,
      e = .returned (.tuple #[.slice A1 n1 c1, .int .i64 (pread L (nm, lb, nu, ge) m).2.1]) ∧ w'.ownsRow w.heap.size 5 1 (.slice A1 n1 c1) n1 (bvs (pread L (nm, lb, nu, ge) m).1) ∧
      ∃ F', PipesAt w' p F' (pread L (nm, lb, nu, ge) m).2.2 nx ∧ Went w w' F F' ∧ ∀ g, (Value.slice A1 n1 c1).ownBlock = some g → ¬ F' g := by
  obtain ⟨mb, M, h⟩ := h
  have same : ∀ w', Below w.heap.size w w' → ∃ F', PipesAt w' p F' L nx ∧ Went w w' F F' ∧ ∀ g, (Value.slice none 0 0).ownBlock = some g → ¬ F' g := fun w' hb => ⟨F, PipesAt.below ⟨mb, M, h⟩ hb, Went.of_below hb, fun g hg => by cases hg⟩
  cases hx : mget L (nm, lb, nu, ge) with
  | none =>
    obtain ⟨e1, e2⟩ := h.at_none hx
    refine (read_none p mb nx M nm lb nu ge w none 0 0 0 0 h.blk h.map e1 (by omega) (by omega) e2 m).mono ?_
    rintro e w' ⟨rfl, hb⟩
    simp only [pread, hx]
    exact ⟨none, 0, 0, rfl, World.ownsRow_nil _ _ _ _, same w' hb⟩
  | some x =>
    obtain ⟨l, r, s⟩ := x
    rw [hx] at hr hs
    obtain ⟨A, c, h1, h2, h3, ho, hl, hf⟩ := h.at_some hx
    simp only [pread, hx]
    by_cases hm : m < 0
    · refine (read_range p mb nx M nm lb nu ge w A l.length c r s h.blk h.map h2 hr hs h3 m hm).mono ?_
      rintro e w' ⟨rfl, hb⟩
      rw [if_pos hm]
      exact ⟨none, 0, 0, rfl, World.ownsRow_nil _ _ _ _, same w' hb⟩
    · rw [if_neg hm]
      by_cases hw : l = [] ∧ 0 < s ∧ 0 < m
      · obtain ⟨rfl, hs0, hm0⟩ := hw
        refine (read_wait p mb nx M nm lb nu ge w A c r s h.blk h.map h2 hr hs h3 hs0 m hm0).mono ?_
        rintro e w' ⟨rfl, hb⟩
        rw [if_pos ⟨rfl, hs0, hm0⟩]
        exact ⟨none, 0, 0, rfl, World.ownsRow_nil _ _ _ _, same w' hb⟩
      · rw [if_neg hw]
        have fin : ∀ (k : Nat) (A1 A2 : Option Addr) (c1 c2 : Nat) w', l.take k = l.take m.toNat → l.drop k = l.drop m.toNat → k ≤ l.length →
            TwoOwn w' w.heap.size 5 (.slice A1 k c1) (.slice A2 (l.length - k) c2) k (l.length - k) (bvs (l.take k)) (bvs (l.drop k)) →
            MapIs pkv w' mb (mput M (nm, lb, nu, ge) (.agg #[.slice A2 (l.length - k) c2, .int .i64 (r : Int), .int .i64 (s : Int)])) → Tch w.heap.size (· = mb) w w' →
            ∃ A n1 c, (Ending.returned (.tuple #[.slice A1 k c1, .int .i64 0]) = .returned (.tuple #[.slice A n1 c, .int .i64 0])) ∧ w'.ownsRow w.heap.size 5 1 (.slice A n1 c) n1 (bvs (l.take m.toNat)) ∧
            ∃ F', PipesAt w' p F' (mput L (nm, lb, nu, ge) (l.drop m.toNat, r, s)) nx ∧ Went w w' F F' ∧ ∀ g, (Value.slice A n1 c).ownBlock = some g → ¬ F' g := by
          intro k A1 A2 c1 c2 w' e1 e2 hk hTwo hM' hT
          obtain ⟨F', g1, g2, g3⟩ := h.post (k := (nm, lb, nu, ge)) (l' := l.drop k) (r' := r) (s' := s) (fun b => (Value.slice A1 k c1).ownBlock = some b) (hT.mono (Nat.le_refl _) (fun b _ e => .inl e)) hM'
            (own_mono hTwo.2.1 (Nat.zero_le _)) (by simp) (by omega)
            (fun g hg => .inr ⟨(hTwo.2.1.lt g hg).1, fun e => hTwo.2.2 g e hg⟩) (fun b hb => (hTwo.1.lt b hb).1)
          rw [← e1, ← e2]
          exact ⟨A1, k, c1, rfl, hTwo.1, F', g1, g2, g3⟩
        by_cases hl0 : 0 < l.length
        · refine (read_some p mb nx M nm lb nu ge w A l.length c r s h.blk h.map h2 hr hs h3 l ho hl m (min m.toNat l.length) (by omega) (by omega) hl0).mono ?_
          rintro e w' ⟨A1, c1, A2, c2, rfl, hTwo, hM', hT⟩
          exact fin _ A1 A2 c1 c2 w' (by rw [List.take_eq_take_iff]; omega) (by
            rcases Nat.le_total m.toNat l.length with hle | hle
            · rw [Nat.min_eq_left hle]
            · rw [Nat.min_eq_right hle, List.drop_length, List.drop_eq_nil_of_le hle]) (by omega) hTwo hM' hT
        · have hnil : l = [] := List.eq_nil_of_length_eq_zero (by omega)
          subst hnil
          rcases Nat.eq_zero_or_pos s with h0 | h0
          · subst h0
            refine (read_over p mb nx M nm lb nu ge w A c r h.blk h.map h2 hr h3 [] ho m (by omega)).mono ?_
            rintro e w' ⟨A1, c1, A2, c2, rfl, hTwo, hM', hT⟩
            exact fin 0 A1 A2 c1 c2 w' (by simp) (by simp) (by simp) hTwo hM' hT
          · have hm0 : m = 0 := by
              rcases Int.lt_or_le 0 m with h' | h'
              · exact absurd ⟨rfl, h0, h'⟩ hw
              · omega
            subst hm0
            refine (read_naught p mb nx M nm lb nu ge w A c r s h.blk h.map h2 hr hs h3 [] ho h0).mono ?_
            rintro e w' ⟨A1, c1, A2, c2, rfl, hTwo, hM', hT⟩
            exact fin 0 A1 A2 c1 c2 w' (by simp) (by simp) (by simp) hTwo hM' hT

/-- Ends' answer -/
def pends (L : PL) (k : PKey) : Nat × Nat × Nat := let x := (mget L k).getD ([], 0, 0); (x.2.1, x.2.2, x.1.length)

theorem ends_at (h : PipesAt w p F L nx) (nm : Bool) (lb : UInt8) (nu ge : UInt16)
    (hr : ((mget L (nm, lb, nu, ge)).getD ([], 0, 0)).2.1 < 60000) (hs : ((mget L (nm, lb, nu, ge)).getD ([], 0, 0)).2.2 < 60000) :
    Calls Try.prog 20 #[.pointer (some ⟨p, 0, none⟩), .agg #[.bool nm, .int .u8 (lb.toNat : Int), .int .u16 (nu.toNat : Int), .int .u16 (ge.toNat : Int)]] w fun e w' =>
      e = .returned (.tuple #[.int .i64 ((pends L (nm, lb, nu, ge)).1 : Int), .int .i64 ((pends L (nm, lb, nu, ge)).2.1 : Int), .int .i64 ((pends L (nm, lb, nu, ge)).2.2 : Int)]) ∧ Below w.heap.size w w' := by
  obtain ⟨mb, M, h⟩ := h
  cases hx : mget L (nm, lb, nu, ge) with
  | none =>
    obtain ⟨e1, e2⟩ := h.at_none hx
    refine (ends_none p mb nx M nm lb nu ge w none 0 0 0 0 h.blk h.map e1 e2).mono ?_
    rintro e w' ⟨rfl, hb⟩
    simp only [pends, hx]
    exact ⟨rfl, hb⟩
  | some x =>
    obtain ⟨l, r, s⟩ := x
    rw [hx] at hr hs
    obtain ⟨A, c, h1, h2, h3, ho, hl, hf⟩ := h.at_some hx
    refine (ends_ok p mb nx M nm lb nu ge w A l.length c r s h.blk h.map h2 hr hs h3).mono ?_
    rintro e w' ⟨rfl, hb⟩
    simp only [pends, hx]
    exact ⟨rfl, hb⟩

theorem len_at (h : PipesAt w p F L nx) :
    Calls Try.prog 23 #[.pointer (some ⟨p, 0, none⟩)] w fun e w' => e = .returned (.int .i64 (L.length : Int)) ∧ Below w.heap.size w w' := by
  obtain ⟨mb, M, h⟩ := h
  refine (len_ok p mb nx M w h.blk h.map).mono ?_
  rintro e w' ⟨rfl, hb⟩
  rw [h.len]
  exact ⟨rfl, hb⟩

/-- New -/
theorem new_at (w : World) : Calls Try.prog 14 #[] w fun e w' => ∃ p F, e = .returned (.pointer (some ⟨p, 0, none⟩)) ∧ PipesAt w' p F [] (List.replicate 64 0) ∧ (∀ b, F b → w.heap.size ≤ b) ∧ Below w.heap.size w w' := by
  refine (new_ok w).mono ?_
  rintro e w' ⟨q, mq, rfl, hB, hM, h1, h2, hb⟩
  refine ⟨q, fun b => b = q ∨ b = mq, rfl, ⟨mq, [], hB, hM, .inl rfl, .inr rfl, ?_, rfl, fun k v hv => (by cases hv), fun k k' v v' g _ hv => (by cases hv)⟩, ?_, hb⟩
  · rintro b (rfl | rfl)
    · exact hB.lt
    · exact hM.lt
  · rintro b (rfl | rfl) <;> omega

/-- Plain, of a label that there is -/
theorem plain_at (h : PipesAt w p F L nx) (lb : UInt8) (hl : lb.toNat < 64) (x : UInt16) (hnx : nx[lb.toNat]? = some x) (i : Nat) (y : UInt16) (hT : Tk (fun z => (mget L (false, lb, z, 0)).isSome) i x y) :
    Calls Try.prog 15 #[.pointer (some ⟨p, 0, none⟩), .int .i64 (lb.toNat : Int)] w fun e w' =>
      e = .returned (.tuple #[.agg #[.bool false, .int .u8 (lb.toNat : Int), .int .u16 (y.toNat : Int), .int .u16 0], .int .i64 0]) ∧ PipesAt w' p F L (nx.set lb.toNat (y + 1)) ∧ Went w w' F F := by
  obtain ⟨mb, M, h⟩ := h
  have hT' : Tk (fun z => (mget M (false, lb, z, 0)).isSome) i x y := by
    have e : (fun z : UInt16 => (mget M (false, lb, z, 0)).isSome) = fun z => (mget L (false, lb, z, 0)).isSome := by
      funext z
      cases hx : mget L (false, lb, z, 0) with
      | none => exact (h.at_none hx).2
      | some x' =>
        obtain ⟨v, hv, _⟩ := h.some_of hx
        rw [hv]; rfl
    rw [e]
    exact hT
  refine (plain_ok p mb nx M lb w h.shaped h.blk h.map hl x hnx i y hT').mono ?_
  rintro e w' ⟨rfl, hB, hTc⟩
  refine ⟨rfl, ⟨mb, M, ?_⟩, hTc.mono (Nat.le_refl _) (fun b _ e => e ▸ h.fp), fun b hb => .inl hb⟩
  have hk : ∀ b, b < w.heap.size → b ≠ p → w'.heap[b]? = w.heap[b]? := fun b h1 h2 => hTc.block b h1 h2
  have hpm : mb ≠ p := fun e => blk_not_map h.blk h.map e.symm
  refine ⟨hB, h.map.keep (hk mb h.map.lt hpm), h.fp, h.fm, fun b hb => Nat.lt_of_lt_of_le (h.lt b hb) hTc.size, h.keys, fun k v hv => ?_, h.apart⟩
  obtain ⟨x', hx', A, c, rfl, ho, hf, hl'⟩ := h.vals k v hv
  exact ⟨x', hx', A, c, rfl, own_keep ho (fun g hg => hk g (ho.lt g hg).2 (fun e => blk_not_own h.blk ho (by decide) (e ▸ hg))), hf, hl'⟩

/-- Leave's answer: what there is then -/
def pleave (L : PL) (k : PKey) (rd wr : Bool) : PL :=
  match mget L k with
  | none => L
  | some (l, r, s) =>
    if r - rd.toNat + (s - wr.toNat) = 0 then mdel L k else mput L k (l, r - rd.toNat, s - wr.toNat)

theorem mdel_mput {κ β : Type} [DecidableEq κ] (L : List (κ × β)) (k : κ) (v : β) (h : (L.map (·.1)).Nodup) (hk : k ∈ L.map (·.1)) : (mdel (mput L k v) k) = mdel L k := by
  induction L with
  | nil => cases hk
  | cons a L ih =>
    obtain ⟨k0, v0⟩ := a
    by_cases e : k0 = k
    · simp [mput, mdel, e]
    · have hk' : k ∈ L.map (·.1) := by
        rcases List.mem_cons.1 hk with h' | h'
        · exact absurd h'.symm e
        · exact h'
      simp only [List.map_cons, List.nodup_cons] at h
      simp [mput, mdel, e, ih h.2 hk']
theorem mdel_keys {κ β : Type} [DecidableEq κ] (L : List (κ × β)) (k : κ) : (mdel L k).map (·.1) = (L.map (·.1)).erase k := by
  induction L with
  | nil => rfl
  | cons a L ih =>
    obtain ⟨k0, v0⟩ := a
    by_cases e : k0 = k
    · simp [mdel, e]
    · simp [mdel, e, ih]

/-- behind a call that has taken key k away -/
theorem PipesIn.gone {k : PKey} (h : PipesIn w p F L nx mb M) (hT : Tch w.heap.size (· = mb) w w') (hM' : MapIs pkv w' mb (mdel M k)) : PipesIn w' p F (mdel L k) nx mb (mdel M k) := by
  have hpm : p ≠ mb := fun e => blk_not_map h.blk h.map e
  refine ⟨(hT.block p h.blk.lt hpm).trans h.blk, hM', h.fp, h.fm, fun b hb => Nat.lt_of_lt_of_le (h.lt b hb) hT.size, ?_, ?_, ?_⟩
  · rw [mdel_keys, mdel_keys, h.keys]
  · intro k1 v1 h1
    rw [mget_del h.map.nodup] at h1
    rw [mget_del h.nodup]
    by_cases e : k = k1
    · rw [if_pos e] at h1; cases h1
    · rw [if_neg e] at h1 ⊢
      obtain ⟨x1, hx1, A, c, rfl, ho, hf, hl⟩ := h.vals k1 v1 h1
      exact ⟨x1, hx1, A, c, rfl, own_keep ho (fun g hg => hT.block g (ho.lt g hg).2 (fun e => h.map.not_own ho (e ▸ hg))), hf, hl⟩
  · intro k1 k2 v1 v2 g hne h1 h2
    rw [mget_del h.map.nodup] at h1 h2
    by_cases e1 : k = k1
    · rw [if_pos e1] at h1; cases h1
    · by_cases e2 : k = k2
      · rw [if_pos e2] at h2; cases h2
      · rw [if_neg e1] at h1
        rw [if_neg e2] at h2
        exact h.apart k1 k2 v1 v2 g hne h1 h2

theorem leave_at (h : PipesAt w p F L nx) (nm : Bool) (lb : UInt8) (nu ge : UInt16) (rd wr : Bool)
    (hr : ((mget L (nm, lb, nu, ge)).getD ([], 0, 0)).2.1 < 60000) (hs : ((mget L (nm, lb, nu, ge)).getD ([], 0, 0)).2.2 < 60000) :
    Calls Try.prog 21 #[.pointer (some ⟨p, 0, none⟩), .agg #[.bool nm, .int .u8 (lb.toNat : Int), .int .u16 (nu.toNat : Int), .int .u16 (ge.toNat : Int)], .bool rd, .bool wr] w fun e w' =>
      e = .returned (.tuple #[]) ∧ ∃ F', PipesAt w' p F' (pleave L (nm, lb, nu, ge) rd wr) nx ∧ Went w w' F F' := by
  obtain ⟨mb, M, h⟩ := h
  cases hx : mget L (nm, lb, nu, ge) with
  | none =>
    obtain ⟨e1, e2⟩ := h.at_none hx
    refine (leave_none p mb nx M nm lb nu ge w rd wr none 0 0 0 0 h.blk h.map e1 e2).mono ?_
    rintro e w' ⟨rfl, hb⟩
    simp only [pleave, hx]
    exact ⟨trivial, F, PipesAt.below ⟨mb, M, h⟩ hb, Went.of_below hb⟩
  | some x =>
    obtain ⟨l, r, s⟩ := x
    rw [hx] at hr hs
    obtain ⟨A, c, h1, h2, h3, ho, hl, hf⟩ := h.at_some hx
    simp only [pleave, hx]
    have stay : ∀ (r' s' : Nat) w', r' = r - rd.toNat → s' = s - wr.toNat → r' + s' ≠ 0 → MapIs pkv w' mb (mput M (nm, lb, nu, ge) (.agg #[.slice A l.length c, .int .i64 (r' : Int), .int .i64 (s' : Int)])) → Tch w.heap.size (· = mb) w w' →
        ∃ F', PipesAt w' p F' (if r - rd.toNat + (s - wr.toNat) = 0 then mdel L (nm, lb, nu, ge) else mput L (nm, lb, nu, ge) (l, r - rd.toNat, s - wr.toNat)) nx ∧ Went w w' F F' := by
      intro r' s' w' e1 e2 hz hM' hT
      subst e1 e2
      rw [if_neg hz]
      obtain ⟨F', g1, g2, _⟩ := h.post (k := (nm, lb, nu, ge)) (l' := l) (fun _ => False) (hT.mono (Nat.le_refl _) (fun b _ e => .inl e)) hM'
        (own_keep ho (fun g hg => hT.block g (ho.lt g hg).2 (fun e => h.map.not_own ho (e ▸ hg)))) rfl hl (fun g hg => .inl ⟨_, h1, hg⟩) (fun _ hb => hb.elim)
      exact ⟨F', g1, g2⟩
    have gone : ∀ (r' s' : Nat) w', r' = r - rd.toNat → s' = s - wr.toNat → r' + s' = 0 → MapIs pkv w' mb (mdel (mput M (nm, lb, nu, ge) (.agg #[.slice A l.length c, .int .i64 (r' : Int), .int .i64 (s' : Int)])) (nm, lb, nu, ge)) → Tch w.heap.size (· = mb) w w' →
        ∃ F', PipesAt w' p F' (if r - rd.toNat + (s - wr.toNat) = 0 then mdel L (nm, lb, nu, ge) else mput L (nm, lb, nu, ge) (l, r - rd.toNat, s - wr.toNat)) nx ∧ Went w w' F F' := by
      intro r' s' w' e1 e2 hz hM' hT
      subst e1 e2
      rw [if_pos hz]
      rw [mdel_mput _ _ _ h.map.nodup (List.mem_map.2 ⟨_, mget_mem h1, rfl⟩)] at hM'
      exact ⟨F, ⟨mb, _, h.gone hT hM'⟩, hT.mono (Nat.le_refl _) (fun b _ e => e ▸ h.fm), fun b hb => .inl hb⟩
    by_cases hz : r - rd.toNat + (s - wr.toNat) = 0
    · cases rd <;> cases wr
      · exact (leave__gone p mb nx M nm lb nu ge w A l.length c r s h.blk h.map h2 hr hs h3 hz).mono fun e w' ⟨e1, hM', hT⟩ => ⟨e1, gone r s w' rfl rfl hz hM' hT⟩
      · exact (leave_w_gone p mb nx M nm lb nu ge w A l.length c r s h.blk h.map h2 hr hs h3 (s - 1) rfl hz).mono fun e w' ⟨e1, hM', hT⟩ => ⟨e1, gone r (s - 1) w' rfl rfl hz hM' hT⟩
      · exact (leave_r_gone p mb nx M nm lb nu ge w A l.length c r s h.blk h.map h2 hr hs h3 (r - 1) rfl hz).mono fun e w' ⟨e1, hM', hT⟩ => ⟨e1, gone (r - 1) s w' rfl rfl hz hM' hT⟩
      · exact (leave_rw_gone p mb nx M nm lb nu ge w A l.length c r s h.blk h.map h2 hr hs h3 (r - 1) rfl (s - 1) rfl hz).mono fun e w' ⟨e1, hM', hT⟩ => ⟨e1, gone (r - 1) (s - 1) w' rfl rfl hz hM' hT⟩
    · cases rd <;> cases wr
      · exact (leave__stay p mb nx M nm lb nu ge w A l.length c r s h.blk h.map h2 hr hs h3 hz).mono fun e w' ⟨e1, hM', hT⟩ => ⟨e1, stay r s w' rfl rfl hz hM' hT⟩
      · exact (leave_w_stay p mb nx M nm lb nu ge w A l.length c r s h.blk h.map h2 hr hs h3 (s - 1) rfl hz).mono fun e w' ⟨e1, hM', hT⟩ => ⟨e1, stay r (s - 1) w' rfl rfl hz hM' hT⟩
      · exact (leave_r_stay p mb nx M nm lb nu ge w A l.length c r s h.blk h.map h2 hr hs h3 (r - 1) rfl hz).mono fun e w' ⟨e1, hM', hT⟩ => ⟨e1, stay (r - 1) s w' rfl rfl hz hM' hT⟩
      · exact (leave_rw_stay p mb nx M nm lb nu ge w A l.length c r s h.blk h.map h2 hr hs h3 (r - 1) rfl (s - 1) rfl hz).mono fun e w' ⟨e1, hM', hT⟩ => ⟨e1, stay (r - 1) (s - 1) w' rfl rfl hz hM' hT⟩

/-- Blind's answer: what there is then -/
def pblind (L : PL) (k : PKey) (b : List UInt8) : PL :=
  match mget L k with
  | none => L
  | some (l, r, s) => if r = 0 ∨ 256 < l.length + b.length then L else mput L k (l ++ b, r, s)

theorem blind_at (h : PipesAt w p F L nx) (nm : Bool) (lb : UInt8) (nu ge : UInt16) (A2 : Option Addr) (n2 c2 : Nat) (b : List UInt8) (hr2 : Rd w w.heap.size 1 A2 n2 (bvs b))
    (hr : ((mget L (nm, lb, nu, ge)).getD ([], 0, 0)).2.1 < 60000) (hs : ((mget L (nm, lb, nu, ge)).getD ([], 0, 0)).2.2 < 60000) :
    Calls Try.prog 22 #[.pointer (some ⟨p, 0, none⟩), .agg #[.bool nm, .int .u8 (lb.toNat : Int), .int .u16 (nu.toNat : Int), .int .u16 (ge.toNat : Int)], .slice A2 n2 c2] w fun e w' =>
      e = .returned (.tuple #[]) ∧ ∃ F', PipesAt w' p F' (pblind L (nm, lb, nu, ge) b) nx ∧ Went w w' F F' := by
  obtain ⟨mb, M, h⟩ := h
  have hbl : b.length = n2 := by have := hr2.len; rw [bvs_length] at this; omega
  cases hx : mget L (nm, lb, nu, ge) with
  | none =>
    obtain ⟨e1, e2⟩ := h.at_none hx
    refine (blind_nobody p mb nx M nm lb nu ge w none 0 0 0 h.blk h.map e1 (by omega) A2 n2 c2).mono ?_
    rintro e w' ⟨rfl, hb⟩
    simp only [pblind, hx]
    exact ⟨trivial, F, PipesAt.below ⟨mb, M, h⟩ hb, Went.of_below hb⟩
  | some x =>
    obtain ⟨l, r, s⟩ := x
    rw [hx] at hr hs
    obtain ⟨A, c, h1, h2, h3, ho, hl, hf⟩ := h.at_some hx
    simp only [pblind, hx]
    rcases Nat.eq_zero_or_pos r with hr0 | hr0
    · subst hr0
      refine (blind_nobody p mb nx M nm lb nu ge w A l.length c s h.blk h.map h2 hs A2 n2 c2).mono ?_
      rintro e w' ⟨rfl, hb⟩
      rw [if_pos (.inl rfl)]
      exact ⟨rfl, F, PipesAt.below ⟨mb, M, h⟩ hb, Went.of_below hb⟩
    · by_cases hk : n2 + l.length ≤ 256
      · refine (blind_ok p mb nx M nm lb nu ge w A l.length c r s h.blk h.map h2 hr hs hr0 l ho A2 n2 c2 b hr2 hk).mono ?_
        rintro e w' ⟨A', c', rfl, hown, hM', hat, hT⟩
        rw [if_neg (by omega)]
        obtain ⟨F', g1, g2, _⟩ := h.post (k := (nm, lb, nu, ge)) (l' := l ++ b) (fun _ => False) (hT.mono (Nat.le_refl _) (fun b _ e => e.imp id (fun e => ⟨_, h1, e⟩))) hM' hown (by simp; omega) (by omega)
          (fun g hg => by
            rcases hat with e | ⟨g', e, hle⟩
            · exact .inl ⟨_, h1, show (Value.slice A l.length c).ownBlock = some g from e ▸ hg⟩
            · rw [e] at hg; cases hg; exact .inr ⟨hle, fun hf => hf⟩) (fun _ hb => hb.elim)
        exact ⟨rfl, F', g1, g2⟩
      · refine (blind_long p mb nx M nm lb nu ge w A l.length c r s h.blk h.map h2 hr hs A2 n2 c2 hl hr0 (by omega)).mono ?_
        rintro e w' ⟨rfl, hb⟩
        rw [if_pos (.inr (by omega))]
        exact ⟨rfl, F, PipesAt.below ⟨mb, M, h⟩ hb, Went.of_below hb⟩

end
end Go.Proofs.Ytkjgieehiimiiaa

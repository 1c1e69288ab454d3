/- PipePlays: what holds at the loop's head; what each arm does to it. -/
import Derived.Test.YtkjgieehiimiiaaRefLaw
import Derived.Test.YtkjgieehiimiiaaPipeLaw
namespace Go.Proofs.Ytkjgieehiimiiaa
open Go.RowKit

def kcells (k : PKey) : List Value := [.bool k.1, .int .u8 (k.2.1.toNat : Int), .int .u16 (k.2.2.1.toNat : Int), .int .u16 (k.2.2.2.toNat : Int)]
def flat4 (ks : List PKey) : List Value := ks.flatMap kcells
theorem flat4_length (ks : List PKey) : (flat4 ks).length = ks.length * 4 := by
  induction ks with
  | nil => rfl
  | cons q r ih => simp [flat4, kcells] at ih ⊢; omega
theorem flat4_append (a b : List PKey) : flat4 (a ++ b) = flat4 a ++ flat4 b := by simp [flat4]
theorem flat4_get : ∀ {ks : List PKey} {k j : Nat} {e : PKey}, ks[k]? = some e → j < 4 → (flat4 ks)[k * 4 + j]? = (kcells e)[j]?
  | [], k, j, e, h, _ => by simp at h
  | p :: r, 0, j, e, h, hj => by
    obtain rfl : p = e := by simpa using h
    unfold flat4
    rw [List.flatMap_cons, Nat.zero_mul, Nat.zero_add, List.getElem?_append_left (by simp [kcells]; omega)]
  | p :: r, k + 1, j, e, h, hj => by
    have ih := flat4_get (ks := r) (k := k) (j := j) (e := e) (by simpa using h) hj
    unfold flat4 at ih ⊢
    rw [List.flatMap_cons, List.getElem?_append_right (by simp [kcells]; omega)]
    rw [← ih]
    congr 1
    simp [kcells]; omega
theorem flat4_one (ks : List PKey) : ∀ u ∈ flat4 ks, u.oneCell' = true := by
  intro u hu
  simp only [flat4, List.mem_flatMap] at hu
  obtain ⟨e, _, hu⟩ := hu
  simp only [kcells, List.mem_cons, List.not_mem_nil, or_false] at hu
  rcases hu with rfl | rfl | rfl | rfl <;> rfl

/-- what is known of the pipes, their numbers, the keys, behind k rounds -/
structure PlOk (L : PL) (nx : List UInt16) (ks : List PKey) (k : Nat) : Prop where
  kin : ∀ e ∈ L, e.1 ∈ ks
  kpl : ∀ x ∈ ks, x.1 = true ∨ ∃ lb z, x = (false, lb, z, 0) ∧ ∃ y, nx[lb.toNat]? = some y ∧ z.toNat < y.toNat
  nxs : ∀ i, i < 3 → ∃ y, nx[i]? = some y ∧ y.toNat ≤ k
  cnt : ∀ e ∈ L, e.2.2.1 ≤ k ∧ e.2.2.2 ≤ k
  len : L.length ≤ k
  kn : ks.length ≤ k + 3
  k3 : 3 ≤ ks.length

section
variable {L : PL} {nx : List UInt16} {ks : List PKey} {k : Nat} {x : PKey} {v : PVal}
theorem mput_mem {e : PKey × PVal} (h : e ∈ mput L x v) : e ∈ L ∨ e = (x, v) := by
  induction L with
  | nil => simp [mput] at h; exact .inr h
  | cons a L ih =>
    obtain ⟨k0, v0⟩ := a
    by_cases e0 : k0 = x
    · simp [mput, e0] at h
      rcases h with h | h
      · exact .inr h
      · exact .inl (List.mem_cons_of_mem _ h)
    · simp [mput, e0] at h
      rcases h with h | h
      · exact .inl (by rw [h]; exact List.mem_cons_self ..)
      · exact (ih h).imp (List.mem_cons_of_mem _) id
theorem mput_len : (mput L x v).length ≤ L.length + 1 := by
  induction L with
  | nil => simp [mput]
  | cons a L ih =>
    obtain ⟨k0, v0⟩ := a
    by_cases e0 : k0 = x <;> simp [mput, e0]; exact ih
theorem mput_len' {u : PVal} (h : mget L x = some u) : (mput L x v).length = L.length := by
  induction L with
  | nil => cases h
  | cons a L ih =>
    obtain ⟨k0, v0⟩ := a
    by_cases e0 : k0 = x
    · simp [mput, e0]
    · simp [mget, e0] at h
      simp [mput, e0, ih h]
theorem mdel_mem {e : PKey × PVal} (h : e ∈ mdel L x) : e ∈ L := by
  induction L with
  | nil => simp [mdel] at h
  | cons a L ih =>
    obtain ⟨k0, v0⟩ := a
    by_cases e0 : k0 = x
    · simp [mdel, e0] at h; exact List.mem_cons_of_mem _ h
    · simp [mdel, e0] at h
      rcases h with h | h
      · rw [h]; exact List.mem_cons_self ..
      · exact List.mem_cons_of_mem _ (ih h)
theorem mdel_len : (mdel L x).length ≤ L.length := by
  induction L with
  | nil => simp [mdel]
  | cons a L ih =>
    obtain ⟨k0, v0⟩ := a
    by_cases e0 : k0 = x <;> simp [mdel, e0]; exact ih
theorem PlOk.up (h : PlOk L nx ks k) : PlOk L nx ks (k + 1) :=
  ⟨h.kin, h.kpl, fun i hi => by obtain ⟨y, h1, h2⟩ := h.nxs i hi; exact ⟨y, h1, by omega⟩, fun e he => by have := h.cnt e he; omega, by have := h.len; omega, by have := h.kn; omega, h.k3⟩
theorem PlOk.put (h : PlOk L nx ks k) (hx : x ∈ ks) (hv : v.2.1 ≤ k + 1 ∧ v.2.2 ≤ k + 1) : PlOk (mput L x v) nx ks (k + 1) := by
  refine ⟨fun e he => ?_, h.kpl, h.up.nxs, fun e he => ?_, by have := h.len; have := mput_len (L := L) (x := x) (v := v); omega, h.up.kn, h.k3⟩
  · rcases mput_mem he with h1 | rfl
    · exact h.kin e h1
    · exact hx
  · rcases mput_mem he with h1 | rfl
    · exact h.up.cnt e h1
    · exact hv
theorem PlOk.del (h : PlOk L nx ks k) : PlOk (mdel L x) nx ks (k + 1) :=
  ⟨fun e he => h.kin e (mdel_mem he), h.kpl, h.up.nxs, fun e he => h.up.cnt e (mdel_mem he), by have := h.len; have := mdel_len (L := L) (x := x); omega, h.up.kn, h.k3⟩
theorem PlOk.get (h : PlOk L nx ks k) (hm : mget L x = some v) : v.2.1 ≤ k ∧ v.2.2 ≤ k := h.cnt _ (mget_mem hm)
theorem PlOk.getD (h : PlOk L nx ks k) (x : PKey) : ((mget L x).getD ([], 0, 0)).2.1 ≤ k ∧ ((mget L x).getD ([], 0, 0)).2.2 ≤ k := by
  cases hm : mget L x with
  | none => simp
  | some v => exact h.get hm
theorem PlOk.join (h : PlOk L nx ks k) (hx : x ∈ ks) (rd wr : Bool) : PlOk (pjoin L x rd wr) nx ks (k + 1) := by
  unfold pjoin
  have h1 := h.getD x
  refine h.put hx ⟨?_, ?_⟩
  · cases rd <;> simp only [Bool.toNat_false, Bool.toNat_true] <;> omega
  · cases wr <;> simp only [Bool.toNat_false, Bool.toNat_true] <;> omega
theorem PlOk.leave (h : PlOk L nx ks k) (hx : x ∈ ks) (rd wr : Bool) : PlOk (pleave L x rd wr) nx ks (k + 1) := by
  unfold pleave
  cases hm : mget L x with
  | none => exact h.up
  | some v =>
    obtain ⟨l, r, s⟩ := v
    have h1 := h.get hm
    simp only at h1 ⊢
    split
    · exact h.del
    · exact h.put hx ⟨by simp only; omega, by simp only; omega⟩
theorem PlOk.write (h : PlOk L nx ks k) (hx : x ∈ ks) (b : List UInt8) : PlOk (pwrite L x b).2.2 nx ks (k + 1) := by
  unfold pwrite
  cases hm : mget L x with
  | none => exact h.up
  | some v =>
    obtain ⟨l, r, s⟩ := v
    have h1 := h.get hm
    simp only at h1 ⊢
    split
    · exact h.up
    · split
      · exact h.up
      · exact h.put hx ⟨by simp only; omega, by simp only; omega⟩
theorem PlOk.blind (h : PlOk L nx ks k) (hx : x ∈ ks) (b : List UInt8) : PlOk (pblind L x b) nx ks (k + 1) := by
  unfold pblind
  cases hm : mget L x with
  | none => exact h.up
  | some v =>
    obtain ⟨l, r, s⟩ := v
    have h1 := h.get hm
    simp only at h1 ⊢
    split
    · exact h.up
    · exact h.put hx ⟨by simp only; omega, by simp only; omega⟩
theorem PlOk.read (h : PlOk L nx ks k) (hx : x ∈ ks) (m : Int) : PlOk (pread L x m).2.2 nx ks (k + 1) := by
  unfold pread
  cases hm : mget L x with
  | none => exact h.up
  | some v =>
    obtain ⟨l, r, s⟩ := v
    have h1 := h.get hm
    simp only at h1 ⊢
    split
    · exact h.up
    · split
      · exact h.up
      · exact h.put hx ⟨by simp only; omega, by simp only; omega⟩
/-- the number that comes next is free -/
theorem PlOk.free (h : PlOk L nx ks k) {lb : UInt8} {y : UInt16} (hy : nx[lb.toNat]? = some y) : mget L (false, lb, y, 0) = none := by
  cases hm : mget L (false, lb, y, 0) with
  | none => rfl
  | some v =>
    rcases h.kpl _ (h.kin _ (mget_mem hm)) with h1 | ⟨lb', z, h1, y', h2, h3⟩
    · cases h1
    · simp only [Prod.mk.injEq, true_and, and_true] at h1
      obtain ⟨rfl, rfl⟩ := h1
      rw [hy] at h2
      cases h2
      omega
theorem PlOk.tk (h : PlOk L nx ks k) {lb : UInt8} {y : UInt16} (hy : nx[lb.toNat]? = some y) : Tk (fun z => (mget L (false, lb, z, 0)).isSome) 0 y y := ⟨by show (mget L _).isSome = false; rw [h.free hy]; rfl, rfl⟩
theorem PlOk.plain (h : PlOk L nx ks k) (hk : k < 1000) {lb : UInt8} {y : UInt16} (hl : lb.toNat < 3) (hy : nx[lb.toNat]? = some y) : PlOk L (nx.set lb.toNat (y + 1)) (ks ++ [(false, lb, y, 0)]) (k + 1) := by
  obtain ⟨y', h1, h2⟩ := h.nxs _ hl
  rw [hy] at h1
  cases h1
  have hs : (y + 1).toNat = y.toNat + 1 := by simp [UInt16.toNat_add]; omega
  have hlen : lb.toNat < nx.length := (List.getElem?_eq_some_iff.1 hy).1
  refine ⟨fun e he => List.mem_append_left _ (h.kin e he), fun x hx => ?_, fun i hi => ?_, h.up.cnt, h.up.len, by have := h.kn; simp; omega, by have := h.k3; simp; omega⟩
  · rcases List.mem_append.1 hx with hx | hx
    · rcases h.kpl x hx with h1 | ⟨lb', z, h1, y', h3, h4⟩
      · exact .inl h1
      · refine .inr ⟨lb', z, h1, ?_⟩
        by_cases e : lb.toNat = lb'.toNat
        · rw [← e] at h3 ⊢
          rw [hy] at h3
          cases h3
          exact ⟨y + 1, by simp [hlen], by omega⟩
        · exact ⟨y', by rw [List.getElem?_set_ne e]; exact h3, h4⟩
    · obtain rfl : x = (false, lb, y, 0) := by simpa using hx
      exact .inr ⟨lb, y, rfl, y + 1, by simp [hlen], by omega⟩
  · obtain ⟨z, h3, h4⟩ := h.nxs i hi
    by_cases e : lb.toNat = i
    · subst e
      exact ⟨y + 1, by simp [hlen], by omega⟩
    · exact ⟨z, by rw [List.getElem?_set_ne e]; exact h3, by omega⟩
end

/-- Both pipes, apart from one another and from the keys' row. -/
structure Ph (w0 w : World) (p q : Nat) (F G : Nat → Prop) (L M : PL) (nx mx : List UInt16) (ks : List PKey) (Ak : Option Addr) (ck : Nat) : Prop where
  s : PSt w0 w p F L nx
  r : RefAt w q G M mx
  gb : ∀ b, G b → w0.heap.size ≤ b
  dis : ∀ b, F b → ¬ G b
  row : w.ownsRow w0.heap.size 41 4 (.slice Ak ks.length ck) ks.length (flat4 ks)
  rowF : ∀ g, (Value.slice Ak ks.length ck).ownBlock = some g → ¬ F g ∧ ¬ G g
/-- a box of the law's own -/
structure Bx (w : World) (F G : Nat → Prop) (b : Nat) (t : TypeId) (cs : Array Value) : Prop where
  is : Blk w b t cs
  nF : ¬ F b
  nG : ¬ G b

section
variable {w0 w w' : World} {p q b : Nat} {F F' G G' : Nat → Prop} {L L' M M' : PL} {nx nx' mx mx' : List UInt16} {ks : List PKey} {Ak : Option Addr} {ck : Nat} {t : TypeId} {cs : Array Value}
theorem Ph.below (h : Ph w0 w p q F G L M nx mx ks Ak ck) (hb : Below w.heap.size w w') : Ph w0 w' p q F G L M nx mx ks Ak ck :=
  ⟨h.s.below hb, h.r.below hb, h.gb, h.dis, own_below h.row hb, h.rowF⟩
theorem Bx.below (h : Bx w F G b t cs) (hb : Below w.heap.size w w') : Bx w' F G b t cs := ⟨h.is.below hb h.is.lt, h.nF, h.nG⟩
theorem Ph.new (h : Ph w0 w p q F G L M nx mx ks Ak ck) (t : TypeId) (cs : Array Value) : Bx (w.alloc (.cells cs t)) F G w.heap.size t cs :=
  ⟨Blk.new _ _ _, fun hf => Nat.lt_irrefl _ (h.s.is.lt _ hf), fun hf => Nat.lt_irrefl _ (h.r.lt _ hf)⟩
theorem Ph.alloc (h : Ph w0 w p q F G L M nx mx ks Ak ck) (o : Obj) : Ph w0 (w.alloc o) p q F G L M nx mx ks Ak ck := h.below ((Below.refl _ _).alloc (Nat.le_refl _) o)
theorem Bx.alloc (h : Bx w F G b t cs) (o : Obj) : Bx (w.alloc o) F G b t cs := h.below ((Below.refl _ _).alloc (Nat.le_refl _) o)
theorem Ph.drew (h : Ph w0 w p q F G L M nx mx ks Ak ck) : Ph w0 w.drew p q F G L M nx mx ks Ak ck := h.below (Below.refl _ _).drew
theorem Ph.pstep (h : Ph w0 w p q F G L M nx mx ks Ak ck) (hP : PipesAt w' p F' L' nx') (hW : Went w w' F F') : Ph w0 w' p q F' G L' M nx' mx ks Ak ck := by
  refine ⟨h.s.step hP hW, h.r.other hW fun b hg hf => h.dis b hf hg, h.gb, fun b hf hg => ?_, own_keep h.row fun g hg => hW.tch.block g (h.row.lt g hg).2 (h.rowF g hg).1, fun g hg => ⟨hW.not (h.row.lt g hg).2 (h.rowF g hg).1, (h.rowF g hg).2⟩⟩
  rcases hW.sub b hf with h1 | h1
  · exact h.dis b h1 hg
  · exact absurd (h.r.lt b hg) (by omega)
theorem Ph.qstep (h : Ph w0 w p q F G L M nx mx ks Ak ck) (hP : RefAt w' q G' M' mx') (hW : Went w w' G G') : Ph w0 w' p q F G' L M' nx mx' ks Ak ck := by
  refine ⟨⟨h.s.is.other hW h.dis, h.s.base, h.s.bel.trans ((hW.tch.mono h.s.bel.size (fun _ _ x => x)).below (fun k hk hf => by have := h.gb k hf; omega))⟩, hP, fun b hb => (hW.sub b hb).elim (h.gb b) (fun hle => Nat.le_trans h.s.bel.size hle), fun b hf hg => ?_, own_keep h.row fun g hg => hW.tch.block g (h.row.lt g hg).2 (h.rowF g hg).2, fun g hg => ⟨(h.rowF g hg).1, hW.not (h.row.lt g hg).2 (h.rowF g hg).2⟩⟩
  rcases hW.sub b hg with h1 | h1
  · exact h.dis b hf h1
  · exact absurd (h.s.is.lt b hf) (by omega)
theorem Bx.pstep (h : Bx w F G b t cs) (hW : Went w w' F F') : Bx w' F' G b t cs := ⟨hW.blk h.is h.nF, hW.not h.is.lt h.nF, h.nG⟩
theorem Bx.qstep (h : Bx w F G b t cs) (hW : Went w w' G G') : Bx w' F G' b t cs := ⟨hW.blk h.is h.nG, h.nF, hW.not h.is.lt h.nG⟩
/-- behind an append to the keys -/
theorem Ph.krow (h : Ph w0 w p q F G L M nx mx ks Ak ck) {A' : Option Addr} {c' : Nat} {ks' : List PKey} (hg : w.grownBy w' (Value.slice Ak ks.length ck).ownBlock) (ho : w'.ownsRow w0.heap.size 41 4 (.slice A' ks'.length c') ks'.length (flat4 ks'))
    (hat : (Value.slice A' ks'.length c').ownBlock = (Value.slice Ak ks.length ck).ownBlock ∨ (Value.slice A' ks'.length c').ownBlock = some w.heap.size) : Ph w0 w' p q F G L M nx mx ks' A' c' := by
  refine ⟨⟨h.s.is.keep (fun b hf => hg.block b (h.s.is.lt b hf) fun e => (h.rowF b e.symm).1 hf) hg.size, h.s.base, h.s.bel.trans ((Tch.grown (S := fun _ => False) hg h.s.bel.size fun k hk hlt => absurd (h.row.lt k hk).1 (by omega)).below fun _ _ h => h)⟩,
    h.r.keep (fun b hf => hg.block b (h.r.lt b hf) fun e => (h.rowF b e.symm).2 hf) hg.size, h.gb, h.dis, ho, fun g hg' => ?_⟩
  rcases hat with e | e
  · exact h.rowF g (e ▸ hg')
  · rw [e] at hg'
    cases hg'
    exact ⟨fun hf => Nat.lt_irrefl _ (h.s.is.lt _ hf), fun hf => Nat.lt_irrefl _ (h.r.lt _ hf)⟩
/-- the keys' cells -/
theorem Ph.keys (h : Ph w0 w p q F G L M nx mx ks Ak ck) (hn : 0 < ks.length) : ∃ g, Ak = some ⟨g, 0, none⟩ ∧ g < w.heap.size ∧ ∀ i k, ks[i]? = some k → ∀ j v, (kcells k)[j]? = some v → w.cell? ⟨g, i * 4 + j, none⟩ = some v := by
  obtain ⟨b, o, hA, hb, hc⟩ := (Rd.of_own h.row).2 hn
  have ho : o = 0 := by
    rcases h.row.2 with ⟨h0, _⟩ | ⟨g, cap, cur, hv, _⟩
    · rw [hA] at h0; cases h0
    · rw [hA] at hv; cases hv; rfl
  subst ho
  refine ⟨b, hA, hb, fun i k hk j v hv => ?_⟩
  have hj : j < 4 := by
    rcases Nat.lt_or_ge j 4 with h | h
    · exact h
    · rw [List.getElem?_eq_none (by simpa [kcells] using h)] at hv; cases hv
  rw [← Nat.zero_add (i * 4 + j)]
  exact hc _ _ ((flat4_get hk hj).trans hv)
end

/-! ### what comes in -/
structure AV where
  kd : UInt8
  wh : UInt8
  rd : Bool
  wr : Bool
  A : Option Addr
  c : Nat
  b : List UInt8
  N : Int
  raw : Bool
def acells (a : AV) : List Value := [.int .u8 (a.kd.toNat : Int), .int .u8 (a.wh.toNat : Int), .bool a.rd, .bool a.wr, .slice a.A a.b.length a.c, .int .i64 a.N, .bool a.raw]
/-- a slice of acts, as it reads -/
def Acts (w : World) (A : Option Addr) (n : Nat) (acs : List AV) : Prop :=
  acs.length = n ∧ (0 < n → ∃ b o, A = some ⟨b, o, none⟩ ∧ b < w.heap.size ∧ ∀ (i : Nat) (a : AV), acs[i]? = some a → (∀ j v, (acells a)[j]? = some v → w.cell? ⟨b, o + (i * 7 + j), none⟩ = some v) ∧ a.b.length ≤ a.c ∧ Rd w w.heap.size 1 a.A a.b.length (bvs a.b))
theorem Rd.went_ {w w' : World} {F F' : Nat → Prop} {A : Option Addr} {n c : Nat} {xs : List Value} (h : Rd w w.heap.size 1 A n xs) (hW : Went w w' F F') (hg : ∀ g, (Value.slice A n c).ownBlock = some g → ¬ F g) : Rd w' w'.heap.size 1 A n xs := by
  refine ⟨h.1, fun hn => ?_⟩
  obtain ⟨b, o, rfl, hb, hc⟩ := h.2 hn
  refine ⟨b, o, rfl, Nat.lt_of_lt_of_le hb hW.tch.size, fun j u hu => ?_⟩
  rw [← hc j u hu]
  simp only [World.cell?]
  rw [hW.tch.block b hb (hg b rfl)]
end Go.Proofs.Ytkjgieehiimiiaa

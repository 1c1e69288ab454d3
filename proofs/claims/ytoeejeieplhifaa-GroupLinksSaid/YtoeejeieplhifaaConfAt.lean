/- Configurations in memory: what a pointer at one that is being made stands for. -/
import Derived.Test.YtoeejeieplhifaaConf
import Derived.Test.YtoeejeieplhifaaRegionC
import Derived.StringKeys
namespace Go.Proofs.Ytoeejeieplhifaa
open Go.RowKit Go.WideMaps
set_option linter.unusedSimpArgs false
set_option linter.unusedVariables false

theorem conf_laid : laidOutB Try.prog = true := by kernel_rfl
theorem wf_u8 (x : UInt8) : (Lit.int .u8 (x.toNat : Int)).wf = true := by
  have := x.toNat_lt
  have h1 : IntKind.u8.min = 0 := by decide
  have h2 : IntKind.u8.max = 255 := by decide
  simp [Lit.wf, h1, h2]; omega
theorem wf_u16 (x : UInt16) : (Lit.int .u16 (x.toNat : Int)).wf = true := by
  have := x.toNat_lt
  have h1 : IntKind.u16.min = 0 := by decide
  have h2 : IntKind.u16.max = 65535 := by decide
  simp [Lit.wf, h1, h2]; omega
/-- two numbers as a struct -/
def dkv (k : UInt8 × UInt16) : Value := .agg #[.int .u8 (k.1.toNat : Int), .int .u16 (k.2.toNat : Int)]
theorem dkv_inj (a b : UInt8 × UInt16) (h : dkv a = dkv b) : a = b := by
  obtain ⟨a1, a2⟩ := a
  obtain ⟨b1, b2⟩ := b
  simp only [dkv, Value.agg.injEq, Array.mk.injEq, List.cons.injEq, Value.int.injEq, true_and, and_true] at h
  obtain ⟨h1, h2⟩ := h
  have e1 : a1 = b1 := UInt8.toNat_inj.1 (by omega)
  have e2 : a2 = b2 := UInt16.toNat_inj.1 (by omega)
  rw [e1, e2]
theorem labReads (l : UInt8) (c : UInt16) : ∃ lt, keyOf Try.prog 41 (.agg #[.int .u8 (l.toNat : Int), .int .u16 (c.toNat : Int)]) = some lt := by
  have hkt : Try.prog.keyType 41 = true := by kernel_rfl
  have h1 : Try.prog.cellsOf 41 = 2 := by kernel_rfl
  have h3 : Try.prog.cellsOf 5 = 1 := by kernel_rfl
  have h4 : Try.prog.cellsOf 39 = 1 := by kernel_rfl
  have hs : ∃ k, Try.prog.types.size + 1 = k + 3 := ⟨Try.prog.types.size - 2, by have : 2 ≤ Try.prog.types.size := (by decide +kernel); omega⟩
  obtain ⟨k, hk⟩ := hs
  have a2 : ∀ j (x : UInt8), Try.prog.keyLits (j + 1) 5 [.int .u8 (x.toNat : Int)] = some [.int .u8 (x.toNat : Int)] := fun j x => by unfold Program.keyLits; rw [Try.underlying5]; simp [wf_u8]
  have a3 : ∀ j (x : UInt16), Try.prog.keyLits (j + 1) 39 [.int .u16 (x.toNat : Int)] = some [.int .u16 (x.toNat : Int)] := fun j x => by unfold Program.keyLits; rw [Try.underlying39]; simp [wf_u16]
  have e : Try.prog.keyLits (k + 3) 41 [.int .u8 (l.toNat : Int), .int .u16 (c.toNat : Int)] = some [.int .u8 (l.toNat : Int), .int .u16 (c.toNat : Int)] := by
    unfold Program.keyLits
    rw [Try.underlying41]
    simp [h1, h3, h4, a2, a3]
  unfold keyOf
  rw [Try.underlying41, hk]
  simp [hkt, Value.formed, Try.underlying41, h1, Value.cells, e]
theorem markReads (l : UInt8) (c : UInt16) : ∃ lt, keyOf Try.prog 161 (.agg #[.int .u8 (l.toNat : Int), .int .u16 (c.toNat : Int)]) = some lt := by
  have hkt : Try.prog.keyType 161 = true := by kernel_rfl
  have h1 : Try.prog.cellsOf 161 = 2 := by kernel_rfl
  have h3 : Try.prog.cellsOf 5 = 1 := by kernel_rfl
  have h4 : Try.prog.cellsOf 39 = 1 := by kernel_rfl
  have hs : ∃ k, Try.prog.types.size + 1 = k + 3 := ⟨Try.prog.types.size - 2, by have : 2 ≤ Try.prog.types.size := (by decide +kernel); omega⟩
  obtain ⟨k, hk⟩ := hs
  have a2 : ∀ j (x : UInt8), Try.prog.keyLits (j + 1) 5 [.int .u8 (x.toNat : Int)] = some [.int .u8 (x.toNat : Int)] := fun j x => by unfold Program.keyLits; rw [Try.underlying5]; simp [wf_u8]
  have a3 : ∀ j (x : UInt16), Try.prog.keyLits (j + 1) 39 [.int .u16 (x.toNat : Int)] = some [.int .u16 (x.toNat : Int)] := fun j x => by unfold Program.keyLits; rw [Try.underlying39]; simp [wf_u16]
  have e : Try.prog.keyLits (k + 3) 161 [.int .u8 (l.toNat : Int), .int .u16 (c.toNat : Int)] = some [.int .u8 (l.toNat : Int), .int .u16 (c.toNat : Int)] := by
    unfold Program.keyLits
    rw [Try.underlying161]
    simp [h1, h3, h4, a2, a3]
  unfold keyOf
  rw [Try.underlying161, hk]
  simp [hkt, Value.formed, Try.underlying161, h1, Value.cells, e]
theorem labEnc : KeyEnc Try.prog 41 dkv where
  keyed := Maps.Keyed.of_law (deep_law_laid conf_laid (m := 2) (by omega) (by decide +kernel) (by kernel_rfl) (by kernel_rfl))
  reads := fun ⟨l, c⟩ => labReads l c
  inj := dkv_inj
theorem markEnc : KeyEnc Try.prog 161 dkv where
  keyed := Maps.Keyed.of_law (deep_law_laid conf_laid (m := 2) (by omega) (by decide +kernel) (by kernel_rfl) (by kernel_rfl))
  reads := fun ⟨l, c⟩ => markReads l c
  inj := dkv_inj
/-- a text as a key -/
abbrev SKey := { l : List UInt8 // l.length ≤ maxLen }
def skv (k : SKey) : Value := .string ⟨k.val.toArray⟩
def sk (s : ByteArray) (h : s.size ≤ maxLen) : SKey := ⟨s.data.toList, by rw [← sz s]; exact h⟩
theorem skv_sk (s : ByteArray) (h : s.size ≤ maxLen) : skv (sk s h) = .string s := by cases s; simp [skv, sk]
theorem strEnc : KeyEnc Try.prog 9 skv where
  keyed := Maps.string_keyed Try.underlying9
  reads := fun ⟨l, h⟩ => ⟨_, keyOf_string_mk Try.underlying9 (s := ⟨l.toArray⟩) (by simpa [ByteArray.size] using h)⟩
  inj := fun ⟨a, _⟩ ⟨b, _⟩ h => by
    simp only [skv, Value.string.injEq, ByteArray.mk.injEq] at h
    exact Subtype.ext (List.toArray_inj h)

def skey (l : List UInt8) : SKey := if h : l.length ≤ maxLen then ⟨l, h⟩ else ⟨[], by simp [maxLen]⟩
theorem skey_val {l : List UInt8} (h : l.length ≤ maxLen) : (skey l).val = l := by simp [skey, h]
theorem sk_skey (s : ByteArray) (h : s.size ≤ maxLen) : sk s h = skey s.data.toList := Subtype.ext (by rw [skey_val (by rw [← sz s]; exact h)]; rfl)
theorem name_short {l : List UInt8} (h : nameB l = true) : l.length ≤ 8 := by simp [nameB] at h; omega

def namesFrom : Nat → List RegV → List (SKey × Value)
  | _, [] => []
  | i, r :: rest => (skey r.name, .int .i64 (i : Int)) :: namesFrom (i + 1) rest
def labelsFrom : Nat → List RegV → List ((UInt8 × UInt16) × Value)
  | _, [] => []
  | i, r :: rest => ((r.lev, r.cats), .int .i64 (i : Int)) :: labelsFrom (i + 1) rest
def trustL (K : List MarkV) : List ((UInt8 × UInt16) × Value) := K.map fun m => (m, .bool true)
theorem namesFrom_snoc (i : Nat) (R : List RegV) (r : RegV) : namesFrom i (R ++ [r]) = namesFrom i R ++ [(skey r.name, .int .i64 ((i + R.length : Nat) : Int))] := by
  induction R generalizing i with
  | nil => simp [namesFrom]
  | cons x rest ih => simp [namesFrom, ih]; omega
theorem labelsFrom_snoc (i : Nat) (R : List RegV) (r : RegV) : labelsFrom i (R ++ [r]) = labelsFrom i R ++ [((r.lev, r.cats), .int .i64 ((i + R.length : Nat) : Int))] := by
  induction R generalizing i with
  | nil => simp [labelsFrom]
  | cons x rest ih => simp [labelsFrom, ih]; omega
theorem names_keys (i : Nat) (R : List RegV) : (namesFrom i R).map (·.1) = R.map (fun r => skey r.name) := by
  induction R generalizing i with
  | nil => rfl
  | cons x rest ih => simp [namesFrom, ih]
theorem labels_keys (i : Nat) (R : List RegV) : (labelsFrom i R).map (·.1) = R.map (fun r => (r.lev, r.cats)) := by
  induction R generalizing i with
  | nil => rfl
  | cons x rest ih => simp [labelsFrom, ih]

/-- what a label may be that was added -/
def okReg (r : RegV) : Prop := nameB r.name = true ∧ 4 ≤ r.blocks ∧ r.blocks ≤ 512 ∧ 4 ≤ r.nodes ∧ r.nodes ≤ 128

/-- A configuration that is being made, at c, in memory from block B on: rows of labels, marks, places; maps of marks, names, labels. -/
structure ConfG (B : Nat) (w : World) (c : Nat) (R : List RegV) (G : List GeoV) (tot : Int) (K : List MarkV) (T : List ((UInt8 × UInt16) × Value)) (N : List (SKey × Value)) (L : List ((UInt8 × UInt16) × Value)) (tb nb lb : Nat) (A1 A2 A3 : Option Addr) (c1 c2 c3 : Nat) : Prop where
  blk : Blk w c 125 #[.slice A1 R.length c1, .map (some tb), .slice A2 K.length c2, .map (some nb), .map (some lb), .slice A3 G.length c3, .int .i64 tot]
  regs : w.ownsRow B 43 9 (.slice A1 R.length c1) R.length (rcellsOf R)
  marks : w.ownsRow B 161 2 (.slice A2 K.length c2) K.length (mcellsOf K)
  geos : w.ownsRow B 112 6 (.slice A3 G.length c3) G.length (gcellsOf G)
  tr : MapR dkv w tb T
  nm : MapR skv w nb N
  lm : MapR dkv w lb L
  hc : B ≤ c
  htb : B ≤ tb
  hnb : B ≤ nb
  hlb : B ≤ lb
  n1 : tb ≠ nb
  n2 : tb ≠ lb
  n3 : nb ≠ lb

/-- A configuration at c, of labels R and marks K, in memory from block B on. -/
structure ConfIn (B : Nat) (w : World) (c : Nat) (R : List RegV) (K : List MarkV) (tb nb lb : Nat) (A1 A2 A3 : Option Addr) (c1 c2 c3 : Nat) : Prop
    extends ConfG B w c R (geosOf 32 R) (totalOf 32 R) K (trustL K) (namesFrom 0 R) (labelsFrom 0 R) tb nb lb A1 A2 A3 c1 c2 c3 where
  ok : ∀ r ∈ R, okReg r

theorem total_bounds {R : List RegV} (h : ∀ r ∈ R, okReg r) (a : Int) (ha : 0 ≤ a) : 0 ≤ totalOf a R ∧ totalOf a R ≤ a + 577 * (R.length : Int) := by
  induction R generalizing a with
  | nil => simp [totalOf, ha]
  | cons r rest ih =>
    obtain ⟨_, h1, h2, h3, h4⟩ := h r (by simp)
    have hb : 0 ≤ (geoOf a r).end_ ∧ (geoOf a r).end_ ≤ a + 577 := by simp only [geoOf, GeoV.end_]; omega
    have := ih (fun x hx => h x (by simp [hx])) (geoOf a r).end_ hb.1
    simp only [totalOf, List.length_cons]
    omega

section
variable {B : Nat} {w w' : World} {c : Nat} {R : List RegV} {K : List MarkV} {tb nb lb : Nat} {A1 A2 A3 : Option Addr} {c1 c2 c3 : Nat}
variable {G : List GeoV} {tot : Int} {T L : List ((UInt8 × UInt16) × Value)} {N : List (SKey × Value)}
theorem ConfG.keep (h : ConfG B w c R G tot K T N L tb nb lb A1 A2 A3 c1 c2 c3) (hb : ∀ g, g < w.heap.size → w'.heap[g]? = w.heap[g]?) : ConfG B w' c R G tot K T N L tb nb lb A1 A2 A3 c1 c2 c3 where
  blk := (hb c h.blk.lt).trans h.blk
  regs := own_keep h.regs fun g hg => hb g (h.regs.lt g hg).2
  marks := own_keep h.marks fun g hg => hb g (h.marks.lt g hg).2
  geos := own_keep h.geos fun g hg => hb g (h.geos.lt g hg).2
  tr := h.tr.keep (hb _ h.tr.lt)
  nm := h.nm.keep (hb _ h.nm.lt)
  lm := h.lm.keep (hb _ h.lm.lt)
  hc := h.hc
  htb := h.htb
  hnb := h.hnb
  hlb := h.hlb
  n1 := h.n1
  n2 := h.n2
  n3 := h.n3
theorem ConfG.below (h : ConfG B w c R G tot K T N L tb nb lb A1 A2 A3 c1 c2 c3) (hb : Below w.heap.size w w') : ConfG B w' c R G tot K T N L tb nb lb A1 A2 A3 c1 c2 c3 := h.keep fun g hg => hb.block g hg
theorem ConfIn.below (h : ConfIn B w c R K tb nb lb A1 A2 A3 c1 c2 c3) (hb : Below w.heap.size w w') : ConfIn B w' c R K tb nb lb A1 A2 A3 c1 c2 c3 := ⟨h.toConfG.below hb, h.ok⟩
theorem OnlyMap.trans {a b d : World} {m : Nat} (h : OnlyMap a b m) (k : OnlyMap b d m) : OnlyMap a d m :=
  ⟨h.1.andThen k.1 fun j hj => .inr hj, k.2.trans h.2⟩
theorem OnlyMap.blk {a b : World} {m g : Nat} (h : OnlyMap a b m) (hg : g ≠ m) (hl : g < a.heap.size) : b.heap[g]? = a.heap[g]? := h.1.block g hl fun e => hg (by injection e)
/-- another map of names -/
theorem ConfG.names {N' : List (SKey × Value)} (h : ConfG B w c R G tot K T N L tb nb lb A1 A2 A3 c1 c2 c3) (ho : OnlyMap w w' nb) (hm : MapR skv w' nb N') : ConfG B w' c R G tot K T N' L tb nb lb A1 A2 A3 c1 c2 c3 where
  blk := (ho.blk (fun e => blk_not_map h.blk h.nm.is e) h.blk.lt).trans h.blk
  regs := own_keep h.regs fun g hg => ho.blk (fun e => h.nm.is.not_own h.regs (e ▸ hg)) (h.regs.lt g hg).2
  marks := own_keep h.marks fun g hg => ho.blk (fun e => h.nm.is.not_own h.marks (e ▸ hg)) (h.marks.lt g hg).2
  geos := own_keep h.geos fun g hg => ho.blk (fun e => h.nm.is.not_own h.geos (e ▸ hg)) (h.geos.lt g hg).2
  tr := h.tr.keep (ho.blk h.n1 h.tr.lt)
  nm := hm
  lm := h.lm.keep (ho.blk (Ne.symm h.n3) h.lm.lt)
  hc := h.hc
  htb := h.htb
  hnb := h.hnb
  hlb := h.hlb
  n1 := h.n1
  n2 := h.n2
  n3 := h.n3
/-- another map of labels -/
theorem ConfG.labels {L' : List ((UInt8 × UInt16) × Value)} (h : ConfG B w c R G tot K T N L tb nb lb A1 A2 A3 c1 c2 c3) (ho : OnlyMap w w' lb) (hm : MapR dkv w' lb L') : ConfG B w' c R G tot K T N L' tb nb lb A1 A2 A3 c1 c2 c3 where
  blk := (ho.blk (fun e => blk_not_map h.blk h.lm.is e) h.blk.lt).trans h.blk
  regs := own_keep h.regs fun g hg => ho.blk (fun e => h.lm.is.not_own h.regs (e ▸ hg)) (h.regs.lt g hg).2
  marks := own_keep h.marks fun g hg => ho.blk (fun e => h.lm.is.not_own h.marks (e ▸ hg)) (h.marks.lt g hg).2
  geos := own_keep h.geos fun g hg => ho.blk (fun e => h.lm.is.not_own h.geos (e ▸ hg)) (h.geos.lt g hg).2
  tr := h.tr.keep (ho.blk h.n2 h.tr.lt)
  nm := h.nm.keep (ho.blk h.n3 h.nm.lt)
  lm := hm
  hc := h.hc
  htb := h.htb
  hnb := h.hnb
  hlb := h.hlb
  n1 := h.n1
  n2 := h.n2
  n3 := h.n3
/-- another map of marks -/
theorem ConfG.trust {T' : List ((UInt8 × UInt16) × Value)} (h : ConfG B w c R G tot K T N L tb nb lb A1 A2 A3 c1 c2 c3) (ho : OnlyMap w w' tb) (hm : MapR dkv w' tb T') : ConfG B w' c R G tot K T' N L tb nb lb A1 A2 A3 c1 c2 c3 where
  blk := (ho.blk (fun e => blk_not_map h.blk h.tr.is e) h.blk.lt).trans h.blk
  regs := own_keep h.regs fun g hg => ho.blk (fun e => h.tr.is.not_own h.regs (e ▸ hg)) (h.regs.lt g hg).2
  marks := own_keep h.marks fun g hg => ho.blk (fun e => h.tr.is.not_own h.marks (e ▸ hg)) (h.marks.lt g hg).2
  geos := own_keep h.geos fun g hg => ho.blk (fun e => h.tr.is.not_own h.geos (e ▸ hg)) (h.geos.lt g hg).2
  tr := hm
  nm := h.nm.keep (ho.blk (Ne.symm h.n1) h.nm.lt)
  lm := h.lm.keep (ho.blk (Ne.symm h.n2) h.lm.lt)
  hc := h.hc
  htb := h.htb
  hnb := h.hnb
  hlb := h.hlb
  n1 := h.n1
  n2 := h.n2
  n3 := h.n3

set_option maxRecDepth 100000 in
theorem add_name (s : ByteArray) (lv : UInt8) (ct : UInt16) (b n f p q cl many i : Int) (w : World) (hn : nameB s.data.toList = false) :
    Calls Try.prog 70 #[.pointer (some ⟨c, 0, none⟩), .int .i64 i, .agg #[.string s, .int .u8 (lv.toNat : Int), .int .u16 (ct.toNat : Int), .int .i64 b, .int .i64 n, .int .i64 f, .int .i64 p, .int .i64 q, .int .i64 cl], .int .i64 many] w fun e w' => e = .returned (.int .i64 30) ∧ Below w.heap.size w w' := by
  go_enter Try.func70, Try.ntmps70
  go_wp2_with fail
  refine (name_ok _ _).mono ?_
  rw [hn]
  rintro e w1 ⟨rfl, hb⟩
  have HB := hide (((Below.refl w.heap.size w).alloc (Nat.le_refl _) _).trans (hb.mono (by simp)))
  clear hb
  go_wp2
  go_returns
  exact ⟨rfl, HB.out⟩

set_option maxRecDepth 100000 in
theorem add_range (s : ByteArray) (lv : UInt8) (ct : UInt16) (b n f p q cl many i : Int) (w : World) (hn : nameB s.data.toList = true) (h1 : -9000000000000000000 ≤ many) (h2 : many ≤ 9000000000000000000)
    (hr : (decide (lv ≤ 15) && (soundC b n f p q && inB cl 0 (many - 1))) = false) :
    Calls Try.prog 70 #[.pointer (some ⟨c, 0, none⟩), .int .i64 i, .agg #[.string s, .int .u8 (lv.toNat : Int), .int .u16 (ct.toNat : Int), .int .i64 b, .int .i64 n, .int .i64 f, .int .i64 p, .int .i64 q, .int .i64 cl], .int .i64 many] w fun e w' => e = .returned (.int .i64 27) ∧ Below w.heap.size w w' := by
  go_enter Try.func70, Try.ntmps70
  go_wp2_with fail
  refine (name_ok _ _).mono ?_
  rw [hn]
  rintro e w1 ⟨rfl, hb⟩
  refine at_world (fun W => Below w.heap.size w W ∧ Blk W w.heap.size 43 #[.string s, .int .u8 (lv.toNat : Int), .int .u16 (ct.toNat : Int), .int .i64 b, .int .i64 n, .int .i64 f, .int .i64 p, .int .i64 q, .int .i64 cl]) ⟨((Below.refl w.heap.size w).alloc (Nat.le_refl _) _).trans (hb.mono (by simp)), (Blk.new w _ _).below hb (by simp)⟩ (fun W1 h => ?_)
  obtain ⟨hb1, rB⟩ := h
  have x0 := rB.cell 0
  have x1 := rB.cell 1
  have x2 := rB.cell 2
  have x3 := rB.cell 3
  have x4 := rB.cell 4
  have x5 := rB.cell 5
  have x6 := rB.cell 6
  have x7 := rB.cell 7
  have x8 := rB.cell 8
  have xl := rB.lt
  have HB := hide hb1
  have hbn := hb1.size
  clear hb hb1
  go_wp2_with fail
  refine (label_valid _ _ _).mono ?_
  cases hl : decide (lv ≤ 15) with
  | false =>
    rintro e w2 ⟨rfl, hb⟩
    have hb1 := HB.out.trans (hb.mono HB.out.size)
    have rB' := rB.below hb rB.lt
    clear x0 x1 x2 x3 x4 x5 x6 x7 x8 xl
    clear HB rB hb
    have rB := rB'
    clear rB'
    have x0 := rB.cell 0
    have x1 := rB.cell 1
    have x2 := rB.cell 2
    have x3 := rB.cell 3
    have x4 := rB.cell 4
    have x5 := rB.cell 5
    have x6 := rB.cell 6
    have x7 := rB.cell 7
    have x8 := rB.cell 8
    have xl := rB.lt
    have HB := hide hb1
    clear hb1
    clear hr
    go_wp2
    go_returns
    exact ⟨rfl, HB.out⟩
  | true =>
    rw [hl] at hr
    rintro e w2 ⟨rfl, hb⟩
    have hb1 := HB.out.trans (hb.mono HB.out.size)
    have rB' := rB.below hb rB.lt
    clear x0 x1 x2 x3 x4 x5 x6 x7 x8 xl
    clear HB rB hb
    have rB := rB'
    clear rB'
    have x0 := rB.cell 0
    have x1 := rB.cell 1
    have x2 := rB.cell 2
    have x3 := rB.cell 3
    have x4 := rB.cell 4
    have x5 := rB.cell 5
    have x6 := rB.cell 6
    have x7 := rB.cell 7
    have x8 := rB.cell 8
    have xl := rB.lt
    have HB := hide hb1
    clear hb1
    clear hl
    go_wp2_with fail
    refine (sound_ok _ _ _ _ _ _ _ _ _ _).mono ?_
    cases hs : soundC b n f p q with
    | false =>
      rintro e w3 ⟨rfl, hb⟩
      have hb1 := HB.out.trans (hb.mono HB.out.size)
      have rB' := rB.below hb rB.lt
      clear x0 x1 x2 x3 x4 x5 x6 x7 x8 xl
      clear HB rB hb
      have rB := rB'
      clear rB'
      have x0 := rB.cell 0
      have x1 := rB.cell 1
      have x2 := rB.cell 2
      have x3 := rB.cell 3
      have x4 := rB.cell 4
      have x5 := rB.cell 5
      have x6 := rB.cell 6
      have x7 := rB.cell 7
      have x8 := rB.cell 8
      have xl := rB.lt
      have HB := hide hb1
      clear hb1
      clear hr
      go_wp2
      go_returns
      exact ⟨rfl, HB.out⟩
    | true =>
      rw [hs] at hr
      rintro e w3 ⟨rfl, hb⟩
      have hb1 := HB.out.trans (hb.mono HB.out.size)
      have rB' := rB.below hb rB.lt
      clear x0 x1 x2 x3 x4 x5 x6 x7 x8 xl
      clear HB rB hb
      have rB := rB'
      clear rB'
      have x0 := rB.cell 0
      have x1 := rB.cell 1
      have x2 := rB.cell 2
      have x3 := rB.cell 3
      have x4 := rB.cell 4
      have x5 := rB.cell 5
      have x6 := rB.cell 6
      have x7 := rB.cell 7
      have x8 := rB.cell 8
      have xl := rB.lt
      have HB := hide hb1
      clear hb1
      clear hs
      have hw : wrap64 (many - 1) = many - 1 := IntWalk.wrap64_in _ (by omega)
      go_wp2_with fail
      refine (within_ok _ _ _ _).mono ?_
      rw [show inB cl 0 (many - 1) = false by simpa using hr]
      rintro e w4 ⟨rfl, rfl⟩
      clear hr
      go_wp2
      go_returns
      exact ⟨rfl, HB.out⟩
-- PRINTED BELOW (wip/tools/confat.py)

theorem look_names {w : World} {nb : Nat} {L : List (SKey × Value)} (h : MapR skv w nb L) (s : ByteArray) (hs : s.size ≤ maxLen) {v : Value} {b : Bool} (hv : (mget L (sk s hs)).getD (.int .i64 0) = v) (hb : (mget L (sk s hs)).isSome = b) (W : World) (hW : Below w.heap.size w W) :
    (Instr.lookup 121 (.map (some nb)) (.string s) true).run Try.prog W = .ok (.tuple #[v, .bool b]) W := by
  rw [← hv, ← hb, ← skv_sk s hs]
  exact (h.is.keep (hW.block nb h.lt)).lookup strEnc Try.underlying121 (z := .int .i64 0) (by kernel_rfl) (sk s hs) true
theorem look_labels {w : World} {lb : Nat} {L : List ((UInt8 × UInt16) × Value)} (h : MapR dkv w lb L) (l : UInt8) (c : UInt16) {v : Value} {b : Bool} (hv : (mget L (l, c)).getD (.int .i64 0) = v) (hb : (mget L (l, c)).isSome = b) (W : World) (hW : Below w.heap.size w W) :
    (Instr.lookup 122 (.map (some lb)) (.agg #[.int .u8 (l.toNat : Int), .int .u16 (c.toNat : Int)]) true).run Try.prog W = .ok (.tuple #[v, .bool b]) W := by
  rw [← hv, ← hb]
  exact (h.is.keep (hW.block lb h.lt)).lookup labEnc Try.underlying122 (z := .int .i64 0) (by kernel_rfl) (l, c) true

set_option maxRecDepth 100000 in
set_option maxHeartbeats 400000 in
theorem add_twice (h : ConfIn B w c R K tb nb lb A1 A2 A3 c1 c2 c3) (s : ByteArray) (lv : UInt8) (ct : UInt16) (b n f p q cl many : Int) (i : Nat) (hn : nameB s.data.toList = true) (h1 : -9000000000000000000 ≤ many) (h2 : many ≤ 9000000000000000000)
    (hr : (decide (lv ≤ 15) && (soundC b n f p q && inB cl 0 (many - 1))) = true) (ht : s.data.toList ∈ R.map (·.name)) :
    Calls Try.prog 70 #[.pointer (some ⟨c, 0, none⟩), .int .i64 (i : Int), .agg #[.string s, .int .u8 (lv.toNat : Int), .int .u16 (ct.toNat : Int), .int .i64 b, .int .i64 n, .int .i64 f, .int .i64 p, .int .i64 q, .int .i64 cl], .int .i64 many] w fun e w' => e = .returned (.int .i64 29) ∧ Below w.heap.size w w' := by
  have hsm : s.size ≤ maxLen := by have := name_short hn; have := sz s; simp only [maxLen]; omega
  have hl : decide (lv ≤ 15) = true := by simp only [Bool.and_eq_true] at hr; exact hr.1
  have hs : soundC b n f p q = true := by simp only [Bool.and_eq_true] at hr; exact hr.2.1
  have hcl : inB cl 0 (many - 1) = true := by simp only [Bool.and_eq_true] at hr; exact hr.2.2
  clear hr
  go_enter Try.func70, Try.ntmps70
  go_wp2_with fail
  refine (name_ok _ _).mono ?_
  rw [hn]
  rintro e w1 ⟨rfl, hb⟩
  refine at_world (fun W => Below w.heap.size w W ∧ Blk W w.heap.size 43 #[.string s, .int .u8 (lv.toNat : Int), .int .u16 (ct.toNat : Int), .int .i64 b, .int .i64 n, .int .i64 f, .int .i64 p, .int .i64 q, .int .i64 cl] ∧ ConfIn B W c R K tb nb lb A1 A2 A3 c1 c2 c3) ⟨((Below.refl w.heap.size w).alloc (Nat.le_refl _) _).trans (hb.mono (by simp)), (Blk.new w _ _).below hb (by simp), h.below (((Below.refl w.heap.size w).alloc (Nat.le_refl _) _).trans (hb.mono (by simp)))⟩ (fun W1 h9 => ?_)
  clear h
  obtain ⟨hb1, rB, h⟩ := h9
  have x0 := rB.cell 0
  have x1 := rB.cell 1
  have x2 := rB.cell 2
  have x3 := rB.cell 3
  have x4 := rB.cell 4
  have x5 := rB.cell 5
  have x6 := rB.cell 6
  have x7 := rB.cell 7
  have x8 := rB.cell 8
  have xl := rB.lt
  have HB := hide hb1
  have hbn := hb1.size
  clear hb hb1
  go_wp2_with fail
  refine (label_valid _ _ _).mono ?_
  rw [hl]
  rintro e w2 ⟨rfl, hb⟩
  have hb1 := HB.out.trans (hb.mono HB.out.size)
  have rB' := rB.below hb rB.lt
  have h' := h.below hb
  clear x0 x1 x2 x3 x4 x5 x6 x7 x8 xl
  clear HB rB hb h
  have rB := rB'
  have h := h'
  clear rB' h'
  have x0 := rB.cell 0
  have x1 := rB.cell 1
  have x2 := rB.cell 2
  have x3 := rB.cell 3
  have x4 := rB.cell 4
  have x5 := rB.cell 5
  have x6 := rB.cell 6
  have x7 := rB.cell 7
  have x8 := rB.cell 8
  have xl := rB.lt
  have HB := hide hb1
  clear hb1
  clear hl
  go_wp2_with fail
  refine (sound_ok _ _ _ _ _ _ _ _ _ _).mono ?_
  rw [hs]
  rintro e w3 ⟨rfl, hb⟩
  have hb1 := HB.out.trans (hb.mono HB.out.size)
  have rB' := rB.below hb rB.lt
  have h' := h.below hb
  clear x0 x1 x2 x3 x4 x5 x6 x7 x8 xl
  clear HB rB hb h
  have rB := rB'
  have h := h'
  clear rB' h'
  have x0 := rB.cell 0
  have x1 := rB.cell 1
  have x2 := rB.cell 2
  have x3 := rB.cell 3
  have x4 := rB.cell 4
  have x5 := rB.cell 5
  have x6 := rB.cell 6
  have x7 := rB.cell 7
  have x8 := rB.cell 8
  have xl := rB.lt
  have HB := hide hb1
  clear hb1
  have HS := hide hs
  clear hs
  have hw : wrap64 (many - 1) = many - 1 := IntWalk.wrap64_in _ (by omega)
  go_wp2_with fail
  refine (within_ok _ _ _ _).mono ?_
  rw [hcl]
  rintro e w4 ⟨rfl, rfl⟩
  clear hcl hw
  go_wp2_with fail
  obtain ⟨v, hv⟩ : ∃ v, mget (namesFrom 0 R) (sk s hsm) = some v := by
    cases hm : mget (namesFrom 0 R) (sk s hsm) with
    | some v => exact ⟨v, rfl⟩
    | none =>
      refine absurd ?_ (mget_none_iff.1 hm)
      rw [names_keys, sk_skey]
      obtain ⟨r, hr', e⟩ := List.mem_map.1 ht
      exact List.mem_map.2 ⟨r, hr', by rw [e]⟩
  have HLK : Hid (∀ (u : World), MapR skv u nb (namesFrom 0 R) → ∀ W, Below u.heap.size u W → (Instr.lookup 121 (.map (some nb)) (.string s) true).run Try.prog W = .ok (.tuple #[v, .bool true]) W) := hide fun u hu W hW => look_names hu s hsm (by rw [hv]; rfl) (by rw [hv]; rfl) W hW
  clear hv ht
  have c3 := h.blk.cell 3
  have cz := h.blk.lt
  have hlk : ∀ W, Below w4.heap.size w4 W → (Instr.lookup 121 (.map (some nb)) (.string s) true).run Try.prog W = .ok (.tuple #[v, .bool true]) W := HLK.out w4 h.nm
  have hnz := h.nm.lt
  refine wp_region_text [0, 0, 0, 0, 0, 0, 0, 0, 0, 0, 0, 0] (Below w4.heap.size w4) (by kernel_rfl) (by kernel_rfl) (Below.refl _ _).drew ?_
  iterate 12 (refine wpOrd_q (v := ?_) (by rfl) (fun W hW => ?_) ?_; rotate_left; (focus ((obtain ⟨hWc, hWf⟩ := bcell hW); have hq := hlk W hW; go_simp; try with_reducible rfl)); try simp only [Act.put, List.setIfInBounds_toArray, List.set_cons_zero, List.set_cons_succ])
  refine wpOrd_nil ?_
  clear c3 cz hlk hnz
  go_wp2
  go_returns
  exact ⟨rfl, HB.out.drew⟩

theorem names_none {R : List RegV} (hR : ∀ r ∈ R, okReg r) {s : ByteArray} (hs : s.size ≤ maxLen) (ht : s.data.toList ∉ R.map (·.name)) : mget (namesFrom 0 R) (sk s hs) = none := by
  rw [mget_none_iff, names_keys]
  intro hm
  obtain ⟨r, hr, e⟩ := List.mem_map.1 hm
  have h8 := name_short (hR r hr).1
  refine ht (List.mem_map.2 ⟨r, hr, ?_⟩)
  have := congrArg Subtype.val e
  rw [skey_val (by simp only [maxLen]; omega)] at this
  exact this
theorem labels_none {R : List RegV} {l : UInt8} {c : UInt16} (ht : (l, c) ∉ R.map (fun x => (x.lev, x.cats))) : mget (labelsFrom 0 R) (l, c) = none := by
  rw [mget_none_iff, labels_keys]
  exact ht
theorem names_put {R : List RegV} {r : RegV} {s : ByteArray} {hs : s.size ≤ maxLen} (h : mget (namesFrom 0 R) (sk s hs) = none) (e : r.name = s.data.toList) : mput (namesFrom 0 R) (sk s hs) (.int .i64 (R.length : Int)) = namesFrom 0 (R ++ [r]) := by
  rw [mput_none_of fun x hx e => (mget_none_iff.1 h) (List.mem_map.2 ⟨x, hx, e⟩), namesFrom_snoc, sk_skey, e]
  simp
theorem labels_put {R : List RegV} {r : RegV} (h : mget (labelsFrom 0 R) (r.lev, r.cats) = none) : mput (labelsFrom 0 R) (r.lev, r.cats) (.int .i64 (R.length : Int)) = labelsFrom 0 (R ++ [r]) := by
  rw [mput_none_of fun x hx e => (mget_none_iff.1 h) (List.mem_map.2 ⟨x, hx, e⟩), labelsFrom_snoc]
  simp
theorem names_put' {R : List RegV} {r : RegV} {i : Nat} {s : ByteArray} {hs : s.size ≤ maxLen} (h : mget (namesFrom 0 R) (sk s hs) = none) (e : r.name = s.data.toList) (hi : i = R.length) : mput (namesFrom 0 R) (sk s hs) (.int .i64 (i : Int)) = namesFrom 0 (R ++ [r]) := by subst hi; exact names_put h e
theorem labels_put' {R : List RegV} {r : RegV} {i : Nat} (h : mget (labelsFrom 0 R) (r.lev, r.cats) = none) (hi : i = R.length) : mput (labelsFrom 0 R) (r.lev, r.cats) (.int .i64 (i : Int)) = labelsFrom 0 (R ++ [r]) := by subst hi; exact labels_put h
/-- two rows of one's own of two kinds -/
theorem own_apart {w : World} {b1 b2 n1 n2 s1 s2 : Nat} {e1 e2 : TypeId} {v1 v2 : Value} {x1 x2 : List Value} (h1 : w.ownsRow b1 e1 s1 v1 n1 x1) (h2 : w.ownsRow b2 e2 s2 v2 n2 x2) (hne : e1 ≠ e2) : v1.ownBlock = none ∨ v1.ownBlock ≠ v2.ownBlock := by
  rcases h1.2 with ⟨rfl, _⟩ | ⟨g, cap, cur, rfl, _, hh, _⟩
  · exact .inl rfl
  · refine .inr fun e => ?_
    rcases h2.2 with ⟨rfl, _⟩ | ⟨g', cap', cur', rfl, _, hh', _⟩
    · cases e
    · simp only [Value.ownBlock, Option.some.injEq] at e
      subst e
      rw [hh] at hh'
      simp only [Option.some.injEq, Obj.cells.injEq] at hh'
      exact hne hh'.2.1
/-- two classes of knowledge -/
def S2 (A C : World → Prop) : Nat → World → Prop := fun k W => if k = 1 then A W else if k = 2 then True else C W
theorem S2.hold {A C : World → Prop} {w : World} (hA : A w) (hC : C w) : ∀ k, S2 A C k w := fun k => by
  unfold S2
  split
  · exact hA
  · split
    · trivial
    · exact hC
theorem S2.one {A C : World → Prop} {w : World} (h : S2 A C 1 w) : A w := h
theorem S2.rest {A C : World → Prop} {w : World} {k : Nat} (hk : k ≠ 1 ∧ k ≠ 2) (h : S2 A C k w) : C w := by
  unfold S2 at h
  rwa [if_neg hk.1, if_neg hk.2] at h
theorem S2.drop {A C : World → Prop} : ∀ k, k ∈ [1] ∨ ∀ x, S2 (fun _ => True) C k x → S2 A C k x := fun k => by
  by_cases h : k = 1
  · exact .inl (by simp [h])
  · refine .inr fun x hx => ?_
    unfold S2 at hx ⊢
    rwa [if_neg h] at hx ⊢
/-- what lies beside the rows that are appended to -/
structure AddSt (B : Nat) (X : World) (c rb gb : Nat) (cc rc gc : Array Value) (K : List MarkV) (T : List ((UInt8 × UInt16) × Value)) (N : List (SKey × Value)) (L : List ((UInt8 × UInt16) × Value)) (tb nb lb : Nat) (A2 : Option Addr) (c2 : Nat) : Prop where
  cB : Blk X c 125 cc
  rB : Blk X rb 43 rc
  gB : Blk X gb 112 gc
  marks : X.ownsRow B 161 2 (.slice A2 K.length c2) K.length (mcellsOf K)
  tr : MapR dkv X tb T
  nm : MapR skv X nb N
  lm : MapR dkv X lb L
theorem AddSt.below {B : Nat} {X X' : World} {c rb gb : Nat} {cc rc gc : Array Value} {K : List MarkV} {T : List ((UInt8 × UInt16) × Value)} {N : List (SKey × Value)} {L : List ((UInt8 × UInt16) × Value)} {tb nb lb : Nat} {A2 : Option Addr} {c2 : Nat} (h : AddSt B X c rb gb cc rc gc K T N L tb nb lb A2 c2) (hb : Below X.heap.size X X') : AddSt B X' c rb gb cc rc gc K T N L tb nb lb A2 c2 :=
  ⟨h.cB.below hb h.cB.lt, h.rB.below hb h.rB.lt, h.gB.below hb h.gB.lt, own_below h.marks hb, h.tr.below hb h.tr.lt, h.nm.below hb h.nm.lt, h.lm.below hb h.lm.lt⟩
theorem AddSt.row {B : Nat} {X X' : World} {c rb gb : Nat} {cc rc gc : Array Value} {K : List MarkV} {T : List ((UInt8 × UInt16) × Value)} {N : List (SKey × Value)} {L : List ((UInt8 × UInt16) × Value)} {tb nb lb : Nat} {A2 : Option Addr} {c2 : Nat} {b2 n sz : Nat} {e : TypeId} {v : Value} {xs : List Value}
    (h : AddSt B X c rb gb cc rc gc K T N L tb nb lb A2 c2) (ho : X.ownsRow b2 e sz v n xs) (e1 : 125 ≠ e) (e2 : 161 ≠ e) (hr : v.ownBlock ≠ some rb) (hg : v.ownBlock ≠ some gb) (hgr : X.grownBy X' v.ownBlock) : AddSt B X' c rb gb cc rc gc K T N L tb nb lb A2 c2 where
  cB := h.cB.grown hgr fun e => blk_not_own h.cB ho e1 e.symm
  rB := h.rB.grown hgr (Ne.symm hr)
  gB := h.gB.grown hgr (Ne.symm hg)
  marks := h.marks.kept hgr (own_apart h.marks ho e2)
  tr := h.tr.keep (hgr.block _ h.tr.lt fun e => h.tr.is.not_own ho e.symm)
  nm := h.nm.keep (hgr.block _ h.nm.lt fun e => h.nm.is.not_own ho e.symm)
  lm := h.lm.keep (hgr.block _ h.lm.lt fun e => h.lm.is.not_own ho e.symm)
theorem ConfIn.drew (h : ConfIn B w c R K tb nb lb A1 A2 A3 c1 c2 c3) : ConfIn B w.drew c R K tb nb lb A1 A2 A3 c1 c2 c3 := h.below (Below.refl _ _).drew

set_option maxRecDepth 100000 in
set_option maxHeartbeats 400000 in
theorem add_twice2 (h : ConfIn B w c R K tb nb lb A1 A2 A3 c1 c2 c3) (s : ByteArray) (lv : UInt8) (ct : UInt16) (b n f p q cl many : Int) (i : Nat) (hn : nameB s.data.toList = true) (h1 : -9000000000000000000 ≤ many) (h2 : many ≤ 9000000000000000000)
    (hr : (decide (lv ≤ 15) && (soundC b n f p q && inB cl 0 (many - 1))) = true) (ht : s.data.toList ∉ R.map (·.name)) (ht2 : (lv, ct) ∈ R.map (fun x => (x.lev, x.cats))) :
    Calls Try.prog 70 #[.pointer (some ⟨c, 0, none⟩), .int .i64 (i : Int), .agg #[.string s, .int .u8 (lv.toNat : Int), .int .u16 (ct.toNat : Int), .int .i64 b, .int .i64 n, .int .i64 f, .int .i64 p, .int .i64 q, .int .i64 cl], .int .i64 many] w fun e w' => e = .returned (.int .i64 29) ∧ Below w.heap.size w w' := by
  obtain ⟨v, hv⟩ : ∃ v, mget (labelsFrom 0 R) (lv, ct) = some v := by
    cases hm : mget (labelsFrom 0 R) (lv, ct) with
    | some v => exact ⟨v, rfl⟩
    | none =>
      refine absurd ?_ (mget_none_iff.1 hm)
      rw [labels_keys]
      exact ht2
  have HLL : Hid (∀ (u : World), MapR dkv u lb (labelsFrom 0 R) → ∀ W, Below u.heap.size u W → (Instr.lookup 122 (.map (some lb)) (.agg #[.int .u8 (lv.toNat : Int), .int .u16 (ct.toNat : Int)]) true).run Try.prog W = .ok (.tuple #[v, .bool true]) W) := hide fun u hu W hW => look_labels hu lv ct (by rw [hv]; rfl) (by rw [hv]; rfl) W hW
  clear hv ht2
  have hsm : s.size ≤ maxLen := by have := name_short hn; have := sz s; simp only [maxLen]; omega
  have hl : decide (lv ≤ 15) = true := by simp only [Bool.and_eq_true] at hr; exact hr.1
  have hs : soundC b n f p q = true := by simp only [Bool.and_eq_true] at hr; exact hr.2.1
  have hcl : inB cl 0 (many - 1) = true := by simp only [Bool.and_eq_true] at hr; exact hr.2.2
  clear hr
  go_enter Try.func70, Try.ntmps70
  go_wp2_with fail
  refine (name_ok _ _).mono ?_
  rw [hn]
  rintro e w1 ⟨rfl, hb⟩
  refine at_world (fun W => Below w.heap.size w W ∧ Blk W w.heap.size 43 #[.string s, .int .u8 (lv.toNat : Int), .int .u16 (ct.toNat : Int), .int .i64 b, .int .i64 n, .int .i64 f, .int .i64 p, .int .i64 q, .int .i64 cl] ∧ ConfIn B W c R K tb nb lb A1 A2 A3 c1 c2 c3) ⟨((Below.refl w.heap.size w).alloc (Nat.le_refl _) _).trans (hb.mono (by simp)), (Blk.new w _ _).below hb (by simp), h.below (((Below.refl w.heap.size w).alloc (Nat.le_refl _) _).trans (hb.mono (by simp)))⟩ (fun W1 h9 => ?_)
  clear h
  obtain ⟨hb1, rB, h⟩ := h9
  have x0 := rB.cell 0
  have x1 := rB.cell 1
  have x2 := rB.cell 2
  have x3 := rB.cell 3
  have x4 := rB.cell 4
  have x5 := rB.cell 5
  have x6 := rB.cell 6
  have x7 := rB.cell 7
  have x8 := rB.cell 8
  have xl := rB.lt
  have HB := hide hb1
  have hbn := hb1.size
  clear hb hb1
  go_wp2_with fail
  refine (label_valid _ _ _).mono ?_
  rw [hl]
  rintro e w2 ⟨rfl, hb⟩
  have hb1 := HB.out.trans (hb.mono HB.out.size)
  have rB' := rB.below hb rB.lt
  have h' := h.below hb
  clear x0 x1 x2 x3 x4 x5 x6 x7 x8 xl
  clear HB rB hb h
  have rB := rB'
  have h := h'
  clear rB' h'
  have x0 := rB.cell 0
  have x1 := rB.cell 1
  have x2 := rB.cell 2
  have x3 := rB.cell 3
  have x4 := rB.cell 4
  have x5 := rB.cell 5
  have x6 := rB.cell 6
  have x7 := rB.cell 7
  have x8 := rB.cell 8
  have xl := rB.lt
  have HB := hide hb1
  clear hb1
  clear hl
  go_wp2_with fail
  refine (sound_ok _ _ _ _ _ _ _ _ _ _).mono ?_
  rw [hs]
  rintro e w3 ⟨rfl, hb⟩
  have hb1 := HB.out.trans (hb.mono HB.out.size)
  have rB' := rB.below hb rB.lt
  have h' := h.below hb
  clear x0 x1 x2 x3 x4 x5 x6 x7 x8 xl
  clear HB rB hb h
  have rB := rB'
  have h := h'
  clear rB' h'
  have x0 := rB.cell 0
  have x1 := rB.cell 1
  have x2 := rB.cell 2
  have x3 := rB.cell 3
  have x4 := rB.cell 4
  have x5 := rB.cell 5
  have x6 := rB.cell 6
  have x7 := rB.cell 7
  have x8 := rB.cell 8
  have xl := rB.lt
  have HB := hide hb1
  clear hb1
  have HS := hide hs
  clear hs
  have hw : wrap64 (many - 1) = many - 1 := IntWalk.wrap64_in _ (by omega)
  go_wp2_with fail
  refine (within_ok _ _ _ _).mono ?_
  rw [hcl]
  rintro e w4 ⟨rfl, rfl⟩
  clear hcl hw
  go_wp2_with fail
  have hv : mget (namesFrom 0 R) (sk s hsm) = none := names_none h.ok hsm ht
  have HLK : Hid (∀ (u : World), MapR skv u nb (namesFrom 0 R) → ∀ W, Below u.heap.size u W → (Instr.lookup 121 (.map (some nb)) (.string s) true).run Try.prog W = .ok (.tuple #[.int .i64 0, .bool false]) W) := hide fun u hu W hW => look_names hu s hsm (by rw [hv]; rfl) (by rw [hv]; rfl) W hW
  have HV := hide hv
  have HT := hide ht
  clear hv ht
  have c3 := h.blk.cell 3
  have cz := h.blk.lt
  have hlk : ∀ W, Below w4.heap.size w4 W → (Instr.lookup 121 (.map (some nb)) (.string s) true).run Try.prog W = .ok (.tuple #[.int .i64 0, .bool false]) W := HLK.out w4 h.nm
  have hnz := h.nm.lt
  refine wp_region_text [0, 0, 0, 0, 0, 0, 0, 0, 0, 0, 0, 0] (Below w4.heap.size w4) (by kernel_rfl) (by kernel_rfl) (Below.refl _ _).drew ?_
  iterate 12 (refine wpOrd_q (v := ?_) (by rfl) (fun W hW => ?_) ?_; rotate_left; (focus ((obtain ⟨hWc, hWf⟩ := bcell hW); have hq := hlk W hW; go_simp; try with_reducible rfl)); try simp only [Act.put, List.setIfInBounds_toArray, List.set_cons_zero, List.set_cons_succ])
  refine wpOrd_nil ?_
  clear c3 cz hlk hnz
  go_wp2_with fail
  refine at_world (fun W => Below w.heap.size w W ∧ Blk W w.heap.size 43 #[.string s, .int .u8 (lv.toNat : Int), .int .u16 (ct.toNat : Int), .int .i64 b, .int .i64 n, .int .i64 f, .int .i64 p, .int .i64 q, .int .i64 cl] ∧ ConfIn B W c R K tb nb lb A1 A2 A3 c1 c2 c3) ⟨HB.out.drew, rB.drew, h.drew⟩ (fun W5 h9 => ?_)
  clear h rB HB x0 x1 x2 x3 x4 x5 x6 x7 x8 xl HLK
  obtain ⟨hb1, rB, h⟩ := h9
  have x0 := rB.cell 0
  have x1 := rB.cell 1
  have x2 := rB.cell 2
  have x3 := rB.cell 3
  have x4 := rB.cell 4
  have x5 := rB.cell 5
  have x6 := rB.cell 6
  have x7 := rB.cell 7
  have x8 := rB.cell 8
  have xl := rB.lt
  have HB := hide hb1
  clear hb1
  have c4 := h.blk.cell 4
  have cz := h.blk.lt
  have hlk : ∀ W, Below W5.heap.size W5 W → (Instr.lookup 122 (.map (some lb)) (.agg #[.int .u8 (lv.toNat : Int), .int .u16 (ct.toNat : Int)]) true).run Try.prog W = .ok (.tuple #[v, .bool true]) W := HLL.out W5 h.lm
  have hlz := h.lm.lt
  refine wp_region_text [0, 0, 0, 0, 0, 0, 0, 0, 0, 0, 0, 0] (Below W5.heap.size W5) (by kernel_rfl) (by kernel_rfl) (Below.refl _ _).drew ?_
  iterate 12 (refine wpOrd_q (v := ?_) (by rfl) (fun W hW => ?_) ?_; rotate_left; (focus ((obtain ⟨hWc, hWf⟩ := bcell hW); have hq := hlk W hW; go_simp; try with_reducible rfl)); try simp only [Act.put, List.setIfInBounds_toArray, List.set_cons_zero, List.set_cons_succ])
  refine wpOrd_nil ?_
  clear c4 cz hlk hlz
  go_wp2
  go_returns
  exact ⟨rfl, HB.out.drew⟩
end

end Go.Proofs.Ytoeejeieplhifaa

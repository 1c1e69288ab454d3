/- The document's answer for texts: a configuration, read. -/
import Derived.Test.YtniboffmdkeacaaDoorConfRd3
import Derived.Test.YtniboffmdkeacaaDoorConfRight
namespace Go.Proofs.YtniboffmdkeacaaDoor
open Go.RowKit Go.WideMaps
set_option linter.unusedSimpArgs false
set_option linter.unusedVariables false

/-- what Read answers -/
def ReadSays (w w' : World) (p : Option (List RegV × List MarkV) × Nat × Int) (e : Ending) : Prop :=
  Below w.heap.size w w' ∧
  match p with
  | (none, n, er) => e = .returned (.tuple #[.slice none 0 0, .slice none 0 0, .int .i64 er, .int .i64 (n : Int)])
  | (some (R, K), _) => ∃ A A' c c', e = .returned (.tuple #[.slice A R.length c, .slice A' K.length c', .int .i64 (newE R K), .int .i64 0]) ∧ Rd w' w'.heap.size 9 A R.length (rcellsOf R) ∧ Rd w' w'.heap.size 2 A' K.length (mcellsOf K)
/-- a row of one's own, not empty, as a block -/
theorem own_blk {w : World} {B sz n c : Nat} {e : TypeId} {A : Option Addr} {xs : List Value} (h : w.ownsRow B e sz (.slice A n c) n xs) (hn : 0 < n) :
    ∃ (g : Nat) (cur : Array Value), A = some ⟨g, 0, none⟩ ∧ B ≤ g ∧ n ≤ c ∧ Blk w g e cur ∧ ∀ (j : Nat) (v : Value), xs[j]? = some v → cur[j]? = some v := by
  rcases h.2 with ⟨h0, h1⟩ | ⟨g, cap, cur, hv, hg, hh, hnc, _, _, htake⟩
  · omega
  · simp only [Value.slice.injEq] at hv
    obtain ⟨rfl, _, rfl⟩ := hv
    refine ⟨g, cur, rfl, hg, hnc, hh, fun j v hj => ?_⟩
    rw [← htake, List.getElem?_take] at hj
    split at hj
    · simpa using hj
    · cases hj
/-- a trusted node's line, kept -/
def TG (w : World) (B : Nat) (cl : Value) (t : List UInt8 × List UInt8) (v : Value) : Prop :=
  ∃ g c cur, v = .slice (some ⟨g, 0, none⟩) 3 c ∧ B ≤ g ∧ cl.ownBlock ≠ some g ∧ Blk w g 9 cur ∧ cur[1]? = some (.string ⟨t.1.toArray⟩) ∧ cur[2]? = some (.string ⟨t.2.toArray⟩)
/-- what Read keeps of the lines that it has read -/
structure RRows (B : Nat) (w : World) (st : PSt) (A7 A8 A9 A10 : Option Addr) (c7 c8 c9 c10 : Nat) (vs : List Value) : Prop where
  regs : w.ownsRow B 38 9 (.slice A7 st.regs.length c7) st.regs.length (rcellsOf st.regs)
  clears : w.ownsRow B 9 1 (.slice A8 st.clears.length c8) st.clears.length (svs st.clears)
  trust : w.ownsRow B 60 1 (.slice A9 st.trust.length c9) st.trust.length vs
  ats : w.ownsRow B 3 1 (.slice A10 st.at_.length c10) st.at_.length (ivs st.at_)
  tg : ∀ (i : Nat) t, st.trust[i]? = some t → ∃ v, vs[i]? = some v ∧ TG w B (.slice A8 st.clears.length c8) t v
theorem TG.below {w w' : World} {B : Nat} {cl : Value} {t : List UInt8 × List UInt8} {v : Value} (h : TG w B cl t v) (hb : Below w.heap.size w w') : TG w' B cl t v := by
  obtain ⟨g, c, cur, h1, h2, h3, h4, h5⟩ := h
  exact ⟨g, c, cur, h1, h2, h3, h4.below hb h4.lt, h5⟩
theorem TG.besides {w w' : World} {B B' n' s' : Nat} {cl v' : Value} {e' : TypeId} {xs' : List Value} {t : List UInt8 × List UInt8} {v : Value} (h : TG w B cl t v) (h' : w.ownsRow B' e' s' v' n' xs') (hg : w.grownBy w' v'.ownBlock) (hne : 9 ≠ e' := by decide) : TG w' B cl t v := by
  obtain ⟨g, c, cur, h1, h2, h3, h4, h5⟩ := h
  exact ⟨g, c, cur, h1, h2, h3, h4.grown hg (fun e => blk_not_own h4 h' hne e.symm), h5⟩
theorem TG.clears {w w' : World} {B : Nat} {cl cl' : Value} {t : List UInt8 × List UInt8} {v : Value} (h : TG w B cl t v) (hg : w.grownBy w' cl.ownBlock) {N : Nat} (hN : w.heap.size ≤ N) (hat : cl'.ownBlock = cl.ownBlock ∨ cl'.ownBlock = some N) : TG w' B cl' t v := by
  obtain ⟨g, c, cur, h1, h2, h3, h4, h5⟩ := h
  refine ⟨g, c, cur, h1, h2, ?_, h4.grown hg (fun e => h3 e.symm), h5⟩
  rcases hat with e | e <;> rw [e]
  · exact h3
  · intro h; injection h with h; have := h4.lt; omega
theorem RRows.below {B : Nat} {w w' : World} {st : PSt} {A7 A8 A9 A10 : Option Addr} {c7 c8 c9 c10 : Nat} {vs : List Value} (h : RRows B w st A7 A8 A9 A10 c7 c8 c9 c10 vs) (hb : Below w.heap.size w w') : RRows B w' st A7 A8 A9 A10 c7 c8 c9 c10 vs :=
  ⟨own_below h.regs hb, own_below h.clears hb, own_below h.trust hb, own_below h.ats hb, fun i t ht => by obtain ⟨v, h1, h2⟩ := h.tg i t ht; exact ⟨v, h1, h2.below hb⟩⟩
def nA (v : List Nat) : Array Value := ((v.map fun n => Value.int .i64 ((n : Nat) : Int)) ++ List.replicate (5 - v.length) (Value.int .i64 0)).toArray
theorem nA_at {v : List Nat} {k : Nat} (h : v.length = k) (hk : k < 5) : (nA v)[k]? = some (.int .i64 0) := by
  subst h
  match v, hk with
  | [], _ => rfl
  | [_], _ => rfl
  | [_, _], _ => rfl
  | [_, _, _], _ => rfl
  | [_, _, _, _], _ => rfl
theorem nA_set {v : List Nat} {k : Nat} {n : Nat} (h : v.length = k) (hk : k < 5) : (nA v).setIfInBounds k (.int .i64 (n : Int)) = nA (v ++ [n]) := by
  subst h
  match v, hk with
  | [], _ => rfl
  | [_], _ => rfl
  | [_, _], _ => rfl
  | [_, _, _], _ => rfl
  | [_, _, _, _], _ => rfl
theorem nA_size {v : List Nat} (h : v.length ≤ 5) : (nA v).size = 5 := by simp [nA]; omega
def keysC : Array Value := #[.string ⟨#[98, 108, 111, 99, 107, 115]⟩, .string ⟨#[110, 111, 100, 101, 115]⟩, .string ⟨#[102, 114, 97, 109, 101, 115]⟩, .string ⟨#[112, 114, 111, 99, 115]⟩, .string ⟨#[111, 112, 101, 110, 115]⟩]
theorem keysC_at : ∀ {k : Nat}, k < 5 → keysC[k]? = some (.string ⟨(wd keyW k).toArray⟩)
  | 0, _ => rfl
  | 1, _ => rfl
  | 2, _ => rfl
  | 3, _ => rfl
  | 4, _ => rfl
  | k + 5, h => absurd h (by omega)
/-- the rows stay where a world is left as it was below its size -/
theorem RRows.base4 {B : Nat} {w w' : World} {st : PSt} {A7 A8 A9 A10 : Option Addr} {c7 c8 c9 c10 : Nat} {vs : List Value} (h : RRows B w st A7 A8 A9 A10 c7 c8 c9 c10 vs) (hb : Below w.heap.size w w') : RRows B w' st A7 A8 A9 A10 c7 c8 c9 c10 vs := h.below hb
/-- what region 29 reads -/
def S29 (gw b14 b16 : Nat) (nm : List UInt8) (lv : UInt8) (ct : UInt16) (b nn f p q : Nat) (W : World) : Prop :=
  W.cell? ⟨gw, 1, none⟩ = some (.string ⟨nm.toArray⟩) ∧ W.cell? ⟨b14, 0, none⟩ = some (.int .u8 (lv.toNat : Int)) ∧ W.cell? ⟨b14, 1, none⟩ = some (.int .u16 (ct.toNat : Int)) ∧ W.cell? ⟨b16, 0, none⟩ = some (.int .i64 (b : Int)) ∧ W.cell? ⟨b16, 1, none⟩ = some (.int .i64 (nn : Int)) ∧ W.cell? ⟨b16, 2, none⟩ = some (.int .i64 (f : Int)) ∧ W.cell? ⟨b16, 3, none⟩ = some (.int .i64 (p : Int)) ∧ W.cell? ⟨b16, 4, none⟩ = some (.int .i64 (q : Int))
theorem s29_of {gw b14 b16 : Nat} {nm : List UInt8} {lv : UInt8} {ct : UInt16} {b nn f p q : Nat} {W : World} {curw : Array Value} (hw : Blk W gw 9 curw) (h1 : curw[1]? = some (.string ⟨nm.toArray⟩)) (h14 : Blk W b14 36 #[.int .u8 (lv.toNat : Int), .int .u16 (ct.toNat : Int)]) (h16 : Blk W b16 106 #[.int .i64 (b : Int), .int .i64 (nn : Int), .int .i64 (f : Int), .int .i64 (p : Int), .int .i64 (q : Int)]) : S29 gw b14 b16 nm lv ct b nn f p q W :=
  ⟨(hw.cell 1).trans h1, h14.cell 0, h14.cell 1, h16.cell 0, h16.cell 1, h16.cell 2, h16.cell 3, h16.cell 4⟩
/-- what is kept besides the labels -/
structure RRest (B : Nat) (w : World) (st : PSt) (A8 A9 A10 : Option Addr) (c8 c9 c10 : Nat) (vs : List Value) : Prop where
  clears : w.ownsRow B 9 1 (.slice A8 st.clears.length c8) st.clears.length (svs st.clears)
  trust : w.ownsRow B 60 1 (.slice A9 st.trust.length c9) st.trust.length vs
  ats : w.ownsRow B 3 1 (.slice A10 st.at_.length c10) st.at_.length (ivs st.at_)
  tg : ∀ (i : Nat) t, st.trust[i]? = some t → ∃ v, vs[i]? = some v ∧ TG w B (.slice A8 st.clears.length c8) t v
section
variable {B : Nat} {w w' : World} {st : PSt} {A7 A8 A9 A10 : Option Addr} {c7 c8 c9 c10 : Nat} {vs : List Value}
theorem RRows.rest (h : RRows B w st A7 A8 A9 A10 c7 c8 c9 c10 vs) : RRest B w st A8 A9 A10 c8 c9 c10 vs := ⟨h.clears, h.trust, h.ats, h.tg⟩
theorem RRest.below (h : RRest B w st A8 A9 A10 c8 c9 c10 vs) (hb : Below w.heap.size w w') : RRest B w' st A8 A9 A10 c8 c9 c10 vs :=
  ⟨own_below h.clears hb, own_below h.trust hb, own_below h.ats hb, fun i t ht => by obtain ⟨v, h1, h2⟩ := h.tg i t ht; exact ⟨v, h1, h2.below hb⟩⟩
/-- a block that holds none of it -/
def RRest.No (w : World) (st : PSt) (A8 A9 A10 : Option Addr) (c8 c9 c10 g : Nat) : Prop :=
  (Value.slice A8 st.clears.length c8).ownBlock ≠ some g ∧ (Value.slice A9 st.trust.length c9).ownBlock ≠ some g ∧ (Value.slice A10 st.at_.length c10).ownBlock ≠ some g ∧ ∀ cur, ¬ Blk w g 9 cur
theorem RRest.noReg (h : RRest B w st A8 A9 A10 c8 c9 c10 vs) {g n c s : Nat} {e : TypeId} {xs : List Value} (o : w.ownsRow B e s (.slice (some ⟨g, 0, none⟩) n c) n xs) (h1 : e ≠ 9 := by decide) (h2 : e ≠ 60 := by decide) (h3 : e ≠ 3 := by decide) : RRest.No w st A8 A9 A10 c8 c9 c10 g := by
  refine ⟨?_, ?_, ?_, fun cur hb => ?_⟩
  · exact fun e => by rcases own_apart h.clears o (Ne.symm h1) with h | h; rw [h] at e; cases e; exact h e
  · exact fun e => by rcases own_apart h.trust o (Ne.symm h2) with h | h; rw [h] at e; cases e; exact h e
  · exact fun e => by rcases own_apart h.ats o (Ne.symm h3) with h | h; rw [h] at e; cases e; exact h e
  · exact blk_not_own hb o (Ne.symm h1) rfl
theorem RRest.setCell (h : RRest B w st A8 A9 A10 c8 c9 c10 vs) {g i : Nat} (hn : RRest.No w st A8 A9 A10 c8 c9 c10 g) (u : Value) : RRest B (w.setCell ⟨g, i, none⟩ u) st A8 A9 A10 c8 c9 c10 vs :=
  ⟨ownsRow_setCell_other h.clears hn.1 _, ownsRow_setCell_other h.trust hn.2.1 _, ownsRow_setCell_other h.ats hn.2.2.1 _, fun i t ht => by
    obtain ⟨v, h1, g', c, cur, e1, e2, e3, e4, e5⟩ := h.tg i t ht
    exact ⟨v, h1, g', c, cur, e1, e2, e3, e4.far (fun e => hn.2.2.2 cur (by subst e; exact e4)) _, e5⟩⟩
theorem RRest.grown (h : RRest B w st A8 A9 A10 c8 c9 c10 vs) {n c s : Nat} {e : TypeId} {A : Option Addr} {xs : List Value} {B' : Nat} (o : w.ownsRow B' e s (.slice A n c) n xs) (hg : w.grownBy w' (Value.slice A n c).ownBlock) (h1 : e ≠ 9 := by decide) (h2 : e ≠ 60 := by decide) (h3 : e ≠ 3 := by decide) : RRest B w' st A8 A9 A10 c8 c9 c10 vs :=
  ⟨own_besides h.clears o (Ne.symm h1) hg, own_besides h.trust o (Ne.symm h2) hg, own_besides h.ats o (Ne.symm h3) hg, fun i t ht => by obtain ⟨v, q1, q2⟩ := h.tg i t ht; exact ⟨v, q1, q2.besides o hg (Ne.symm h1)⟩⟩
end
theorem info_strs : (Tryd.prog.info? 60).map (fun i => (i.zero, i.size, i.bytes)) = some (some (.slice none 0 0), 1, 24) := by kernel_rfl

set_option maxRecDepth 100000 in
set_option maxHeartbeats 8000000 in
theorem read_ok (s : ByteArray) (w : World) (hs : s.size ≤ 59000) (ha : ∀ (j : Nat) b, s.data.toList[j]? = some b → b.toNat < 128) :
    Calls Tryd.prog 20 #[.string s] w fun e w' => ReadSays w w' (parseP s) e := by
  go_enter Tryd.func20, Tryd.ntmps20
  have t1 : decide ((65536 : Int) < (s.size : Int)) = false := by simp; omega
  have hP : Hid (parseP s = match linesP ⟨[], [], [], []⟩ 0 (linesOf s) with
      | (none, n, e) => (none, n, e)
      | (some st, _) =>
        match clearsP st.regs st.regs st.clears with
        | none => (none, 0, 3)
        | some R =>
          match marksP R [] st.trust st.at_ with
          | (none, n, e) => (none, n, e)
          | (some K, _) => (some (R, K), 0, 0)) := if_neg (by omega)
  go_wp2_with fail
  have hb1 : Below w.heap.size w (w.alloc (.cells #[.string ⟨#[98, 108, 111, 99, 107, 115]⟩, .string ⟨#[110, 111, 100, 101, 115]⟩, .string ⟨#[102, 114, 97, 109, 101, 115]⟩, .string ⟨#[112, 114, 111, 99, 115]⟩, .string ⟨#[111, 112, 101, 110, 115]⟩] 9)) := (Below.refl _ _).alloc (Nat.le_refl _) _
  have kk1 := Blk.new w 9 #[.string ⟨#[98, 108, 111, 99, 107, 115]⟩, .string ⟨#[110, 111, 100, 101, 115]⟩, .string ⟨#[102, 114, 97, 109, 101, 115]⟩, .string ⟨#[112, 114, 111, 99, 115]⟩, .string ⟨#[111, 112, 101, 110, 115]⟩]
  refine (lines_ref s _ hs).mono ?_
  rintro e w2' ⟨Al, cl, rfl, hb2', ol'⟩
  refine at_world (fun W => ∃ gk, gk = w.heap.size ∧ Below w.heap.size w W ∧ Blk W gk 9 #[.string ⟨#[98, 108, 111, 99, 107, 115]⟩, .string ⟨#[110, 111, 100, 101, 115]⟩, .string ⟨#[102, 114, 97, 109, 101, 115]⟩, .string ⟨#[112, 114, 111, 99, 115]⟩, .string ⟨#[111, 112, 101, 110, 115]⟩] ∧ W.ownsRow w.heap.size 9 1 (.slice Al (linesOf s).length cl) (linesOf s).length (svs (linesOf s))) ⟨_, rfl, Below.then_ hb1 hb1.size hb2', kk1.below hb2' kk1.lt, own_mono ol' hb1.size⟩ (fun w2 h2 => ?_)
  obtain ⟨gk, egk, hb2, kk, ol⟩ := h2
  rw [← egk]
  have EGK := hide egk
  have HB2 := hide hb2
  have KK2 := hide kk
  clear egk hb2 kk hb1 kk1 ol' hb2'
  have hLs : ∀ l ∈ linesOf s, l.length ≤ 59000 ∧ ∀ (j : Nat) b, l[j]? = some b → b.toNat < 128 := fun l h => ⟨Nat.le_trans (linesOf_sub h).1 hs, (linesOf_sub h).2 ha⟩
  have hLc : (linesOf s).length ≤ 59001 := Nat.le_trans (linesOf_few s) (by omega)
  have HLS := hide hLs
  have hLpos : 0 < (linesOf s).length := by rw [linesOf_length]; omega
  clear hLs
  generalize linesOf s = L at *
  obtain ⟨gl, curl, rfl, hgl, hlcap, kl, hlv⟩ := own_blk ol hLpos
  have KL := hide kl
  have HLV := hide hlv
  clear kl hlv ol
  go_wp2_with fail
  go_loopg [7, 8, 9, 10, 12] L.length (fun g x7 x8 x9 x10 x12 wr => ∃ (st : PSt) (i : Nat) (A7 A8 A9 A10 : Option Addr) (c7 c8 c9 c10 : Nat) (vs : List Value), i ≤ L.length ∧ g = L.length - i ∧ x7 = .slice A7 st.regs.length c7 ∧ x8 = .slice A8 st.clears.length c8 ∧ x9 = .slice A9 st.trust.length c9 ∧ x10 = .slice A10 st.at_.length c10 ∧ x12 = .int .i64 (i : Int) ∧
    Below w2.heap.size w2 wr ∧ RRows w2.heap.size wr st A7 A8 A9 A10 c7 c8 c9 c10 vs ∧ Hid (linesP st i (L.drop i) = linesP ⟨[], [], [], []⟩ 0 L) ∧ Hid (PB st i))
  case atStart => exact ⟨⟨[], [], [], []⟩, 0, none, none, none, none, 0, 0, 0, 0, [], by omega, rfl, rfl, rfl, rfl, rfl, rfl, Below.refl _ _, ⟨⟨rfl, .inl ⟨rfl, rfl⟩⟩, ⟨rfl, .inl ⟨rfl, rfl⟩⟩, ⟨rfl, .inl ⟨rfl, rfl⟩⟩, ⟨rfl, .inl ⟨rfl, rfl⟩⟩, fun i t h => by simp at h⟩, hide rfl, hide ⟨Nat.le_refl _, Nat.le_refl _, rfl, rfl, by simp, by simp, by simp⟩⟩
  case round =>
    obtain ⟨st, i, A7, A8, A9, A10, c7, c8, c9, c10, vs, hi, hg, rfl, rfl, rfl, rfl, rfl, hbr, hrows, hst, hln⟩ := hrel
    rcases Nat.lt_or_ge i L.length with hiL | hiL
    · have hiz : (i : Int) < L.length := by omega
      obtain ⟨l, hl⟩ : ∃ l, L[i]? = some l := ⟨_, List.getElem?_eq_getElem hiL⟩
      have hl59 := HLS.out l (List.mem_of_getElem? hl)
      have kl := KL.out.below hbr KL.out.lt
      have jc := (kl.cell i).trans (HLV.out i _ (by rw [svs_get, hl]; rfl))
      have jl := kl.lt
      have hln0 := linesP_at (st := st) hl
      have HLN0 := hide hln0
      have BR := hide hbr
      have HRW := hide hrows
      clear hln0 hbr hrows hl kl
      go_wp2_with fail
      refine (words_ref ⟨l.toArray⟩ _ (by simp [ByteArray.size]; omega)).mono ?_
      intro e w3 h3
      change ∃ A c, e = .returned (.slice A (fieldsP l).length c) ∧ Below wr.heap.size wr w3 ∧ w3.ownsRow wr.heap.size 9 1 (.slice A (fieldsP l).length c) (fieldsP l).length (svs (fieldsP l)) at h3
      obtain ⟨Aw, cw, rfl, hb3, ow⟩ := h3
      have hws59 : ∀ x ∈ fieldsP l, x.length ≤ 59000 := fun x hx => Nat.le_trans (fields_le hx) hl59.1
      generalize fieldsP l = ws at *
      have hlin := HLN0.out
      have HB3 := hide (BR.out.trans (hb3.mono BR.out.size))
      have HR3 := hide (HRW.out.below hb3)
      have HWS := hide hws59
      have HGW : Hid (∀ g, wr.heap.size ≤ g → (Value.slice A8 st.clears.length c8).ownBlock ≠ some g) := hide fun g hg e => by have := (own_block_ge HRW.out.clears e).2; omega
      have HWL := hide (show wr.heap.size ≥ w2.heap.size from BR.out.size)
      clear jc jl hb3 HLN0 hws59 hl59
      by_cases h0 : ws.length = 0
      · have hw0 := List.eq_nil_of_length_eq_zero h0
        have q0 : ((ws.length : Int) == 0) = true := by simp [h0]
        have hlin2 : linesP st i (L.drop i) = linesP st (i + 1) (L.drop (i + 1)) := by rw [hlin, hw0]; rfl
        have HLI := hide hlin2
        clear h0 hw0 hlin hlin2 ow
        go_wp2
        go_roundg (L.length - (i + 1))
        case measure => omega
        case rel => exact ⟨st, i + 1, A7, A8, A9, A10, c7, c8, c9, c10, vs, by omega, rfl, rfl, rfl, rfl, rfl, by go_num, HB3.out, HR3.out, hide (HLI.out.symm.trans hst.out), hide hln.out.skip⟩
      have q0 : ((ws.length : Int) == 0) = false := by simpa using fun h : ws = [] => h0 (by rw [h]; rfl)
      obtain ⟨gw, curw, rfl, hgw, hwcap, kw, hwv⟩ := own_blk ow (by omega)
      have hcw : ∀ k, k < ws.length → curw[k]? = some (.string ⟨(wd ws k).toArray⟩) := fun k hk => hwv k _ (by
        rw [svs_get, wd, List.getD_eq_getElem?_getD, List.getElem?_eq_getElem hk]; rfl)
      have KW := hide kw
      have HCW := hide hcw
      have HGW2 := hide hgw
      have z0 := (kw.cell 0).trans (hcw 0 (by omega))
      have zl := kw.lt
      have i0 : (0 : Int) < ws.length := by omega
      clear kw hcw hwv ow hgw
      by_cases htr : wd ws 0 = trustW ∧ ws.length = 3
      · have ra : (wd ws 0 == [116, 114, 117, 115, 116]) = true := by simpa [trustW] using htr.1
        have rc : ((ws.length : Int) == 3) = true := by simp; omega
        have hlin2 : linesP st i (L.drop i) = linesP { st with trust := st.trust ++ [(wd ws 1, wd ws 2)], at_ := st.at_ ++ [i + 1] } (i + 1) (L.drop (i + 1)) := by
          rw [hlin]; unfold lineP; rw [if_neg h0, if_neg (by rw [htr.1]; decide), if_pos htr]
        have HLI := hide hlin2
        have H3L := hide htr.2
        have hrl := hln.out
        have hn7 : st.trust.length ≤ 1000000 := by have := hrl.trust; omega
        have hn8 : st.at_.length ≤ 1000000 := by have := hrl.trust; have := hrl.at_; omega
        obtain ⟨p0, hp0, p1, p2, p3⟩ := info_parts info_strs
        obtain ⟨n0, hn0, n1, n2, n3⟩ := info_parts info_int
        have hBW := HB3.out.size
        clear hlin hlin2 h0 htr hrl
        go_wp2_with (first | (at_builtin; (refine wpList_append_one rfl (.tmp 52) (.tmp 54) 103 rfl w2.heap.size 60 p0 (.slice none 0 0) 1 24 Tryd.underlying103 hp0 p1 p2 p3 rfl (by decide) A9 c9 st.trust.length vs [.slice (some ⟨gw, 0, none⟩) ws.length cw] w3 rfl HR3.out.trust rfl rfl rfl (by simp [Value.oneCell']) hn7 (by decide) hBW ?_; intro A9' c9' w5 hown5 hg5 hb5 hat5; have k10 := own_besides HR3.out.ats HR3.out.trust (by decide) hg5; have hBW5 := Nat.le_trans hBW (Nat.le_trans (by simp) hg5.size))) | (at_builtin; go_must (refine wpList_append_one rfl (.tmp 56) (.tmp 59) 97 rfl w2.heap.size 3 n0 (.int .i64 0) 1 8 Tryd.underlying97 hn0 n1 n2 n3 rfl (by decide) A10 c10 st.at_.length (ivs st.at_) [.int .i64 ((i : Int) + 1)] w5 rfl k10 rfl rfl rfl (by simp [Value.oneCell']) hn8 (by decide) hBW5 ?_; intro A10' c10' w6 hown6 hg6 hb6 hat6)) | fail)
        have q7 := own_besides (own_besides HR3.out.regs HR3.out.trust (by decide) hg5) k10 (by decide) hg6
        have q8 := own_besides (own_besides HR3.out.clears HR3.out.trust (by decide) hg5) k10 (by decide) hg6
        have q9 := own_besides hown5 k10 (by decide) hg6
        go_roundg (L.length - (i + 1))
        case measure => omega
        case rel =>
          have hl := hln.out
          refine ⟨{ st with trust := st.trust ++ [(wd ws 1, wd ws 2)], at_ := st.at_ ++ [i + 1] }, i + 1, A7, A8, A9', A10', c7, c8, c9', c10', vs ++ [.slice (some ⟨gw, 0, none⟩) ws.length cw], by omega, rfl, rfl, rfl, by simp, by simp, by go_num, (HB3.out.trans hb5).trans hb6, ⟨q7, q8, ?_, ?_, fun j t ht => ?_⟩, hide (HLI.out.symm.trans hst.out), hide (hl.mark (wd_le HWS.out 1))⟩
          · rw [List.length_append, List.length_singleton]; exact q9
          · rw [ivs_snoc, List.length_append, List.length_singleton]; exact hown6
          · have hvl : vs.length = st.trust.length := by have := HR3.out.trust.1; omega
            rcases Nat.lt_or_ge j st.trust.length with hj | hj
            · simp only [List.getElem?_append_left hj] at ht
              obtain ⟨v, h1, h2⟩ := HR3.out.tg j t ht
              exact ⟨v, by rw [List.getElem?_append_left (by omega)]; exact h1, (h2.besides HR3.out.trust hg5).besides k10 hg6⟩
            · have hj2 : j = st.trust.length := by
                have := (List.getElem?_eq_some_iff.1 ht).1
                simp at this
                omega
              subst hj2
              simp only [List.getElem?_append_right (Nat.le_refl _), Nat.sub_self, List.getElem?_cons_zero, Option.some.injEq] at ht
              subst ht
              have h3 := H3L.out
              refine ⟨.slice (some ⟨gw, 0, none⟩) ws.length cw, by rw [List.getElem?_append_right (by omega), hvl]; simp, ?_⟩
              have tg : TG w3 w2.heap.size (.slice A8 st.clears.length c8) (wd ws 1, wd ws 2) (.slice (some ⟨gw, 0, none⟩) ws.length cw) := ⟨gw, cw, curw, by rw [h3], Nat.le_trans HWL.out HGW2.out, HGW.out gw HGW2.out, KW.out, HCW.out 1 (by omega), HCW.out 2 (by omega)⟩
              exact (tg.besides HR3.out.trust hg5).besides k10 hg6
      have hform : ¬ (wd ws 0 = labelW ∧ ws.length = 15 ∧ wd ws 13 = clearW) → Hid (parseP s = (none, i + 1, 28)) := fun hno => by
        have hl2 : lineP st (i + 1) ws = (none, 28) := by
          unfold lineP
          rw [if_neg h0]
          by_cases hlab : wd ws 0 = labelW
          · rw [if_pos hlab, regP, if_pos (by
              by_cases h15 : ws.length = 15
              · exact .inr fun hc => hno ⟨hlab, h15, hc⟩
              · exact .inl h15)]
          · rw [if_neg hlab, if_neg htr]
        exact hide (by rw [hP.out, ← hst.out, hlin, hl2])
      have HB3w := hide (HB2.out.trans (HB3.out.mono HB2.out.size))
      have tr : (wd ws 0 == [116, 114, 117, 115, 116]) = false ∨ (wd ws 0 == [116, 114, 117, 115, 116]) = true ∧ ((ws.length : Int) == 3) = false := by
        by_cases h : wd ws 0 = trustW
        · exact .inr ⟨by simpa [trustW] using h, by have : ¬ ws.length = 3 := fun h2 => htr ⟨h, h2⟩; simp; omega⟩
        · exact .inl (by simpa [trustW] using h)
      by_cases hlab : wd ws 0 = labelW
      · have qa : (wd ws 0 == [108, 97, 98, 101, 108]) = true := by simpa [labelW] using hlab
        have ra : (wd ws 0 == [116, 114, 117, 115, 116]) = false := by rw [hlab]; decide
        clear tr
        by_cases h15 : ws.length = 15
        · have r15 : ((ws.length : Int) == 15) = true := by simp; omega
          have i13 : (13 : Int) < ws.length := by omega
          have z13 := (KW.out.cell 13).trans (HCW.out 13 (by omega))
          have r15z : (ws.length : Int) = 15 := by omega
          by_cases hcl : wd ws 13 = clearW
          · have qc : (wd ws 13 == [99, 108, 101, 97, 114]) = true := by simpa [clearW] using hcl
            have HNL := hide hlab
            have HL15 := hide (And.intro h15 hcl)
            have z2 := (KW.out.cell 2).trans (HCW.out 2 (by omega))
            have i2 : (2 : Int) < ws.length := by omega
            have hw2l : (⟨(wd ws 2).toArray⟩ : ByteArray).size ≤ 59000 := by have := wd_le HWS.out 2; simpa [ByteArray.size] using this
            have hpar := parse_ref ⟨(wd ws 2).toArray⟩ w3 hw2l
            rw [show (ByteArray.mk (wd ws 2).toArray).data.toList = wd ws 2 from rfl, labR_labP] at hpar
            have HLIN := hide hlin
            clear hform hlab h15 hcl htr h0 hlin hw2l
            go_wp2_with fail
            refine hpar.mono ?_
            rintro e w4 ⟨rfl, hb4⟩
            have HB4 := hide (HB3.out.trans (hb4.mono HB3.out.size))
            have HR4 := hide (HR3.out.below hb4)
            have KW4 := hide (KW.out.below hb4 KW.out.lt)
            have HB4w := hide (HB3w.out.trans (hb4.mono HB3w.out.size))
            clear hpar hb4 z0 z2 z13 zl i0 i13 i2 qa ra qc r15 r15z q0
            cases hlp : labP (wd ws 2) with
            | mk lr er =>
              cases lr with
              | none =>
                have her := labP_err hlp
                have hans : Hid (parseP s = (none, i + 1, er)) := by
                  refine hide ?_
                  rw [hP.out, ← hst.out, HLIN.out]
                  unfold lineP
                  rw [if_neg (by have := HL15.out.1; omega), if_pos HNL.out, regP, if_neg (by simp [HL15.out.1, HL15.out.2]), hlp]
                have te : (er == 0) = false := by rcases her with rfl | rfl <;> rfl
                have te2 : ¬ er = 0 := by rcases her with rfl | rfl <;> decide
                simp only [labRAns]
                have HB5 := hide (HB4w.out.alloc HB4w.out.size (.cells #[.int .u8 0, .int .u16 0] 36))
                clear hlp her
                go_wp2
                go_returns
                exact ⟨HB5.out, by rw [hans.out]; rfl⟩
              | some q =>
                obtain ⟨lv, ct⟩ := q
                have HRG := hide (regP_vals HL15.out.1 HL15.out.2 hlp)
                simp only [labRAns]
                have hbad : regVals ws 5 = none → Hid (parseP s = (none, i + 1, 28)) := fun hno => by
                  refine hide ?_
                  rw [hP.out, ← hst.out, HLIN.out]
                  unfold lineP
                  rw [if_neg (by have := HL15.out.1; omega), if_pos HNL.out, HRG.out, hno]
                have HBAD := hide hbad
                clear hlp hbad
                go_wp2_with fail
                refine at_world (fun W => ∃ b14 b16, b14 = w4.heap.size ∧ b16 = w4.heap.size + 1 ∧ Below w4.heap.size w4 W ∧ Blk W b14 36 #[.int .u8 (lv.toNat : Int), .int .u16 (ct.toNat : Int)] ∧ Blk W b16 106 (nA [])) ⟨_, _, rfl, rfl, ((Below.refl _ _).alloc (Nat.le_refl _) _).alloc (by simp) _, (Blk.new w4 _ _).alloc _, by rw [show nA [] = #[.int .i64 0, .int .i64 0, .int .i64 0, .int .i64 0, .int .i64 0] from rfl]; have := Blk.new (w4.alloc (.cells #[.int .u8 (lv.toNat : Int), .int .u16 (ct.toNat : Int)] 36)) 106 #[.int .i64 0, .int .i64 0, .int .i64 0, .int .i64 0, .int .i64 0]; simpa using this⟩ (fun wI hI => ?_)
                obtain ⟨b14, b16, e14, e16, hbI, k14, k16⟩ := hI
                rw [← e16, ← e14]
                have E14 := hide e14
                have E16 := hide e16
                have KI14 := hide k14
                have KI16 := hide k16
                have HBI := hide hbI
                have hwl := HL15.out.1
                have HWL15 := hide hwl
                clear e14 e16 k14 k16 hbI hwl
                go_loopg [17] 5 (fun g x17 wr => ∃ (k : Nat) (v : List Nat), k ≤ 5 ∧ g = 5 - k ∧ x17 = .int .i64 (k : Int) ∧ Below w4.heap.size w4 wr ∧ Blk wr b14 36 #[.int .u8 (lv.toNat : Int), .int .u16 (ct.toNat : Int)] ∧ Blk wr b16 106 (nA v) ∧ Hid (regVals ws k = some v))
                case atStart => exact ⟨0, [], by omega, rfl, rfl, HBI.out, KI14.out, KI16.out, hide rfl⟩
                case round =>
                  obtain ⟨k, v, hk, hg2, rfl, hbr, k14, k16, hv⟩ := hrel
                  rcases Nat.lt_or_ge k 5 with hk5 | hk5
                  · have hkz : (k : Int) < 5 := by omega
                    have hvl := regVals_len hv.out
                    have kw := KW4.out.below hbr KW4.out.lt
                    have j4 := (kw.cell (4 + 2 * k)).trans (HCW.out (4 + 2 * k) (by have := HWL15.out; omega))
                    have jl := kw.lt
                    have i4 : 4 + 2 * (k : Int) < ws.length := by have := HWL15.out; omega
                    have BR2 := hide hbr
                    have K14 := hide k14
                    have K16 := hide k16
                    clear kw hbr k14 k16
                    go_wp2_with fail
                    refine (count_ref ⟨(wd ws (4 + 2 * k)).toArray⟩ _).mono ?_
                    intro e w6 h6
                    change e = .returned (.int .i64 (cntR (wd ws (4 + 2 * k)))) ∧ Below wr.heap.size wr w6 at h6
                    obtain ⟨rfl, hb6⟩ := h6
                    obtain ⟨cv, hcv⟩ : ∃ cv, cv = cntR (wd ws (4 + 2 * k)) := ⟨_, rfl⟩
                    rw [← hcv]
                    have HCV := hide hcv
                    have k16 := K16.out.below hb6 K16.out.lt
                    have s16 := (k16.cell k).trans (nA_at hvl hk5)
                    have f16 := k16.frozen k
                    have l16 := k16.lt
                    have K16' := hide k16
                    have K14' := hide (K14.out.below hb6 K14.out.lt)
                    have B6 := hide (BR2.out.trans (hb6.mono BR2.out.size))
                    clear hcv hb6 k16 j4 jl i4
                    go_wp2_with fail
                    refine at_world (fun W => Below w4.heap.size w4 W ∧ Blk W b14 36 #[.int .u8 (lv.toNat : Int), .int .u16 (ct.toNat : Int)] ∧ Blk W b16 106 ((nA v).setIfInBounds k (.int .i64 cv))) ⟨B6.out.setCell (show w4.heap.size ≤ b16 by have := E16.out; omega) _, K14'.out.far (by have := E14.out; have := E16.out; show b14 ≠ b16; omega) _, K16'.out.set_ k _⟩ (fun w7 h7 => ?_)
                    have B7 := hide h7.1
                    have L14 := hide h7.2.1
                    have L16 := hide h7.2.2
                    clear h7 s16 f16 l16
                    have j3 := ((KW4.out.below B7.out KW4.out.lt).cell (3 + 2 * k)).trans (HCW.out (3 + 2 * k) (by have := HWL15.out; omega))
                    have jl := (KW4.out.below B7.out KW4.out.lt).lt
                    have kkb := KK2.out.below (HB4.out.trans (B7.out.mono HB4.out.size)) KK2.out.lt
                    have jk := (kkb.cell k).trans (keysC_at hk5)
                    have jkl := kkb.lt
                    have n16 := (L16.out.cell k).trans (by rw [Array.getElem?_setIfInBounds_self_of_lt (by rw [nA_size (by omega)]; exact hk5)])
                    have l16 := L16.out.lt
                    obtain ⟨i2, hi2⟩ : ∃ i2, i2 = 2 * k := ⟨_, rfl⟩
                    obtain ⟨i3, hi3⟩ : ∃ i3, i3 = 3 + 2 * k := ⟨_, rfl⟩
                    have i3z : (i3 : Int) < ws.length := by have := HWL15.out; omega
                    have v2 : IntKind.i64.wrap (2 * (k : Int)) = (i2 : Int) := by rw [IntWalk.i64_in _ (by omega)]; omega
                    have v3 : IntKind.i64.wrap (3 + (i2 : Int)) = (i3 : Int) := by rw [IntWalk.i64_in _ (by omega)]; omega
                    rw [← hi3] at j3
                    have HI3 := hide hi3
                    clear hi2 hi3 kkb
                    by_cases hkey : wd ws i3 = wd keyW k
                    · have w1' : (wd ws i3 == wd keyW k) = true := beq_iff_eq.2 hkey
                      have HK := hide (show numAt ws k = cntP (wd ws (4 + 2 * k)) by rw [numAt, if_pos (by rw [← HI3.out]; exact hkey)])
                      cases hcn : cntP (wd ws (4 + 2 * k)) with
                      | none =>
                        have hans := HBAD.out (regVals_none hk5 hv.out (by rw [HK.out, hcn]))
                        obtain rfl : cv = -1 := by rw [HCV.out, cntR_none hcn]
                        have x1 : decide ((-1 : Int) < 0) = true := by decide
                        clear hcn
                        go_quiet (fail)
                        refine at_world (fun W => Below w4.heap.size w4 W) (below_drewN B7.out _) (fun w8 hb8 => ?_)
                        have B8 := hide (HB4w.out.trans (hb8.mono HB4w.out.size))
                        clear j3 jl jk jkl n16 l16 hb8 v2 v3 hkey w1'
                        go_wp2
                        go_returns
                        exact ⟨B8.out, by rw [hans.out]; rfl⟩
                      | some nv =>
                        obtain rfl : cv = (nv : Int) := by rw [HCV.out, cntR_some hcn]
                        have x1 : decide ((nv : Int) < 0) = false := by simp
                        have HV := hide (show regVals ws (k + 1) = some (v ++ [nv]) by rw [regVals, hv.out]; simp [HK.out, hcn])
                        clear hcn
                        go_quiet (fail)
                        refine at_world (fun W => Below w4.heap.size w4 W ∧ Blk W b14 36 #[.int .u8 (lv.toNat : Int), .int .u16 (ct.toNat : Int)] ∧ Blk W b16 106 (nA (v ++ [nv]))) ⟨below_drewN B7.out _, L14.out.drewN _, by have := L16.out; rw [nA_set hvl hk5] at this; exact this.drewN _⟩ (fun w8 h8 => ?_)
                        have H8 := hide h8
                        clear j3 jl jk jkl n16 l16 h8 v2 v3
                        go_wp2_with (fail)
                        clear hkey w1'
                        go_roundg (5 - (k + 1))
                        case measure => omega
                        case rel => exact ⟨k + 1, v ++ [nv], by omega, rfl, by go_num, H8.out.1, H8.out.2.1, H8.out.2.2, HV⟩
                    · have w1' : (wd ws i3 == wd keyW k) = false := beq_eq_false_iff_ne.2 hkey
                      have hans := HBAD.out (regVals_none hk5 hv.out (by rw [numAt, if_neg (by rw [← HI3.out]; exact hkey)]))
                      go_quiet (fail)
                      refine at_world (fun W => Below w4.heap.size w4 W) (below_drewN B7.out _) (fun w8 hb8 => ?_)
                      have B8 := hide (HB4w.out.trans (hb8.mono HB4w.out.size))
                      clear j3 jl jk jkl n16 l16 hb8 v2 v3
                      go_wp2
                      go_returns
                      exact ⟨B8.out, by rw [hans.out]; rfl⟩
                  · obtain rfl : k = 5 := by omega
                    obtain ⟨b, nn, f, p, q, hvv⟩ : ∃ b nn f p q, v = [b, nn, f, p, q] := by
                      have hl5 := regVals_len hv.out
                      match v, hl5 with
                      | [b, nn, f, p, q], _ => exact ⟨b, nn, f, p, q, rfl⟩
                    subst hvv
                    obtain ⟨r, hr⟩ : ∃ r : RegV, r = ⟨wd ws 1, lv, ct, (b : Int), (nn : Int), (f : Int), (p : Int), (q : Int), 0⟩ := ⟨_, rfl⟩
                    have HRC := hide (show r.cells = [.string ⟨(wd ws 1).toArray⟩, .int .u8 (lv.toNat : Int), .int .u16 (ct.toNat : Int), .int .i64 (b : Int), .int .i64 (nn : Int), .int .i64 (f : Int), .int .i64 (p : Int), .int .i64 (q : Int), .int .i64 0] by rw [hr]; rfl)
                    have HRN := hide (show r.name = wd ws 1 by rw [hr])
                    have HLI := hide (show linesP st i (L.drop i) = linesP { st with regs := st.regs ++ [r], clears := st.clears ++ [wd ws 14] } (i + 1) (L.drop (i + 1)) by
                      rw [HLIN.out]
                      unfold lineP
                      rw [if_neg (by have := HL15.out.1; omega), if_pos HNL.out, HRG.out, hv.out, hr]
                      rfl)
                    have kw := KW4.out.below hbr KW4.out.lt
                    have z1 := (kw.cell 1).trans (HCW.out 1 (by have := HWL15.out; omega))
                    have zl := kw.lt
                    have i1 : (1 : Int) < ws.length := by have := HWL15.out; omega
                    have a0 := k14.cell 0
                    have a1 := k14.cell 1
                    have al := k14.lt
                    have k16' : Blk wr b16 106 #[.int .i64 (b : Int), .int .i64 (nn : Int), .int .i64 (f : Int), .int .i64 (p : Int), .int .i64 (q : Int)] := k16
                    have c0 := k16'.cell 0
                    have c1 := k16'.cell 1
                    have c2 := k16'.cell 2
                    have c3 := k16'.cell 3
                    have c4 := k16'.cell 4
                    have BR2 := hide hbr
                    have K14 := hide k14
                    have K16 := hide k16'
                    have KWr := hide kw
                    have RR := hide ((HR4.out.base4 hbr))
                    clear hr hbr k14 k16 k16' kw hv
                    go_wp2_with fail
                    have HS := hide (s29_of KWr.out (HCW.out 1 (by have := HWL15.out; omega)) K14.out K16.out)
                    refine wp_region_tree (.q 0 (.q 1 (.q 2 (.q 3 (.q 4 (.q 5 (.q 6 (.q 7 (.q 8 (.q 9 (.q 10 (.q 11 (.q 12 (.q 13 (.q 14 (.q 15 (.x 16 (.x 17 (.q 18 .nil))))))))))))))))))) (S29 gw b14 b16 (wd ws 1) lv ct b nn f p q) (by kernel_rfl) (by kernel_rfl) HS.out ?_
                    iterate 16 (refine wpT_q (v := ?_) (by simp only [List.getElem?_toArray, List.getElem?_cons_succ, List.getElem?_cons_zero]; try rfl) (by rfl) (fun W hW => ?_) ?_; rotate_left; (focus ((obtain ⟨hW0, hW1, hW2, hW3, hW4, hW5, hW6, hW7⟩ := hW); go_simp; try with_reducible rfl)); try simp only [Act.put, List.setIfInBounds_toArray, List.set_cons_zero, List.set_cons_succ])
                    refine at_world (fun W => Below wr.heap.size wr W) (Below.refl _ _).drew (fun w20 hbx => ?_)
                    have B20 := hide ((HB4.out.trans (BR2.out.mono HB4.out.size)).trans (hbx.mono (HB4.out.trans (BR2.out.mono HB4.out.size)).size))
                    have R20 := hide (RR.out.below hbx)
                    have KW20 := hide (KWr.out.below hbx KWr.out.lt)
                    have K1420 := hide (K14.out.below hbx K14.out.lt)
                    have K1620 := hide (K16.out.below hbx K16.out.lt)
                    clear hbx z1 zl i1 a0 a1 al c0 c1 c2 c3 c4 HS
                    refine wpT_x (by simp only [List.getElem?_toArray, List.getElem?_cons_succ, List.getElem?_cons_zero]; try rfl) (by rfl) (fun K hK => ?_)
                    go_simp
                    have hbx : Below w20.heap.size w20 (w20.alloc (.cells #[.string ⟨(wd ws 1).toArray⟩, .int .u8 (lv.toNat : Int), .int .u16 (ct.toNat : Int), .int .i64 (b : Int), .int .i64 (nn : Int), .int .i64 (f : Int), .int .i64 (p : Int), .int .i64 (q : Int), .int .i64 0] 38)) := (Below.refl _ _).alloc (Nat.le_refl _) _
                    refine hK (S29 gw b14 b16 (wd ws 1) lv ct b nn f p q) _ _ (fun _ h => h) (s29_of (KW20.out.below hbx KW20.out.lt) (HCW.out 1 (by have := HWL15.out; omega)) (K1420.out.below hbx K1420.out.lt) (K1620.out.below hbx K1620.out.lt)) ?_
                    clear hK K hbx
                    try simp only [Act.put, List.setIfInBounds_toArray, List.set_cons_zero, List.set_cons_succ]
                    refine at_world (fun W => Below w20.heap.size w20 W ∧ Blk W w20.heap.size 38 #[.string ⟨(wd ws 1).toArray⟩, .int .u8 (lv.toNat : Int), .int .u16 (ct.toNat : Int), .int .i64 (b : Int), .int .i64 (nn : Int), .int .i64 (f : Int), .int .i64 (p : Int), .int .i64 (q : Int), .int .i64 0]) ⟨(Below.refl _ _).alloc (Nat.le_refl _) _, Blk.new _ _ _⟩ (fun w21 h21 => ?_)
                    obtain ⟨hbx, hl9⟩ := h21
                    have B21 := hide (B20.out.trans (hbx.mono B20.out.size))
                    have R21 := hide (R20.out.below hbx)
                    have KW21 := hide (KW20.out.below hbx KW20.out.lt)
                    have K1421 := hide (K1420.out.below hbx K1420.out.lt)
                    have K1621 := hide (K1620.out.below hbx K1620.out.lt)
                    have L21 := hide hl9
                    clear hbx hl9
                    have hrl := hln.out
                    have hn7 : st.regs.length ≤ 1000000 := by have := hrl.regs; omega
                    have hn8 : st.clears.length ≤ 1000000 := by have := hrl.regs; have := hrl.cl; omega
                    obtain ⟨r0, hr0, r1, r2, r3⟩ := info_parts info_reg
                    obtain ⟨s0, hs0, s1, s2, s3⟩ := info_parts info_str
                    clear hrl
                    refine wpT_x (by simp only [List.getElem?_toArray, List.getElem?_cons_succ, List.getElem?_cons_zero]; try rfl) (by rfl) (fun K hK => ?_)
                    refine wp_append_rd w21 (.tmp 122) (.tmp 138) 43 (by rfl) w2.heap.size 38 r0 (.agg #[.string ByteArray.empty, .int .u8 0, .int .u16 0, .int .i64 0, .int .i64 0, .int .i64 0, .int .i64 0, .int .i64 0, .int .i64 0]) 9 72 Tryd.underlying43 hr0 r1 r2 r3 rfl (by decide) (.slice A7 st.regs.length c7) st.regs.length (rcellsOf st.regs) (by rfl) R21.out.regs _ (some ⟨w20.heap.size, 0, none⟩) 1 1 r.cells (by rfl) (Rd.of_blk L21.out (by rw [HRC.out]) rfl) (by rw [HRC.out]; simp [Value.oneCell']) (by simp only [maxLen]; omega) (by omega) B21.out.size ?_
                    intro v9 w22 hown hg9 _ hat
                    obtain ⟨A7', c7', rfl⟩ := own_at hown
                    have hb9 : Below w2.heap.size w21 w22 := grown_below R21.out.regs B21.out.size hg9
                    have KW22 := hide (KW21.out.grown hg9 (fun e => blk_not_own KW21.out R21.out.regs (by decide) e.symm))
                    have K1422 := hide (K1421.out.grown hg9 (fun e => blk_not_own K1421.out R21.out.regs (by decide) e.symm))
                    have K1622 := hide (K1621.out.grown hg9 (fun e => blk_not_own K1621.out R21.out.regs (by decide) e.symm))
                    refine hK (S29 gw b14 b16 (wd ws 1) lv ct b nn f p q) _ _ (fun _ h => h) (s29_of KW22.out (HCW.out 1 (by have := HWL15.out; omega)) K1422.out K1622.out) ?_
                    clear hK K
                    try simp only [Act.put, List.setIfInBounds_toArray, List.set_cons_zero, List.set_cons_succ]
                    have B22 := hide (B21.out.trans hb9)
                    have k7 := hide hown
                    have k8 := hide (own_besides R21.out.clears R21.out.regs (by decide) hg9)
                    have k9 := hide (own_besides R21.out.trust R21.out.regs (by decide) hg9)
                    have k10 := hide (own_besides R21.out.ats R21.out.regs (by decide) hg9)
                    have ktg := hide (show ∀ (j : Nat) t, st.trust[j]? = some t → ∃ v, vs[j]? = some v ∧ TG w22 w2.heap.size (.slice A8 st.clears.length c8) t v from fun j t ht => by obtain ⟨v, h1, h2⟩ := R21.out.tg j t ht; exact ⟨v, h1, h2.besides R21.out.regs hg9⟩)
                    clear hown hg9 hat hb9
                    iterate 1 (refine wpT_q (v := ?_) (by simp only [List.getElem?_toArray, List.getElem?_cons_succ, List.getElem?_cons_zero]; try rfl) (by rfl) (fun W hW => ?_) ?_; rotate_left; (focus (skip; go_simp; try with_reducible rfl)); try simp only [Act.put, List.setIfInBounds_toArray, List.set_cons_zero, List.set_cons_succ])
                    refine wpT_nil ?_
                    have z14 := (KW22.out.cell 14).trans (HCW.out 14 (by have := HWL15.out; omega))
                    have zl := KW22.out.lt
                    have i14 : (14 : Int) < ws.length := by have := HWL15.out; omega
                    have hBW := B22.out.size
                    go_wp2_with (at_builtin; refine wpList_append_one rfl (.tmp 140) (.tmp 144) 60 rfl w2.heap.size 9 s0 (.string ByteArray.empty) 1 16 Tryd.underlying60 hs0 s1 s2 s3 rfl (by decide) A8 c8 st.clears.length (svs st.clears) [.string ⟨(wd ws 14).toArray⟩] w22 rfl k8.out rfl rfl rfl (by simp [Value.oneCell']) hn8 (by decide) hBW ?_; intro A8' c8' w23 hown6 hg6 hb6 hat6)
                    have q7 := own_besides k7.out k8.out (by decide) hg6
                    have q9 := own_besides k9.out k8.out (by decide) hg6
                    have q10 := own_besides k10.out k8.out (by decide) hg6
                    go_roundg (L.length - (i + 1))
                    case measure => omega
                    case rel =>
                      have hl := hln.out
                      refine ⟨{ st with regs := st.regs ++ [r], clears := st.clears ++ [wd ws 14] }, i + 1, A7', A8', A9, A10, c7', c8', c9, c10, vs, by omega, rfl, by simp, by simp, rfl, rfl, by go_num, B22.out.trans hb6, ⟨?_, ?_, q9, q10, fun j t ht => ?_⟩, hide (HLI.out.symm.trans hst.out), hide (hl.label (by rw [HRN.out]; exact wd_le HWS.out 1) (wd_le HWS.out 14))⟩
                      · rw [rcellsOf_snoc, List.length_append, List.length_singleton]; exact q7
                      · rw [svs_snoc, List.length_append, List.length_singleton]; exact hown6
                      · obtain ⟨v, h1, h2⟩ := ktg.out j t ht
                        refine ⟨v, h1, h2.clears hg6 (N := w22.heap.size + 1) (by omega) ?_⟩
                        simpa using hat6
          · have qc : (wd ws 13 == [99, 108, 101, 97, 114]) = false := by simpa [clearW] using hcl
            have qc2 : ¬ wd ws 13 = [99, 108, 101, 97, 114] := hcl
            have hans := hform fun h => hcl h.2.2
            clear hform hlab h15 hcl htr h0 hlin
            go_wp2
            go_returns
            exact ⟨HB3w.out, by rw [hans.out]; rfl⟩
        · have r15 : ((ws.length : Int) == 15) = false := by simp; omega
          have r15b : ¬ (ws.length : Int) = 15 := by omega
          have hans := hform fun h => h15 h.2.1
          clear hform hlab h15 htr h0 hlin
          go_wp2
          go_returns
          exact ⟨HB3w.out, by rw [hans.out]; rfl⟩
      · have qa : (wd ws 0 == [108, 97, 98, 101, 108]) = false := by simpa [labelW] using hlab
        have qa2 : ¬ wd ws 0 = [108, 97, 98, 101, 108] := hlab
        have hans := hform fun h => hlab h.1
        clear hform hlab htr h0 hlin
        rcases tr with ra | ⟨ra, rc⟩
        · go_wp2
          go_returns
          exact ⟨HB3w.out, by rw [hans.out]; rfl⟩
        · go_wp2
          go_returns
          exact ⟨HB3w.out, by rw [hans.out]; rfl⟩
    · obtain rfl : i = L.length := by omega
      have hst2 := hst.out
      rw [List.drop_length] at hst2
      have HP2 : Hid (parseP s = match clearsP st.regs st.regs st.clears with
              | none => (none, 0, 3)
              | some R =>
                match marksP R [] st.trust st.at_ with
                | (none, n, e) => (none, n, e)
                | (some K, _) => (some (R, K), 0, 0)) := by rw [hP.out, ← hst2]; exact hide rfl
      have hpb := hln.out
      have hn59 : st.regs.length ≤ 59001 := by have := hpb.regs; omega
      have ht59 : st.trust.length ≤ 59001 := by have := hpb.trust; omega
      have hcn : st.clears.length = st.regs.length := hpb.cl
      have BR := hide hbr
      have RW := hide hrows
      have PBH := hide hpb
      have HCN := hide hcn
      clear hst hst2 hln hbr hrows hpb hP hcn
      go_wp2_with fail
      go_loopg [18] st.regs.length (fun g x18 wr => ∃ (i : Nat) (D : List RegV), i ≤ st.regs.length ∧ g = st.regs.length - i ∧ x18 = .int .i64 (i : Int) ∧ Below w2.heap.size w2 wr ∧
        wr.ownsRow w2.heap.size 38 9 (.slice A7 st.regs.length c7) st.regs.length (rcellsOf (D ++ st.regs.drop i)) ∧ RRest w2.heap.size wr st A8 A9 A10 c8 c9 c10 vs ∧ Hid (D.length = i ∧ D.map (·.name) = (st.regs.take i).map (·.name) ∧ (clearsP st.regs (st.regs.drop i) (st.clears.drop i)).map (D ++ ·) = clearsP st.regs st.regs st.clears))
      case atStart =>
        refine ⟨0, [], Nat.zero_le _, rfl, rfl, BR.out, ?_, RW.out.rest, hide ⟨rfl, rfl, ?_⟩⟩
        · simpa using RW.out.regs
        · simp
      case round =>
        obtain ⟨i, D, hi, hg, rfl, hbr, o7, orr, hD⟩ := hrel
        rcases Nat.lt_or_ge i st.regs.length with hiR | hiR
        · have hiz : (i : Int) < st.regs.length := by omega
          have hicl : i < st.clears.length := by rw [HCN.out]; exact hiR
          have hicz : (i : Int) < st.clears.length := by omega
          obtain ⟨r, hr⟩ : ∃ r, st.regs[i]? = some r := ⟨_, List.getElem?_eq_getElem hiR⟩
          obtain ⟨c, hc⟩ : ∃ c, st.clears[i]? = some c := ⟨_, List.getElem?_eq_getElem hicl⟩
          obtain ⟨g8, hA8, _, hg8, hcr8⟩ := own_base orr.clears (by omega)
          have y8 := hcr8 i _ (by rw [svs_get, hc]; rfl)
          obtain ⟨hDl, hDn, hDc⟩ := hD.out
          have hlen : (D ++ st.regs.drop i).length = st.regs.length := by simp [hDl]; omega
          have hplr : placeR (D ++ st.regs.drop i) c = placeR st.regs c := by
            unfold placeR
            rw [placeP_names (R := D ++ st.regs.drop i) (R' := st.regs) (by rw [List.map_append, hDn, ← List.map_append, List.take_append_drop])]
          have hpl := place_ref (A := A7) (cA := c7) (w := wr) c (R := D ++ st.regs.drop i) (by rw [hlen]; exact Rd.of_own o7) (by omega)
          rw [hlen, hplr] at hpl
          have hstep : clearsP st.regs (st.regs.drop i) (st.clears.drop i) = match placeP st.regs c with
              | none => none
              | some k => (clearsP st.regs (st.regs.drop (i + 1)) (st.clears.drop (i + 1))).map ({ r with clear := (k : Int) } :: ·) := by
            obtain ⟨h1, rfl⟩ := List.getElem?_eq_some_iff.1 hr
            obtain ⟨h2, rfl⟩ := List.getElem?_eq_some_iff.1 hc
            rw [List.drop_eq_getElem_cons h1, List.drop_eq_getElem_cons h2]; rfl
          have hDi : (D ++ st.regs.drop i)[i]? = some r := by
            rw [List.getElem?_append_right (by omega), hDl, Nat.sub_self, List.getElem?_drop, Nat.add_zero]; exact hr
          subst hA8
          obtain ⟨g7, hA7, hg7b, hg7, _⟩ := own_base o7 (by omega)
          subst hA7
          have O7 := hide o7
          have ORR := hide orr
          have BB := hide hbr
          have HPL := hide hpl
          have DD := hide (And.intro hDl (And.intro hDn (And.intro hDc (And.intro hDi hr))))
          have HST := hide hstep
          clear hDl hDn hDc hDi hr hc hstep hpl hplr hlen o7 orr hbr hcr8 hD
          go_wp2_with fail
          refine HPL.out.mono ?_
          rintro e w6 ⟨rfl, hb6⟩
          have B6 := hide (BB.out.trans (hb6.mono BB.out.size))
          have O76 := hide (own_below O7.out hb6)
          have ORR6 := hide (ORR.out.below hb6)
          obtain ⟨_, hA7, _, hg7', hcr7⟩ := own_base O76.out (by omega)
          cases hA7
          have y7 := hcr7 _ _ (flat_get RegV.cells 9 (fun _ => rfl) _ i r DD.out.2.2.2.1 8 _ rfl)
          have f7 := own_frozen (i := i * 9 + 8) O76.out
          have HNO := hide (ORR6.out.noReg O76.out)
          clear hb6 hcr7 HPL y8
          cases hpl : placeP st.regs c with
          | none =>
            have hstep := HST.out
            obtain ⟨hDl, hDn, hDc, hDi, hr⟩ := DD.out
            rw [hpl] at hstep
            rw [hstep] at hDc
            have hans : Hid (parseP s = (none, 0, 3)) := by rw [HP2.out, ← hDc]; exact hide rfl
            have HB9 := hide (HB2.out.trans ((B6.out.setCell (p := ⟨g7, i * 9 + 8, none⟩) hg7b (.int .i64 (-1))).mono HB2.out.size))
            rw [show placeR st.regs c = -1 by simp [placeR, hpl]]
            clear hDl hDn hDc hDi hr hstep hpl
            go_wp2
            go_returns
            exact ⟨HB9.out, by rw [hans.out]; rfl⟩
          | some k =>
            rw [show placeR st.regs c = (k : Int) by simp [placeR, hpl]]
            have HPK := hide hpl
            have hkl := placeP_lt hpl
            clear hpl
            go_wp2
            go_roundg (st.regs.length - (i + 1))
            case measure => omega
            case rel =>
              have hstep := HST.out
              obtain ⟨hDl, hDn, hDc, hDi, hr⟩ := DD.out
              rw [HPK.out] at hstep
              rw [hstep] at hDc
              obtain ⟨hlt, her⟩ := List.getElem?_eq_some_iff.1 hr
              refine ⟨i + 1, D ++ [{ r with clear := (k : Int) }], by omega, rfl, by go_num, B6.out.setCell hg7b _, ?_, ORR6.out.setCell HNO.out _, hide ⟨by simp [hDl], ?_, ?_⟩⟩
              · have h2 := own_set (i := i * 9 + 8) (u := .int .i64 (k : Int)) O76.out
                rw [rcells_set _ i r _ hDi] at h2
                have e3 : (D ++ st.regs.drop i).set i { r with clear := (k : Int) } = (D ++ [{ r with clear := (k : Int) }]) ++ st.regs.drop (i + 1) := by
                  rw [List.set_append, if_neg (by omega), hDl, Nat.sub_self, List.drop_eq_getElem_cons hlt, List.set_cons_zero, List.append_assoc]; rfl
                rw [e3] at h2
                exact h2
              · rw [List.take_add_one, hr, List.map_append, List.map_append, hDn]; rfl
              · rw [← hDc, Option.map_map]
                congr 1
                funext x
                simp
        · obtain rfl : i = st.regs.length := by omega
          obtain ⟨hDl, hDn, hDc⟩ := hD.out
          rw [List.drop_length, List.append_nil] at o7
          rw [List.take_length] at hDn
          have hcl : clearsP st.regs st.regs st.clears = some D := by
            rw [← hDc, List.drop_length]
            simp [clearsP]
          have HP3 : Hid (parseP s = match marksP D [] st.trust st.at_ with
                    | (none, n, e) => (none, n, e)
                    | (some K, _) => (some (D, K), 0, 0)) := by rw [HP2.out, hcl]; exact hide rfl
          have HDL := hide hDl
          have hat : st.at_.length = st.trust.length := PBH.out.at_
          have HAT := hide hat
          have O7 := hide o7
          have ORR := hide orr
          have BB := hide hbr
          clear hat hDl hDn hDc hcl hD o7 orr hbr
          go_wp2_with fail
          go_loopg [19, 20] st.trust.length (fun g x19 x20 wr => ∃ (i : Nat) (K : List MarkV) (A : Option Addr) (c : Nat), i ≤ st.trust.length ∧ g = st.trust.length - i ∧ x19 = .slice A K.length c ∧ x20 = .int .i64 (i : Int) ∧ Below w2.heap.size w2 wr ∧
            wr.ownsRow w2.heap.size 38 9 (.slice A7 st.regs.length c7) st.regs.length (rcellsOf D) ∧ RRest w2.heap.size wr st A8 A9 A10 c8 c9 c10 vs ∧
            wr.ownsRow w2.heap.size 48 2 (.slice A K.length c) K.length (mcellsOf K) ∧ Hid (marksP D K (st.trust.drop i) (st.at_.drop i) = marksP D [] st.trust st.at_ ∧ K.length ≤ i))
          case atStart => exact ⟨0, [], none, 0, Nat.zero_le _, rfl, rfl, rfl, BB.out, O7.out, ORR.out, ⟨rfl, .inl ⟨rfl, rfl⟩⟩, hide ⟨rfl, Nat.zero_le _⟩⟩
          case round =>
            obtain ⟨i, K, A, c, hi, hg, rfl, rfl, hbr, o7, orr, oK, hK⟩ := hrel
            rcases Nat.lt_or_ge i st.trust.length with hiR | hiR
            · have hiz : (i : Int) < st.trust.length := by omega
              have hial : i < st.at_.length := by rw [HAT.out]; exact hiR
              have hiaz : (i : Int) < st.at_.length := by omega
              obtain ⟨t, ht⟩ : ∃ t, st.trust[i]? = some t := ⟨_, List.getElem?_eq_getElem hiR⟩
              obtain ⟨n0, hn0⟩ : ∃ n0, st.at_[i]? = some n0 := ⟨_, List.getElem?_eq_getElem hial⟩
              obtain ⟨g9, hA9, _, hg9, hcr9⟩ := own_base orr.trust (by omega)
              obtain ⟨g10, hA10, _, hg10, hcr10⟩ := own_base orr.ats (by omega)
              obtain ⟨v, hv, gt, ct, curt, rfl, _, _, kt, hct1, hct2⟩ := orr.tg i t ht
              have y9 := hcr9 i _ hv
              have y10 := hcr10 i _ (by rw [ivs_get, hn0]; rfl)
              have yt1 := (kt.cell 1).trans hct1
              have yt2 := (kt.cell 2).trans hct2
              have ytl := kt.lt
              have hstep : marksP D K (st.trust.drop i) (st.at_.drop i) = match placeP D t.1 with
                  | none => (none, n0, 3)
                  | some k =>
                    match cntP t.2 with
                    | none => (none, n0, 28)
                    | some m => marksP D (K ++ [(UInt8.ofNat k, UInt16.ofNat m)]) (st.trust.drop (i + 1)) (st.at_.drop (i + 1)) := by
                obtain ⟨h1, rfl⟩ := List.getElem?_eq_some_iff.1 ht
                obtain ⟨h2, rfl⟩ := List.getElem?_eq_some_iff.1 hn0
                rw [List.drop_eq_getElem_cons h1, List.drop_eq_getElem_cons h2]; rfl
              obtain ⟨hKm, hKl⟩ := hK.out
              rw [hstep] at hKm
              have hpl := place_ref (A := A7) (cA := c7) (w := wr.drew) t.1 (R := D) (by rw [HDL.out]; exact (Rd.of_own o7).drew) (by rw [HDL.out]; omega)
              rw [HDL.out] at hpl
              subst hA9
              subst hA10
              have O7 := hide o7
              have ORR := hide orr
              have OK := hide oK
              have BB := hide hbr
              have KM := hide hKm
              have HPL := hide hpl
              clear hstep ht hn0 hcr9 hcr10 o7 orr oK hbr hKm hK hpl hv kt hct1 hct2
              go_wp2_with fail
              refine wp_region_tree (.q 0 (.q 1 (.q 2 (.q 3 (.q 4 (.q 5 (.q 6 (.q 8 (.q 9 (.q 10 (.q 11 (.q 12 (.q 13 (.x 7 (.x 14 (.q 15 (.q 16 .nil))))))))))))))))) (Below wr.heap.size wr) (by kernel_rfl) (by kernel_rfl) (Below.refl _ _).drew ?_
              iterate 13 (refine wpT_q (v := ?_) (by simp only [List.getElem?_toArray, List.getElem?_cons_succ, List.getElem?_cons_zero]; try rfl) (by rfl) (fun W hW => ?_) ?_; rotate_left; (focus ((obtain ⟨hWc, hWf⟩ := bcell hW); go_simp; try with_reducible rfl)); try simp only [Act.put, List.setIfInBounds_toArray, List.set_cons_zero, List.set_cons_succ])
              refine wpT_x (by simp only [List.getElem?_toArray, List.getElem?_cons_succ, List.getElem?_cons_zero]; try rfl) (by rfl) (fun K hK => ?_)
              go_simp
              refine HPL.out.mono ?_
              rintro e w15 ⟨rfl, hb15'⟩
              have hb15 : Below wr.heap.size wr w15 := (Below.refl _ _).drew.trans hb15'
              refine hK (Below wr.heap.size wr) _ _ (fun _ h => h) hb15 ?_
              clear hK K
              try simp only [Act.put, List.setIfInBounds_toArray, List.set_cons_zero, List.set_cons_succ]
              refine wpT_x (by simp only [List.getElem?_toArray, List.getElem?_cons_succ, List.getElem?_cons_zero]; try rfl) (by rfl) (fun K hK => ?_)
              go_simp
              refine (count_ref ⟨t.2.toArray⟩ _).mono ?_
              intro e w16 h16
              change e = .returned (.int .i64 (cntR t.2)) ∧ Below w15.heap.size w15 w16 at h16
              obtain ⟨rfl, hb16'⟩ := h16
              have hb16 : Below wr.heap.size wr w16 := Below.then_ hb15 hb15.size hb16'
              refine hK (Below wr.heap.size wr) _ _ (fun _ h => h) hb16 ?_
              clear hK K
              try simp only [Act.put, List.setIfInBounds_toArray, List.set_cons_zero, List.set_cons_succ]
              iterate 2 (refine wpT_q (v := ?_) (by simp only [List.getElem?_toArray, List.getElem?_cons_succ, List.getElem?_cons_zero]; try rfl) (by rfl) (fun W hW => ?_) ?_; rotate_left; (focus ((obtain ⟨hWc, hWf⟩ := bcell hW); go_simp; try with_reducible rfl)); try simp only [Act.put, List.setIfInBounds_toArray, List.set_cons_zero, List.set_cons_succ])
              refine wpT_nil ?_
              have B16 := hide (BB.out.trans (hb16.mono BB.out.size))
              have P7 := hide (own_below O7.out hb16)
              have PR := hide (ORR.out.below hb16)
              have PK := hide (own_below OK.out hb16)
              have z10 := (hb16.cell (p := ⟨g10, i, none⟩) hg10).trans y10
              have hg10' := Nat.lt_of_lt_of_le hg10 hb16.size
              have HBA := hide (HB2.out.trans (B16.out.mono HB2.out.size))
              clear y9 y10 yt1 yt2 ytl hb15 hb15' hb16 hb16' hg9 hg10 HPL
              have hKm := KM.out
              cases hpl : placeP D t.1 with
              | none =>
                rw [hpl] at hKm
                have hans : Hid (parseP s = (none, n0, 3)) := by rw [HP3.out, ← hKm]; exact hide rfl
                rw [show placeR D t.1 = -1 by simp [placeR, hpl]]
                generalize cntR t.2 = cv
                clear hKm hpl KM
                go_wp2_with fail
                go_quiet (fail)
                go_wp2
                go_returns
                exact ⟨below_drewN HBA.out _, by rw [hans.out]⟩
              | some k =>
                rw [hpl] at hKm
                have hkl := placeP_lt hpl
                rw [show placeR D t.1 = (k : Int) by simp [placeR, hpl]]
                clear hpl KM
                cases hcn : cntP t.2 with
                | none =>
                  rw [hcn] at hKm
                  have hans : Hid (parseP s = (none, n0, 28)) := by rw [HP3.out, ← hKm]; exact hide rfl
                  rw [cntR_none hcn]
                  clear hKm hcn
                  go_wp2_with fail
                  go_quiet (fail)
                  go_wp2
                  go_returns
                  exact ⟨below_drewN HBA.out _, by rw [hans.out]⟩
                | some m =>
                  rw [hcn] at hKm
                  rw [cntR_some hcn]
                  have KM := hide hKm
                  have hBW := B16.out.size
                  obtain ⟨m0, hm0, m1, m2, m3⟩ := info_parts info_mark
                  have u0 : (k : Int).tmod 256 = ((UInt8.ofNat k).toNat : Int) := by rw [IntWalk.rem_in _ _ (by omega)]; simp
                  have u0' : (k : Int) % 256 = ((UInt8.ofNat k).toNat : Int) := by simp
                  have u2 : IntKind.u16.wrap (m : Int) = ((UInt16.ofNat m).toNat : Int) := by simp [IntKind.wrap_u16]
                  have u2' : (m : Int) % 65536 = ((UInt16.ofNat m).toNat : Int) := by simp
                  have x8 := (UInt8.ofNat k).toNat_lt
                  have x16 := (UInt16.ofNat m).toNat_lt
                  generalize hx8 : UInt8.ofNat k = kb at *
                  generalize hx16 : UInt16.ofNat m = mb at *
                  have HX := hide (And.intro hx8 hx16)
                  clear hKm hcn hx8 hx16
                  have hKl6 : K.length ≤ 1000000 := by omega
                  go_wp2_with (at_builtin; refine wpList_append_one rfl (.tmp 201) (.tmp 208) 44 rfl w2.heap.size 48 m0 (.agg #[.int .u8 0, .int .u16 0]) 2 4 Tryd.underlying44 hm0 m1 m2 m3 rfl (by decide) A c K.length (mcellsOf K) (markCells (kb, mb)) w16 rfl PK.out rfl rfl rfl (by simp [markCells, Value.oneCell']) hKl6 (by decide) hBW ?_; intro A' c' w34 hown hg3 hb hat)
                  go_roundg (st.trust.length - (i + 1))
                  case measure => omega
                  case rel =>
                    refine ⟨i + 1, K ++ [(kb, mb)], A', c', by omega, rfl, by simp, by go_num, B16.out.trans hb, own_besides P7.out PK.out (by decide) hg3, PR.out.grown PK.out hg3, ?_, hide ⟨by rw [← HX.out.1, ← HX.out.2]; exact KM.out, by simp; omega⟩⟩
                    rw [mcellsOf_snoc, List.length_append, List.length_singleton]
                    exact hown
            · obtain rfl : i = st.trust.length := by omega
              obtain ⟨hKm, hKl⟩ := hK.out
              rw [List.drop_length] at hKm
              have hans : Hid (parseP s = (some (D, K), 0, 0)) := by
                rw [HP3.out, ← hKm]
                simp only [marksP]
                exact hide trivial
              have hright := right_ok (R := D) (K := K) (w := wr) (A := A7) (cA := c7) (A' := A) (cA' := c) (by rw [HDL.out]; exact Rd.of_own o7) (Rd.of_own oK) (by rw [HDL.out]; omega) (by omega)
              rw [HDL.out] at hright
              have HBA := hide (HB2.out.trans (hbr.mono HB2.out.size))
              have O7 := hide o7
              have OK := hide oK
              have HRT := hide hright
              clear hKm o7 orr oK hK hbr hright
              go_wp2_with fail
              refine HRT.out.mono ?_
              rintro e w40 ⟨rfl, hb40⟩
              have HB4 := hide (Below.then_ HBA.out HBA.out.size hb40)
              have P7 := hide (own_below O7.out hb40)
              have PK := hide (own_below OK.out hb40)
              clear hb40 HRT
              go_wp2
              go_returns
              refine ⟨HB4.out, ?_⟩
              rw [hans.out]
              exact ⟨A7, A, c7, c, by rw [HDL.out], by rw [HDL.out]; exact Rd.of_own P7.out, Rd.of_own PK.out⟩
end Go.Proofs.YtniboffmdkeacaaDoor

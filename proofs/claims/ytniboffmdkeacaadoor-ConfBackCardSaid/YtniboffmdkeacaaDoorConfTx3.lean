/- Configurations as texts: a configuration, printed. -/
import Derived.Test.YtniboffmdkeacaaDoorConfTx2
import Derived.Test.YtniboffmdkeacaaDoorConfReg
import Derived.Test.YtniboffmdkeacaaDoorConfUse
namespace Go.Proofs.YtniboffmdkeacaaDoor
open Go.RowKit Go.WideMaps
set_option linter.unusedSimpArgs false
set_option linter.unusedVariables false

/-! ### what is printed -/
def valsR (r : RegV) : List Nat := [r.blocks.toNat, r.nodes.toNat, r.frames.toNat, r.procs.toNat, r.opens.toNat]
def numsT (v : List Nat) : Nat → List UInt8
  | 0 => []
  | k + 1 => numsT v k ++ (32 :: wd keyW k ++ (32 :: itoaL (v.getD k 0)))
def nameAt (R : List RegV) (i : Nat) : List UInt8 := ((R[i]?).map (·.name)).getD []
def headT (r : RegV) : List UInt8 := [108, 97, 98, 101, 108, 32] ++ r.name ++ [32] ++ labT r.lev.toNat r.cats.toNat
def endT (R : List RegV) (r : RegV) : List UInt8 := [32, 99, 108, 101, 97, 114, 32] ++ nameAt R r.clear.toNat ++ [10]
def lineT (R : List RegV) (r : RegV) : List UInt8 := headT r ++ numsT (valsR r) 5 ++ endT R r
def linesT (R : List RegV) : List RegV → List UInt8
  | [] => []
  | r :: l => lineT R r ++ linesT R l
def markT (R : List RegV) (m : MarkV) : List UInt8 := [116, 114, 117, 115, 116, 32] ++ nameAt R m.1.toNat ++ [32] ++ itoaL m.2.toNat ++ [10]
def marksT (R : List RegV) : List MarkV → List UInt8
  | [] => []
  | m :: l => markT R m ++ marksT R l
theorem linesT_append (R : List RegV) : ∀ a b, linesT R (a ++ b) = linesT R a ++ linesT R b
  | [], b => rfl
  | r :: l, b => by simp [linesT, linesT_append R l b]
theorem marksT_append (R : List RegV) : ∀ a b, marksT R (a ++ b) = marksT R a ++ marksT R b
  | [], b => rfl
  | r :: l, b => by simp [marksT, marksT_append R l b]
def textT (R : List RegV) (K : List MarkV) : List UInt8 := linesT R R ++ marksT R K
/-- a label that prints in a few letters -/
structure OkT (M : Nat) (r : RegV) : Prop where
  nm : r.name.length ≤ 8
  lv : r.lev.toNat < 10
  ct : r.cats.toNat = 0 ∨ okC' r.cats.toNat
  b0 : 0 ≤ r.blocks
  b1 : r.blocks < 100
  n0 : 0 ≤ r.nodes
  n1 : r.nodes < 100
  f0 : 0 ≤ r.frames
  f1 : r.frames < 100
  p0 : 0 ≤ r.procs
  p1 : r.procs < 100
  o0 : 0 ≤ r.opens
  o1 : r.opens < 100
  c0 : 0 ≤ r.clear
  c1 : r.clear < M
theorem nameAt_len {M : Nat} {R : List RegV} (h : ∀ r ∈ R, OkT M r) (i : Nat) : (nameAt R i).length ≤ 8 := by
  unfold nameAt
  cases hi : R[i]? with
  | none => simp
  | some r => simpa using (h r (List.mem_of_getElem? hi)).nm
theorem numsT_len (v : List Nat) : ∀ k, (numsT v k).length ≤ 10 * k
  | 0 => by simp [numsT]
  | k + 1 => by
    have h1 := numsT_len v k
    have h2 := (itoaL_len (v.getD k 0)).2
    have h3 : (wd keyW k).length ≤ 6 := by
      rcases k with _ | _ | _ | _ | _ | k <;> simp [wd, keyW]
    simp only [numsT, List.length_append, List.length_cons]
    omega
theorem lineT_len {M : Nat} {R : List RegV} (h : ∀ r ∈ R, OkT M r) {r : RegV} (hr : OkT M r) : (lineT R r).length ≤ 200 := by
  have h1 := hr.nm
  have h2 := labT_len r.lev.toNat r.cats.toNat
  have h3 := numsT_len (valsR r) 5
  have h4 := nameAt_len h r.clear.toNat
  simp only [lineT, headT, endT, List.length_append, List.length_cons, List.length_nil]
  omega
theorem linesT_len {M : Nat} {R : List RegV} (h : ∀ r ∈ R, OkT M r) : ∀ l : List RegV, (∀ r ∈ l, OkT M r) → (linesT R l).length ≤ 200 * l.length
  | [], _ => by simp [linesT]
  | r :: l, hl => by
    have h1 := linesT_len h l (fun x hx => hl x (by simp [hx]))
    have h2 := lineT_len h (hl r (by simp))
    simp only [linesT, List.length_append, List.length_cons]
    omega
theorem markT_len {M : Nat} {R : List RegV} (h : ∀ r ∈ R, OkT M r) (m : MarkV) : (markT R m).length ≤ 20 := by
  have h4 := nameAt_len h m.1.toNat
  have h2 := (itoaL_len m.2.toNat).2
  simp only [markT, List.length_append, List.length_cons, List.length_nil]
  omega
theorem marksT_len {M : Nat} {R : List RegV} (h : ∀ r ∈ R, OkT M r) : ∀ l : List MarkV, (marksT R l).length ≤ 20 * l.length
  | [] => by simp [marksT]
  | r :: l => by
    have h1 := marksT_len h l
    have h2 := markT_len h r
    simp only [marksT, List.length_append, List.length_cons]
    omega

/-! ### the walk -/
theorem ws_any (B b : Nat) (l : List UInt8) (s : ByteArray) (w : World) (h : Lib.IsBuilderF 111 5 B b (Lib.byteCells l) w) (hlen : l.length + s.size ≤ 1000000) (hBw : B ≤ w.heap.size) :
    Calls Tryd.prog 45 #[.pointer (some ⟨b, 0, none⟩), .string s] w fun e w' => ∃ n : Int, e = .returned (.tuple #[.int .i64 n, .nilIface]) ∧
      Lib.IsBuilderF 111 5 B b (Lib.byteCells (l ++ s.data.toList)) w' ∧ Below B w w' ∧ Lib.OthersKept 5 (some b) w w' :=
  (ws_ok B b l s w h hlen hBw).mono fun e w' h => ⟨_, h⟩
theorem keys_blk (w : World) : Calls Tryd.prog 47 #[] w fun e w' => ∃ g, e = .returned (.slice (some ⟨g, 0, none⟩) 5 5) ∧ Below w.heap.size w w' ∧ Blk w' g 9 (keyW.map fun x => Value.string ⟨x.toArray⟩).toArray := by
  go_enter Tryd.func47, Tryd.ntmps47
  go_wp2
  go_returns
  exact ⟨_, rfl, (Below.refl _ _).alloc (Nat.le_refl _) _, Blk.new w _ _⟩
theorem keys_at {k : Nat} (h : k < 5) : (keyW.map fun x => Value.string ⟨x.toArray⟩).toArray[k]? = some (.string ⟨(wd keyW k).toArray⟩) := by
  match k, h with
  | 0, _ => rfl
  | 1, _ => rfl
  | 2, _ => rfl
  | 3, _ => rfl
  | 4, _ => rfl
/-- a label of its own, at g -/
def BReg (W : World) (g : Nat) (r : RegV) : Prop := Blk W g 38 #[.string ⟨r.name.toArray⟩, .int .u8 (r.lev.toNat : Int), .int .u16 (r.cats.toNat : Int), .int .i64 r.blocks, .int .i64 r.nodes, .int .i64 r.frames, .int .i64 r.procs, .int .i64 r.opens, .int .i64 r.clear]
section
variable {B c tb nb lb c1 c2 c3 : Nat} {R : List RegV} {K : List MarkV} {A1 A2 A3 : Option Addr} {w : World}
set_option maxRecDepth 100000 in
set_option maxHeartbeats 4000000 in
theorem ctext_ok (h : ConfIn B w c R K tb nb lb A1 A2 A3 c1 c2 c3) (hD : Db w) (hl : R.length ≤ 8) (hkl : K.length ≤ 100) (hT : ∀ r ∈ R, OkT R.length r) (hK : ∀ m ∈ K, m.1.toNat < R.length ∧ m.2.toNat < 100) :
    Calls Tryd.prog 21 #[.pointer (some ⟨c, 0, none⟩)] w fun e w' => e = .returned (.string ⟨(textT R K).toArray⟩) ∧ Below w.heap.size w w' := by
  go_enter Tryd.func21, Tryd.ntmps21
  go_upto_region 2 with (fail)
  refine at_world (fun W => Below w.heap.size w W ∧ Lib.IsBuilderF 111 5 w.heap.size w.heap.size (Lib.byteCells []) W)
    ⟨by go_grown, new_builder w w.heap.size (Nat.le_refl _)⟩ (fun w1 hX => ?_)
  obtain ⟨hb1, bd1⟩ := hX
  have B1 := hide hb1
  have D1 := hide bd1
  have H := hide h
  have h1 := h.below hb1
  have k0 := h1.blk.cell 0
  have kl := h1.blk.lt
  clear hb1 bd1 h h1
  go_upto_region 5 with (fail)
  go_loopg [17] R.length (fun g x17 wr => ∃ i : Nat, i ≤ R.length ∧ g = R.length - i ∧ x17 = .int .i64 (i : Int) ∧ Aside (Below w.heap.size w wr ∧ Lib.IsBuilderF 111 5 w.heap.size w.heap.size (Lib.byteCells (linesT R (R.take i))) wr))
  case atStart => exact ⟨0, Nat.zero_le _, rfl, rfl, B1.out, D1.out⟩
  case round =>
    obtain ⟨i, hi, hg, rfl, hH⟩ := hrel
    clear B1 D1
    obtain ⟨hb, bd⟩ := hH.out
    clear hH
    rcases Nat.lt_or_ge i R.length with hiR | hiR
    · have hiz : (i : Int) < R.length := by omega
      obtain ⟨r, hri⟩ : ∃ r, R[i]? = some r := ⟨_, List.getElem?_eq_getElem hiR⟩
      have hrT := hT r (List.mem_of_getElem? hri)
      obtain ⟨gr, rfl, hgr, hcc⟩ := H.out.regc hri
      have yy := fun j v hv => (hb.cell (p := ⟨gr, i * 9 + j, none⟩) hgr).trans (hcc j v hv)
      have y0 := yy 0 _ rfl
      have y1 := yy 1 _ rfl
      have y2 := yy 2 _ rfl
      have y3 := yy 3 _ rfl
      have y4 := yy 4 _ rfl
      have y5 := yy 5 _ rfl
      have y6 := yy 6 _ rfl
      have y7 := yy 7 _ rfl
      have y8 := yy 8 _ rfl
      simp only [Nat.add_zero] at y0
      have hgw : gr < wr.heap.size := Nat.lt_of_lt_of_le hgr hb.size
      have hll := linesT_len hT (R.take i) (fun x hx => hT x (List.mem_of_mem_take hx))
      rw [List.length_take, Nat.min_eq_left hi] at hll
      have HS := hide (show linesT R (R.take (i + 1)) = linesT R (R.take i) ++ lineT R r by rw [List.take_add_one, hri, Option.toList_some, linesT_append]; simp [linesT])
      generalize linesT R (R.take i) = t at *
      have BR := hide hb
      have DR := hide bd
      have HRI := hide hri
      clear hcc yy hb bd hri
      go_upto_region 7 with (fail)
      obtain ⟨g5, hg5⟩ : ∃ g5, g5 = wr.heap.size := ⟨_, rfl⟩
      refine at_world (fun W => Below w.heap.size w W ∧ Lib.IsBuilderF 111 5 w.heap.size w.heap.size (Lib.byteCells t) W ∧ BReg W g5 r) ⟨BR.out.alloc BR.out.size _, Lib.IsBuilderF.alloc DR.out _, by rw [hg5]; exact Blk.new _ _ _⟩ (fun w5 hX => ?_)
      obtain ⟨hb5, bd5, r5⟩ := hX
      have hgb : g5 ≠ w.heap.size := by have := isb_lt DR.out; omega
      rw [← hg5]
      have B5 := hide hb5
      have D5 := hide bd5
      have R5 := hide r5
      have HT := hide (ltext_ok r.lev r.cats hrT.lv hrT.ct)
      have hlab := labT_len r.lev.toNat r.cats.toNat
      have hnm := hrT.nm
      have HL := hide (show lineT R r = ([108, 97, 98, 101, 108, 32] ++ r.name ++ [32] ++ labT r.lev.toNat r.cats.toNat) ++ numsT (valsR r) 5 ++ endT R r from rfl)
      clear hb5 bd5 r5 y0 y1 y2 y3 y4 y5 y6 y7 y8 hgw hg5 BR DR
      generalize labT r.lev.toNat r.cats.toNat = lt at *
      have s1 := fun (W : World) => run_string_add_sum (P := Tryd.prog) (w := W) (⟨#[108, 97, 98, 101, 108, 32]⟩ : ByteArray) (⟨r.name.toArray⟩) (by simp only [ByteArray.size_append, zs]; first | omega | (simp; omega))
      have s2 := fun (W : World) => run_string_add_sum (P := Tryd.prog) (w := W) ((⟨#[108, 97, 98, 101, 108, 32]⟩ : ByteArray) ++ (⟨r.name.toArray⟩ : ByteArray)) (⟨#[32]⟩) (by simp only [ByteArray.size_append, zs]; first | omega | (simp; omega))
      have s3 := fun (W : World) => run_string_add_sum (P := Tryd.prog) (w := W) ((⟨#[108, 97, 98, 101, 108, 32]⟩ : ByteArray) ++ (⟨r.name.toArray⟩ : ByteArray) ++ (⟨#[32]⟩ : ByteArray)) (⟨lt.toArray⟩) (by simp only [ByteArray.size_append, zs]; first | omega | (simp; omega))
      refine wp_region_tree (.q 0 (.q 1 (.q 2 (.q 3 (.q 4 (.q 5 (.x 6 (.q 7 (.x 8 .nil))))))))) (fun W => BReg W g5 r) (by kernel_rfl) (by kernel_rfl) R5.out ?_
      iterate 6 (refine wpT_q (v := ?_) (by simp only [List.getElem?_toArray, List.getElem?_cons_succ, List.getElem?_cons_zero]; try rfl) (by rfl) (fun W hW => ?_) ?_; rotate_left; (focus (have hW : Blk _ _ _ _ := hW; have x0 := hW.cell 0; have x1 := hW.cell 1; have x2 := hW.cell 2; have xl := hW.lt; clear hW; go_simp; try with_reducible rfl)); try simp only [Act.put, List.setIfInBounds_toArray, List.set_cons_zero, List.set_cons_succ])
      refine wpT_x (by simp only [List.getElem?_toArray, List.getElem?_cons_succ, List.getElem?_cons_zero]; try rfl) (by rfl) (fun KK hKK => ?_)
      go_simp
      refine (HT.out _ (hD.below' B5.out.drew)).mono ?_
      rintro e w6 ⟨rfl, hb6'⟩
      have hb6 : Below w5.heap.size w5 w6 := (Below.refl _ _).drew.trans hb6'
      refine hKK (fun W => BReg W g5 r) _ _ (fun _ h => h) (R5.out.below hb6 R5.out.lt) ?_
      have B6 := hide (B5.out.trans (hb6.mono B5.out.size))
      have D6 := hide (isb_below D5.out hb6)
      have R6 : Hid (BReg w6 g5 r) := hide (R5.out.below hb6 R5.out.lt)
      clear hKK KK hb6 hb6' R5 D5 B5 HT
      try simp only [Act.put, List.setIfInBounds_toArray, List.set_cons_zero, List.set_cons_succ]
      iterate 1 (refine wpT_q (v := ?_) (by simp only [List.getElem?_toArray, List.getElem?_cons_succ, List.getElem?_cons_zero]; try rfl) (by rfl) (fun W hW => ?_) ?_; rotate_left; (focus (go_simp; try with_reducible rfl)); try simp only [Act.put, List.setIfInBounds_toArray, List.set_cons_zero, List.set_cons_succ])
      refine wpT_x (by simp only [List.getElem?_toArray, List.getElem?_cons_succ, List.getElem?_cons_zero]; try rfl) (by rfl) (fun KK hKK => ?_)
      go_simp
      refine (ws_any w.heap.size w.heap.size t ((⟨#[108, 97, 98, 101, 108, 32]⟩ : ByteArray) ++ (⟨r.name.toArray⟩ : ByteArray) ++ (⟨#[32]⟩ : ByteArray) ++ (⟨lt.toArray⟩ : ByteArray)) _ D6.out (by simp only [ByteArray.size_append, zs]; simp; omega) B6.out.size).mono ?_
      rintro e w7 ⟨nr7, rfl, bd7, hb7, ho7⟩
      have R7 : Hid (BReg w7 g5 r) := hide (Blk.others R6.out ho7 hgb (by decide))
      refine hKK (fun W => BReg W g5 r) _ _ (fun _ h => h) R7.out ?_
      have B7 := hide (B6.out.trans hb7)
      obtain ⟨t2, ht2⟩ : ∃ t2, t2 = t ++ ([108, 97, 98, 101, 108, 32] ++ r.name ++ [32] ++ lt) := ⟨_, rfl⟩
      have ht2l : t2.length ≤ 200 * i + 26 := by rw [ht2]; simp only [List.length_append, List.length_cons, List.length_nil]; omega
      have D7 : Hid (Lib.IsBuilderF 111 5 w.heap.size w.heap.size (Lib.byteCells t2) w7) := hide (by rw [ht2]; simpa [ByteArray.data_append] using bd7)
      have HS2 := hide (show linesT R (R.take (i + 1)) = t2 ++ numsT (valsR r) 5 ++ endT R r by rw [HS.out, HL.out, ht2]; simp)
      clear hKK KK bd7 hb7 ho7 R6 D6 B6 s1 s2 s3
      try simp only [Act.put, List.setIfInBounds_toArray, List.set_cons_zero, List.set_cons_succ]
      refine wpT_nil ?_
      clear HS HL ht2 hll
      have r7 : Blk _ _ _ _ := R7.out
      have x3 := r7.cell 3; have x4 := r7.cell 4; have x5 := r7.cell 5; have x6 := r7.cell 6; have x7 := r7.cell 7; have xl := r7.lt
      clear r7
      go_upto_region 9 with (fail)
      refine at_world (fun W => ∃ g8, g8 = w7.heap.size ∧ Below w.heap.size w W ∧ Lib.IsBuilderF 111 5 w.heap.size w.heap.size (Lib.byteCells t2) W ∧ BReg W g5 r ∧ Blk W g8 3 (ivs (valsR r)).toArray) ?_ (fun w8 hX => ?_)
      · refine ⟨_, rfl, B7.out.alloc B7.out.size _, Lib.IsBuilderF.alloc D7.out _, Blk.alloc R7.out _, ?_⟩
        have e1 := Int.toNat_of_nonneg hrT.b0
        have e2 := Int.toNat_of_nonneg hrT.n0
        have e3 := Int.toNat_of_nonneg hrT.f0
        have e4 := Int.toNat_of_nonneg hrT.p0
        have e5 := Int.toNat_of_nonneg hrT.o0
        have := Blk.new w7 3 #[.int .i64 r.blocks, .int .i64 r.nodes, .int .i64 r.frames, .int .i64 r.procs, .int .i64 r.opens]
        simpa [valsR, ivs, e1, e2, e3, e4, e5] using this
      obtain ⟨g8, e8, hb8, bd8, r8, v8⟩ := hX
      rw [← e8]
      have hg8b : g8 ≠ w.heap.size := by have := isb_lt D7.out; omega
      have B8 := hide hb8
      have D8 := hide bd8
      have R8 := hide r8
      have V8 := hide v8
      have hv5 : ∀ k, k < 5 → (valsR r).getD k 0 < 100 := by
        have := hrT.b1; have := hrT.n1; have := hrT.f1; have := hrT.p1; have := hrT.o1
        intro k hk
        match k, hk with
        | 0, _ => simp [valsR]; omega
        | 1, _ => simp [valsR]; omega
        | 2, _ => simp [valsR]; omega
        | 3, _ => simp [valsR]; omega
        | 4, _ => simp [valsR]; omega
      have hvl : (valsR r).length = 5 := rfl
      generalize valsR r = vs at *
      clear e8 hb8 bd8 r8 v8 x3 x4 x5 x6 x7 xl R7 B7 D7
      go_loopg [42] 5 (fun gg x42 wr => ∃ k : Nat, k ≤ 5 ∧ gg = 5 - k ∧ x42 = .int .i64 (k : Int) ∧ Aside (Below w.heap.size w wr ∧ Lib.IsBuilderF 111 5 w.heap.size w.heap.size (Lib.byteCells (t2 ++ numsT vs k)) wr ∧ BReg wr g5 r ∧ Blk wr g8 3 (ivs vs).toArray))
      case atStart => exact ⟨0, by omega, rfl, rfl, B8.out, by simpa [numsT] using D8.out, R8.out, V8.out⟩
      case round =>
        clear B8 D8 R8 V8
        obtain ⟨k, hk, hg2, rfl, hH⟩ := hrel
        obtain ⟨hb, bd, rr, vv⟩ := hH.out
        clear hH
        rcases Nat.lt_or_ge k 5 with hk5 | hk5
        · have hkz : (k : Int) < 5 := by omega
          obtain ⟨n, hn⟩ : ∃ n, n = vs.getD k 0 := ⟨_, rfl⟩
          have hn100 : n < 100 := by rw [hn]; exact hv5 k hk5
          have c0 := vv.cell k
          rw [show (ivs vs).toArray[k]? = some (.int .i64 (n : Int)) by rw [List.getElem?_toArray, ivs_get, hn, List.getD_eq_getElem?_getD, List.getElem?_eq_getElem (by omega)]; rfl] at c0
          have cl := vv.lt
          obtain ⟨ky, hky⟩ : ∃ ky, ky = wd keyW k := ⟨_, rfl⟩
          have hkl6 : ky.length ≤ 6 := by
            rw [hky]
            match k, hk5 with
            | 0, _ => simp [wd, keyW]
            | 1, _ => simp [wd, keyW]
            | 2, _ => simp [wd, keyW]
            | 3, _ => simp [wd, keyW]
            | 4, _ => simp [wd, keyW]
          have hnl := numsT_len vs k
          have HN := hide (show numsT vs (k + 1) = numsT vs k ++ (32 :: ky ++ (32 :: itoaL n)) by rw [numsT, hky, hn])
          generalize numsT vs k = t3 at *
          have BR := hide hb
          have DR := hide bd
          have RR := hide rr
          have VV := hide vv
          have HKY := hide hky
          have hil := (itoaL_len n).2
          clear hb bd rr vv hn hky
          go_upto_region 11 with (fail)
          clear c0 cl
          refine wp_region_tree (.q 1 (.q 6 (.x 0 (.q 2 (.q 3 (.q 4 (.q 5 (.x 7 (.q 8 (.x 9 .nil)))))))))) (fun W => True) (by kernel_rfl) (by kernel_rfl) trivial ?_
          iterate 2 (refine wpT_q (v := ?_) (by simp only [List.getElem?_toArray, List.getElem?_cons_succ, List.getElem?_cons_zero]; try rfl) (by rfl) (fun W hW => ?_) ?_; rotate_left; (focus (go_simp; try with_reducible rfl)); try simp only [Act.put, List.setIfInBounds_toArray, List.set_cons_zero, List.set_cons_succ])
          refine wpT_x (by simp only [List.getElem?_toArray, List.getElem?_cons_succ, List.getElem?_cons_zero]; try rfl) (by rfl) (fun KK hKK => ?_)
          go_simp
          refine (keys_blk _).mono ?_
          rintro e w9 ⟨gk, rfl, hb9', hkey⟩
          have hb9 : Below wr.heap.size wr w9 := (Below.refl _ _).drew.trans hb9'
          have hkc := (hkey.cell k).trans (keys_at hk5)
          rw [← HKY.out] at hkc
          have hgkn : gk ≠ w.heap.size := by have h1 := isb_lt DR.out; have h2 := isb_shape (isb_below DR.out hb9); intro e; rw [e] at hkey; simp [World.shape?, show w9.heap[w.heap.size]? = _ from hkey] at h2
          have KB := hide hkey
          refine hKK (fun W => W.cell? ⟨gk, k, none⟩ = some (.string ⟨ky.toArray⟩)) _ _ (fun _ _ => trivial) hkc ?_
          have B9 := hide (BR.out.trans (hb9.mono BR.out.size))
          have D9 := hide (isb_below DR.out hb9)
          have R9 : Hid (BReg w9 g5 r) := hide (Blk.below RR.out hb9 RR.out.lt)
          have V9 := hide (VV.out.below hb9 VV.out.lt)
          have KC := hide hkc
          clear hKK KK hb9 hb9' hkey hkc BR DR RR VV
          try simp only [Act.put, List.setIfInBounds_toArray, List.set_cons_zero, List.set_cons_succ]
          have s1 := fun (W : World) => run_string_add_sum (P := Tryd.prog) (w := W) (⟨#[32]⟩ : ByteArray) (⟨ky.toArray⟩) (by simp only [ByteArray.size_append, zs]; first | omega | (simp; omega))
          have s2 := fun (W : World) => run_string_add_sum (P := Tryd.prog) (w := W) ((⟨#[32]⟩ : ByteArray) ++ (⟨ky.toArray⟩ : ByteArray)) (⟨#[32]⟩) (by simp only [ByteArray.size_append, zs]; first | omega | (simp; omega))
          have s3 := fun (W : World) => run_string_add_sum (P := Tryd.prog) (w := W) ((⟨#[32]⟩ : ByteArray) ++ (⟨ky.toArray⟩ : ByteArray) ++ (⟨#[32]⟩ : ByteArray)) (⟨(itoaL n).toArray⟩) (by simp only [ByteArray.size_append, zs]; first | omega | (simp; omega))
          iterate 4 (refine wpT_q (v := ?_) (by simp only [List.getElem?_toArray, List.getElem?_cons_succ, List.getElem?_cons_zero]; try rfl) (by rfl) (fun W hW => ?_) ?_; rotate_left; (focus (go_simp; try with_reducible rfl)); try simp only [Act.put, List.setIfInBounds_toArray, List.set_cons_zero, List.set_cons_succ])
          refine wpT_x (by simp only [List.getElem?_toArray, List.getElem?_cons_succ, List.getElem?_cons_zero]; try rfl) (by rfl) (fun KK hKK => ?_)
          go_simp
          refine (printed_ok n hn100 _).mono ?_
          rintro e w10 ⟨rfl, hb10⟩
          have hkc := (hb10.cell (p := ⟨gk, k, none⟩) KB.out.lt).trans KC.out
          have KB10 := hide (KB.out.below hb10 KB.out.lt)
          refine hKK (fun W => W.cell? ⟨gk, k, none⟩ = some (.string ⟨ky.toArray⟩)) _ _ (fun _ h => h) hkc ?_
          have B10 := hide (B9.out.trans (hb10.mono B9.out.size))
          have D10 := hide (isb_below D9.out hb10)
          have R10 : Hid (BReg w10 g5 r) := hide (Blk.below R9.out hb10 R9.out.lt)
          have V10 := hide (V9.out.below hb10 V9.out.lt)
          clear hKK KK hb10 hkc KC KB B9 D9 R9 V9
          try simp only [Act.put, List.setIfInBounds_toArray, List.set_cons_zero, List.set_cons_succ]
          iterate 1 (refine wpT_q (v := ?_) (by simp only [List.getElem?_toArray, List.getElem?_cons_succ, List.getElem?_cons_zero]; try rfl) (by rfl) (fun W hW => ?_) ?_; rotate_left; (focus (go_simp; try with_reducible rfl)); try simp only [Act.put, List.setIfInBounds_toArray, List.set_cons_zero, List.set_cons_succ])
          refine wpT_x (by simp only [List.getElem?_toArray, List.getElem?_cons_succ, List.getElem?_cons_zero]; try rfl) (by rfl) (fun KK hKK => ?_)
          go_simp
          refine (ws_any w.heap.size w.heap.size (t2 ++ t3) ((⟨#[32]⟩ : ByteArray) ++ (⟨ky.toArray⟩ : ByteArray) ++ (⟨#[32]⟩ : ByteArray) ++ (⟨(itoaL n).toArray⟩ : ByteArray)) _ D10.out (by simp only [ByteArray.size_append, zs, List.length_append]; simp; omega) B10.out.size).mono ?_
          rintro e w11 ⟨nr11, rfl, bd11, hb11, ho11⟩
          have hkc := ((KB10.out.others ho11 hgkn (by decide)).cell k).trans (keys_at hk5)
          rw [← HKY.out] at hkc
          refine hKK (fun W => W.cell? ⟨gk, k, none⟩ = some (.string ⟨ky.toArray⟩)) _ _ (fun _ h => h) hkc ?_
          have B11 := hide (B10.out.trans hb11)
          have R11 : Hid (BReg w11 g5 r) := hide (Blk.others R10.out ho11 hgb (by decide))
          have V11 := hide (Blk.others V10.out ho11 hg8b (by decide))
          have D11 : Hid (Lib.IsBuilderF 111 5 w.heap.size w.heap.size (Lib.byteCells (t2 ++ numsT vs (k + 1))) w11) := hide (by rw [HN.out]; simpa [ByteArray.data_append] using bd11)
          clear hKK KK hkc KB10 bd11 hb11 ho11 R10 V10 D10 B10 s1 s2 s3
          try simp only [Act.put, List.setIfInBounds_toArray, List.set_cons_zero, List.set_cons_succ]
          refine wpT_nil ?_
          go_wp2
          go_roundg (5 - (k + 1))
          case measure => omega
          case rel => exact ⟨k + 1, by omega, rfl, by go_num, B11.out, D11.out, R11.out, V11.out⟩
        · have hkz : decide ((k : Int) < 5) = false := by simp; omega
          obtain rfl : k = 5 := by omega
          have BR := hide hb
          have DR := hide bd
          have RR := hide rr
          have hnl := numsT_len vs 5
          obtain ⟨cl, hcl⟩ : ∃ cl : Nat, r.clear = (cl : Int) := ⟨r.clear.toNat, (Int.toNat_of_nonneg hrT.c0).symm⟩
          have hclR : cl < R.length := by have := hrT.c1; omega
          have hclz : (cl : Int) < R.length := by omega
          obtain ⟨q, hq⟩ : ∃ q, R[cl]? = some q := ⟨_, List.getElem?_eq_getElem hclR⟩
          have hqn := (hT q (List.mem_of_getElem? hq)).nm
          have HE := hide (show endT R r = [32, 99, 108, 101, 97, 114, 32] ++ q.name ++ [10] by rw [endT, nameAt, hcl, Int.toNat_natCast, hq]; rfl)
          have hS : ∀ W, Below w.heap.size w W ∧ BReg W g5 r → W.cell? ⟨c, 0, none⟩ = some (.slice (some ⟨gr, 0, none⟩) R.length c1) ∧ c < W.heap.size ∧ W.cell? ⟨g5, 8, none⟩ = some (.int .i64 (cl : Int)) ∧ g5 < W.heap.size ∧ W.cell? ⟨gr, cl * 9, none⟩ = some (.string ⟨q.name.toArray⟩) ∧ gr < W.heap.size := by
            intro W h
            obtain ⟨g2, e2, hg2, hc2⟩ := H.out.regc hq
            cases e2
            have hr : Blk _ _ _ _ := h.2
            refine ⟨(h.1.cell (p := ⟨c, 0, none⟩) H.out.blk.lt).trans (H.out.blk.cell 0), Nat.lt_of_lt_of_le H.out.blk.lt h.1.size, ?_, hr.lt, ?_, Nat.lt_of_lt_of_le hg2 h.1.size⟩
            · rw [← hcl]; exact hr.cell 8
            · exact (h.1.cell (p := ⟨gr, cl * 9, none⟩) hg2).trans (hc2 0 _ rfl)
          have s1 := fun (W : World) => run_string_add_sum (P := Tryd.prog) (w := W) (⟨#[32, 99, 108, 101, 97, 114, 32]⟩ : ByteArray) (⟨q.name.toArray⟩) (by simp only [ByteArray.size_append, zs]; first | omega | (simp; omega))
          have s2 := fun (W : World) => run_string_add_sum (P := Tryd.prog) (w := W) ((⟨#[32, 99, 108, 101, 97, 114, 32]⟩ : ByteArray) ++ (⟨q.name.toArray⟩ : ByteArray)) (⟨#[10]⟩) (by simp only [ByteArray.size_append, zs]; first | omega | (simp; omega))
          have HCL := hide hcl
          have HSS := hide hS
          clear hb bd rr vv hcl hq hS
          go_upto_region 13 with (fail)
          refine wp_region_tree (.q 0 (.q 1 (.q 2 (.q 3 (.q 4 (.q 5 (.q 6 (.q 7 (.q 8 (.q 9 (.q 10 (.x 11 .nil)))))))))))) (fun W => Below w.heap.size w W ∧ BReg W g5 r) (by kernel_rfl) (by kernel_rfl) ⟨BR.out.drew, RR.out⟩ ?_
          iterate 11 (refine wpT_q (v := ?_) (by simp only [List.getElem?_toArray, List.getElem?_cons_succ, List.getElem?_cons_zero]; try rfl) (by rfl) (fun W hW => ?_) ?_; rotate_left; (focus (obtain ⟨k0, kl, k8, k9, kg, kh⟩ := HSS.out _ hW; clear hW; go_simp; try with_reducible rfl)); try simp only [Act.put, List.setIfInBounds_toArray, List.set_cons_zero, List.set_cons_succ])
          refine wpT_x (by simp only [List.getElem?_toArray, List.getElem?_cons_succ, List.getElem?_cons_zero]; try rfl) (by rfl) (fun KK hKK => ?_)
          go_simp
          refine (ws_any w.heap.size w.heap.size (t2 ++ numsT vs 5) ((⟨#[32, 99, 108, 101, 97, 114, 32]⟩ : ByteArray) ++ (⟨q.name.toArray⟩ : ByteArray) ++ (⟨#[10]⟩ : ByteArray)) _ (isb_below DR.out (Below.refl _ _).drew) (by simp only [ByteArray.size_append, zs, List.length_append]; simp; omega) BR.out.drew.size).mono ?_
          rintro e w12 ⟨nr12, rfl, bd12, hb12, ho12⟩
          have B12 := hide (BR.out.drew.trans hb12)
          refine hKK (fun W => Below w.heap.size w W ∧ BReg W g5 r) _ _ (fun _ h => h) ⟨B12.out, Blk.others (Blk.drew RR.out) ho12 hgb (by decide)⟩ ?_
          have D12 : Hid (Lib.IsBuilderF 111 5 w.heap.size w.heap.size (Lib.byteCells (linesT R (R.take (i + 1)))) w12) := hide (by rw [HS2.out, HE.out]; simpa [ByteArray.data_append] using bd12)
          clear hKK KK bd12 hb12 ho12 BR DR RR s1 s2 HSS
          try simp only [Act.put, List.setIfInBounds_toArray, List.set_cons_zero, List.set_cons_succ]
          refine wpT_nil ?_
          go_wp2
          go_roundg (R.length - (i + 1))
          case measure => omega
          case rel => exact ⟨i + 1, by omega, rfl, by go_num, B12.out, D12.out⟩
    · have hiz : decide ((i : Int) < R.length) = false := by simp; omega
      obtain rfl : i = R.length := by omega
      rw [List.take_length] at bd
      have BR := hide hb
      have DR := hide bd
      have k0 := (hb.cell (p := ⟨c, 0, none⟩) H.out.blk.lt).trans (H.out.blk.cell 0)
      have k2 := (hb.cell (p := ⟨c, 2, none⟩) H.out.blk.lt).trans (H.out.blk.cell 2)
      have kl := Nat.lt_of_lt_of_le H.out.blk.lt hb.size
      clear hb bd hi hg
      have hll := linesT_len hT R hT
      have HX := hide (show textT R K = linesT R R ++ marksT R K from rfl)
      generalize linesT R R = t at *
      go_upto_region 16 with (fail)
      clear k0 k2 kl
      go_loopg [76] K.length (fun gg x76 wr => ∃ i : Nat, i ≤ K.length ∧ gg = K.length - i ∧ x76 = .int .i64 (i : Int) ∧ Aside (Below w.heap.size w wr ∧ Lib.IsBuilderF 111 5 w.heap.size w.heap.size (Lib.byteCells (t ++ marksT R (K.take i))) wr))
      case atStart => exact ⟨0, Nat.zero_le _, rfl, rfl, BR.out, by simpa [marksT] using DR.out⟩
      case round =>
        clear BR DR
        obtain ⟨i, hi, hg2, rfl, hH⟩ := hrel
        obtain ⟨hb, bd⟩ := hH.out
        clear hH
        rcases Nat.lt_or_ge i K.length with hiK | hiK
        · have hizK : (i : Int) < K.length := by omega
          obtain ⟨m, hmi⟩ : ∃ m, K[i]? = some m := ⟨_, List.getElem?_eq_getElem hiK⟩
          obtain ⟨hmR, hm100⟩ := hK m (List.mem_of_getElem? hmi)
          obtain ⟨gm, hA2, _, hgm, hcm⟩ := own_base H.out.marks (by omega)
          subst hA2
          have y0 := (hb.cell (p := ⟨gm, i * 2 + 0, none⟩) hgm).trans (hcm _ _ (flat_get markCells 2 (fun _ => rfl) K i m hmi 0 _ rfl))
          have y1 := (hb.cell (p := ⟨gm, i * 2 + 1, none⟩) hgm).trans (hcm _ _ (flat_get markCells 2 (fun _ => rfl) K i m hmi 1 _ rfl))
          simp only [Nat.add_zero] at y0
          have hgw : gm < wr.heap.size := Nat.lt_of_lt_of_le hgm hb.size
          obtain ⟨q, hq⟩ : ∃ q, R[m.1.toNat]? = some q := ⟨_, List.getElem?_eq_getElem hmR⟩
          have hqn := (hT q (List.mem_of_getElem? hq)).nm
          obtain ⟨gr, hA1, hgr, hcr⟩ := H.out.regc hq
          subst hA1
          have hll2 := marksT_len hT (K.take i)
          rw [List.length_take, Nat.min_eq_left hi] at hll2
          have HS := hide (show marksT R (K.take (i + 1)) = marksT R (K.take i) ++ markT R m by rw [List.take_add_one, hmi, Option.toList_some, marksT_append]; simp [marksT])
          have HL := hide (show markT R m = [116, 114, 117, 115, 116, 32] ++ q.name ++ [32] ++ itoaL m.2.toNat ++ [10] by rw [markT, nameAt, hq]; rfl)
          have yr := hcr 0 _ rfl
          generalize marksT R (K.take i) = t2 at *
          generalize markT R m = t3 at *
          obtain ⟨la, hla⟩ : ∃ la, la = m.1.toNat := ⟨_, rfl⟩
          obtain ⟨n, hn⟩ : ∃ n, n = m.2.toNat := ⟨_, rfl⟩
          rw [← hla] at hmR y0 yr hq
          rw [← hn] at hm100 y1 HL
          have hlaz : (la : Int) < R.length := by omega
          have hil := (itoaL_len n).2
          have BR := hide hb
          have DR := hide bd
          clear hcm hcr hb bd hmi hq hla hn
          go_upto_region 18 with (fail)
          obtain ⟨g9, hg9⟩ : ∃ g9, g9 = wr.heap.size := ⟨_, rfl⟩
          refine at_world (fun W => Below w.heap.size w W ∧ Lib.IsBuilderF 111 5 w.heap.size w.heap.size (Lib.byteCells (t ++ t2)) W ∧ Blk W g9 48 #[.int .u8 (la : Int), .int .u16 (n : Int)]) ⟨BR.out.alloc BR.out.size _, Lib.IsBuilderF.alloc DR.out _, by rw [hg9]; exact Blk.new _ _ _⟩ (fun w5 hX => ?_)
          obtain ⟨hb5, bd5, r5⟩ := hX
          have hgb : g9 ≠ w.heap.size := by have := isb_lt DR.out; omega
          rw [← hg9]
          have B5 := hide hb5
          have D5 := hide bd5
          have R5 := hide r5
          clear hb5 bd5 r5 y0 y1 hgw hg9 BR DR
          have hS : ∀ W, Below w.heap.size w W ∧ Blk W g9 48 #[.int .u8 (la : Int), .int .u16 (n : Int)] → W.cell? ⟨c, 0, none⟩ = some (.slice (some ⟨gr, 0, none⟩) R.length c1) ∧ c < W.heap.size ∧ W.cell? ⟨g9, 0, none⟩ = some (.int .u8 (la : Int)) ∧ W.cell? ⟨g9, 1, none⟩ = some (.int .u16 (n : Int)) ∧ g9 < W.heap.size ∧ W.cell? ⟨gr, la * 9, none⟩ = some (.string ⟨q.name.toArray⟩) ∧ gr < W.heap.size :=
            fun W h => ⟨(h.1.cell (p := ⟨c, 0, none⟩) H.out.blk.lt).trans (H.out.blk.cell 0), Nat.lt_of_lt_of_le H.out.blk.lt h.1.size, h.2.cell 0, h.2.cell 1, h.2.lt, (h.1.cell (p := ⟨gr, la * 9, none⟩) hgr).trans yr, Nat.lt_of_lt_of_le hgr h.1.size⟩
          have HSS := hide hS
          have s1 := fun (W : World) => run_string_add_sum (P := Tryd.prog) (w := W) (⟨#[116, 114, 117, 115, 116, 32]⟩ : ByteArray) (⟨q.name.toArray⟩) (by simp only [ByteArray.size_append, zs]; first | omega | (simp; omega))
          have s2 := fun (W : World) => run_string_add_sum (P := Tryd.prog) (w := W) ((⟨#[116, 114, 117, 115, 116, 32]⟩ : ByteArray) ++ (⟨q.name.toArray⟩ : ByteArray)) (⟨#[32]⟩) (by simp only [ByteArray.size_append, zs]; first | omega | (simp; omega))
          have s3 := fun (W : World) => run_string_add_sum (P := Tryd.prog) (w := W) ((⟨#[116, 114, 117, 115, 116, 32]⟩ : ByteArray) ++ (⟨q.name.toArray⟩ : ByteArray) ++ (⟨#[32]⟩ : ByteArray)) (⟨(itoaL n).toArray⟩) (by simp only [ByteArray.size_append, zs]; first | omega | (simp; omega))
          have s4 := fun (W : World) => run_string_add_sum (P := Tryd.prog) (w := W) ((⟨#[116, 114, 117, 115, 116, 32]⟩ : ByteArray) ++ (⟨q.name.toArray⟩ : ByteArray) ++ (⟨#[32]⟩ : ByteArray) ++ (⟨(itoaL n).toArray⟩ : ByteArray)) (⟨#[10]⟩) (by simp only [ByteArray.size_append, zs]; first | omega | (simp; omega))
          clear hS
          refine wp_region_tree (.q 0 (.q 1 (.q 2 (.q 3 (.q 4 (.q 5 (.q 6 (.q 7 (.q 8 (.q 9 (.q 10 (.q 11 (.q 12 (.q 13 (.x 14 (.q 15 (.q 16 (.x 17 .nil)))))))))))))))))) (fun W => Below w.heap.size w W ∧ Blk W g9 48 #[.int .u8 (la : Int), .int .u16 (n : Int)]) (by kernel_rfl) (by kernel_rfl) ⟨B5.out.drew, R5.out.drew⟩ ?_
          iterate 14 (refine wpT_q (v := ?_) (by simp only [List.getElem?_toArray, List.getElem?_cons_succ, List.getElem?_cons_zero]; try rfl) (by rfl) (fun W hW => ?_) ?_; rotate_left; (focus (obtain ⟨k0, kl, k8, k81, k9, kg, kh⟩ := HSS.out _ hW; clear hW; go_simp; try with_reducible rfl)); try simp only [Act.put, List.setIfInBounds_toArray, List.set_cons_zero, List.set_cons_succ])
          refine wpT_x (by simp only [List.getElem?_toArray, List.getElem?_cons_succ, List.getElem?_cons_zero]; try rfl) (by rfl) (fun KK hKK => ?_)
          go_simp
          rw [IntWalk.i64_in (n : Int) (by omega)]
          refine (printed_ok n hm100 _).mono ?_
          rintro e w6 ⟨rfl, hb6'⟩
          have hb6 : Below w5.heap.size w5 w6 := (Below.refl _ _).drew.trans hb6'
          have B6 := hide (B5.out.trans (hb6.mono B5.out.size))
          have D6 := hide (isb_below D5.out hb6)
          have R6 := hide (R5.out.below hb6 R5.out.lt)
          refine hKK (fun W => Below w.heap.size w W ∧ Blk W g9 48 #[.int .u8 (la : Int), .int .u16 (n : Int)]) _ _ (fun _ h => h) ⟨B6.out, R6.out⟩ ?_
          clear hKK KK hb6 hb6' B5 D5 R5
          try simp only [Act.put, List.setIfInBounds_toArray, List.set_cons_zero, List.set_cons_succ]
          iterate 2 (refine wpT_q (v := ?_) (by simp only [List.getElem?_toArray, List.getElem?_cons_succ, List.getElem?_cons_zero]; try rfl) (by rfl) (fun W hW => ?_) ?_; rotate_left; (focus (go_simp; try with_reducible rfl)); try simp only [Act.put, List.setIfInBounds_toArray, List.set_cons_zero, List.set_cons_succ])
          refine wpT_x (by simp only [List.getElem?_toArray, List.getElem?_cons_succ, List.getElem?_cons_zero]; try rfl) (by rfl) (fun KK hKK => ?_)
          go_simp
          refine (ws_any w.heap.size w.heap.size (t ++ t2) ((⟨#[116, 114, 117, 115, 116, 32]⟩ : ByteArray) ++ (⟨q.name.toArray⟩ : ByteArray) ++ (⟨#[32]⟩ : ByteArray) ++ (⟨(itoaL n).toArray⟩ : ByteArray) ++ (⟨#[10]⟩ : ByteArray)) _ D6.out (by simp only [ByteArray.size_append, zs, List.length_append]; simp; omega) B6.out.size).mono ?_
          rintro e w12 ⟨nr12, rfl, bd12, hb12, ho12⟩
          have B12 := hide (B6.out.trans hb12)
          refine hKK (fun W => Below w.heap.size w W ∧ Blk W g9 48 #[.int .u8 (la : Int), .int .u16 (n : Int)]) _ _ (fun _ h => h) ⟨B12.out, Blk.others R6.out ho12 hgb (by decide)⟩ ?_
          have D12 : Hid (Lib.IsBuilderF 111 5 w.heap.size w.heap.size (Lib.byteCells (t ++ marksT R (K.take (i + 1)))) w12) := hide (by rw [HS.out, HL.out]; simpa [ByteArray.data_append] using bd12)
          clear hKK KK bd12 hb12 ho12 B6 D6 R6 s1 s2 s3 s4 HSS
          try simp only [Act.put, List.setIfInBounds_toArray, List.set_cons_zero, List.set_cons_succ]
          refine wpT_nil ?_
          go_wp2
          go_roundg (K.length - (i + 1))
          case measure => omega
          case rel => exact ⟨i + 1, by omega, rfl, by go_num, B12.out, D12.out⟩
        · have hizK : decide ((i : Int) < K.length) = false := by simp; omega
          obtain rfl : i = K.length := by omega
          rw [List.take_length] at bd
          have BR := hide hb
          have DR := hide bd
          clear hb bd hT hK
          go_wp2_with fail
          refine (st_ok w.heap.size w.heap.size _ _ DR.out BR.out.size).mono ?_
          rintro e w5 ⟨rfl, hb5⟩
          have B5 := hide (BR.out.trans hb5)
          clear hb5
          go_wp2
          go_returns
          exact ⟨by rw [HX.out]; rfl, B5.out⟩
end
end Go.Proofs.YtniboffmdkeacaaDoor

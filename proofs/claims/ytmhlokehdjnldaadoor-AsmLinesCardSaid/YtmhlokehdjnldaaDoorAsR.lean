/- Programs' texts: read: a text's lines, its places. -/
import Derived.Test.YtmhlokehdjnldaaDoorAsQ
import Derived.Deep.CutBlock
import Derived.Lib.ReplaceLaws
namespace Go.Proofs.YtmhlokehdjnldaaDoor
open Go.RowKit Go.WideMaps
set_option linter.unusedSimpArgs false
set_option linter.unusedVariables false

/-! ### what the library reads -/
def Lw (w : World) : Prop := (∃ m, w.cell? ⟨2, 0, none⟩ = some (.int .i64 m)) ∧ Lib.TabIs Tryd.prog w "strings.asciiSpace" .u8 Lib.asciiSpaceTab
theorem asciiSpace_is : Tryd.prog.globalNamed "strings.asciiSpace" = some 0 := by kernel_rfl
theorem Lw.lt {w : World} (h : Lw w) : 2 < w.heap.size := by
  obtain ⟨m, hm⟩ := h.1
  exact World.block_lt_of_cell? w _ hm
theorem Lw.below {w w' : World} {B : Nat} (h : Lw w) (hb : Below B w w') (h3 : 2 < B) : Lw w' := by
  obtain ⟨⟨m, hm⟩, ht⟩ := h
  exact ⟨⟨m, (hb.cell (p := ⟨2, 0, none⟩) h3).trans hm⟩, var?_below hb asciiSpace_is (by omega) ht⟩
theorem Lw.below' {w w' : World} (h : Lw w) (hb : Below w.heap.size w w') : Lw w' := h.below hb h.lt
theorem Lw.drewN {w : World} (h : Lw w) (n : Nat) : Lw (w.drewN n) := h

/-! ### a text's lines -/
def linesOf (s : ByteArray) : List (List UInt8) := (Lib.splitB (str [10]) 0 (Lib.countB s (str [10])) s).map fun l => l.data.toList
theorem linesOf_go (s : ByteArray) : linesOf s = linesGo [] s.data.toList := linesB_go s
theorem splitK_sub (sep : List UInt8) (save : Nat) : ∀ (k : Nat) (l x : List UInt8), x ∈ Lib.splitK sep save k l → ∃ a b, x = (l.drop a).take b
  | 0, l, x, h => by
    simp [Lib.splitK] at h
    exact ⟨0, l.length, by simp [h]⟩
  | k + 1, l, x, h => by
    unfold Lib.splitK at h
    split at h
    · simp at h
      exact ⟨0, l.length, by simp [h]⟩
    · rcases List.mem_cons.1 h with h | h
      · exact ⟨0, _, by rw [h, List.drop_zero]⟩
      · obtain ⟨a, b, e⟩ := splitK_sub sep save k _ x h
        exact ⟨_, b, by rw [e, List.drop_drop]⟩
theorem linesOf_is (s : ByteArray) : linesOf s = Lib.splitK [10] 0 (Lib.countB s (str [10])) s.data.toList := Lib.splitB_data (str [10]) 0 _ s
theorem linesOf_length (s : ByteArray) : (linesOf s).length = Lib.countB s ⟨#[10]⟩ + 1 := by
  unfold linesOf
  rw [List.length_map]
  exact Lib.splitB_all (str [10]) (by decide) 0 _ s rfl
theorem linesOf_few (s : ByteArray) : (linesOf s).length ≤ s.size + 1 := by
  have := Lib.countB_mul_le (str [10]) (by decide) s.size s (Nat.le_refl _)
  rw [linesOf_length]
  have e : (str [10]).size = 1 := rfl
  rw [e, Nat.mul_one] at this
  exact Nat.succ_le_succ this
theorem linesOf_sub {s : ByteArray} {l : List UInt8} (h : l ∈ linesOf s) : l.length ≤ s.size ∧ ((∀ (j : Nat) b, s.data.toList[j]? = some b → b.toNat < 128) → ∀ (j : Nat) b, l[j]? = some b → b.toNat < 128) := by
  rw [linesOf_is] at h
  obtain ⟨a, b, rfl⟩ := splitK_sub _ _ _ _ _ h
  refine ⟨by rw [sz, List.length_take, List.length_drop]; omega, fun ha j c hc => ?_⟩
  rw [List.getElem?_take] at hc
  split at hc
  · rw [List.getElem?_drop] at hc
    exact ha _ c hc
  · cases hc
theorem lines_cells (s : ByteArray) : ((Lib.splitB (str [10]) 0 (Lib.countB s (str [10])) s).map Value.string).toArray = (svs (linesOf s)).toArray := by
  unfold svs linesOf
  rw [List.map_map]
  congr 1
theorem cut_fst (l sep : List UInt8) : ∃ i, (Lib.cut l sep).1 = l.take i := by
  unfold Lib.cut
  split
  · exact ⟨_, rfl⟩
  · exact ⟨l.length, by simp⟩
theorem wordsGo_len : ∀ (l cur : List UInt8), (wordsGo cur l).length ≤ l.length + 1 ∧ ∀ x ∈ wordsGo cur l, x.length ≤ cur.length + l.length
  | [], cur => by
    rw [wordsGo_nil]
    split
    · simp
    · simp
  | c :: t, cur => by
    by_cases h : c = 35
    · subst h
      rw [wordsGo_end]
      split
      · simp
      · simp
    · cases hs : Lib.isSp c with
      | true =>
        rw [wordsGo_sp _ _ h hs]
        obtain ⟨h1, h2⟩ := wordsGo_len t []
        split
        · refine ⟨by simp; omega, fun x hx => ?_⟩
          have := h2 x hx
          simp at this ⊢; omega
        · refine ⟨by simp; omega, fun x hx => ?_⟩
          rcases List.mem_cons.1 hx with rfl | hx
          · simp
          · have := h2 x hx
            simp at this ⊢; omega
      | false =>
        rw [wordsGo_more _ _ h hs]
        obtain ⟨h1, h2⟩ := wordsGo_len t (cur ++ [c])
        refine ⟨by simp; omega, fun x hx => ?_⟩
        have := h2 x hx
        simp at this ⊢; omega

/-! ### read -/
theorem word_len {l : List UInt8} (h : wordA l = true) : l.length ≤ 16 := by
  unfold wordA at h
  simp only [Bool.and_eq_true, decide_eq_true_eq] at h
  exact h.1.1.2
def LnGood (m : LnM) : Prop := m.full.length ≤ 65537 ∧ (∀ x ∈ m.full, x.length ≤ 65537) ∧ ∃ r, measA m.ws = .ok r
def ReadAns (B : Nat) (w' : World) (r : Except (Nat × Int) Src) (e : Ending) : Prop :=
  match r with
  | .error (n, er) => e = .returned (.tuple #[.pointer none, .int .i64 (n : Int), .int .i64 er]) ∧ er ≠ 0
  | .ok st => ∃ b mp v Ms Gs, e = .returned (.tuple #[.pointer (some ⟨b, 0, none⟩), .int .i64 0, .int .i64 0]) ∧ SrcAt B w' b mp v st Ms Gs ∧ (∀ m ∈ Ms, LnGood m)
theorem meas_le {ws : List (List UInt8)} (h : ∀ x ∈ ws, x.length ≤ 65537) : ∀ k ex, measA ws = .ok (k, ex) → k ≤ 400000 ∨ 65537 < ws.length := by
  intro k ex hm
  rcases Nat.lt_or_ge 65537 ws.length with hl | hl
  · exact .inr hl
  refine .inl ?_
  have h1 : (wd ws 1).length ≤ 65537 := by
    unfold wd
    rw [List.getD_eq_getElem?_getD]
    cases hj : ws[1]? with
    | none => simp
    | some x => exact h x (List.mem_of_getElem? hj)
  unfold measA at hm
  split at hm
  · split at hm
    · split at hm
      · cases hm
      · injection hm with hm; injection hm with hm _; omega
    · cases hm
  · split at hm
    · injection hm with hm; injection hm with hm _; omega
    · split at hm
      · injection hm with hm; injection hm with hm _; omega
      · split at hm
        · split at hm
          · injection hm with hm; injection hm with hm _; omega
          · cases hm
        · split at hm
          · cases hm
          · injection hm with hm; injection hm with hm _; omega
theorem info_line : (Tryd.prog.info? 61).map (fun i => (i.zero, i.size, i.bytes)) = some (some (.agg #[.int .i64 0, .slice none 0 0]), 2, 32) := by kernel_rfl
def src0 : Src := ⟨[], [], 0, 0⟩
set_option maxRecDepth 100000 in
set_option maxHeartbeats 8000000 in
theorem read_ok (s : ByteArray) (w : World) (hs : s.size ≤ 65536) (ha : ∀ (j : Nat) b, s.data.toList[j]? = some b → b.toNat < 128) (hL : Lw w) :
    Calls Tryd.prog 21 #[.string s] w fun e w' => ReadAns w.heap.size w' (readA src0 0 (linesOf s)) e ∧ Below w.heap.size w w' := by
  have hmm := @run_makeMap Tryd.prog
  obtain ⟨rs, hrs⟩ : ∃ rs, readA src0 0 (linesOf s) = rs := ⟨_, rfl⟩
  have HRS0 := hide hrs
  rw [hrs]
  clear hrs
  go_enter Tryd.func21, Tryd.ntmps21
  go_upto_region 2 with (fail)
  refine at_world (fun W => ∃ mp b, mp = w.heap.size ∧ b = w.heap.size + 1 ∧ Below w.heap.size w W ∧ SrcAt w.heap.size W b mp (.slice none 0 0) src0 [] []) ⟨_, _, rfl, rfl, below2 w _ _, ?_⟩ (fun W hW => ?_)
  · have hm := MapR.made w skv
    have hb1 : Below (w.alloc (.map #[] 0)).heap.size (w.alloc (.map #[] 0)) ((w.alloc (.map #[] 0)).alloc (.cells #[.slice none 0 0, .map (some w.heap.size), .int .u8 0, .int .i64 0] 59)) := below1 _ _
    refine ⟨?_, hm.below hb1 hm.lt, World.ownsRow_nil _ _ _ _, by omega, Nat.le_refl _, rfl, (fun m hm => by cases hm), (fun x hx => by cases hx), (fun x hx => by cases hx), by decide, by decide⟩
    have := Blk.new (w.alloc (.map #[] 0)) 59 #[.slice none 0 0, .map (some w.heap.size), .int .u8 0, .int .i64 0]
    rw [World.size_alloc] at this
    exact this
  obtain ⟨mp, b, hmp, hb, hBW, hSW⟩ := hW
  rw [← hb]
  have HBW := hide hBW
  have HSW := hide hSW
  clear hmp hb hBW hSW hmm
  have hLW := hL.below' HBW.out
  obtain ⟨mx, hmx⟩ := hLW.1
  go_wp2_with fail
  refine (Tryd.strings_Split s ⟨#[10]⟩ mx W (by omega) hmx (by decide)).mono ?_
  rintro e w1 ⟨rfl, hw1⟩
  rw [← linesOf_length s]
  obtain ⟨LL, hLL⟩ : ∃ LL, linesOf s = LL := ⟨_, rfl⟩
  have hfew : LL.length ≤ 65537 := by rw [← hLL]; have := linesOf_few s; omega
  have HSUB : Hid (∀ l ∈ LL, l.length ≤ 65536 ∧ ∀ (j : Nat) b, l[j]? = some b → b.toNat < 128) := hide (fun l hl => by rw [← hLL] at hl; exact ⟨by have := (linesOf_sub hl).1; omega, (linesOf_sub hl).2 ha⟩)
  have hw1' : w1 = W.alloc (.cells (svs LL).toArray 9) := by rw [← hLL, ← lines_cells]; exact hw1
  refine at_world (fun W1 => ∃ gl, gl = W.heap.size ∧ Below w.heap.size w W1 ∧ SrcAt w.heap.size W1 b mp (.slice none 0 0) src0 [] [(gl, (svs LL).toArray)]) ⟨_, rfl, ?_, ?_⟩ (fun w2 hW1 => ?_)
  · rw [hw1']; exact HBW.out.alloc HBW.out.size _
  · rw [hw1']; exact (HSW.out.below (below1 W _)).add (Blk.new W _ _)
  rw [hLL]
  obtain ⟨gl, hgl, hB2, hS2⟩ := hW1
  rw [← hgl]
  have HB2 := hide hB2
  have HS2 := hide hS2
  have HFEW := hide hfew
  have HRS : Hid (readA src0 0 LL = rs) := hide (by rw [← hLL]; exact HRS0.out)
  clear hw1 hw1' hgl hB2 hS2 HBW HSW hLW hmx hLL hfew
  go_wp2_with fail
  go_loopg [20] LL.length (fun gh x20 wr => ∃ (i : Nat) (st : Src) (v : Value) (Ms : List LnM) (Gs : Strs), i ≤ LL.length ∧ gh = LL.length - i ∧ x20 = .int .i64 (i : Nat) ∧ Hid (Below w.heap.size w wr) ∧ Hid (SrcAt w.heap.size wr b mp v st Ms Gs) ∧ Hid ((gl, (svs LL).toArray) ∈ Gs) ∧ Hid (readA src0 0 LL = readA st i (LL.drop i)) ∧ Hid ((∀ m ∈ Ms, LnGood m) ∧ Ms.length ≤ i))
  case atStart => exact ⟨0, src0, .slice none 0 0, [], [(gl, (svs LL).toArray)], by omega, rfl, rfl, HB2, HS2, hide (by simp), hide rfl, hide ⟨(fun m hm => by cases hm), by simp⟩⟩
  case round =>
    obtain ⟨i, st, v, Ms, Gs, hi, hgh, rfl, HBr, HSr, HGL, HRD, HGD⟩ := hrel
    have HGH := hide hgh
    clear hgh
    by_cases hin : i < LL.length
    rotate_left
    · have t1 : decide ((i : Int) < (LL.length : Int)) = false := by simp; omega
      have t1' : ¬ (i : Int) < (LL.length : Int) := by omega
      have hfin : Hid (rs = .ok st) := hide (by rw [← HRS.out, HRD.out, List.drop_eq_nil_of_le (by omega)]; rfl)
      clear hin hi
      go_wp2
      go_returns
      exact ⟨by rw [hfin.out]; exact ⟨b, mp, v, Ms, Gs, rfl, HSr.out, HGD.out.1⟩, HBr.out⟩
    have hiz : (i : Int) < (LL.length : Int) := by omega
    have t1 : decide ((i : Int) < (LL.length : Int)) = true := by simpa using hiz
    have hfz : (LL.length : Int) ≤ 65537 := by have := HFEW.out; omega
    have w64 : IntKind.i64.wrap ((i : Int) + 1) = ((i + 1 : Nat) : Int) := by rw [IntWalk.i64_in _ (by omega)]; omega
    obtain ⟨l, hl⟩ : ∃ l, LL[i]? = some l := ⟨_, List.getElem?_eq_getElem hin⟩
    have hlm : l ∈ LL := List.mem_of_getElem? hl
    obtain ⟨hl6, hla⟩ := HSUB.out l hlm
    have hdrop : Hid (LL.drop i = l :: LL.drop (i + 1)) := hide (by
      rw [List.drop_eq_getElem_cons hin]
      rw [List.getElem?_eq_getElem hin] at hl
      injection hl with hl
      rw [hl])
    have hcl : wr.cell? ⟨gl, i, none⟩ = some (.string ⟨l.toArray⟩) := by
      rw [(HSr.out.str HGL.out).cell, List.getElem?_toArray, svs_get, hl]; rfl
    have hgll : gl < wr.heap.size := (HSr.out.str HGL.out).lt
    have hLr := hL.below' HBr.out
    obtain ⟨mx, hmx⟩ := hLr.1
    have HRD2 : Hid (rs = match lineA st (i + 1) l with | .error e => .error (i + 1, e) | .ok st' => readA st' (i + 1) (LL.drop (i + 1))) := hide (by
      rw [← HRS.out, HRD.out, hdrop.out, readA]
      cases lineA st (i + 1) l <;> rfl)
    clear hl hlm hdrop hin
    go_wp2_with fail
    refine (Tryd.strings_Cut ⟨l.toArray⟩ ⟨#[35]⟩ mx wr (by rw [sa_size]; omega) hmx).mono ?_
    rintro e w3 ⟨rfl, nd, rfl⟩
    obtain ⟨ic, hic⟩ := cut_fst l [35]
    have hx : (⟨(Lib.cut l [35]).1.toArray⟩ : ByteArray).size < 4294967281 := by rw [sa_size, hic, List.length_take]; omega
    have hxa : ∀ (j : Nat) b, (⟨(Lib.cut l [35]).1.toArray⟩ : ByteArray).data.toList[j]? = some b → b.toNat < 128 := fun j b h => by
      rw [hic] at h
      exact hla j b (by simp [List.getElem?_take] at h; simpa using h.2)
    have hT := (hLr.drewN nd).2
    have HX := hide hx
    have HBd := hide (below_drewN HBr.out nd)
    have HSd := hide (HSr.out.below (below_drewN (Below.refl _ _) nd))
    clear hic hmx hcl hla hx HBr HSr hLr
    go_wp2_with fail
    refine (Tryd.strings_Fields _ _ HX.out hxa hT).mono ?_
    rintro e w4 ⟨rfl, hw4⟩
    obtain ⟨full, hfull⟩ : ∃ full, wordsA l = full := ⟨_, rfl⟩
    have hfl : Lib.fields (Lib.cut l [35]).1 = full := hfull
    have hFL := wordsGo_len l []
    have HFL : Hid (full.length ≤ 65537 ∧ ∀ x ∈ full, x.length ≤ 65537) := hide (by
      have e : wordsGo [] l = full := hfull
      rw [e] at hFL
      exact ⟨by have := hFL.1; omega, fun x hx => by have := hFL.2 x hx; simp at this; omega⟩)
    have HLA : Hid (lineA st (i + 1) l = match stripA st.size st.labels full with
      | .error e => .error e
      | .ok (L, ws) => if ws = [] then .ok { st with labels := L } else match measA ws with
        | .error e => .error e
        | .ok (n, ex) => if 2048 < st.size + n then .error 11 else .ok { lines := st.lines ++ [⟨i + 1, ws⟩], labels := L, extra := ex.getD st.extra, size := st.size + n }) := hide (by
      unfold lineA
      rw [hfull]
      cases stripA st.size st.labels full with
      | error e => rfl
      | ok q =>
        obtain ⟨L, ws⟩ := q
        by_cases hws : ws = []
        · simp [hws]
        · simp only [if_neg hws]
          cases measA ws with
          | error e => rfl
          | ok q => rfl)
    rw [hfl] at hw4 ⊢
    have hw4' : w4 = (wr.drewN nd).alloc (.cells (svs full).toArray 9) := hw4
    refine at_world (fun W1 => ∃ g, g = (wr.drewN nd).heap.size ∧ Below w.heap.size w W1 ∧ SrcAt w.heap.size W1 b mp v st Ms ((g, (svs full).toArray) :: Gs)) ⟨_, rfl, ?_, ?_⟩ (fun w5 hW1 => ?_)
    · rw [hw4']; exact HBd.out.alloc HBd.out.size _
    · rw [hw4']; exact (HSd.out.below (below1 _ _)).add (Blk.new _ _ _)
    obtain ⟨g, hg, hB5, hS5⟩ := hW1
    rw [← hg]
    have HB5 := hide hB5
    have HS5 := hide hS5
    clear hw4 hw4' hg hB5 hS5 HBd HSd hT hxa HX hfull hfl hFL
    go_upto_block 2 with (fail)
    go_cut [8, 9, 10, 11] from 33 to 74 (fun x8 x9 x10 x11 wc => ∃ (off nn : Nat) (L : Lbs) (A8 : Option Addr), x8 = .slice A8 nn nn ∧ Hid (off ≤ full.length ∧ nn = full.length - off ∧ (0 < nn → A8 = some ⟨g, off, none⟩)) ∧ Hid (Below w.heap.size w wc) ∧ Hid (SrcAt w.heap.size wc b mp v { st with labels := L } Ms ((g, (svs full).toArray) :: Gs)) ∧ Hid (stripA st.size st.labels full = .ok (L, full.drop off)))
    case first =>
      go_wp2_with fail
      go_loopg [8] full.length (fun gh x8 wi => ∃ (off nn : Nat) (L : Lbs) (A8 : Option Addr), x8 = .slice A8 nn nn ∧ gh = nn ∧ Hid (off ≤ full.length ∧ nn = full.length - off ∧ (0 < nn → A8 = some ⟨g, off, none⟩)) ∧ Hid (Below w.heap.size w wi) ∧ Hid (SrcAt w.heap.size wi b mp v { st with labels := L } Ms ((g, (svs full).toArray) :: Gs)) ∧ Hid (stripA st.size st.labels full = stripA st.size L (full.drop off)))
      case atStart => exact ⟨0, full.length, st.labels, _, rfl, rfl, hide ⟨Nat.zero_le _, rfl, fun _ => rfl⟩, HB5, HS5, hide rfl⟩
      case round =>
        obtain ⟨off, nn, L, A8, rfl, hgh8, HOFF, HBl, HSl, HST⟩ := hrel
        have HGH8 := hide hgh8
        clear hgh8
        by_cases hn0 : nn = 0
        · subst hn0
          have hst : Hid (stripA st.size st.labels full = .ok (L, full.drop off)) := hide (by
            have h1 := HOFF.out
            rw [HST.out, List.drop_eq_nil_of_le (by omega)]
            rfl)
          go_wp2_with fail
          go_meet
          case rel => exact ⟨off, 0, L, A8, rfl, HOFF, HBl, HSl, hst⟩
        have hnz : (0 : Int) < (nn : Int) := by omega
        have hA8 := HOFF.out.2.2 (by omega)
        subst hA8
        have hoff : off < full.length := by have := HOFF.out; omega
        obtain ⟨x, hx⟩ : ∃ x, full[off]? = some x := ⟨_, List.getElem?_eq_getElem hoff⟩
        have hxm : x ∈ full := List.mem_of_getElem? hx
        have hxl : x.length ≤ 65537 := HFL.out.2 x hxm
        have hdr : Hid (full.drop off = x :: full.drop (off + 1)) := hide (by
          rw [List.drop_eq_getElem_cons hoff]
          rw [List.getElem?_eq_getElem hoff] at hx
          injection hx with hx
          rw [hx])
        have hcx : wr.cell? ⟨g, off, none⟩ = some (.string ⟨x.toArray⟩) := by
          rw [(HSl.out.str (List.mem_cons_self ..)).cell, List.getElem?_toArray, svs_get, hx]; rfl
        have hgl2 : g < wr.heap.size := (HSl.out.str (List.mem_cons_self ..)).lt
        clear hx hxm hn0
        go_wp2_with fail
        refine (Tryd.strings_HasSuffix ⟨x.toArray⟩ ⟨#[58]⟩ _ (by rw [sa_size]; omega)).mono ?_
        rintro e w6 ⟨rfl, rfl⟩
        rw [sa_data, show (⟨#[58]⟩ : ByteArray).data.toList = [58] from rfl, suf_one]
        by_cases h58 : x.getLast? = some 58
        rotate_left
        · have t5 : decide (x.getLast? = some 58) = false := by simpa using h58
          have hst : Hid (stripA st.size st.labels full = .ok (L, full.drop off)) := hide (by
            rw [HST.out]
            refine stripA_none ?_
            intro y t hy
            rw [hdr.out] at hy
            injection hy with hy _
            rw [← hy]; exact h58)
          rw [t5]
          clear t5 h58
          go_wp2_with fail
          go_meet
          case rel => exact ⟨off, nn, L, _, rfl, hide ⟨HOFF.out.1, HOFF.out.2.1, fun _ => rfl⟩, HBl, HSl, hst⟩
        have t5 : decide (x.getLast? = some 58) = true := by simpa using h58
        rw [t5]
        have HTR := hide (trim_one h58)
        have H58 := hide h58
        clear t5 h58
        go_wp2_with fail
        refine (Tryd.strings_TrimSuffix ⟨x.toArray⟩ ⟨#[58]⟩ _ (by rw [sa_size]; omega)).mono ?_
        rintro e w7 ⟨rfl, rfl⟩
        rw [sa_data, show (⟨#[58]⟩ : ByteArray).data.toList = [58] from rfl, HTR.out]
        obtain ⟨nm, hnm⟩ : ∃ nm, x.dropLast = nm := ⟨_, rfl⟩
        have hnml : nm.length ≤ 65537 := by rw [← hnm, List.length_dropLast]; omega
        have hstep : Hid (stripA st.size st.labels full = if wordA nm = false then .error 30 else if (mget L nm).isSome then .error 29 else stripA st.size (L ++ [(nm, st.size)]) (full.drop (off + 1))) := hide (by
          rw [HST.out, hdr.out, stripA, if_pos H58.out, hnm])
        rw [hnm]
        clear hnm hcx
        go_wp2_with fail
        refine (word_ok ⟨nm.toArray⟩ _).mono ?_
        rintro e w8 ⟨rfl, rfl⟩
        rw [sa_data]
        by_cases hwd : wordA nm = true
        rotate_left
        · have hwd' : wordA nm = false := by simpa using hwd
          have hend : Hid (rs = .error (i + 1, 30)) := hide (by rw [HRD2.out, HLA.out, hstep.out, if_pos hwd'])
          rw [hwd']
          clear hwd hwd'
          go_wp2_with fail
          go_returns
          exact ⟨by rw [hend.out]; exact ⟨rfl, by decide⟩, HBl.out⟩
        have hn16 : nm.length ≤ 16 := word_len hwd
        have hw2 : ¬ wordA nm = false := by rw [hwd]; decide
        have HW2 := hide hw2
        rw [hwd]
        clear hwd hw2
        have c1 := HSl.out.blk.cell 1
        have cbl := HSl.out.blk.lt
        obtain ⟨nmS, hnmS'⟩ : ∃ nmS : ByteArray, nmS = ⟨nm.toArray⟩ := ⟨_, rfl⟩
        have hnmS : nmS.size ≤ maxLen := by rw [hnmS', sa_size]; simp only [maxLen]; omega
        obtain ⟨q, hq⟩ : ∃ q, mget L nm = q := ⟨_, rfl⟩
        have HLK : Hid (mget (lbV L) (sk nmS hnmS) = q.map fun n => .int .i64 (n : Int)) := hide (by
          rw [sk_skey, hnmS', sa_data, mget_lbV HSl.out.ok (by simp only [maxLen]; omega), hq])
        have HNMS := hide hnmS'
        rw [← hnmS']
        clear hnmS'
        cases q with
        | some qn =>
          have hend : Hid (rs = .error (i + 1, 29)) := hide (by rw [HRD2.out, HLA.out, hstep.out, if_neg HW2.out, hq]; rfl)
          clear hq
          go_wp2_with (first | ((with_reducible refine at_look 57 (.tmp 55) (.tmp 56) true ?_); refine wpList_lookup_map rfl 57 (.tmp 55) (.tmp 56) true rfl (sk nmS hnmS) (by rfl) (skv_sk nmS hnmS).symm HSl.out.map.is strEnc Tryd.underlying57 (z := .int .i64 0) (by kernel_rfl) (.tuple #[.int .i64 (qn : Int), .bool true]) (lookV_eq HLK.out) ?_) | fail)
          go_returns
          exact ⟨by rw [hend.out]; exact ⟨rfl, by decide⟩, HBl.out⟩
        | none =>
          have hstep2 : Hid (stripA st.size st.labels full = stripA st.size (L ++ [(nm, st.size)]) (full.drop (off + 1))) := hide (by rw [hstep.out, if_neg HW2.out, hq]; rfl)
          have HQ := hide hq
          clear hq hstep
          go_upto_region 14 with (first | ((with_reducible refine at_look 57 (.tmp 55) (.tmp 56) true ?_); refine wpList_lookup_map rfl 57 (.tmp 55) (.tmp 56) true rfl (sk nmS hnmS) (by rfl) (skv_sk nmS hnmS).symm HSl.out.map.is strEnc Tryd.underlying57 (z := .int .i64 0) (by kernel_rfl) (.tuple #[.int .i64 0, .bool false]) (lookV_eq HLK.out) ?_) | fail)
          have c3 := HSl.out.blk.cell 3
          have hcells : w8.drew.cell? ⟨b, 1, none⟩ = some (.map (some mp)) ∧ w8.drew.cell? ⟨b, 3, none⟩ = some (.int .i64 (st.size : Int)) ∧ b < w8.drew.heap.size := ⟨c1, c3, cbl⟩
          refine wp_region_ord [0, 1, 2, 3, 4, 5, 6, 7, 8, 9] [0, 0, 0, 0, 0, 0, 0, 0, 0, 2] (fun W => W.cell? ⟨b, 1, none⟩ = some (.map (some mp)) ∧ W.cell? ⟨b, 3, none⟩ = some (.int .i64 (st.size : Int)) ∧ b < W.heap.size) (by kernel_rfl) (by kernel_rfl) hcells ?_
          iterate 9 (refine wpOrd_q (v := ?_) (by rfl) (fun W hW => ?_) ?_; rotate_left; (focus ((obtain ⟨hW1, hW2, hW3⟩ := hW; go_simp); try with_reducible rfl)); try simp only [Act.put, List.setIfInBounds_toArray, List.set_cons_zero, List.set_cons_succ])
          refine wpOrd_b (by rfl) (fun K hK => ?_)
          have hSd := HSl.out.below (Below.refl _ _).drew
          refine wp_update_map 57 (.tmp 66) (.tmp 67) (.tmp 71) rfl (sk nmS hnmS) (.int .i64 (st.size : Int)) (by rfl) (skv_sk nmS hnmS).symm (by rfl) hSd.map strEnc Tryd.underlying57 (fun w9 hm9 ho9 => ?_)
          refine hK (fun _ => True) _ _ trivial (wpOrd_nil ?_)
          have hsk : sk nmS hnmS = skey nm := by rw [sk_skey, HNMS.out]
          rw [hsk] at hm9
          have HS9 := hide (hSd.label (st := { st with labels := L }) hm9 ho9 HQ.out hn16)
          have HB9 : Hid (Below w.heap.size w w9) := hide (HBl.out.drew.grown ho9.1 HBl.out.size (fun k hk => by injection hk with hk; rw [← hk]; exact HSl.out.bm))
          clear hm9 ho9 hK K hSd hsk hcells c1 c3 cbl
          have hsl : (Instr.sliceAt 25 (.slice (some ⟨g, off, none⟩) nn nn) (some (.int .i64 1)) none none).run Tryd.prog w9 = .ok (.slice (slA (some ⟨g, off, none⟩) nn 1) (nn - 1) (nn - 1)) w9 :=
            run_slice_from (P := Tryd.prog) (w := w9) 25 9 (some ⟨g, off, none⟩) nn nn 1 .i64 Tryd.underlying25 (by kernel_rfl) (by omega)
          have hoff2 : Hid (off + 1 ≤ full.length ∧ nn - 1 = full.length - (off + 1) ∧ (0 < nn - 1 → slA (some ⟨g, off, none⟩) nn 1 = some ⟨g, off + 1, none⟩)) := hide ⟨by omega, by have := HOFF.out.2.1; omega, fun h => by unfold slA; rw [if_neg (by omega)]; simp [Addr.add_mid]⟩
          go_wp2_with (first | ((with_reducible refine at_slice 25 (.tmp 72) (some (.const (.int .i64 1))) none ?_); refine wpList_run rfl _ (exec_slice 25 (.tmp 72) (some (.const (.int .i64 1))) none rfl hsl) ?_) | fail)
          go_roundg (nn - 1)
          case measure => have := HGH8.out; omega
          case rel => exact ⟨off + 1, nn - 1, L ++ [(nm, st.size)], _, rfl, rfl, hoff2, HB9, HS9, hstep2⟩
    case rest =>
      obtain ⟨off, nn, L, A8, rfl, HOFF, HBc, HSc, HST⟩ := hcut
      have HGL2 : Hid ((gl, (svs LL).toArray) ∈ ((g, (svs full).toArray) :: Gs)) := hide (List.mem_cons_of_mem _ HGL.out)
      by_cases hn0 : nn = 0
      · subst hn0
        have hnext : Hid (readA src0 0 LL = readA { st with labels := L } (i + 1) (LL.drop (i + 1))) := hide (by
          have h1 := HOFF.out
          have h2 : full.drop off = [] := List.drop_eq_nil_of_le (by omega)
          rw [HRS.out, HRD2.out, HLA.out, HST.out]
          simp only [h2, if_true])
        go_wp2_with fail
        go_roundg (LL.length - (i + 1))
        case measure => have := HGH.out; omega
        case rel => exact ⟨i + 1, { st with labels := L }, v, Ms, _, by omega, rfl, by go_num, HBc, HSc, HGL2, hnext, hide ⟨HGD.out.1, by have := HGD.out.2; omega⟩⟩
      have hA8 := HOFF.out.2.2 (by omega)
      subst hA8
      have hoff : off < full.length := by have := HOFF.out; omega
      have hln : (full.drop off).length = nn := by rw [List.length_drop]; exact HOFF.out.2.1.symm
      have hne : full.drop off ≠ [] := fun e => by rw [e] at hln; simp at hln; omega
      have hnz : ((nn : Int) == 0) = false := by simp; omega
      have hn7 : nn ≤ 65537 := by have := HFL.out.1; have := HOFF.out; omega
      have hword : ∀ x ∈ full.drop off, x.length ≤ 65537 := fun x hx => HFL.out.2 x (List.mem_of_mem_drop hx)
      have HLA2 : Hid (lineA st (i + 1) l = match measA (full.drop off) with
        | .error e => .error e
        | .ok (n, ex) => if 2048 < st.size + n then .error 11 else .ok { lines := st.lines ++ [⟨i + 1, full.drop off⟩], labels := L, extra := ex.getD st.extra, size := st.size + n }) := hide (by
        rw [HLA.out, HST.out]
        simp only [if_neg hne])
      have hmeas := measure_ok HSc.out.blk (full.drop off) (some ⟨g, off, none⟩) nn (rd_line (HSc.out.str (List.mem_cons_self ..)) off _ fun _ => rfl) (by omega) (by omega)
      rw [hln] at hmeas
      have hmle : ∀ k ex, measA (full.drop off) = .ok (k, ex) → k ≤ 400000 := fun k ex h => by
        rcases meas_le hword k ex h with h | h
        · exact h
        · omega
      have HME := hide hmeas
      have HMLE := hide hmle
      have HNE := hide hne
      have HLN := hide hln
      clear hmeas hmle hword hne hn0 HLA HST hln
      go_wp2_with fail
      refine HME.out.mono ?_
      rintro e w6 ⟨n, er, rfl, hma⟩
      clear HME
      cases hme : measA (full.drop off) with
      | error x =>
        rw [hme] at hma
        obtain ⟨hx, hb6⟩ := hma
        have hend : Hid (rs = .error (i + 1, er)) := hide (by rw [HRD2.out, HLA2.out, hme, hx])
        have hx0 : er ≠ 0 := by rw [hx]; exact meas_err hme
        have t6 : (er != 0) = true := by simpa using hx0
        have HX0 := hide hx0
        have HB6 := hide (Below.then_ HBc.out HBc.out.size hb6)
        clear hx hb6 hx0 hme
        go_wp2_with fail
        go_returns
        exact ⟨by rw [hend.out]; exact ⟨rfl, HX0.out⟩, HB6.out⟩
      | ok q =>
        obtain ⟨kk, ex⟩ := q
        rw [hme] at hma
        have hkk : kk ≤ 400000 := HMLE.out kk ex hme
        obtain ⟨rfl, rfl, HB6, HS6⟩ : er = 0 ∧ n = (kk : Int) ∧ Hid (Below w.heap.size w w6) ∧ Hid (SrcAt w.heap.size w6 b mp v { st with labels := L, extra := ex.getD st.extra } Ms ((g, (svs full).toArray) :: Gs)) := by
          cases ex with
          | none => exact ⟨hma.1, hma.2.1, hide (Below.then_ HBc.out HBc.out.size hma.2.2), hide (HSc.out.below hma.2.2)⟩
          | some mm =>
            obtain ⟨h1, h2, h3, h4⟩ := hma
            refine ⟨h1, h2, hide ?_, hide ?_⟩
            · rw [h4]; exact HBc.out.setCell (p := ⟨b, 2, none⟩) HSc.out.bb _
            · rw [h4]
              exact HSc.out.cell_ (st' := { st with labels := L, extra := mm }) (HSc.out.blk.set_ 2 (.int .u8 (mm : Int))) rfl rfl HSc.out.sz h3
        have HMEQ := hide hme
        have c3 := HS6.out.blk.cell 3
        have f3 := HS6.out.blk.frozen 3
        have cbl := HS6.out.blt
        have hsz2 := HS6.out.sz
        have hsz3 : st.size ≤ 2048 := hsz2
        have wsz : IntKind.i64.wrap ((st.size : Int) + (kk : Int)) = ((st.size + kk : Nat) : Int) := by rw [IntWalk.i64_in _ (by omega)]; omega
        have hb7 : Blk (w6.setCell ⟨b, 3, none⟩ (.int .i64 ((st.size + kk : Nat) : Int))) b 59 #[v, .map (some mp), .int .u8 ((ex.getD st.extra : Nat) : Int), .int .i64 ((st.size + kk : Nat) : Int)] := HS6.out.blk.set_ 3 _
        have c37 := hb7.cell 3
        have HB7k := hide hb7
        have HB7 := hide (HB6.out.setCell (p := ⟨b, 3, none⟩) HS6.out.bb (.int .i64 ((st.size + kk : Nat) : Int)))
        clear hma hme hsz2 hb7
        by_cases hbig : 2048 < st.size + kk
        · have t7 : decide ((2048 : Int) < ((st.size + kk : Nat) : Int)) = true := by simp; omega
          have hend : Hid (rs = .error (i + 1, 11)) := hide (by rw [HRD2.out, HLA2.out, HMEQ.out]; simp only [if_pos hbig])
          obtain ⟨sk2, hsk2⟩ : ∃ sk2, st.size + kk = sk2 := ⟨_, rfl⟩
          rw [hsk2] at wsz t7 c37 HB7
          clear hbig hsk2 HB7k
          go_wp2_with fail
          go_returns
          exact ⟨by rw [hend.out]; exact ⟨rfl, by decide⟩, HB7.out⟩
        · have t7 : decide ((2048 : Int) < ((st.size + kk : Nat) : Int)) = false := by simp; omega
          obtain ⟨i0, hi0, hz0, hz1, hz2⟩ := info_parts info_line
          have hlen := HSc.out.own
          obtain ⟨Av, cv, rfl, -, -, -⟩ := own_form hlen
          have HS7 : Hid (SrcAt w.heap.size (w6.setCell ⟨b, 3, none⟩ (.int .i64 ((st.size + kk : Nat) : Int))) b mp (.slice Av Ms.length cv) { st with labels := L, extra := ex.getD st.extra, size := st.size + kk } Ms ((g, (svs full).toArray) :: Gs)) := hide (HS6.out.cell_ (st' := { st with labels := L, extra := ex.getD st.extra, size := st.size + kk }) HB7k.out rfl rfl (by show st.size + kk ≤ 2048; omega) HS6.out.ex)
          have hnext : Hid (readA src0 0 LL = readA { lines := st.lines ++ [⟨i + 1, full.drop off⟩], labels := L, extra := ex.getD st.extra, size := st.size + kk } (i + 1) (LL.drop (i + 1))) := hide (by
            rw [HRS.out, HRD2.out, HLA2.out, HMEQ.out]
            simp only [if_neg hbig])
          have hgood : Hid (LnGood ⟨i + 1, g, off, full⟩) := hide ⟨HFL.out.1, HFL.out.2, _, HMEQ.out⟩
          have c0 := HB7k.out.cell 0
          have HMl := HGD.out.2
          have hms : Ms.length ≤ 1000000 := by omega
          obtain ⟨sk2, hsk2⟩ : ∃ sk2, st.size + kk = sk2 := ⟨_, rfl⟩
          rw [hsk2] at wsz t7 c37 HB7 HB7k HS7 hnext c0
          clear hbig hsk2 hlen HSc HS6 HBc HB6
          go_upto_region 23 with (fail)
          refine at_world (fun W => Below w.heap.size w W ∧ SrcAt w.heap.size W b mp (.slice Av Ms.length cv) { st with labels := L, extra := ex.getD st.extra, size := sk2 } Ms ((g, (svs full).toArray) :: Gs)) ⟨HB7.out, HS7.out⟩ (fun w9 hW9 => ?_)
          obtain ⟨hB9, hS9⟩ := hW9
          have c09 := hS9.blk.cell 0
          have cb9 := hS9.blt
          have hb9s := hB9.size
          have HS9 := hide hS9
          have HB9 := hide hB9
          clear hB9 hS9 c0 c3 f3 c37 wsz t7 HB7 HB7k HS7 cbl
          have hone : ∀ u ∈ ([.int .i64 ((i + 1 : Nat) : Int), .slice (some ⟨g, off, none⟩) nn nn] : List Value), u.oneCell' = true := by intro u hu; simp at hu; rcases hu with rfl | rfl <;> rfl
          go_upto_region 24 with (first | (at_builtin; refine wpList_append_one rfl (.tmp 107) (.tmp 112) 56 rfl w.heap.size 61 i0 (.agg #[.int .i64 0, .slice none 0 0]) 2 32 Tryd.underlying56 hi0 hz0 hz1 hz2 rfl (by decide) Av cv Ms.length (rowL Ms) [.int .i64 ((i + 1 : Nat) : Int), .slice (some ⟨g, off, none⟩) nn nn] w9 rfl HS9.out.own rfl rfl rfl hone hms (by decide) hb9s ?_; intro A' c' w10 hown hg10 hb10 hat10; have hbx := HS9.out.blk.grown hg10 (fun e => blk_not_own HS9.out.blk HS9.out.own (by decide) e.symm); have k0 := hbx.cell 0; have kf := hbx.frozen 0; have kl := hbx.lt) | fail)
          have hmc : LnM.cells ⟨i + 1, g, off, full⟩ = [.int .i64 ((i + 1 : Nat) : Int), .slice (some ⟨g, off, none⟩) nn nn] := by
            show [Value.int .i64 ((i + 1 : Nat) : Int), .slice (some ⟨g, off, none⟩) (full.drop off).length (full.drop off).length] = _
            rw [HLN.out]
          rw [← hmc] at hown
          have HS11 := hide (HS9.out.line (m := ⟨i + 1, g, off, full⟩) hown hg10 (List.mem_cons_self ..) hoff)
          have HB11 : Hid (Below w.heap.size w (w10.setCell ⟨b, 0, none⟩ (.slice A' (Ms.length + 1) c'))) := hide (Below.setCell (HB9.out.trans hb10) (p := ⟨b, 0, none⟩) HS9.out.bb _)
          have hgood2 : Hid ((∀ m ∈ Ms ++ [(⟨i + 1, g, off, full⟩ : LnM)], LnGood m) ∧ (Ms ++ [(⟨i + 1, g, off, full⟩ : LnM)]).length ≤ i + 1) := hide ⟨fun m hm => by
            rcases List.mem_append.1 hm with hm | hm
            · exact HGD.out.1 m hm
            · rw [List.mem_singleton] at hm; subst hm; exact hgood.out, by rw [List.length_append, List.length_singleton]; omega⟩
          clear hown hg10 hb10 hat10 hbx k0 kf kl hmc hone c09 cb9 hb9s
          go_wp2_with fail
          go_roundg (LL.length - (i + 1))
          case measure => have := HGH.out; omega
          case rel => exact ⟨i + 1, { lines := st.lines ++ [⟨i + 1, full.drop off⟩], labels := L, extra := ex.getD st.extra, size := sk2 }, _, Ms ++ [⟨i + 1, g, off, full⟩], _, by omega, rfl, by go_num, HB11, HS11, HGL2, hnext, hgood2⟩
end Go.Proofs.YtmhlokehdjnldaaDoor

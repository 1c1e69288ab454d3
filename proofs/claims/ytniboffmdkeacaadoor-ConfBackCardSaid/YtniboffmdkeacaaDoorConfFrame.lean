/- Configurations: what each law's frame shares: the wrap that keeps the world's shape, a world in which the listed tables lie, a size that came in, opened. -/
import Derived.Test.YtniboffmdkeacaaDoorTie
import Derived.Test.YtniboffmdkeacaaDoorConfSz
import Derived.Test.YtniboffmdkeacaaDoorConfReg
import Derived.Test.YtniboffmdkeacaaDoorShelf2
import Derived.LaidMore
import Derived.LaidLaws
import Derived.LaidOnce
import Derived.ProofKit
import Derived.OpenShut
import Derived.Deep.Slices
import Derived.Deep.Strs
import Derived.Handed
import Derived.Lib.SmallJoins
import Derived.Lib.LaidTab
import Derived.Lib.Space
import Derived.Test.YtniboffmdkeacaaDoorConfArgs
namespace Go.Proofs.YtniboffmdkeacaaDoor
open Go.RowKit Go.ChangeShapes Go.WideShapes Go.ChangeAt Go.Joins Go.Deep
set_option linter.unusedSimpArgs false
set_option linter.unusedVariables false

theorem and_shaped {H : Type} {enc : TypeId × Value → H} {a : Assume} {C : Checked} {os : Os} {f : FuncId} {fn : Func} {s : ChangeSpec} {conds : List PathCond} {apart fresh handsOn again : Bool} {X : World → Array Value → Prop}
    (hX : ∀ (w w' : World) (args : Array Value), w.heap = w'.heap → X w args → X w' args)
    (own : ownKnob C.prog.godebug = none) (started : os.Started) (noInit : C.prog.inits.idxOf? f = none) (hfn : C.prog.funcs[f]? = some fn)
    (witness : ∃ (w : World) (tape : Tape) (i : Input), w.os = os ∧ (w.forCall tape i).Shaped C.prog ∧ i.vars = [] ∧ Input.okWide C.prog (w.forCall tape i) .any w.heap.size f i ∧
      ((s.pre enc C.prog fn conds apart (w.forCall tape i).memory i.args ∧ X (w.forCall tape i).memory i.args) ∧ sizedMet enc C.prog fn (OpenSpec.ofChange s) apart (w.forCall tape i).memory i.args) ∧ a.holds C.prog (lone (Frame.enter C.prog f i.args .normal) [] (w.forCall tape i)))
    (contract : ∀ (W : World) (base : Nat) (args : Array Value) (ds gs : List (DataW H)) (before : List MemPlace),
      (∀ (j : Nat) t v, fn.params[j]? = some t → args[j]? = some v → Value.okWide C.prog W .any base t v) →
      DataW.Whole enc C.prog fn.params.toList s.vars apart W args.toList ds gs before →
      X W args → W.ShapedOpen C.prog →
      Calls C.prog f args W fun e W' => ∃ v, e = .returned v ∧ s.post enc C.prog fn apart fresh handsOn again W args v W') :
    ReturnsInHanded a C os f .any (fun w args => (s.pre enc C.prog fn conds apart w args ∧ X w args) ∧ sizedMet enc C.prog fn (OpenSpec.ofChange s) apart w args) (s.post enc C.prog fn apart fresh handsOn again) := by
  refine returnsInHanded_of_calls own started noInit witness ?_
  intro w tape i _ hsh _ hok hpre _
  obtain ⟨_, _, _, fn', hfn', _, _, _, _, hval⟩ := hok
  have e : fn' = fn := Option.some.inj (hfn'.symm.trans hfn)
  subst e
  obtain ⟨⟨⟨ds, gs, before, hw, _⟩, hx⟩, _⟩ := hpre
  have hw' := DataW.Whole.of_heap (w' := w.forCall tape i) (by rfl) hw
  refine (contract (w.forCall tape i) w.heap.size i.args ds gs before hval hw' (hX _ _ _ (by rfl) hx) hsh).mono fun e W' ⟨v, he, hp⟩ => ?_
  subst he
  exact ChangeSpec.post_blind hp
theorem own : ownKnob Tryd.prog.godebug = none := by kernel_rfl
theorem laidOut : laidOutB Tryd.prog = true := by kernel_rfl

def cellOf : DataW Unit → Value
  | .lit (.int k n) => .int k n
  | _ => .nilIface
noncomputable def tab : Array Value := (match Go.Pinned.utf8First with | .agg l => l.map cellOf | _ => []).toArray
/-- A world in which the listed tables lie: what the door's own run leaves, and the pinned table. -/
noncomputable def laidWorld (os : Os) : World :=
  let w0 := World.doorLaid Tryd.prog 400 os
  { w0 with heap := w0.heap.modify 4 fun
      | .cells _ t frozen => .cells tab t frozen
      | o => o }
def laid4 : List (String × DataW Unit) := [("unicode/utf8.acceptRanges", Rows.laid_unicode_utf8_acceptRanges), ("unicode.White_Space", Rows.laid_unicode_White_Space), ("strings.asciiSpace", Rows.laid_strings_asciiSpace), ("unicode/utf8.first", Rows.laid_unicode_utf8_first)]
theorem laidMet_of_bits {P : Program} {w : World} {l : List (String × DataW Unit)} (fuel M : Nat) (h : (DataW.laidRun P w fuel (l.map (·.1))).map (·.1) = some l)
    (hr : (DataW.laidRun P w fuel (l.map (·.1))).map (fun x => nodupBits M x.2 0 && laidRowsB P w x.2) = some true) : laidMet P l w := by
  cases hx : DataW.laidRun P w fuel (l.map (·.1)) with
  | none => simp [hx] at h
  | some x =>
    obtain ⟨l', ps⟩ := x
    simp only [hx, Option.map_some, Option.some.injEq] at h hr
    subst h
    simp only [Bool.and_eq_true] at hr
    exact laidMet_of_run (ps := ps) fuel hx (decide_eq_true (nodupBits_sound hr.1).1) hr.2
set_option maxRecDepth 100000 in
theorem door_met (os : Os) (args : Array Value) : laidMetH Tryd.prog laid4 ((laidWorld os).forCall (fun _ _ => 0) ⟨#[], args, []⟩).memory :=
  laidMetH_of_parts3 (fuel := 8) (laidMet_of_bits 8 4096 (by kernel_rfl) (by kernel_rfl)) (by kernel_rfl) (by kernel_rfl)
set_option maxRecDepth 100000 in
theorem asciiSpace_data : (Rows.laid_strings_asciiSpace : DataW Unit) = Lib.tabData .u8 Lib.asciiSpaceTab := by kernel_rfl
theorem lw_of {W : World} (h : W.ShapedOpen Tryd.prog) (hl : laidMetH Tryd.prog laid4 W) : Lw W := by
  refine ⟨Tryd.laysM145.s1_3 W h, ?_⟩
  have hf : (laid4.filter fun x => x.2.handleName?.isSome) = [] := by kernel_rfl
  unfold laidMetH at hl
  rw [hf] at hl
  obtain ⟨ps, ⟨g0, t0, cs0, f0, p0, q0, _, _, _, _, ⟨g1, t1, cs1, f1, p1, q1, _, _, _, _, ⟨g2, t2, cs2, f2, p2, q2, hg2, ht2, hv2, hd2, _, _⟩, _⟩, _⟩, _⟩ := hl
  obtain rfl := Option.some.inj (asciiSpace_is.symm.trans hg2)
  rw [asciiSpace_data] at hd2
  unfold Lib.TabIs
  have hty : (Tryd.prog.globals[0]?).map (·.type) = some 138 := by kernel_rfl
  obtain rfl := Option.some.inj (hty.symm.trans ht2)
  rw [hv2, ← Lib.cells_of_tab Tryd.underlying138 Tryd.underlying5 (by kernel_rfl) (by kernel_rfl) hd2]

section
variable {H : Type} {enc : TypeId × Value → H} {P : Program} {w : World} {base : Nat} {held : Bool} {t e : TypeId} {v : Value} {r : Reach} {b0 : Nat} {d : DataW H} {ps : List MemPlace}
theorem slice_max {A : Option Addr} {n c fuel : Nat} {y : DataW H × List MemPlace} (ht : P.underlying t = some (.slice e)) (hf : DataW.trod enc P w base (fun _ => true) held fuel t [.slice A n c] = some y) : n ≤ 9223372036854775807 := by
  rcases open_slice ht hf with ⟨hcs, _⟩ | ⟨a, len, cap, m, n', D, Pl, hcs, _, hl, hm, _⟩
  · obtain ⟨_, rfl, _⟩ : A = none ∧ n = 0 ∧ c = 0 := by simpa using hcs
    exact Nat.zero_le _
  · obtain ⟨_, rfl, _⟩ : A = some a ∧ n = len ∧ c = cap := by simpa using hcs
    unfold maxLen at hm
    omega
theorem bvs_of {M : List Value} (h : ∀ x ∈ M, ∃ b : UInt8, x = bv b) : ∃ H, M = bvs H := by
  induction M with
  | nil => exact ⟨[], rfl⟩
  | cons x rest ih =>
    obtain ⟨b, hb⟩ := h x (by simp)
    obtain ⟨H, hH⟩ := ih fun y hy => h y (by simp [hy])
    exact ⟨b :: H, by rw [hb, hH]; rfl⟩
theorem drop_take_one {M : List Value} {i : Nat} {x : Value} (h : (M.drop i).take 1 = [x]) : M[i]? = some x := by
  have := congrArg (·[0]?) h
  simpa [List.getElem?_take, List.getElem?_drop] using this
/-- five times five bytes -/
theorem open_five {fuel : Nat} {M : List Value} {y : DataW H × List MemPlace} {b : TypeId} (ht : P.underlying t = some (.array 5 e)) (he : P.underlying e = some (.array 5 b)) (hb : P.underlying b = some (.int .u8)) (hce : P.cellsOf e = 5) (hcb : P.cellsOf b = 1) (hct : P.cellsOf t = 25)
    (h : DataW.trod enc P w base (fun _ => true) held fuel t M = some y) : ∃ H, M = bvs H ∧ H.length = 25 := by
  obtain ⟨xs, m, _, _, hl, hxs, hx⟩ := DataW.trod_array ht h
  rw [hct] at hl
  have hall : ∀ x ∈ M, ∃ b : UInt8, x = bv b := by
    intro x hm
    obtain ⟨p, hp, rfl⟩ := List.mem_iff_getElem.1 hm
    have hi : p / 5 < 5 := by omega
    have h1 := hx (p / 5) hi
    rw [hce, List.getElem?_eq_getElem (by omega)] at h1
    obtain ⟨ys, m2, _, _, hl2, hys, hy⟩ := DataW.trod_array he h1
    have h2 := hy (p % 5) (Nat.mod_lt _ (by omega))
    rw [hcb, List.getElem?_eq_getElem (by have := Nat.mod_lt p (show 0 < 5 by omega); omega)] at h2
    obtain ⟨n, hn, _, hw⟩ := DataW.trod_int hb h2
    obtain ⟨k, rfl, hk⟩ := awf_u8 hw
    have h3 := drop_take_one hn
    rw [Nat.mul_one, List.getElem?_take, if_pos (Nat.mod_lt _ (by omega)), List.getElem?_drop] at h3
    have e5 : p / 5 * 5 + p % 5 = p := by omega
    rw [e5, List.getElem?_eq_getElem hp] at h3
    injection h3 with h3
    exact ⟨UInt8.ofNat k, by rw [h3, bv_ofNat hk]⟩
  obtain ⟨H, rfl⟩ := bvs_of hall
  exact ⟨H, rfl, by rw [bvs_length] at hl; exact hl⟩

/-- a size -/
theorem open_size {f0 f1 f2 : Field} {a5 b b2 : TypeId} (hs : P.underlying t = some (.struct #[f0, f1, f2])) (ho0 : f0.offset = 0) (ho1 : f1.offset = 1) (ho2 : f2.offset = 26) (hc0 : P.cellsOf f0.type = 1) (hc1 : P.cellsOf f1.type = 25) (hc2 : P.cellsOf f2.type = 1) (hC : P.cellsOf t = 27)
    (t0 : P.underlying f0.type = some (.int .u8)) (t1 : P.underlying f1.type = some (.array 5 a5)) (t1a : P.underlying a5 = some (.array 5 b)) (t1b : P.underlying b = some (.int .u8)) (hca : P.cellsOf a5 = 5) (hcb : P.cellsOf b = 1)
    (t2 : P.underlying f2.type = some (.slice b2)) (t2b : P.underlying b2 = some (.int .u8)) (hcb2 : P.cellsOf b2 = 1)
    (hval : Value.okWide P w r b0 t v) (h : DataW.Trod enc P w base (fun _ => true) held t v d ps) :
    ∃ (m : UInt8) (H : List UInt8) (A : Option Addr) (n c : Nat) (T : List UInt8), v = .agg (szCells m H A n c) ∧ H.length = 25 ∧ Rd w w.heap.size 1 A n (bvs T) ∧ n ≤ 9223372036854775807 := by
  obtain ⟨cs, rfl, hsz⟩ := okWide_struct hs hval
  obtain ⟨fuel, hf⟩ := h
  obtain ⟨y0, y1, y2, k, _, hl, h0, h1, h2⟩ := trod_struct3 hs hf
  obtain ⟨l⟩ := cs
  simp only [Value.cells] at hl h0 h1 h2
  rw [hC] at hl
  rw [ho0, hc0] at h0
  rw [ho1, hc1] at h1
  rw [ho2, hc2] at h2
  obtain ⟨n0, e0, _, hw0⟩ := DataW.trod_int t0 h0
  obtain ⟨k0, rfl, hk0⟩ := awf_u8 hw0
  obtain ⟨H, e1, hH⟩ := open_five t1 t1a t1b hca hcb hc1 h1
  obtain ⟨z, hz⟩ : ∃ z, (l.drop 26).take 1 = [z] := by
    have hl2 : l.length = 27 := by simpa using hl
    exact ⟨l[26], by rw [List.drop_eq_getElem_cons (by omega)]; rfl⟩
  have h2' : DataW.trod enc P w base (fun _ => true) held k f2.type [z] = some y2 := by
    have : (List.take 1 (List.drop 26 l)) = [z] := hz
    simpa [this] using h2
  obtain ⟨A, n, c, T, rfl, hr, hnc⟩ := open_bytes_cell t2 t2b hcb2 h2'
  refine ⟨UInt8.ofNat k0, H, A, n, c, T, ?_, hH, hr, slice_max t2 h2'⟩
  congr 1
  unfold szCells
  have hl2 : l.length = 27 := by simpa using hl
  have e0' : l.take 1 = [.int .u8 (k0 : Int)] := by simpa using e0
  have e1' : (l.drop 1).take 25 = bvs H := by simpa using e1
  have e3 : l = l.take 1 ++ ((l.drop 1).take 25 ++ (l.drop 26).take 1) := by
    have a1 : l = l.take 1 ++ l.drop 1 := (List.take_append_drop 1 l).symm
    have a2 : l.drop 1 = (l.drop 1).take 25 ++ (l.drop 1).drop 25 := (List.take_append_drop 25 _).symm
    have a3 : (l.drop 1).drop 25 = (l.drop 26).take 1 := by rw [List.drop_drop, List.take_of_length_le (by simp; omega)]
    rw [← a3, ← a2, ← a1]
  rw [e3, e0', e1', hz]
  have hb := bv_ofNat hk0
  simp only [bv] at hb
  rw [hb]
  rfl
theorem open_u64 (ht : P.underlying t = some (.int .u64)) (hval : Value.okWide P w r b0 t v) (h : DataW.Trod enc P w base (fun _ => true) held t v d ps) : ∃ k : Nat, v = .int .u64 (k : Int) ∧ k < 18446744073709551616 := by
  obtain ⟨n, rfl, _, _, hw⟩ := open_int ht hval h
  have hb : 0 ≤ n ∧ n ≤ 18446744073709551615 := by
    simp [Lit.wf, IntKind.min, IntKind.max, IntKind.signed, IntKind.bits] at hw
    omega
  obtain ⟨k, rfl⟩ := Int.eq_ofNat_of_zero_le hb.1
  exact ⟨k, rfl, by omega⟩
end
end Go.Proofs.YtniboffmdkeacaaDoor

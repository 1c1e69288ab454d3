/- Paths: what each law's frame shares: the wrap that keeps the world's shape, a world in which the listed tables lie, a path that came in, opened. -/
import Derived.Test.YtkjgieehiimiiaaDoorTie
import Derived.Test.YtkjgieehiimiiaaDoorPathJoin
import Derived.LaidMore
import Derived.LaidLaws
import Derived.ProofKit
import Derived.OpenShut
import Derived.Deep.Slices
import Derived.Handed
import Derived.Lib.SmallJoins
import Derived.Test.YtkjgieehiimiiaaDoorArgs
namespace Go.Proofs.YtkjgieehiimiiaaDoor
open Go.RowKit Go.ChangeShapes Go.WideShapes Go.ChangeAt Go.Joins Go.Deep

theorem and_shaped {H : Type} {enc : TypeId × Value → H} {a : Assume} {C : Checked} {os : Os} {f : FuncId} {fn : Func} {s : ChangeSpec} {conds : List PathCond} {apart fresh handsOn again : Bool} {X : World → Array Value → Prop}
    (hX : ∀ (w w' : World) (args : Array Value), w.heap = w'.heap → X w args → X w' args)
    (own : ownKnob C.prog.godebug = none) (started : os.Started) (noInit : C.prog.inits.idxOf? f = none) (hfn : C.prog.funcs[f]? = some fn)
    (witness : ∃ (w : World) (tape : Tape) (i : Input), w.os = os ∧ (w.forCall tape i).Shaped C.prog ∧ i.vars = [] ∧ Input.okWide C.prog (w.forCall tape i) .any w.heap.size f i ∧
      ((s.pre enc C.prog fn conds apart (w.forCall tape i).memory i.args ∧ X (w.forCall tape i).memory i.args) ∧ sizedMet enc C.prog fn (OpenSpec.ofChange s) apart (w.forCall tape i).memory i.args) ∧ a.holds C.prog (lone (Frame.enter C.prog f i.args .normal) [] (w.forCall tape i)))
    (contract : ∀ (W : World) (base : Nat) (args : Array Value) (ds gs : List (DataW H)) (before : List MemPlace),
      (∀ (j : Nat) t v, fn.params[j]? = some t → args[j]? = some v → Value.okWide C.prog W .any base t v) →
      DataW.Whole enc C.prog fn.params.toList s.vars apart W args.toList ds gs before →
      X W args → W.ShapedOpen C.prog →
      Calls C.prog f args W fun e W' => ∃ v, e = .returned v ∧ s.post enc C.prog fn apart fresh handsOn again W args v W') :
    ReturnsInHanded a C os f .any (fun w args => (s.pre enc C.prog fn conds apart w args ∧ X w args) ∧ sizedMet enc C.prog fn (OpenSpec.ofChange s) apart w args) (s.post enc C.prog fn apart fresh handsOn again) := by
  refine returnsInHanded_of_calls own started noInit witness ?_
  intro w tape i _ hsh _ hok hpre _
  obtain ⟨_, _, _, fn', hfn', _, _, _, _, hval⟩ := hok
  have e : fn' = fn := Option.some.inj (hfn'.symm.trans hfn)
  subst e
  obtain ⟨⟨⟨ds, gs, before, hw, _⟩, hx⟩, _⟩ := hpre
  have hw' := DataW.Whole.of_heap (w' := w.forCall tape i) (by rfl) hw
  refine (contract (w.forCall tape i) w.heap.size i.args ds gs before hval hw' (hX _ _ _ (by rfl) hx) hsh).mono fun e W' ⟨v, he, hp⟩ => ?_
  subst he
  exact ChangeSpec.post_blind hp

theorem own : ownKnob Tryd.prog.godebug = none := by kernel_rfl
theorem laidOut : laidOutB Tryd.prog = true := by kernel_rfl

def cellOf : DataW Unit → Value
  | .lit (.int k n) => .int k n
  | _ => .nilIface
noncomputable def tab : Array Value := (match Go.Pinned.utf8First with | .agg l => l.map cellOf | _ => []).toArray
/-- A world in which the listed tables lie: what the door's own run leaves, and the pinned table. -/
noncomputable def laidWorld (os : Os) : World :=
  let w0 := World.doorLaid Tryd.prog 400 os
  { w0 with heap := w0.heap.modify 1 fun
      | .cells _ t frozen => .cells tab t frozen
      | o => o }
def laid2 : List (String × DataW Unit) := [("unicode/utf8.acceptRanges", Rows.laid_unicode_utf8_acceptRanges), ("unicode/utf8.first", Rows.laid_unicode_utf8_first)]
set_option maxRecDepth 100000 in
theorem door_met (os : Os) (args : Array Value) : laidMetH Tryd.prog laid2 ((laidWorld os).forCall (fun _ _ => 0) ⟨#[], args, []⟩).memory :=
  laidMetH_of_parts3 (fuel := 8) (laidMet_of_run' 8 (by kernel_rfl) (by kernel_rfl)) (by kernel_rfl) (by kernel_rfl)
theorem mx_of {W : World} (h : W.ShapedOpen Tryd.prog) : Mx W := Tryd.laysM145.s1_3 W h

section
variable {H : Type} {enc : TypeId × Value → H} {P : Program} {w : World} {base : Nat} {held : Bool} {t e : TypeId} {v : Value} {r : Reach} {b0 : Nat} {d : DataW H} {ps : List MemPlace}

theorem open_part {f0 f1 : Field} {fuel : Nat} {cs : List Value} {y : DataW H × List MemPlace} (hs : P.underlying t = some (.struct #[f0, f1])) (ho0 : f0.offset = 0) (ho1 : f1.offset = 1) (hc0 : P.cellsOf f0.type = 1) (hc1 : P.cellsOf f1.type = 1) (hC : P.cellsOf t = 2)
    (t0 : P.underlying f0.type = some .string) (t1 : P.underlying f1.type = some .string)
    (h : DataW.trod enc P w base (fun _ => true) held fuel t cs = some y) : ∃ q : BL × BL, cs = [.string ⟨q.1.toArray⟩, .string ⟨q.2.toArray⟩] := by
  obtain ⟨y0, y1, n, _, hl, h0, h1⟩ := trod_struct2 hs h
  rw [hC] at hl
  match cs, hl with
  | [c0, c1], _ =>
    rw [ho0, hc0] at h0
    rw [ho1, hc1] at h1
    have h0' : DataW.trod enc P w base (fun _ => true) held n f0.type [c0] = some y0 := by simpa using h0
    have h1' : DataW.trod enc P w base (fun _ => true) held n f1.type [c1] = some y1 := by simpa using h1
    obtain ⟨s0, hs0, _⟩ := DataW.trod_string t0 h0'
    obtain ⟨s1, hs1, _⟩ := DataW.trod_string t1 h1'
    refine ⟨(s0.data.toList, s1.data.toList), ?_⟩
    rw [Lib.mk_data, Lib.mk_data]
    simp at hs0 hs1
    rw [hs0, hs1]

theorem open_parts {f0 f1 : Field} {fuel : Nat} {y : DataW H × List MemPlace} (ht : P.underlying t = some (.slice e)) (hs : P.underlying e = some (.struct #[f0, f1])) (ho0 : f0.offset = 0) (ho1 : f1.offset = 1) (hc0 : P.cellsOf f0.type = 1) (hc1 : P.cellsOf f1.type = 1) (hC : P.cellsOf e = 2)
    (t0 : P.underlying f0.type = some .string) (t1 : P.underlying f1.type = some .string)
    (h : DataW.trod enc P w base (fun _ => true) held fuel t [v] = some y) : ∃ A n c xs, v = .slice A n c ∧ Rd w w.heap.size 2 A n (flat xs) ∧ n ≤ c := by
  rcases open_slice ht h with ⟨hcs, _⟩ | ⟨a, len, cap, m, n', D, Pl, hcs, _, hl, _, hm, _, hx⟩
  · exact ⟨none, 0, 0, [], by simpa using hcs, Rd.nil _ _ _ _, Nat.le_refl _⟩
  · simp only [if_true] at hm
    subst hm
    rw [hC] at hx
    obtain ⟨f, hf⟩ := choose_lt (α := BL × BL) (n := len) (p := fun i q => w.cell? (a.add (i * 2)) = some (.string ⟨q.1.toArray⟩) ∧ w.cell? ((a.add (i * 2)).add 1) = some (.string ⟨q.2.toArray⟩)) (fun i hi => by
      obtain ⟨cs, h1, h2⟩ := hx i (by omega)
      obtain ⟨q, rfl⟩ := open_part hs ho0 ho1 hc0 hc1 hC t0 t1 h2
      obtain ⟨_, _, h3⟩ := World.cells?_some h1
      exact ⟨q, by have := h3 0 (by omega); simpa [Addr.add] using this, by have := h3 1 (by omega); simpa using this⟩)
    refine ⟨some a, len, _, (List.range len).map f, by simpa using hcs, ⟨by rw [flat_length]; simp, fun hn => ?_⟩, hl⟩
    have hspot : a.spot = none := by simpa [Addr.add] using World.cell?_spot (hf 0 hn).1
    obtain ⟨b, o, spot⟩ := a
    simp only at hspot
    subst hspot
    have hb : b < w.heap.size := by
      have := World.block_lt_of_cell? w _ (hf 0 hn).1
      simpa [Addr.add] using this
    have hadd : ∀ i, (⟨b, o, none⟩ : Addr).add i = ⟨b, o + i, none⟩ := fun i => by unfold Addr.add; split <;> simp_all
    have hadd2 : ∀ o i, (⟨b, o, none⟩ : Addr).add i = ⟨b, o + i, none⟩ := fun o i => by unfold Addr.add; split <;> simp_all
    refine ⟨b, o, rfl, hb, fun j u hu => ?_⟩
    have hj : j < len * 2 := by
      rcases Nat.lt_or_ge j (len * 2) with h | h
      · exact h
      · rw [List.getElem?_eq_none (by rw [flat_length]; simpa using h)] at hu; cases hu
    have hq : ((List.range len).map f)[j / 2]? = some (f (j / 2)) := by simp [show j / 2 < len by omega]
    obtain ⟨g1, g2⟩ := flat_get hq
    obtain ⟨c1, c2⟩ := hf (j / 2) (by omega)
    rw [hadd] at c1 c2
    rw [hadd2] at c2
    rcases Nat.mod_two_eq_zero_or_one j with h0 | h0
    · have e : j = j / 2 * 2 := by omega
      rw [← e] at g1 c1
      rw [c1, ← hu, g1]
    · have e : j = j / 2 * 2 + 1 := by omega
      rw [← e] at g2
      rw [Nat.add_assoc, ← e] at c2
      rw [c2, ← hu, g2]

/-- a struct of a bool and a slice of parts -/
theorem open_path {p0 p1 f0 f1 : Field} (hp : P.underlying t = some (.struct #[p0, p1])) (hq0 : p0.offset = 0) (hq1 : p1.offset = 1) (hd0 : P.cellsOf p0.type = 1) (hd1 : P.cellsOf p1.type = 1) (hD : P.cellsOf t = 2) (hb : P.underlying p0.type = some .bool)
    (ht : P.underlying p1.type = some (.slice e)) (hs : P.underlying e = some (.struct #[f0, f1])) (ho0 : f0.offset = 0) (ho1 : f1.offset = 1) (hc0 : P.cellsOf f0.type = 1) (hc1 : P.cellsOf f1.type = 1) (hC : P.cellsOf e = 2)
    (t0 : P.underlying f0.type = some .string) (t1 : P.underlying f1.type = some .string)
    (hval : Value.okWide P w r b0 t v) (h : DataW.Trod enc P w base (fun _ => true) held t v d ps) :
    ∃ a A n c xs, v = .agg #[.bool a, .slice A n c] ∧ Rd w w.heap.size 2 A n (flat xs) ∧ n ≤ c := by
  obtain ⟨cs, rfl, hsz⟩ := okWide_struct hp hval
  obtain ⟨fuel, hf⟩ := h
  obtain ⟨y0, y1, n, _, hl, h0, h1⟩ := trod_struct2 hp hf
  obtain ⟨l⟩ := cs
  simp only [Value.cells] at hl h0 h1
  rw [hD] at hl
  match l, hl with
  | [c0, c1], _ =>
    rw [hq0, hd0] at h0
    rw [hq1, hd1] at h1
    have h0' : DataW.trod enc P w base (fun _ => true) held n p0.type [c0] = some y0 := by simpa using h0
    have h1' : DataW.trod enc P w base (fun _ => true) held n p1.type [c1] = some y1 := by simpa using h1
    obtain ⟨a, ha, _⟩ := DataW.trod_bool hb h0'
    obtain ⟨A, n, c, xs, hv, hr, hnc⟩ := open_parts ht hs ho0 ho1 hc0 hc1 hC t0 t1 h1'
    refine ⟨a, A, n, c, xs, ?_, hr, hnc⟩
    simp at ha
    rw [ha, hv]

/-- a slice that came in is no longer than a slice may be -/
theorem bytes_max {A : Option Addr} {n c : Nat} (ht : P.underlying t = some (.slice e)) (h : DataW.Trod enc P w base (fun _ => true) held t (.slice A n c) d ps) : n ≤ 9223372036854775807 := by
  obtain ⟨fuel, hf⟩ := h
  rcases open_slice ht (by simpa [Value.cells] using hf) with ⟨hcs, _⟩ | ⟨a, len, cap, m, n', D, Pl, hcs, _, hl, hm, _⟩
  · obtain ⟨_, rfl, _⟩ : A = none ∧ n = 0 ∧ c = 0 := by simpa using hcs
    exact Nat.zero_le _
  · obtain ⟨_, rfl, _⟩ : A = some a ∧ n = len ∧ c = cap := by simpa using hcs
    unfold maxLen at hm
    omega
end
end Go.Proofs.YtkjgieehiimiiaaDoor

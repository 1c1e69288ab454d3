/- ConfMakes: any labels and marks, and right ones with something turned: New answers as the document says, and what it makes is what they say: for every input the law returns true, and its arguments read as they did (the library's four listed tables lie as the card ties them). -/
import Derived.Test.YtniboffmdkeacaaDoorConfFrame
import Derived.SevenTiedAt
import Derived.Test.YtniboffmdkeacaaDoorCards
import Derived.Test.YtniboffmdkeacaaDoorConfMakes
import Derived.Test.YtniboffmdkeacaaDoorConfOpen
namespace Go.Proofs.YtniboffmdkeacaaDoor.lawConfMakes
open Go.ChangeShapes Go.WideShapes Go.ChangeAt Go.RowKit Go.Joins
set_option linter.unusedVariables false

set_option maxRecDepth 100000 in
theorem lifted (os : Os) (started : os.Started) (H0 : Type) (enc : TypeId × Value → H0) :
    ReturnsInHanded {} Tryd.checked os 4 .any (fun w args => (Rows.confMakesSpec.pre enc Tryd.prog Tryd.f4 [] false w args ∧ laidMetH Tryd.prog laid4 w) ∧ sizedMet enc Tryd.prog Tryd.f4 (OpenSpec.ofChange Rows.confMakesSpec) false w args)
      (Rows.confMakesSpec.post enc Tryd.prog Tryd.f4 false true false false) := by
  refine and_shaped (C := Tryd.checked) (X := fun w _ => laidMetH Tryd.prog laid4 w) (fun _ _ _ hh h => h.of_heap hh) own started (by kernel_rfl) Tryd.func4
    (ChangeSpec.witness_shaped (enc := enc) (C := Tryd.checked) (os := os) (X := fun w _ => laidMetH Tryd.prog laid4 w) false (laidWorld os) #[.slice none 0 0, .slice none 0 0, .agg #[.int .u8 0, .int .u8 0, .int .u8 0, .int .u8 0, .int .u8 0, .int .u8 0, .int .u8 0, .int .u8 0, .int .u8 0, .int .u8 0, .int .u8 0, .int .u8 0, .int .u8 0, .int .u8 0, .int .u8 0, .int .u8 0, .int .u8 0, .int .u8 0, .int .u8 0, .int .u8 0, .int .u8 0, .int .u8 0, .int .u8 0, .int .u8 0, .int .u8 0, .int .u8 0, .slice none 0 0], .int .u8 0, .int .u8 0, .int .i64 0] 8 rfl (World.shaped_of_RefB (by kernel_rfl) (by kernel_rfl)) (by kernel_rfl) (by kernel_rfl) (by kernel_rfl) (door_met os _)) ?_
  intro W base args ds gs before hval0 hW hL hsh
  have hval : ∀ (j : Nat) t v, Tryd.f4.params[j]? = some t → args[j]? = some v → Value.okWide Tryd.prog W .any base t v := hval0
  have hm := lw_of hsh hL
  clear hsh hL
  have hW' := hW
  obtain ⟨p, q, hA0, hV, rfl, hfz, hnd⟩ := hW
  have hA : DataW.TrodAll enc Tryd.prog W 0 (fun _ => true) true Tryd.f4.params.toList args.toList ds p := hA0
  rw [Tryd.params4] at hA hval
  obtain ⟨v0, vs0, d0, ds0, p0, q0, hargs, rfl, rfl, h0, r0⟩ := trodAll_cons hA
  obtain ⟨v1, vs1, d1, ds1, p1, q1, rfl, rfl, rfl, h1, r1⟩ := trodAll_cons r0
  obtain ⟨v2, vs2, d2, ds2, p2, q2, rfl, rfl, rfl, h2, r2⟩ := trodAll_cons r1
  obtain ⟨v3, vs3, d3, ds3, p3, q3, rfl, rfl, rfl, h3, r3⟩ := trodAll_cons r2
  obtain ⟨v4, vs4, d4, ds4, p4, q4, rfl, rfl, rfl, h4, r4⟩ := trodAll_cons r3
  obtain ⟨v5, vs5, d5, ds5, p5, q5, rfl, rfl, rfl, h5, r5⟩ := trodAll_cons r4
  obtain ⟨rfl, rfl, rfl⟩ := trodAll_nil r5
  obtain rfl : args = #[v0, v1, v2, v3, v4, v5] := by cases args; simp_all
  obtain ⟨rfl, rfl⟩ := trodVars_none hV
  have k0 := h0
  have lt0 : ∀ x ∈ p0, x.block < W.heap.size := by obtain ⟨m, hm⟩ := k0; exact DataW.trod_lt m _ _ _ hm
  have k1 := h1
  have lt1 : ∀ x ∈ p1, x.block < W.heap.size := by obtain ⟨m, hm⟩ := k1; exact DataW.trod_lt m _ _ _ hm
  have k2 := h2
  have lt2 : ∀ x ∈ p2, x.block < W.heap.size := by obtain ⟨m, hm⟩ := k2; exact DataW.trod_lt m _ _ _ hm
  have k3 := h3
  have lt3 : ∀ x ∈ p3, x.block < W.heap.size := by obtain ⟨m, hm⟩ := k3; exact DataW.trod_lt m _ _ _ hm
  have k4 := h4
  have lt4 : ∀ x ∈ p4, x.block < W.heap.size := by obtain ⟨m, hm⟩ := k4; exact DataW.trod_lt m _ _ _ hm
  have k5 := h5
  have lt5 : ∀ x ∈ p5, x.block < W.heap.size := by obtain ⟨m, hm⟩ := k5; exact DataW.trod_lt m _ _ _ hm
  obtain ⟨A0, n0, c0, R, rfl, hRl, hRc, hRm, hR⟩ := open_rows RegV.cells 9 (fun _ => rfl) (by decide) Tryd.underlying43 (by kernel_rfl) (fun m cs x hl h2 => open_reg_cells Tryd.underlying38 (by refine ⟨?_, ?_, ?_, ?_, ?_, ?_, ?_, ?_⟩ <;> kernel_rfl) Tryd.underlying9 Tryd.underlying36 (by kernel_rfl) Tryd.underlying5 Tryd.underlying34 Tryd.underlying3 Tryd.underlying3 Tryd.underlying3 Tryd.underlying3 Tryd.underlying3 Tryd.underlying3 m cs x hl h2) (hval 0 43 v0 rfl rfl) h0
  subst hRl
  unfold maxLen at hRm
  obtain ⟨A1, n1, c1, K, rfl, hKl, hKc, hKm, hK⟩ := open_rows markCells 2 (fun _ => rfl) (by decide) Tryd.underlying44 (by kernel_rfl) (fun m cs x hl h2 => open_mark_cells Tryd.underlying48 (by kernel_rfl) Tryd.underlying5 Tryd.underlying34 m cs x hl h2) (hval 1 44 v1 rfl rfl) h1
  subst hKl
  unfold maxLen at hKm
  obtain ⟨m, Hs, A, n, c, T, rfl, hH, hT, hnm⟩ := open_size Tryd.underlying26 (by rfl) (by rfl) (by rfl) (by kernel_rfl) (by kernel_rfl) (by kernel_rfl) (by kernel_rfl) Tryd.underlying5 Tryd.underlying23 Tryd.underlying22 Tryd.underlying5 (by kernel_rfl) (by kernel_rfl) Tryd.underlying24 Tryd.underlying5 (by kernel_rfl) (hval 2 26 v2 rfl rfl) h2
  obtain ⟨k3', rfl, hk3'⟩ := open_u8 Tryd.underlying5 (hval 3 5 v3 rfl rfl) h3
  obtain ⟨u3, rfl⟩ : ∃ u : UInt8, k3' = u.toNat := ⟨UInt8.ofNat k3', by simp; omega⟩
  obtain ⟨k4', rfl, hk4'⟩ := open_u8 Tryd.underlying5 (hval 4 5 v4 rfl rfl) h4
  obtain ⟨u4, rfl⟩ : ∃ u : UInt8, k4' = u.toNat := ⟨UInt8.ofNat k4', by simp; omega⟩
  obtain ⟨x, rfl, hx1, hx2⟩ := open_i64 Tryd.underlying3 (hval 5 3 v5 rfl rfl) h5
  clear hA0 hval0
  refine (makes_all hm hH hT hnm hR hK (by omega) (by omega) hRc hKc u3 u4 x hx1 hx2).mono fun e W' ⟨he, bel⟩ => ?_
  subst he
  exact ⟨_, rfl, _, _, _, [], _, [], hW', trodAll_mk1 (shut_bool Tryd.underlying4 _), (trodAll_cons_mk (Below.trod laidOut (by kernel_rfl) (of_decide_eq_true (by kernel_rfl)) k0 bel lt0) (trodAll_cons_mk (Below.trod laidOut (by kernel_rfl) (of_decide_eq_true (by kernel_rfl)) k1 bel lt1) (trodAll_cons_mk (Below.trod laidOut (by kernel_rfl) (of_decide_eq_true (by kernel_rfl)) k2 bel lt2) (trodAll_cons_mk (Below.trod laidOut (by kernel_rfl) (of_decide_eq_true (by kernel_rfl)) k3 bel lt3) (trodAll_cons_mk (Below.trod laidOut (by kernel_rfl) (of_decide_eq_true (by kernel_rfl)) k4 bel lt4) (trodAll_cons_mk (Below.trod laidOut (by kernel_rfl) (of_decide_eq_true (by kernel_rfl)) k5 bel lt5) trodAll_mk0)))))), rfl, bel.frame _, fun h => by cases h⟩

theorem over : Rows.ConfMakesSaid :=
  OpenClaim.holds_of_wide 4 Tryd.f4 rfl rfl rfl rfl rfl rfl rfl ⟨rfl, rfl, rfl, rfl, rfl⟩ rfl rfl rfl rfl rfl (by kernel_rfl) Tryd.func4 (by kernel_rfl)
    (of_decide_eq_true (by kernel_rfl)) (by unfold Func.isWrapper; first | (rw [if_pos (by decide +kernel)]; kernel_rfl) | (rw [if_neg (by decide +kernel)]; exact ⟨rfl, rfl⟩))
    (fun os started H0 enc _ => lifted os started H0 enc)

theorem proved : Rows.ConfMakesCardSaid :=
  Claim7.holds_tied_plain_at .later [] [.data, .listed, .data, .pinned] true (true, "bd8db02004503b9c3e2b44c12718accb4f831d2a591f7ee40753bf5e4b246d49") false
    over (fun _ h => by cases h) (by kernel_rfl) (fun _ h => by cases h) confMakes_row_tie rfl ⟨rfl, rfl⟩ (by kernel_rfl) rfl
    (fun f fn hf hfn => by
      obtain rfl : f = 4 := Option.some.inj ((show Tryd.prog.funcNamed "garrison/garrisonlaw02.ConfMakes" = some 4 by kernel_rfl).symm.trans hf) |>.symm
      obtain rfl : fn = Tryd.f4 := (Option.some.inj (Tryd.func4.symm.trans hfn)).symm
      exact ⟨by kernel_rfl, fun j t ht => by
        rw [Tryd.params4] at ht
        match j, ht with
        | 0, ht => obtain rfl := Option.some.inj (show some 43 = some t from ht); exact (show Tryd.prog.wantsStandIn 43 = false by kernel_rfl)
        | 1, ht => obtain rfl := Option.some.inj (show some 44 = some t from ht); exact (show Tryd.prog.wantsStandIn 44 = false by kernel_rfl)
        | 2, ht => obtain rfl := Option.some.inj (show some 26 = some t from ht); exact (show Tryd.prog.wantsStandIn 26 = false by kernel_rfl)
        | 3, ht => obtain rfl := Option.some.inj (show some 5 = some t from ht); exact (show Tryd.prog.wantsStandIn 5 = false by kernel_rfl)
        | 4, ht => obtain rfl := Option.some.inj (show some 5 = some t from ht); exact (show Tryd.prog.wantsStandIn 5 = false by kernel_rfl)
        | 5, ht => obtain rfl := Option.some.inj (show some 3 = some t from ht); exact (show Tryd.prog.wantsStandIn 3 = false by kernel_rfl)
        | j + 6, ht => simp at ht⟩)
    (by kernel_rfl)
#print axioms proved
end Go.Proofs.YtniboffmdkeacaaDoor.lawConfMakes

/- The document's answer: which labels and marks are right. -/
import Derived.Test.YtniboffmdkeacaaDoorConfRefN
import Derived.Test.YtniboffmdkeacaaDoorConfRefL
import Derived.Test.YtniboffmdkeacaaDoorConfNew
import Derived.Test.YtniboffmdkeacaaDoorConfSize
import Derived.Test.YtniboffmdkeacaaDoorSlim
namespace Go.Proofs.YtniboffmdkeacaaDoor
open Go.RowKit Go.WideMaps
set_option linter.unusedSimpArgs false
set_option linter.unusedVariables false

theorem right_false {r : RegV} {n : Int} (h : 15 < r.lev.toNat ∨ r.blocks < 4 ∨ 512 < r.blocks ∨ r.nodes < 4 ∨ 128 < r.nodes ∨ ¬ r.nodes % 2 = 0 ∨ r.frames < 1 ∨ 256 < r.frames ∨ r.procs < 1 ∨ 16 < r.procs ∨ r.opens < 1 ∨ 32 < r.opens ∨ r.clear < 0 ∨ n ≤ r.clear) : rightB r n = false := by
  rw [Bool.eq_false_iff]
  intro h2
  simp only [rightB, soundB, inB, Bool.and_eq_true, decide_eq_true_eq, UInt8.le_iff_toNat_le] at h2
  have : (15 : UInt8).toNat = 15 := rfl
  omega
theorem right_true {r : RegV} {n : Int} (h1 : ¬ 15 < r.lev.toNat) (h2 : ¬ r.blocks < 4) (h3 : ¬ 512 < r.blocks) (h4 : ¬ r.nodes < 4) (h5 : ¬ 128 < r.nodes) (h6 : ¬ ¬ r.nodes % 2 = 0) (h7 : ¬ r.frames < 1) (h8 : ¬ 256 < r.frames) (h9 : ¬ r.procs < 1) (h10 : ¬ 16 < r.procs) (h11 : ¬ r.opens < 1) (h12 : ¬ 32 < r.opens) (h13 : ¬ r.clear < 0) (h14 : ¬ n ≤ r.clear) : rightB r n = true := by
  simp only [rightB, soundB, inB, Bool.and_eq_true, decide_eq_true_eq, UInt8.le_iff_toNat_le]
  have : (15 : UInt8).toNat = 15 := rfl
  omega
theorem addE_word {old : List RegV} {r : RegV} {n : Int} (h : nameB r.name = false) : addE old r n = 30 := by unfold addE; rw [if_pos h]
theorem addE_range {old : List RegV} {r : RegV} {n : Int} (h1 : nameB r.name = true) (h : rightB r n = false) : addE old r n = 27 := by unfold addE; rw [if_neg (by simp [h1]), if_pos h]
theorem addE_tw {old : List RegV} {r : RegV} {n : Int} (h1 : nameB r.name = true) (h2 : rightB r n = true) (h : r.name ∈ old.map (·.name) ∨ (r.lev, r.cats) ∈ old.map (fun x => (x.lev, x.cats))) : addE old r n = 29 := by
  unfold addE
  rw [if_neg (by simp [h1]), if_neg (by simp [h2])]
  by_cases h3 : r.name ∈ old.map (·.name)
  · rw [if_pos h3]
  · rw [if_neg h3, if_pos (h.resolve_left h3)]

theorem none_step {R : List RegV} {r q : RegV} {j : Nat} (h : ∀ i, i < j → ∀ q, R[i]? = some q → q.name ≠ r.name ∧ (q.lev, q.cats) ≠ (r.lev, r.cats)) (hq : R[j]? = some q) (h1 : ¬ q.name = r.name) (h2 : (q.lev, q.cats) ≠ (r.lev, r.cats)) :
    ∀ i, i < j + 1 → ∀ q, R[i]? = some q → q.name ≠ r.name ∧ (q.lev, q.cats) ≠ (r.lev, r.cats) := fun i hi x hx => by
  rcases Nat.lt_succ_iff_lt_or_eq.1 hi with h' | rfl
  · exact h i h' x hx
  · rw [hq] at hx
    injection hx with hx
    subst hx
    exact ⟨h1, h2⟩
theorem nonem_step {K : List MarkV} {m x : MarkV} {j : Nat} (h : ∀ i, i < j → ∀ x, K[i]? = some x → x ≠ m) (hq : K[j]? = some x) (h1 : x ≠ m) : ∀ i, i < j + 1 → ∀ x, K[i]? = some x → x ≠ m := fun i hi y hy => by
  rcases Nat.lt_succ_iff_lt_or_eq.1 hi with h' | rfl
  · exact h i h' y hy
  · rw [hq] at hy
    injection hy with hy
    subst hy
    exact h1
theorem wraps8 (m : MarkV) : IntKind.i64.wrap (m.1.toNat : Int) = m.1.toNat ∧ IntKind.i64.wrap (m.2.toNat : Int) = m.2.toNat ∧ wrap64 (m.1.toNat : Int) = m.1.toNat ∧ wrap64 (m.2.toNat : Int) = m.2.toNat := by
  have hm1 := m.1.toNat_lt
  have hm2 := m.2.toNat_lt
  exact ⟨IntWalk.i64_in _ (by omega), IntWalk.i64_in _ (by omega), IntWalk.wrap64_in _ (by omega), IntWalk.wrap64_in _ (by omega)⟩
theorem mem_take {α : Type} {l : List α} {k : Nat} {x : α} (h : x ∈ l.take k) : ∃ i, i < k ∧ l[i]? = some x := by
  obtain ⟨i, hi, rfl⟩ := List.mem_iff_getElem.1 h
  have hl : i < k ∧ i < l.length := by simp at hi; omega
  exact ⟨i, hl.1, by simp⟩
theorem none_name {R : List RegV} {r : RegV} {j : Nat} (h : ∀ i, i < j → ∀ q, R[i]? = some q → q.name ≠ r.name ∧ (q.lev, q.cats) ≠ (r.lev, r.cats)) : r.name ∉ (R.take j).map (·.name) := fun hm => by
  obtain ⟨q, hq, e⟩ := List.mem_map.1 hm
  obtain ⟨i, hi, hx⟩ := mem_take hq
  exact (h i hi q hx).1 e
theorem none_lab {R : List RegV} {r : RegV} {j : Nat} (h : ∀ i, i < j → ∀ q, R[i]? = some q → q.name ≠ r.name ∧ (q.lev, q.cats) ≠ (r.lev, r.cats)) : (r.lev, r.cats) ∉ (R.take j).map (fun x => (x.lev, x.cats)) := fun hm => by
  obtain ⟨q, hq, e⟩ := List.mem_map.1 hm
  obtain ⟨i, hi, hx⟩ := mem_take hq
  exact (h i hi q hx).2 e
theorem adds_right : ∀ {rest old : List RegV} {n : Int}, addsE old rest n = 0 → ∀ r ∈ rest, rightB r n = true
  | [], _, _, _, _, h => by cases h
  | x :: rest, old, n, h, r, hr => by
    rw [addsE] at h
    by_cases h0 : addE old x n = 0
    · rw [if_pos h0] at h
      rcases List.mem_cons.1 hr with rfl | hr
      · unfold addE at h0
        split at h0
        · cases h0
        · split at h0
          · cases h0
          · rename_i h2
            simpa using h2
      · exact adds_right h r hr
    · rw [if_neg h0] at h
      exact absurd h h0

section
variable {R : List RegV} {K : List MarkV} {A A' : Option Addr} {cA cA' : Nat} {w : World}
set_option maxRecDepth 100000 in
set_option maxHeartbeats 4000000 in
theorem right_ok (hr : Rd w w.heap.size 9 A R.length (rcellsOf R)) (hm : Rd w w.heap.size 2 A' K.length (mcellsOf K)) (hn : R.length ≤ 60000) (hk : K.length ≤ 60000) :
    Calls Tryd.prog 16 #[.slice A R.length cA, .slice A' K.length cA'] w fun e w' => e = .returned (.int .i64 (newE R K)) ∧ Below w.heap.size w w' := by
  by_cases h0 : R.length < 1
  · have t1 : decide ((R.length : Int) < 1) = true := by simp; omega
    have e : newE R K = 23 := by rw [List.length_eq_zero_iff.1 (show R.length = 0 by omega)]; rfl
    have E := hide e
    clear e
    go_enter Tryd.func16, Tryd.ntmps16
    go_wp2
    go_returns
    exact ⟨by rw [E.out]; rfl, Below.refl _ _⟩
  have t1 : decide ((R.length : Int) < 1) = false := by simp; omega
  have hne : R ≠ [] := fun e => h0 (by rw [e]; simp)
  obtain ⟨r0, rest, hR⟩ := List.exists_cons_of_ne_nil hne
  clear hne
  by_cases h64 : 64 < R.length
  · have t2 : decide ((64 : Int) < R.length) = true := by simp; omega
    have e : newE R K = 23 := by rw [hR] at h64 ⊢; simp only [newE]; rw [if_pos h64]
    have E := hide e
    clear e hR
    go_enter Tryd.func16, Tryd.ntmps16
    go_wp2
    go_returns
    exact ⟨by rw [E.out]; rfl, Below.refl _ _⟩
  have t2 : decide ((64 : Int) < R.length) = false := by simp; omega
  have e : newE R K = if addsE [] R R.length ≠ 0 then addsE [] R R.length else if r0.lev ≠ 0 ∨ r0.cats ≠ 0 then 25 else if clearsE R 0 R ≠ 0 then clearsE R 0 R else marksE R [] K := by
    rw [hR] at h64 ⊢
    simp only [newE]
    rw [if_neg h64]
  have E := hide e
  have HR := hide hR
  have HR0 := hide hr
  have HM0 := hide hm
  clear e hR hr hm
  go_enter Tryd.func16, Tryd.ntmps16
  go_wp2_with fail
  go_loopg [5] R.length (fun g x5 wr => ∃ k : Nat, k ≤ R.length ∧ g = R.length - k ∧ x5 = .int .i64 (k : Int) ∧ Aside (Below w.heap.size w wr ∧ addsE [] R R.length = addsE (R.take k) (R.drop k) R.length))
  case atStart => exact ⟨0, Nat.zero_le _, rfl, rfl, Below.refl _ _, rfl⟩
  case round =>
    obtain ⟨k, hkl, hg, rfl, hA⟩ := hrel
    by_cases hkn : k < R.length
    · have hkz : (k : Int) < R.length := by omega
      obtain ⟨hbr, hadd⟩ := hA.out
      obtain ⟨r, hrk⟩ : ∃ r, R[k]? = some r := ⟨_, List.getElem?_eq_getElem hkn⟩
      obtain ⟨b, o, rfl, hb, hcl⟩ := rd_reg HR0.out hrk
      have y (j : Nat) (v : Value) (hv : r.cells[j]? = some v) : wr.cell? ⟨b, o + (k * 9 + j), none⟩ = some v := (hbr.cell (p := ⟨b, o + (k * 9 + j), none⟩) hb).trans (hcl j v hv)
      have y0 := y 0 _ rfl
      have y1 := y 1 _ rfl
      have y2 := y 2 _ rfl
      have y3 := y 3 _ rfl
      have y4 := y 4 _ rfl
      have y5 := y 5 _ rfl
      have y6 := y 6 _ rfl
      have y7 := y 7 _ rfl
      have y8 := y 8 _ rfl
      simp only [← Nat.add_assoc, Nat.add_zero] at y0 y1 y2 y3 y4 y5 y6 y7 y8
      have hbl := Nat.lt_of_lt_of_le hb hbr.size
      have e1 : R[k] = r := by have := hrk; rw [List.getElem?_eq_getElem hkn] at this; injection this
      have HADD := hide (show addsE [] R R.length = if addE (R.take k) r R.length = 0 then addsE (R.take (k + 1)) (R.drop (k + 1)) R.length else addE (R.take k) r R.length by
        rw [hadd, List.drop_eq_getElem_cons hkn, addsE, e1, List.take_add_one, hrk]; rfl)
      have HBR := hide hbr
      have HRK := hide hrk
      clear y hbr hrk hcl hadd hA hb e1
      go_wp2_with fail
      refine (name_ref ⟨r.name.toArray⟩ _).mono ?_
      rintro e w6 ⟨rfl, hb6⟩
      have hb6' : Below wr.heap.size wr w6 := Below.then_ ((Below.refl _ _).alloc (Nat.le_refl _) _) (by simp) hb6
      refine at_world (fun W => ∃ b6, b6 = wr.heap.size ∧ Below wr.heap.size wr W ∧ Blk W b6 38 #[.string ⟨r.name.toArray⟩, .int .u8 (r.lev.toNat : Int), .int .u16 (r.cats.toNat : Int), .int .i64 r.blocks, .int .i64 r.nodes, .int .i64 r.frames, .int .i64 r.procs, .int .i64 r.opens, .int .i64 r.clear]) ⟨_, rfl, hb6', (Blk.new wr _ _).below hb6 (Blk.new wr _ _).lt⟩ (fun w7 h7 => ?_)
      obtain ⟨b6, e6, hb7, k6⟩ := h7
      rw [← e6]
      have HB7 := hide (HBR.out.trans (hb7.mono HBR.out.size))
      have K6 := hide k6
      have z0 := k6.cell 0
      have z1 := k6.cell 1
      have z2 := k6.cell 2
      have z3 := k6.cell 3
      have z4 := k6.cell 4
      have z5 := k6.cell 5
      have z6 := k6.cell 6
      have z7 := k6.cell 7
      have z8 := k6.cell 8
      have zl := k6.lt
      clear y0 y1 y2 y3 y4 y5 y6 y7 y8 hbl hb6 hb6' hb7 k6 e6
      rw [show (ByteArray.mk r.name.toArray).data.toList = r.name from rfl]
      cases hnm : nameB r.name with
      | false =>
        have HF := hide hnm
        clear hnm
        go_wp2
        go_returns
        exact ⟨by rw [E.out, HADD.out, addE_word HF.out]; rfl, HB7.out⟩
      | true =>
        have HN := hide hnm
        clear hnm
        go_upto_region 9 with (fail)
        refine wp_region_slim ?_
        simp only [List.append, List.map_cons, List.map_nil, tinyO, bareO]
        by_cases q0 : 15 < r.lev.toNat
        · have hf : rightB r (R.length : Int) = false := right_false (by omega)
          have t0 : decide ((15 : Int) < (r.lev.toNat : Int)) = true := by simp; omega
          have HF := hide hf
          clear hf
          go_wp2
          go_returns
          exact ⟨by rw [E.out, HADD.out, addE_range HN.out HF.out]; rfl, HB7.out⟩
        · have hq0 := q0
          have t0 : decide ((15 : Int) < (r.lev.toNat : Int)) = false := by simp; omega
          by_cases q1 : r.blocks < 4
          · have hf : rightB r (R.length : Int) = false := right_false (by omega)
            have t1 : decide (r.blocks < 4) = true := by simp; omega
            have HF := hide hf
            clear hf
            go_wp2
            go_returns
            exact ⟨by rw [E.out, HADD.out, addE_range HN.out HF.out]; rfl, HB7.out⟩
          · have hq1 := q1
            have t1 : decide (r.blocks < 4) = false := by simp; omega
            by_cases q2 : 512 < r.blocks
            · have hf : rightB r (R.length : Int) = false := right_false (by omega)
              have t2 : decide (512 < r.blocks) = true := by simp; omega
              have HF := hide hf
              clear hf
              go_wp2
              go_returns
              exact ⟨by rw [E.out, HADD.out, addE_range HN.out HF.out]; rfl, HB7.out⟩
            · have hq2 := q2
              have t2 : decide (512 < r.blocks) = false := by simp; omega
              by_cases q3 : r.nodes < 4
              · have hf : rightB r (R.length : Int) = false := right_false (by omega)
                have t3 : decide (r.nodes < 4) = true := by simp; omega
                have HF := hide hf
                clear hf
                go_wp2
                go_returns
                exact ⟨by rw [E.out, HADD.out, addE_range HN.out HF.out]; rfl, HB7.out⟩
              · have hq3 := q3
                have t3 : decide (r.nodes < 4) = false := by simp; omega
                by_cases q4 : 128 < r.nodes
                · have hf : rightB r (R.length : Int) = false := right_false (by omega)
                  have t4 : decide (128 < r.nodes) = true := by simp; omega
                  have HF := hide hf
                  clear hf
                  go_wp2
                  go_returns
                  exact ⟨by rw [E.out, HADD.out, addE_range HN.out HF.out]; rfl, HB7.out⟩
                · have hq4 := q4
                  have t4 : decide (128 < r.nodes) = false := by simp; omega
                  by_cases q5 : ¬ r.nodes % 2 = 0
                  · have hf : rightB r (R.length : Int) = false := right_false (by omega)
                    have t5a : (r.nodes.tmod 2 != 0) = true := by rw [IntWalk.rem_in _ _ (by omega)]; simp; omega
                    have t5b : (r.nodes % 2 != 0) = true := by simp; omega
                    have t5c : (r.nodes % 2 == 0) = false := by simp; omega
                    have HF := hide hf
                    clear hf
                    go_wp2
                    go_returns
                    exact ⟨by rw [E.out, HADD.out, addE_range HN.out HF.out]; rfl, HB7.out⟩
                  · have hq5 := q5
                    have t5a : (r.nodes.tmod 2 != 0) = false := by rw [IntWalk.rem_in _ _ (by omega)]; simp; omega
                    have t5b : (r.nodes % 2 != 0) = false := by simp; omega
                    have t5c : (r.nodes % 2 == 0) = true := by simp; omega
                    by_cases q6 : r.frames < 1
                    · have hf : rightB r (R.length : Int) = false := right_false (by omega)
                      have t6 : decide (r.frames < 1) = true := by simp; omega
                      have HF := hide hf
                      clear hf
                      go_wp2
                      go_returns
                      exact ⟨by rw [E.out, HADD.out, addE_range HN.out HF.out]; rfl, HB7.out⟩
                    · have hq6 := q6
                      have t6 : decide (r.frames < 1) = false := by simp; omega
                      by_cases q7 : 256 < r.frames
                      · have hf : rightB r (R.length : Int) = false := right_false (by omega)
                        have t7 : decide (256 < r.frames) = true := by simp; omega
                        have HF := hide hf
                        clear hf
                        go_wp2
                        go_returns
                        exact ⟨by rw [E.out, HADD.out, addE_range HN.out HF.out]; rfl, HB7.out⟩
                      · have hq7 := q7
                        have t7 : decide (256 < r.frames) = false := by simp; omega
                        by_cases q8 : r.procs < 1
                        · have hf : rightB r (R.length : Int) = false := right_false (by omega)
                          have t8 : decide (r.procs < 1) = true := by simp; omega
                          have HF := hide hf
                          clear hf
                          go_wp2
                          go_returns
                          exact ⟨by rw [E.out, HADD.out, addE_range HN.out HF.out]; rfl, HB7.out⟩
                        · have hq8 := q8
                          have t8 : decide (r.procs < 1) = false := by simp; omega
                          by_cases q9 : 16 < r.procs
                          · have hf : rightB r (R.length : Int) = false := right_false (by omega)
                            have t9 : decide (16 < r.procs) = true := by simp; omega
                            have HF := hide hf
                            clear hf
                            go_wp2
                            go_returns
                            exact ⟨by rw [E.out, HADD.out, addE_range HN.out HF.out]; rfl, HB7.out⟩
                          · have hq9 := q9
                            have t9 : decide (16 < r.procs) = false := by simp; omega
                            by_cases q10 : r.opens < 1
                            · have hf : rightB r (R.length : Int) = false := right_false (by omega)
                              have t10 : decide (r.opens < 1) = true := by simp; omega
                              have HF := hide hf
                              clear hf
                              go_wp2
                              go_returns
                              exact ⟨by rw [E.out, HADD.out, addE_range HN.out HF.out]; rfl, HB7.out⟩
                            · have hq10 := q10
                              have t10 : decide (r.opens < 1) = false := by simp; omega
                              by_cases q11 : 32 < r.opens
                              · have hf : rightB r (R.length : Int) = false := right_false (by omega)
                                have t11 : decide (32 < r.opens) = true := by simp; omega
                                have HF := hide hf
                                clear hf
                                go_wp2
                                go_returns
                                exact ⟨by rw [E.out, HADD.out, addE_range HN.out HF.out]; rfl, HB7.out⟩
                              · have hq11 := q11
                                have t11 : decide (32 < r.opens) = false := by simp; omega
                                by_cases q12 : r.clear < 0
                                · have hf : rightB r (R.length : Int) = false := right_false (by omega)
                                  have t12 : decide (r.clear < 0) = true := by simp; omega
                                  have HF := hide hf
                                  clear hf
                                  go_wp2
                                  go_returns
                                  exact ⟨by rw [E.out, HADD.out, addE_range HN.out HF.out]; rfl, HB7.out⟩
                                · have hq12 := q12
                                  have t12 : decide (r.clear < 0) = false := by simp; omega
                                  by_cases q13 : (R.length : Int) ≤ r.clear
                                  · have hf : rightB r (R.length : Int) = false := right_false (by omega)
                                    have t13 : decide ((R.length : Int) ≤ r.clear) = true := by simp; omega
                                    have HF := hide hf
                                    clear hf
                                    go_wp2
                                    go_returns
                                    exact ⟨by rw [E.out, HADD.out, addE_range HN.out HF.out]; rfl, HB7.out⟩
                                  · have hq13 := q13
                                    have t13 : decide ((R.length : Int) ≤ r.clear) = false := by simp; omega
                                    have HRT := hide (right_true (n := R.length) q0 q1 q2 q3 q4 q5 q6 q7 q8 q9 q10 q11 q12 q13)
                                    clear hq0 hq1 hq2 hq3 hq4 hq5 hq6 hq7 hq8 hq9 hq10 hq11 hq12 hq13 q0 q1 q2 q3 q4 q5 q6 q7 q8 q9 q10 q11 q12 q13
                                    go_wp2_with fail
                                    clear t0 t1 t2 t3 t4 t5a t5b t5c t6 t7 t8 t9 t10 t11 t12 t13 z0 z1 z2 z3 z4 z5 z6 z7 z8 zl
                                    go_loopg [7] k (fun g x7 wr => ∃ j : Nat, j ≤ k ∧ g = k - j ∧ x7 = .int .i64 (j : Int) ∧ Below w7.heap.size w7 wr ∧ Hid (∀ i, i < j → ∀ q, R[i]? = some q → q.name ≠ r.name ∧ (q.lev, q.cats) ≠ (r.lev, r.cats)))
                                    case atStart => exact ⟨0, Nat.zero_le _, rfl, rfl, Below.refl _ _, hide fun i hi => absurd hi (Nat.not_lt_zero _)⟩
                                    case round =>
                                      obtain ⟨j, hj, hg2, rfl, hbr2, hA2⟩ := hrel
                                      by_cases hjk : j < k
                                      · have hjz : (j : Int) < k := by omega
                                        have hjn : (j : Int) < R.length := by omega
                                        obtain ⟨q, hq⟩ : ∃ q, R[j]? = some q := ⟨_, List.getElem?_eq_getElem (by omega)⟩
                                        obtain ⟨b', o', hbo, hb, hcl⟩ := rd_reg HR0.out hq
                                        cases hbo
                                        have hb4 := HB7.out.trans (hbr2.mono HB7.out.size)
                                        have v0 := (hb4.cell (p := ⟨b, o + (j * 9 + 0), none⟩) hb).trans (hcl 0 _ rfl)
                                        have v1 := (hb4.cell (p := ⟨b, o + (j * 9 + 1), none⟩) hb).trans (hcl 1 _ rfl)
                                        have v2 := (hb4.cell (p := ⟨b, o + (j * 9 + 2), none⟩) hb).trans (hcl 2 _ rfl)
                                        simp only [← Nat.add_assoc, Nat.add_zero] at v0 v1 v2
                                        have hbl := Nat.lt_of_lt_of_le hb hb4.size
                                        have m6 := K6.out.below hbr2 K6.out.lt
                                        have p0 := m6.cell 0
                                        have p1 := m6.cell 1
                                        have p2 := m6.cell 2
                                        have pl := m6.lt
                                        have HBR2 := hide hbr2
                                        have HQ := hide hq
                                        have HJ := hide hjk
                                        clear hbr2 hq hcl hb4 m6 hb
                                        by_cases hnm : q.name = r.name
                                        · go_wp2_with fail
                                          go_quiet (fail)
                                          have HM := hide (addE_tw (n := R.length) HN.out HRT.out (.inl (List.mem_map.2 ⟨q, List.mem_of_getElem? (i := j) (by rw [List.getElem?_take, if_pos HJ.out]; exact HQ.out), hnm⟩)))
                                          clear hnm v0 v1 v2 p0 p1 p2 pl
                                          refine at_world (fun W => Below w7.heap.size w7 W) (below_drewN HBR2.out _) (fun w8 hb8 => ?_)
                                          have HB8 := hide (HB7.out.trans (hb8.mono HB7.out.size))
                                          clear hb8
                                          go_wp2
                                          go_returns
                                          exact ⟨by rw [E.out, HADD.out, HM.out]; rfl, HB8.out⟩
                                        · have HNE := hide hnm
                                          have hnm2 : (q.name == r.name) = false := beq_eq_false_iff_ne.2 hnm
                                          by_cases hlv : q.lev = r.lev
                                          · by_cases hct : q.cats = r.cats
                                            · go_wp2_with fail
                                              go_quiet (fail)
                                              have HM := hide (addE_tw (n := R.length) HN.out HRT.out (.inr (List.mem_map.2 ⟨q, List.mem_of_getElem? (i := j) (by rw [List.getElem?_take, if_pos HJ.out]; exact HQ.out), by rw [hlv, hct]⟩)))
                                              clear hnm hnm2 hlv hct v0 v1 v2 p0 p1 p2 pl
                                              refine at_world (fun W => Below w7.heap.size w7 W) (below_drewN HBR2.out _) (fun w8 hb8 => ?_)
                                              have HB8 := hide (HB7.out.trans (hb8.mono HB7.out.size))
                                              clear hb8
                                              go_wp2
                                              go_returns
                                              exact ⟨by rw [E.out, HADD.out, HM.out]; rfl, HB8.out⟩
                                            · have hct2 : ((q.cats.toNat : Int) == (r.cats.toNat : Int)) = false := beq_eq_false_iff_ne.2 fun h => hct (UInt16.toNat_inj.1 (by omega))
                                              go_wp2_with fail
                                              go_quiet (fail)
                                              have HNL := hide (show (q.lev, q.cats) ≠ (r.lev, r.cats) from fun h => hct (Prod.mk.inj h).2)
                                              clear v0 v1 v2 p0 p1 p2 pl
                                              refine at_world (fun W => Below w7.heap.size w7 W) (below_drewN HBR2.out _) (fun w8 hb8 => ?_)
                                              have HB8 := hide hb8
                                              clear hb8
                                              go_wp2_with (fail)
                                              clear hnm hnm2 hlv hct hct2
                                              go_roundg (k - (j + 1))
                                              case measure => omega
                                              case rel => exact ⟨j + 1, by omega, rfl, by go_num, HB8.out, hide (none_step hA2.out HQ.out HNE.out HNL.out)⟩
                                          · have hlv2 : ((q.lev.toNat : Int) == (r.lev.toNat : Int)) = false := beq_eq_false_iff_ne.2 fun h => hlv (UInt8.toNat_inj.1 (by omega))
                                            go_wp2_with fail
                                            go_quiet (fail)
                                            have HNL := hide (show (q.lev, q.cats) ≠ (r.lev, r.cats) from fun h => hlv (Prod.mk.inj h).1)
                                            clear v0 v1 v2 p0 p1 p2 pl
                                            refine at_world (fun W => Below w7.heap.size w7 W) (below_drewN HBR2.out _) (fun w8 hb8 => ?_)
                                            have HB8 := hide hb8
                                            clear hb8
                                            go_wp2_with (fail)
                                            clear hnm hnm2 hlv hlv2
                                            go_roundg (k - (j + 1))
                                            case measure => omega
                                            case rel => exact ⟨j + 1, by omega, rfl, by go_num, HB8.out, hide (none_step hA2.out HQ.out HNE.out HNL.out)⟩
                                      · obtain rfl : j = k := by omega
                                        have HZ := hide (addE_zero (many := R.length) HN.out HRT.out (none_name hA2.out) (none_lab hA2.out))
                                        have HB8 := hide (HB7.out.trans (hbr2.mono HB7.out.size))
                                        clear hbr2
                                        go_wp2
                                        go_roundg (R.length - (j + 1))
                                        case measure => omega
                                        case rel => exact ⟨j + 1, by omega, rfl, by go_num, HB8.out, by rw [HADD.out, if_pos HZ.out]⟩
    · obtain rfl : k = R.length := by omega
      obtain ⟨hbr, hadd⟩ := hA.out
      rw [List.take_length, List.drop_length, addsE] at hadd
      have HR1 := hide (adds_right hadd)
      have HADD := hide hadd
      refine at_world (fun W => Below w.heap.size w W) hbr (fun wA hbA => ?_)
      have HBR := hide hbA
      have hr0 : R[0]? = some r0 := by rw [HR.out]; rfl
      obtain ⟨b, o, rfl, hb, hcl⟩ := rd_reg HR0.out hr0
      have y1 := (hbA.cell (p := ⟨b, _, none⟩) hb).trans (hcl 1 _ rfl)
      have y2 := (hbA.cell (p := ⟨b, _, none⟩) hb).trans (hcl 2 _ rfl)
      have hbw : b < wA.heap.size := Nat.lt_of_lt_of_le hb hbA.size
      have hlz : (0 : Int) < R.length := by omega
      have hkz : ¬ ((R.length : Int) < R.length) := by omega
      simp only [Nat.zero_mul, Nat.zero_add] at y1 y2
      have HB0 := hide hb
      clear hb hcl hr0 hA hadd hbr hbA
      by_cases hl : r0.lev = 0
      · by_cases hc0 : r0.cats = 0
        · rw [hl] at y1
          rw [hc0] at y2
          have HL := hide (And.intro hl hc0)
          clear hl hc0
          simp only [UInt8.toNat_zero, UInt16.toNat_zero, Int.cast_ofNat_Int] at y1 y2
          go_wp2_with fail
          clear y1 y2 hbw
          go_loopg [8] R.length (fun g x8 wr => ∃ k : Nat, k ≤ R.length ∧ g = R.length - k ∧ x8 = .int .i64 (k : Int) ∧ Below wA.heap.size wA wr ∧ Hid (clearsE R 0 R = clearsE R k (R.drop k)))
          case atStart => exact ⟨0, Nat.zero_le _, rfl, rfl, Below.refl _ _, hide rfl⟩
          case round =>
            obtain ⟨k, hkl, hg, rfl, hbr, hadd⟩ := hrel
            by_cases hkn : k < R.length
            · have hkz : (k : Int) < R.length := by omega
              obtain ⟨r, hrk⟩ : ∃ r, R[k]? = some r := ⟨_, List.getElem?_eq_getElem hkn⟩
              have hright := HR1.out r (List.mem_of_getElem? hrk)
              have hcr : 0 ≤ r.clear ∧ r.clear < R.length := by
                simp only [rightB, inB, Bool.and_eq_true, decide_eq_true_eq] at hright
                omega
              obtain ⟨m, hm⟩ : ∃ m : Nat, r.clear = m := ⟨_, (Int.toNat_of_nonneg hcr.1).symm⟩
              have hmz : (m : Int) < R.length := by omega
              obtain ⟨q, hq⟩ : ∃ q, R[m]? = some q := ⟨_, List.getElem?_eq_getElem (by omega)⟩
              obtain ⟨b', o', hbo, hb, hcl⟩ := rd_reg HR0.out hrk
              cases hbo
              obtain ⟨b', o', hbo, _, hcq⟩ := rd_reg HR0.out hq
              cases hbo
              have hb4 := HBR.out.trans (hbr.mono HBR.out.size)
              have v1 := (hb4.cell (p := ⟨b, o + (k * 9 + 1), none⟩) hb).trans (hcl 1 _ rfl)
              have v2 := (hb4.cell (p := ⟨b, o + (k * 9 + 2), none⟩) hb).trans (hcl 2 _ rfl)
              have v8 := (hb4.cell (p := ⟨b, o + (k * 9 + 8), none⟩) hb).trans (hcl 8 _ rfl)
              have u1 := (hb4.cell (p := ⟨b, o + (m * 9 + 1), none⟩) hb).trans (hcq 1 _ rfl)
              have u2 := (hb4.cell (p := ⟨b, o + (m * 9 + 2), none⟩) hb).trans (hcq 2 _ rfl)
              simp only [← Nat.add_assoc, hm] at v1 v2 v8 u1 u2
              have hbl := Nat.lt_of_lt_of_le hb hb4.size
              have HLQ := hide (show leqAt R (k : Int) r.clear = lleB r.lev r.cats q.lev q.cats by
                unfold leqAt
                rw [hm, reg_at, reg_at, hrk, hq]
                rfl)
              have HCE := hide (show clearsE R 0 R = if lleB r.lev r.cats q.lev q.cats then clearsE R (k + 1) (R.drop (k + 1)) else 2 by
                have e1 : R[k] = r := by have := hrk; rw [List.getElem?_eq_getElem hkn] at this; injection this
                rw [hadd.out, List.drop_eq_getElem_cons hkn, clearsE, e1, HLQ.out])
              have BR2 := hide hbr
              have HCR := hide hcr
              clear hcr hm hcl hcq hb4 hright hbr hadd hrk hq HLQ hb
              go_wp2_with fail
              refine wp_region_tree (.q 0 (.q 1 (.q 2 (.q 3 (.q 4 (.q 5 (.q 6 (.q 7 (.q 8 (.q 9 (.q 10 (.q 11 (.q 12 (.q 13 (.x 14 (.q 15 .nil)))))))))))))))) (Below wr.heap.size wr) (by kernel_rfl) (by kernel_rfl) (Below.refl _ _).drew ?_
              iterate 14 (refine wpT_q (v := ?_) (by simp only [List.getElem?_toArray, List.getElem?_cons_succ, List.getElem?_cons_zero]; try rfl) (by rfl) (fun W hW => ?_) ?_; rotate_left; (focus ((obtain ⟨hWc, hWf⟩ := bcell hW); go_simp; try with_reducible rfl)); try simp only [Act.put, List.setIfInBounds_toArray, List.set_cons_zero, List.set_cons_succ])
              refine wpT_x (by simp only [List.getElem?_toArray, List.getElem?_cons_succ, List.getElem?_cons_zero]; try rfl) (by rfl) (fun K hK => ?_)
              go_simp
              refine (leq_ref r.lev r.cats q.lev q.cats _).mono ?_
              rintro e w16 ⟨rfl, hb16'⟩
              have hb16 : Below wr.heap.size wr w16 := (Below.refl _ _).drew.trans hb16'
              refine hK (Below wr.heap.size wr) _ _ (fun _ h => h) hb16 ?_
              clear hK K
              try simp only [Act.put, List.setIfInBounds_toArray, List.set_cons_zero, List.set_cons_succ]
              iterate 1 (refine wpT_q (v := ?_) (by simp only [List.getElem?_toArray, List.getElem?_cons_succ, List.getElem?_cons_zero]; try rfl) (by rfl) (fun W hW => ?_) ?_; rotate_left; (focus ((obtain ⟨hWc, hWf⟩ := bcell hW); go_simp; try with_reducible rfl)); try simp only [Act.put, List.setIfInBounds_toArray, List.set_cons_zero, List.set_cons_succ])
              refine wpT_nil ?_
              have B16 := hide (BR2.out.trans (hb16.mono BR2.out.size))
              clear v1 v2 v8 u1 u2 hb16 hb16' hbl
              cases hz : lleB r.lev r.cats q.lev q.cats with
              | true =>
                have HZ := hide hz
                clear hz
                go_wp2
                go_roundg (R.length - (k + 1))
                case measure => omega
                case rel => exact ⟨k + 1, by omega, rfl, by go_num, B16.out, hide (by rw [HCE.out, if_pos HZ.out])⟩
              | false =>
                have HZ := hide (show clearsE R 0 R = 2 by rw [HCE.out, hz]; rfl)
                clear hz
                go_wp2
                go_returns
                exact ⟨by rw [E.out, HADD.out, if_neg (fun h => h rfl), if_neg (by rw [HL.out.1, HL.out.2]; simp), HZ.out, if_pos (by decide)]; rfl, HBR.out.trans (B16.out.mono HBR.out.size)⟩
            · obtain rfl : k = R.length := by omega
              rw [List.drop_length, clearsE] at hadd
              have HCL := hide hadd.out
              have BR2 := hide (HBR.out.trans (hbr.mono HBR.out.size))
              clear hadd hbr hkn
              go_wp2_with fail
              have HNE := hide (show newE R K = marksE R [] K by rw [E.out, HADD.out, if_neg (fun h => h rfl), if_neg (by rw [HL.out.1, HL.out.2]; simp), HCL.out, if_neg (fun h => h rfl)])
              clear HCL HADD HR1
              refine at_world (fun W => Below w.heap.size w W) BR2.out (fun wB hbB => ?_)
              have HBB := hide hbB
              clear BR2 hbB
              go_loopg [9] K.length (fun g x9 wr => ∃ j : Nat, j ≤ K.length ∧ g = K.length - j ∧ x9 = .int .i64 (j : Int) ∧ Below wB.heap.size wB wr ∧ Hid (marksE R [] K = marksE R (K.take j) (K.drop j)))
              case atStart => exact ⟨0, Nat.zero_le _, rfl, rfl, Below.refl _ _, hide rfl⟩
              case round =>
                obtain ⟨j, hjl, hg2, rfl, hbr, hadd⟩ := hrel
                by_cases hjn : j < K.length
                · have hjz : (j : Int) < K.length := by omega
                  obtain ⟨m, hmj⟩ : ∃ m, K[j]? = some m := ⟨_, List.getElem?_eq_getElem hjn⟩
                  obtain ⟨bm, om, hA', hbm, hcm⟩ := rd_mark HM0.out hmj
                  have hb4 := HBB.out.trans (hbr.mono HBB.out.size)
                  have v0 := (hb4.cell (p := ⟨bm, om + (j * 2 + 0), none⟩) hbm).trans (hcm 0 _ rfl)
                  have v1 := (hb4.cell (p := ⟨bm, om + (j * 2 + 1), none⟩) hbm).trans (hcm 1 _ rfl)
                  simp only [← Nat.add_assoc, Nat.add_zero] at v0 v1
                  have hbl := Nat.lt_of_lt_of_le hbm hb4.size
                  have e1 : K[j] = m := by have := hmj; rw [List.getElem?_eq_getElem hjn] at this; injection this
                  have HMK := hide (show newE R K = if markB R m = false then 27 else if m ∈ K.take j then 29 else marksE R (K.take (j + 1)) (K.drop (j + 1)) by
                    rw [HNE.out, hadd.out, List.drop_eq_getElem_cons hjn, marksE, e1, List.take_add_one, hmj]; rfl)
                  have HMJ := hide hmj
                  have BR := hide hbr
                  have HBM := hide hbm
                  clear hcm hmj hadd hbr hb4 e1 hbm
                  subst hA'
                  go_wp2_with fail
                  refine at_world (fun W => ∃ b10, b10 = wr.heap.size ∧ Below wr.heap.size wr W ∧ Blk W b10 48 #[.int .u8 (m.1.toNat : Int), .int .u16 (m.2.toNat : Int)]) ⟨_, rfl, (Below.refl _ _).alloc (Nat.le_refl _) _, Blk.new _ _ _⟩ (fun w7 h7 => ?_)
                  obtain ⟨b10, e10, hb7, k10⟩ := h7
                  rw [← e10]
                  have HB7 := hide (BR.out.trans (hb7.mono BR.out.size))
                  have K10 := hide k10
                  have z0 := k10.cell 0
                  have z1 := k10.cell 1
                  have zl := k10.lt
                  clear v0 v1 hbl hb7 k10 e10
                  have HW := hide (wraps8 m)
                  rcases Nat.lt_or_ge m.1.toNat R.length with hin | hout
                  · have t1 : decide (R.length ≤ m.1.toNat) = false := by simp; omega
                    have hinz : (m.1.toNat : Int) < R.length := by omega
                    obtain ⟨q, hq⟩ : ∃ q, R[m.1.toNat]? = some q := ⟨_, List.getElem?_eq_getElem hin⟩
                    obtain ⟨b', o', hbo, hb, hcq⟩ := rd_reg HR0.out hq
                    cases hbo
                    have hb4 := HBB.out.trans (HB7.out.mono HBB.out.size)
                    have u3 := (hb4.cell (p := ⟨b, o + (m.1.toNat * 9 + 4), none⟩) hb).trans (hcq 4 _ rfl)
                    simp only [← Nat.add_assoc] at u3
                    have hbl := Nat.lt_of_lt_of_le hb hb4.size
                    have HQ := hide hq
                    clear hq hcq hb4 hb
                    by_cases hz : m.2.toNat = 0
                    · have t2 : ((m.2.toNat : Int) == 0) = true := by simp [hz]
                      have HF := hide (show newE R K = 27 by rw [HMK.out, if_pos (by simp [markB, HQ.out]; omega)])
                      have HZ := hide hz
                      clear hz
                      obtain ⟨wl1, wl2, wl3, wl4⟩ := HW.out
                      go_quiet (fail)
                      clear wl1 wl2 wl3 wl4
                      refine at_world (fun W => Below wB.heap.size wB W) (below_drewN HB7.out _) (fun w8 hb8 => ?_)
                      have HB8 := hide (HBB.out.trans (hb8.mono HBB.out.size))
                      clear hb8 u3 z0 z1
                      go_wp2
                      go_returns
                      exact ⟨by rw [HF.out]; rfl, HB8.out⟩
                    · have t2 : ((m.2.toNat : Int) == 0) = false := by simp; omega
                      by_cases hnd : q.nodes < (m.2.toNat : Int)
                      · have t3 : decide (q.nodes < (m.2.toNat : Int)) = true := by simp; omega
                        have HF := hide (show newE R K = 27 by rw [HMK.out, if_pos (by simp [markB, HQ.out]; omega)])
                        obtain ⟨wl1, wl2, wl3, wl4⟩ := HW.out
                        go_quiet (fail)
                        clear wl1 wl2 wl3 wl4
                        refine at_world (fun W => Below wB.heap.size wB W) (below_drewN HB7.out _) (fun w8 hb8 => ?_)
                        have HB8 := hide (HBB.out.trans (hb8.mono HBB.out.size))
                        clear hb8 u3 z0 z1
                        go_wp2
                        go_returns
                        exact ⟨by rw [HF.out]; rfl, HB8.out⟩
                      · have t3 : decide (q.nodes < (m.2.toNat : Int)) = false := by simp; omega
                        have HT := hide (show newE R K = if m ∈ K.take j then 29 else marksE R (K.take (j + 1)) (K.drop (j + 1)) by rw [HMK.out, if_neg (by simp [markB, HQ.out]; omega)])
                        obtain ⟨wl1, wl2, wl3, wl4⟩ := HW.out
                        go_quiet (fail)
                        clear wl1 wl2 wl3 wl4
                        refine at_world (fun W => Below wB.heap.size wB W ∧ Blk W b10 48 #[.int .u8 (m.1.toNat : Int), .int .u16 (m.2.toNat : Int)]) ⟨below_drewN HB7.out _, K10.out.drewN _⟩ (fun w8 h8 => ?_)
                        have HB8 := hide h8.1
                        have K8 := hide h8.2
                        clear h8 u3 z0 z1 hbl zl K10
                        go_wp2_with fail
                        clear t1 t2 t3
                        go_loopg [11] j (fun g x11 wr => ∃ i : Nat, i ≤ j ∧ g = j - i ∧ x11 = .int .i64 (i : Int) ∧ Below w8.heap.size w8 wr ∧ Hid (∀ i', i' < i → ∀ x, K[i']? = some x → x ≠ m))
                        case atStart => exact ⟨0, Nat.zero_le _, rfl, rfl, Below.refl _ _, hide fun i hi => absurd hi (Nat.not_lt_zero _)⟩
                        case round =>
                          obtain ⟨i, hij, hg3, rfl, hbr3, hA3⟩ := hrel
                          by_cases hin3 : i < j
                          · have hiz : (i : Int) < j := by omega
                            have hik : (i : Int) < K.length := by omega
                            obtain ⟨x, hx⟩ : ∃ x, K[i]? = some x := ⟨_, List.getElem?_eq_getElem (by omega)⟩
                            obtain ⟨b', o', hbo, hbm, hcm⟩ := rd_mark HM0.out hx
                            cases hbo
                            have hb5 := (HBB.out.trans (HB8.out.mono HBB.out.size))
                            have hb4 := hb5.trans (hbr3.mono hb5.size)
                            have v0 := (hb4.cell (p := ⟨bm, om + (i * 2 + 0), none⟩) hbm).trans (hcm 0 _ rfl)
                            have v1 := (hb4.cell (p := ⟨bm, om + (i * 2 + 1), none⟩) hbm).trans (hcm 1 _ rfl)
                            simp only [← Nat.add_assoc, Nat.add_zero] at v0 v1
                            have hbl := Nat.lt_of_lt_of_le hbm hb4.size
                            have m10 := K8.out.below hbr3 K8.out.lt
                            have p0 := m10.cell 0
                            have p1 := m10.cell 1
                            have pl := m10.lt
                            have BR3 := hide hbr3
                            have HX := hide hx
                            have HIN := hide hin3
                            clear hcm hx hb4 hb5 hbr3 hbm m10
                            by_cases hx1 : x.1 = m.1
                            · by_cases hx2 : x.2 = m.2
                              · have HM := hide (show m ∈ K.take j from List.mem_of_getElem? (i := i) (by rw [List.getElem?_take, if_pos HIN.out, HX.out, show x = m from Prod.ext hx1 hx2]))
                                go_wp2_with fail
                                go_quiet (fail)
                                clear hx1 hx2 v0 v1 p0 p1 pl
                                refine at_world (fun W => Below w8.heap.size w8 W) (below_drewN BR3.out _) (fun w9 hb9 => ?_)
                                have HB9 := hide ((HBB.out.trans (HB8.out.mono HBB.out.size)).trans (hb9.mono (HBB.out.trans (HB8.out.mono HBB.out.size)).size))
                                clear hb9
                                go_wp2
                                go_returns
                                exact ⟨by rw [HT.out, if_pos HM.out]; rfl, HB9.out⟩
                              · have hx3 : ((x.2.toNat : Int) == (m.2.toNat : Int)) = false := beq_eq_false_iff_ne.2 fun h => hx2 (UInt16.toNat_inj.1 (by omega))
                                have HNX := hide (show x ≠ m from fun h => hx2 (by rw [h]))
                                go_wp2_with fail
                                go_quiet (fail)
                                clear v0 v1 p0 p1 pl
                                refine at_world (fun W => Below w8.heap.size w8 W) (below_drewN BR3.out _) (fun w9 hb9 => ?_)
                                have HB9 := hide hb9
                                clear hb9
                                go_wp2_with (fail)
                                clear hx1 hx2 hx3
                                go_roundg (j - (i + 1))
                                case measure => omega
                                case rel => exact ⟨i + 1, by omega, rfl, by go_num, HB9.out, hide (nonem_step hA3.out HX.out HNX.out)⟩
                            · have hx3 : ((x.1.toNat : Int) == (m.1.toNat : Int)) = false := beq_eq_false_iff_ne.2 fun h => hx1 (UInt8.toNat_inj.1 (by omega))
                              have HNX := hide (show x ≠ m from fun h => hx1 (by rw [h]))
                              go_wp2_with fail
                              go_quiet (fail)
                              clear v0 v1 p0 p1 pl
                              refine at_world (fun W => Below w8.heap.size w8 W) (below_drewN BR3.out _) (fun w9 hb9 => ?_)
                              have HB9 := hide hb9
                              clear hb9
                              go_wp2_with (fail)
                              clear hx1 hx3
                              go_roundg (j - (i + 1))
                              case measure => omega
                              case rel => exact ⟨i + 1, by omega, rfl, by go_num, HB9.out, hide (nonem_step hA3.out HX.out HNX.out)⟩
                          · obtain rfl : i = j := by omega
                            have HS := hide (show marksE R [] K = marksE R (K.take (i + 1)) (K.drop (i + 1)) by
                              rw [← HNE.out, HT.out, if_neg (fun h => by obtain ⟨i', h1, h2⟩ := mem_take h; exact hA3.out i' h1 m h2 rfl)])
                            have HB9 := hide (HB8.out.trans (hbr3.mono HB8.out.size))
                            clear hbr3
                            go_wp2_with (fail)
                            go_roundg (K.length - (i + 1))
                            case measure => omega
                            case rel => exact ⟨i + 1, by omega, rfl, by go_num, HB9.out, hide HS.out⟩
                  · have t1 : decide (R.length ≤ m.1.toNat) = true := by simp; omega
                    have HF := hide (show newE R K = 27 by rw [HMK.out, if_pos (by simp [markB, List.getElem?_eq_none hout])])
                    obtain ⟨wl1, wl2, wl3, wl4⟩ := HW.out
                    go_quiet (fail)
                    clear wl1 wl2 wl3 wl4
                    refine at_world (fun W => Below wB.heap.size wB W) (below_drewN HB7.out _) (fun w8 hb8 => ?_)
                    have HB8 := hide (HBB.out.trans (hb8.mono HBB.out.size))
                    clear hb8 z0 z1
                    go_wp2
                    go_returns
                    exact ⟨by rw [HF.out]; rfl, HB8.out⟩
                · obtain rfl : j = K.length := by omega
                  have HF := hide (show newE R K = 0 by rw [HNE.out, hadd.out, List.drop_length, marksE])
                  have HB8 := hide (HBB.out.trans (hbr.mono HBB.out.size))
                  clear hbr hadd
                  go_wp2
                  go_returns
                  exact ⟨by rw [HF.out]; rfl, HB8.out⟩
        · have hc1 : ((r0.cats.toNat : Int) == 0) = false := beq_eq_false_iff_ne.2 fun h => hc0 (UInt16.toNat_inj.1 (by have : (0 : UInt16).toNat = 0 := rfl; omega))
          rw [hl] at y1
          simp only [UInt8.toNat_zero, Int.cast_ofNat_Int] at y1
          have HNL := hide (show newE R K = 25 by rw [E.out, HADD.out, if_neg (fun h => h rfl), if_pos (.inr hc0)])
          clear hl hc0
          go_wp2
          go_returns
          exact ⟨by rw [HNL.out]; rfl, HBR.out⟩
      · have hl1 : ((r0.lev.toNat : Int) == 0) = false := beq_eq_false_iff_ne.2 fun h => hl (UInt8.toNat_inj.1 (by have : (0 : UInt8).toNat = 0 := rfl; omega))
        have HNL := hide (show newE R K = 25 by rw [E.out, HADD.out, if_neg (fun h => h rfl), if_pos (.inl hl)])
        clear hl
        go_wp2
        go_returns
        exact ⟨by rw [HNL.out]; rfl, HBR.out⟩
end
end Go.Proofs.YtniboffmdkeacaaDoor

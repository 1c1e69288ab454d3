/- The document's answer: where groups lie. -/
import Derived.Test.YtniboffmdkeacaaDoorConfGrp
import Derived.Test.YtniboffmdkeacaaDoorConfRows
import Derived.Test.YtniboffmdkeacaaDoorRegion
import Derived.Deep.LoopGhost
namespace Go.Proofs.YtniboffmdkeacaaDoor
open Go.RowKit Go.WideMaps
set_option linter.unusedSimpArgs false
set_option linter.unusedVariables false

theorem info_rgeo : (Tryd.prog.info? 94).map (fun i => (i.zero, i.size, i.bytes)) = some (some (.agg #[.int .i64 0, .int .i64 0, .int .i64 0, .int .i64 0, .int .i64 0, .int .i64 0]), 6, 48) := by kernel_rfl
theorem rd_regc {w : World} {B n : Nat} {A : Option Addr} {R : List RegV} (h : Rd w B 9 A n (rcellsOf R)) (hn : 0 < n) :
    ∃ b o, A = some ⟨b, o, none⟩ ∧ b < B ∧ ∀ k r, R[k]? = some r → ∀ j v, r.cells[j]? = some v → w.cell? ⟨b, o + (k * 9 + j), none⟩ = some v := by
  obtain ⟨b, o, hA, hb, hc⟩ := h.2 hn
  exact ⟨b, o, hA, hb, fun k r hr j v hv => hc _ _ (flat_get RegV.cells 9 (fun _ => rfl) R k r hr j v hv)⟩
section
variable {A : Option Addr} {cA : Nat} {R : List RegV} {w : World}
set_option maxRecDepth 100000 in
set_option maxHeartbeats 2000000 in
theorem rgeos_ok (hr : Rd w w.heap.size 9 A R.length (rcellsOf R)) (hok : ∀ r ∈ R, okReg r) (hl : R.length ≤ 64) :
    Calls Tryd.prog 30 #[.slice A R.length cA] w fun e w' => ∃ A' c', e = .returned (.tuple #[.slice A' R.length c', .int .i64 (totalOf 32 R)]) ∧ Below w.heap.size w w' ∧
      w'.ownsRow w.heap.size 94 6 (.slice A' R.length c') R.length (gcellsOf (geosOf 32 R)) := by
  go_enter Tryd.func30, Tryd.ntmps30
  refine at_world (fun W => W = w) rfl (fun w0 e0 => ?_)
  subst e0
  go_wp2_with fail
  go_loopg [4, 5, 6] R.length (fun g x4 x5 x6 wr => ∃ (i : Nat) (A' : Option Addr) (c' : Nat), i ≤ R.length ∧ g = R.length - i ∧ x4 = .int .i64 (totalOf 32 (R.take i)) ∧ x5 = .slice A' i c' ∧ x6 = .int .i64 (i : Int) ∧ Below w0.heap.size w0 wr ∧
    Hid (wr.ownsRow w0.heap.size 94 6 (.slice A' i c') i (gcellsOf (geosOf 32 (R.take i)))))
  case atStart => exact ⟨0, none, 0, Nat.zero_le _, rfl, rfl, rfl, rfl, Below.refl _ _, hide ⟨rfl, .inl ⟨rfl, rfl⟩⟩⟩
  case round =>
    obtain ⟨i, A', c', hi, hg, rfl, rfl, rfl, hbr, ho⟩ := hrel
    rcases Nat.lt_or_ge i R.length with hiR | hiR
    · have hiz : (i : Int) < R.length := by omega
      obtain ⟨r, hri⟩ : ∃ r, R[i]? = some r := ⟨_, List.getElem?_eq_getElem hiR⟩
      have hrb := (hok r (List.mem_of_getElem? hri)).2
      have htb := total_bounds (R := R.take i) (fun x hx => hok x (List.mem_of_mem_take hx)) 32 (by omega)
      have htl : ((R.take i).length : Int) ≤ 64 := by rw [List.length_take]; omega
      have hnx := total_take 32 R hri
      have hgs : geosOf 32 (R.take (i + 1)) = geosOf 32 (R.take i) ++ [geoOf (totalOf 32 (R.take i)) r] := by rw [List.take_add_one, hri]; exact geosOf_snoc 32 _ r
      obtain ⟨b, o, hA, hb, hc⟩ := rd_regc hr (by omega)
      have y3 := (hbr.cell (p := ⟨b, o + (i * 9 + 3), none⟩) hb).trans (hc i r hri 3 _ rfl)
      have y4 := (hbr.cell (p := ⟨b, o + (i * 9 + 4), none⟩) hb).trans (hc i r hri 4 _ rfl)
      simp only [← Nat.add_assoc] at y3 y4
      have hbl := Nat.lt_of_lt_of_le hb hbr.size
      have HNX := hide hnx
      have HGS := hide hgs
      have BR := hide hbr
      subst hA
      generalize hat : totalOf 32 (R.take i) = at_ at *
      have HAT := hide hat
      clear hnx hgs hc hri hbr hat
      go_wp2
      refine wp_region_text [0, 0, 0, 0, 0, 0, 0, 0, 0, 0, 0, 0, 1, 1] (Below wr.heap.size wr) (by kernel_rfl) (by kernel_rfl) (Below.refl _ _).drew ?_
      iterate 12 (refine wpOrd_q (v := ?_) (by rfl) (fun W hW => ?_) ?_; rotate_left; (focus ((obtain ⟨hWc, hWf⟩ := bcell hW); go_simp; try with_reducible rfl)); try simp only [Act.put, List.setIfInBounds_toArray, List.set_cons_zero, List.set_cons_succ])
      refine wpOrd_x (by rfl) (fun K hK => ?_)
      go_simp
      refine hK (Below wr.heap.size wr) _ _ (fun _ h => h) ((Below.refl _ _).alloc (Nat.le_refl _) _).drew ?_
      clear hK K
      try simp only [Act.put, List.setIfInBounds_toArray, List.set_cons_zero, List.set_cons_succ]
      refine at_world (fun W => ∃ g7, g7 = wr.heap.size ∧ Below wr.heap.size wr W ∧ Blk W g7 94 #[.int .i64 0, .int .i64 0, .int .i64 0, .int .i64 0, .int .i64 0, .int .i64 0]) ⟨_, rfl, ((Below.refl _ _).alloc (Nat.le_refl _) _).drew, (Blk.new wr _ _).drew⟩ (fun w4 h4 => ?_)
      obtain ⟨g7, e7, hb4, k4⟩ := h4
      rw [← e7]
      have E7 := hide e7
      have hg7 : wr.heap.size ≤ g7 := by omega
      have hb4' : Below g7 wr w4 := by rw [e7]; exact hb4
      clear e7
      refine wpOrd_x (by rfl) (fun K hK => ?_)
      refine wp_store_row 94 (.tmp 7) (.tmp 25) (by rfl) g7 #[.int .i64 at_, .int .i64 0, .int .i64 0, .int .i64 0, .int .i64 r.blocks, .int .i64 r.nodes] (by rfl) (by rfl) 94 _ k4 (by kernel_rfl) (by rfl) (by simp [Value.oneCell']) ?_
      refine hK (Below g7 wr) _ _ (fun _ h => h) (below_setRow hb4' (Nat.le_refl _) _) ?_
      clear hK K
      try simp only [Act.put, List.setIfInBounds_toArray, List.set_cons_zero, List.set_cons_succ]
      refine wpOrd_nil ?_
      refine at_world (fun W => Below wr.heap.size wr W ∧ Blk W g7 94 #[.int .i64 at_, .int .i64 0, .int .i64 0, .int .i64 0, .int .i64 r.blocks, .int .i64 r.nodes]) ⟨below_setRow hb4 hg7 _, setRow_heap _ _ _ _ _ _ k4⟩ (fun w5 h5 => ?_)
      obtain ⟨hb5, k5⟩ := h5
      have B5 := hide (BR.out.trans (hb5.mono BR.out.size))
      have hg70 : w0.heap.size ≤ g7 := Nat.le_trans BR.out.size hg7
      have hown5 := hide (own_below ho.out hb5)
      have hnob : Hid ((Value.slice A' i c').ownBlock ≠ some g7) := hide fun e => by have := (own_block_ge ho.out e).2; omega
      have K5 := hide k5
      clear y3 y4 hbl hb4 k4 hb5 k5 hg7
      obtain ⟨BM, hBM⟩ : ∃ BM : Nat, (BM : Int) = (r.blocks + 511) / 512 := ⟨_, Int.toNat_of_nonneg (by omega)⟩
      obtain ⟨TM, hTM⟩ : ∃ TM : Nat, (TM : Int) = (r.nodes * 32 + 63) / 64 := ⟨_, Int.toNat_of_nonneg (by omega)⟩
      go_wp2_with fail
      go_loopg [26] BM (fun g x26 wr => ∃ bm : Nat, bm ≤ BM ∧ g = BM - bm ∧ Below w5.heap.size w5 w5 ∧ Below w0.heap.size w0 wr ∧ Blk wr g7 94 #[.int .i64 at_, .int .i64 (bm : Int), .int .i64 0, .int .i64 0, .int .i64 r.blocks, .int .i64 r.nodes] ∧ Hid (wr.ownsRow w0.heap.size 94 6 (.slice A' i c') i (gcellsOf (geosOf 32 (R.take i)))))
      case atStart => exact ⟨0, Nat.zero_le _, rfl, Below.refl _ _, B5.out, K5.out, hown5⟩
      case round =>
        obtain ⟨bm, hbm, hg2, _, hb6, k6, o6⟩ := hrel
        have c1 := k6.cell 1
        have c4 := k6.cell 4
        have f1 := k6.frozen 1
        have l6 := k6.lt
        have HB6 := hide hb6
        have K6 := hide k6
        clear hb6 k6
        rcases Nat.lt_or_ge bm BM with hlt | hge
        · have t1 : decide ((bm : Int) * 64 * 8 < r.blocks) = true := decide_eq_true (by omega)
          have t2 : (bm : Int) * 64 * 8 < r.blocks := by omega
          go_wp2
          go_roundg (BM - (bm + 1))
          case measure => omega
          case rel => exact ⟨bm + 1, by omega, rfl, Below.refl _ _, HB6.out.setCell hg70 _, by simpa using K6.out.set_ 1 (.int .i64 ((bm : Int) + 1)), hide (ownsRow_setCell_other (a := ⟨g7, 1, none⟩) o6.out hnob.out _)⟩
        · have t1 : decide ((bm : Int) * 64 * 8 < r.blocks) = false := decide_eq_false (by omega)
          have t2 : ¬ (bm : Int) * 64 * 8 < r.blocks := by omega
          go_wp2_with fail
          obtain rfl : bm = BM := by omega
          clear c1 c4 f1 l6 t1 t2
          go_loopg [37] TM (fun g x37 wr => ∃ tm : Nat, tm ≤ TM ∧ g = TM - tm ∧ Below w0.heap.size w0 wr ∧ Blk wr g7 94 #[.int .i64 at_, .int .i64 (bm : Int), .int .i64 (tm : Int), .int .i64 0, .int .i64 r.blocks, .int .i64 r.nodes] ∧ Hid (wr.ownsRow w0.heap.size 94 6 (.slice A' i c') i (gcellsOf (geosOf 32 (R.take i)))))
          case atStart => exact ⟨0, Nat.zero_le _, rfl, HB6.out, K6.out, o6⟩
          case round =>
            obtain ⟨tm, htm, hg3, hb7, k7, o7⟩ := hrel
            have c1 := k7.cell 1
            have c2 := k7.cell 2
            have c4 := k7.cell 4
            have c5 := k7.cell 5
            have f2 := k7.frozen 2
            have f3 := k7.frozen 3
            have l7 := k7.lt
            have HB7 := hide hb7
            have K7 := hide k7
            rcases Nat.lt_or_ge tm TM with hlt2 | hge2
            · have t1 : decide ((tm : Int) * 64 < r.nodes * 32) = true := decide_eq_true (by omega)
              have t2 : (tm : Int) * 64 < r.nodes * 32 := by omega
              clear hb7 k7
              go_wp2
              go_roundg (TM - (tm + 1))
              case measure => omega
              case rel => exact ⟨tm + 1, by omega, rfl, HB7.out.setCell hg70 _, by simpa using K7.out.set_ 2 (.int .i64 ((tm : Int) + 1)), hide (ownsRow_setCell_other (a := ⟨g7, 2, none⟩) o7.out hnob.out _)⟩
            · have t1 : decide ((tm : Int) * 64 < r.nodes * 32) = false := decide_eq_false (by omega)
              have t2 : ¬ (tm : Int) * 64 < r.nodes * 32 := by omega
              have c0 := k7.cell 0
              have c3 := k7.cell 3
              have e1 : IntKind.i64.wrap (at_ + (bm : Int)) = at_ + (bm : Int) := IntWalk.i64_in _ (by omega)
              have e2 : IntKind.i64.wrap (at_ + (bm : Int) + (tm : Int)) = at_ + (bm : Int) + (tm : Int) := IntWalk.i64_in _ (by omega)
              have e3 : IntKind.i64.wrap (at_ + (bm : Int) + (tm : Int) + r.blocks) = at_ + (bm : Int) + (tm : Int) + r.blocks := IntWalk.i64_in _ (by omega)
              obtain rfl : tm = TM := by omega
              have e0 : wrap64 ((tm : Int) * 64) = (tm : Int) * 64 := IntWalk.wrap64_in _ (by omega)
              have hsz := HB7.out.size
              have W9 := hide (ownsRow_setCell_other (a := ⟨g7, 3, none⟩) o7.out hnob.out (.int .i64 (at_ + (bm : Int) + (tm : Int))))
              have hi6 : i ≤ 1000000 := by omega
              obtain ⟨r0, hr0, r1, r2, r3⟩ := info_parts info_rgeo
              have HM := hide (And.intro hBM hTM)
              clear hb7 k7 hBM hTM
              go_wp2_with (at_builtin; refine wpList_append_one rfl (.tmp 61) (.tmp 63) 85 rfl w0.heap.size 94 r0 (.agg #[.int .i64 0, .int .i64 0, .int .i64 0, .int .i64 0, .int .i64 0, .int .i64 0]) 6 48 Tryd.underlying85 hr0 r1 r2 r3 rfl (by decide) A' c' i (gcellsOf (geosOf 32 (R.take i))) [.int .i64 at_, .int .i64 (bm : Int), .int .i64 (tm : Int), .int .i64 (at_ + (bm : Int) + (tm : Int)), .int .i64 r.blocks, .int .i64 r.nodes] (wr.setCell ⟨g7, 3, none⟩ (.int .i64 (at_ + (bm : Int) + (tm : Int)))) rfl W9.out (by simp [World.setCell]) (by simp [Act.eval]) rfl (by simp [Value.oneCell']) hi6 (by decide) (by simp [World.setCell]; exact hsz) ?_; intro A2 c2' w9 hown hg9 hb9 hat9)
              have hdat : (geoOf at_ r).data = at_ + (bm : Int) + (tm : Int) := by rw [HM.out.1, HM.out.2]; rfl
              have hgc : (geoOf at_ r).cells = [.int .i64 at_, .int .i64 (bm : Int), .int .i64 (tm : Int), .int .i64 (at_ + (bm : Int) + (tm : Int)), .int .i64 r.blocks, .int .i64 r.nodes] := by
                rw [← hdat, HM.out.1, HM.out.2]; rfl
              go_roundg (R.length - (i + 1))
              case measure => omega
              case rel =>
                refine ⟨i + 1, A2, c2', by omega, rfl, ?_, rfl, by go_num, (HB7.out.setCell hg70 _).trans hb9, hide ?_⟩
                · rw [HNX.out, ← hdat]; rfl
                · rw [HGS.out, gcellsOf_snoc, hgc]; exact hown
    · obtain rfl : i = R.length := by omega
      rw [List.take_length] at ho ⊢
      go_wp2
      go_returns
      exact ⟨A', c', rfl, hbr, ho.out⟩
end
end Go.Proofs.YtniboffmdkeacaaDoor

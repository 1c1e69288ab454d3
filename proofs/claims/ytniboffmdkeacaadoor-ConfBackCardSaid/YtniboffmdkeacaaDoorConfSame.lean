/- The law's own look: is a configuration what labels and marks say? -/
import Derived.Test.YtniboffmdkeacaaDoorConfAsk
import Derived.Test.YtniboffmdkeacaaDoorConfRefS
import Derived.Test.YtniboffmdkeacaaDoorConfRefL
import Derived.Test.YtniboffmdkeacaaDoorOrd
namespace Go.Proofs.YtniboffmdkeacaaDoor
open Go.RowKit Go.WideMaps
set_option linter.unusedSimpArgs false
set_option linter.unusedVariables false

section
variable {B c tb nb lb c1 c2 c3 : Nat} {R : List RegV} {K : List MarkV} {A1 A2 A3 : Option Addr} {A A' : Option Addr} {cA cA' : Nat} {w : World}
set_option maxRecDepth 100000 in
set_option maxHeartbeats 4000000 in
theorem same_ok (h : ConfIn B w c R K tb nb lb A1 A2 A3 c1 c2 c3) (hr : Rd w w.heap.size 9 A R.length (rcellsOf R)) (hm : Rd w w.heap.size 2 A' K.length (mcellsOf K)) (hl : R.length ≤ 64) (hkl : K.length ≤ 60000) (hmk : ∀ m ∈ K, m.2.toNat ≤ 128) :
    Calls Tryd.prog 17 #[.pointer (some ⟨c, 0, none⟩), .slice A R.length cA, .slice A' K.length cA'] w fun e w' => e = .returned (.bool true) ∧ Below w.heap.size w w' := by
  go_enter Tryd.func17, Tryd.ntmps17
  refine at_world (fun W => W = w) rfl (fun w0 e0 => ?_)
  subst e0
  go_wp2_with fail
  refine (rgeos_ok (cA := cA) hr h.ok hl).mono ?_
  rintro e w1 ⟨Ag, cg, rfl, hb1, hog⟩
  have h1 := h.below hb1
  have hr1 := (hr.below hb1).more hb1.size
  have hm1 := (hm.below hb1).more hb1.size
  have HB1 := hide hb1
  have H := hide h1
  have HR := hide hr1
  have HM := hide hm1
  have HOG := hide hog
  have HK := hide hmk
  clear h hr hm h1 hr1 hm1 hb1 hog hmk
  have hlen := hide (len_ok H.out)
  have htot := hide (total_ok H.out)
  have hcs := hide (csum_ok H.out hl)
  go_wp2_with (first | (go_at_call 12; refine hlen.out.mono ?_; rintro e w' ⟨rfl, rfl⟩) | (go_at_call 9; refine htot.out.mono ?_; rintro e w' ⟨rfl, rfl⟩) | fail)
  refine hcs.out.mono ?_
  rintro e w3 ⟨rfl, hb3⟩
  have hr3 := (HR.out.below hb3).more hb3.size
  have hrs := rsum_ok (cA := cA) hr3 H.out.ok hl
  have HB3 := hide (HB1.out.trans (hb3.mono HB1.out.size))
  have H3 := hide (H.out.below hb3)
  have HM3 := hide ((HM.out.below hb3).more hb3.size)
  have HOG3 := hide (own_below HOG.out hb3)
  have HR3 := hide hr3
  clear hb3 hr3 hlen htot hcs H HR HM HOG HB1
  go_wp2_with fail
  refine hrs.mono ?_
  rintro e w4 ⟨rfl, hb4⟩
  have HR4 := hide ((HR3.out.below hb4).more hb4.size)
  have HB4 := hide (HB3.out.trans (hb4.mono HB3.out.size))
  have H4 := hide (H3.out.below hb4)
  have HM4 := hide ((HM3.out.below hb4).more hb4.size)
  have HOG4 := hide (own_below HOG3.out hb4)
  clear hb4 hrs HR3 HB3 H3 HM3 HOG3
  go_wp2_with fail
  go_loopg [51] R.length (fun g x51 wr => ∃ i : Nat, i ≤ R.length ∧ g = R.length - i ∧ x51 = .int .i64 (i : Int) ∧ Below w4.heap.size w4 wr)
  case atStart => exact ⟨0, Nat.zero_le _, rfl, rfl, Below.refl _ _⟩
  case round =>
    obtain ⟨i, hi, hg, rfl, hbr⟩ := hrel
    rcases Nat.lt_or_ge i R.length with hiR | hiR
    · have hiz : (i : Int) < R.length := by omega
      obtain ⟨r, hri⟩ : ∃ r, R[i]? = some r := ⟨_, List.getElem?_eq_getElem hiR⟩
      obtain ⟨b, o, hA, hb, hc⟩ := rd_regc HR4.out (by omega)
      have y (j : Nat) (v : Value) (hv : r.cells[j]? = some v) : wr.cell? ⟨b, o + (i * 9 + j), none⟩ = some v := (hbr.cell (p := ⟨b, o + (i * 9 + j), none⟩) hb).trans (hc i r hri j v hv)
      have y0 := y 0 _ rfl
      have y1 := y 1 _ rfl
      have y2 := y 2 _ rfl
      have y3 := y 3 _ rfl
      have y4 := y 4 _ rfl
      have y5 := y 5 _ rfl
      have y6 := y 6 _ rfl
      have y7 := y 7 _ rfl
      have y8 := y 8 _ rfl
      simp only [← Nat.add_assoc, Nat.add_zero] at y0 y1 y2 y3 y4 y5 y6 y7 y8
      have hbl := Nat.lt_of_lt_of_le hb hbr.size
      have BR := hide hbr
      have HRI := hide hri
      have HC := hide hc
      subst hA
      clear y hc hbr hri
      obtain ⟨g, hgi⟩ : ∃ g, (geosOf 32 R)[i]? = some g := ⟨_, List.getElem?_eq_getElem (by rw [geosOf_length]; exact hiR)⟩
      have HGI := hide hgi
      clear hgi
      go_wp2_with fail
      have hbx : Below wr.heap.size wr (wr.alloc (.cells #[.string ⟨r.name.toArray⟩, .int .u8 (r.lev.toNat : Int), .int .u16 (r.cats.toNat : Int), .int .i64 r.blocks, .int .i64 r.nodes, .int .i64 r.frames, .int .i64 r.procs, .int .i64 r.opens, .int .i64 r.clear] 38)) := (Below.refl _ _).alloc (Nat.le_refl _) _
      refine (reg_ok ((H4.out.below BR.out).below hbx) HRI.out).mono ?_
      rintro e w6 ⟨rfl, hb6⟩
      refine at_world (fun W => ∃ b10, b10 = wr.heap.size ∧ Below wr.heap.size wr W ∧ Blk W b10 38 #[.string ⟨r.name.toArray⟩, .int .u8 (r.lev.toNat : Int), .int .u16 (r.cats.toNat : Int), .int .i64 r.blocks, .int .i64 r.nodes, .int .i64 r.frames, .int .i64 r.procs, .int .i64 r.opens, .int .i64 r.clear]) ⟨_, rfl, Below.then_ hbx hbx.size hb6, (Blk.new wr _ _).below hb6 (Blk.new wr _ _).lt⟩ (fun w7 h7 => ?_)
      obtain ⟨b10, e10, hb7, k10⟩ := h7
      rw [← e10]
      have B7 := hide (BR.out.trans (hb7.mono BR.out.size))
      have K10 := hide k10
      clear y0 y1 y2 y3 y4 y5 y6 y7 y8 hbl hbx hb6 hb7 k10 e10
      go_wp2_with fail
      have hby : Below w7.heap.size w7 (w7.alloc (.cells #[.string ⟨r.name.toArray⟩, .int .u8 (r.lev.toNat : Int), .int .u16 (r.cats.toNat : Int), .int .i64 r.blocks, .int .i64 r.nodes, .int .i64 r.frames, .int .i64 r.procs, .int .i64 r.opens, .int .i64 r.clear] 38)) := (Below.refl _ _).alloc (Nat.le_refl _) _
      refine (geo_ok ((H4.out.below B7.out).below hby) HGI.out).mono ?_
      rintro e w8 ⟨rfl, hb8⟩
      refine at_world (fun W => ∃ b11, b11 = w7.heap.size ∧ Below w7.heap.size w7 W ∧ Blk W b11 38 #[.string ⟨r.name.toArray⟩, .int .u8 (r.lev.toNat : Int), .int .u16 (r.cats.toNat : Int), .int .i64 r.blocks, .int .i64 r.nodes, .int .i64 r.frames, .int .i64 r.procs, .int .i64 r.opens, .int .i64 r.clear]) ⟨_, rfl, Below.then_ hby hby.size hb8, (Blk.new w7 _ _).below hb8 (Blk.new w7 _ _).lt⟩ (fun w9 h9 => ?_)
      obtain ⟨b11, e11, hb9, k11⟩ := h9
      rw [← e11]
      have B9 := hide (B7.out.trans (hb9.mono B7.out.size))
      have K10' := hide (K10.out.below hb9 K10.out.lt)
      have K11 := hide k11
      have z0 := K10'.out.cell 0
      have zl := K10'.out.lt
      clear hby hb8 hb9 k11 e11
      go_wp2_with fail
      have hbz : Below w9.heap.size w9 (w9.alloc (.cells #[.int .i64 g.base, .int .i64 g.bitmap, .int .i64 g.table, .int .i64 g.data, .int .i64 g.blocks, .int .i64 g.nodes] 69)) := (Below.refl _ _).alloc (Nat.le_refl _) _
      refine (named_at ((H4.out.below B9.out).below hbz) HRI.out).mono ?_
      rintro e w10 ⟨rfl, rfl⟩
      have z1 := K10'.out.cell 1
      have z2 := K10'.out.cell 2
      go_wp2_with fail
      refine (find_at ((H4.out.below B9.out).below hbz) HRI.out).mono ?_
      rintro e w11 ⟨rfl, hb11⟩
      refine at_world (fun W => ∃ b13, b13 = w9.heap.size ∧ Below w9.heap.size w9 W ∧ Blk W b13 69 #[.int .i64 g.base, .int .i64 g.bitmap, .int .i64 g.table, .int .i64 g.data, .int .i64 g.blocks, .int .i64 g.nodes]) ⟨_, rfl, Below.then_ hbz hbz.size hb11, (Blk.new w9 _ _).below hb11 (Blk.new w9 _ _).lt⟩ (fun w12 h12 => ?_)
      obtain ⟨b13, e13, hb12, k13⟩ := h12
      rw [← e13]
      have B12 := hide (B9.out.trans (hb12.mono B9.out.size))
      have P10 := hide (K10'.out.below hb12 K10'.out.lt)
      have P11 := hide (K11.out.below hb12 K11.out.lt)
      have P13 := hide k13
      clear z0 z1 z2 zl hbz hb11 hb12 k13 e13
      obtain ⟨gg, hAg, _, hggl, hcg⟩ := own_base HOG4.out (by omega)
      have u (j : Nat) (v : Value) (hv : g.cells[j]? = some v) : w12.cell? ⟨gg, i * 6 + j, none⟩ = some v := (B12.out.cell (p := ⟨gg, i * 6 + j, none⟩) hggl).trans (hcg _ _ (flat_get GeoV.cells 6 (fun _ => rfl) _ i g HGI.out j v hv))
      have u0 := u 0 _ rfl
      have u1 := u 1 _ rfl
      have u2 := u 2 _ rfl
      have u3 := u 3 _ rfl
      have u4 := u 4 _ rfl
      have u5 := u 5 _ rfl
      simp only [Nat.add_zero] at u0
      have hggl2 := Nat.lt_of_lt_of_le hggl B12.out.size
      have p0 := P10.out.cell 0
      have p1 := P10.out.cell 1
      have p2 := P10.out.cell 2
      have p3 := P10.out.cell 3
      have p4 := P10.out.cell 4
      have p5 := P10.out.cell 5
      have p6 := P10.out.cell 6
      have p7 := P10.out.cell 7
      have p8 := P10.out.cell 8
      have pl := P10.out.lt
      have q0 := P11.out.cell 0
      have q1 := P11.out.cell 1
      have q2 := P11.out.cell 2
      have q3 := P11.out.cell 3
      have q4 := P11.out.cell 4
      have q5 := P11.out.cell 5
      have q6 := P11.out.cell 6
      have q7 := P11.out.cell 7
      have q8 := P11.out.cell 8
      have ql := P11.out.lt
      have s0 := P13.out.cell 0
      have s1 := P13.out.cell 1
      have s2 := P13.out.cell 2
      have s3 := P13.out.cell 3
      have s4 := P13.out.cell 4
      have s5 := P13.out.cell 5
      have sl := P13.out.lt
      subst hAg
      clear u hcg
      go_wp2_with fail
      go_quiet (fail)
      have P10' := hide (P10.out.below (Below.refl w12.heap.size w12).drew P10.out.lt)
      clear u0 u1 u2 u3 u4 u5 hggl hggl2 p0 p1 p2 p3 p4 p5 p6 p7 p8 pl q0 q1 q2 q3 q4 q5 q6 q7 q8 ql s0 s1 s2 s3 s4 s5 sl
      go_wp2_with fail
      refine at_world (fun W => Below w4.heap.size w4 W ∧ Blk W b10 38 #[.string ⟨r.name.toArray⟩, .int .u8 (r.lev.toNat : Int), .int .u16 (r.cats.toNat : Int), .int .i64 r.blocks, .int .i64 r.nodes, .int .i64 r.frames, .int .i64 r.procs, .int .i64 r.opens, .int .i64 r.clear]) ⟨below_drewN B12.out _, P10.out.drewN _⟩ (fun w13 h13 => ?_)
      obtain ⟨hb13, k10⟩ := h13
      have B13 := hide hb13
      have Q10 := hide k10
      clear hb13 k10
      go_loopg [121] R.length (fun g x121 wr => ∃ k : Nat, k ≤ R.length ∧ g = R.length - k ∧ x121 = .int .i64 (k : Int) ∧ Below w13.heap.size w13 wr)
      case atStart => exact ⟨0, Nat.zero_le _, rfl, rfl, Below.refl _ _⟩
      case round =>
        obtain ⟨k, hk, hg2, rfl, hbr2⟩ := hrel
        rcases Nat.lt_or_ge k R.length with hkR | hkR
        · have hkz : (k : Int) < R.length := by omega
          obtain ⟨rk, hrk⟩ : ∃ rk, R[k]? = some rk := ⟨_, List.getElem?_eq_getElem hkR⟩
          have hb4r := B13.out.trans (hbr2.mono B13.out.size)
          have v1 := (hb4r.cell (p := ⟨b, o + (k * 9 + 1), none⟩) hb).trans (HC.out k rk hrk 1 _ rfl)
          have v2 := (hb4r.cell (p := ⟨b, o + (k * 9 + 2), none⟩) hb).trans (HC.out k rk hrk 2 _ rfl)
          simp only [← Nat.add_assoc] at v1 v2
          have hbl := Nat.lt_of_lt_of_le hb hb4r.size
          have m10 := Q10.out.below hbr2 Q10.out.lt
          have p1 := m10.cell 1
          have p2 := m10.cell 2
          have pl := m10.lt
          have hlq : leqAt R (i : Int) (k : Int) = lleB r.lev r.cats rk.lev rk.cats := by
            unfold leqAt
            rw [reg_at, reg_at, HRI.out, hrk]
            rfl
          have hleq := leq_ok (H4.out.below (hb4r.drew)) (i : Int) (k : Int)
          rw [hlq] at hleq
          have BR2 := hide hbr2
          clear hrk hlq hb4r m10 hbr2
          go_wp2_with fail
          refine wp_region_tree (.q 0 (.q 1 (.q 2 (.q 4 (.q 5 (.q 6 (.q 7 (.q 8 (.q 9 (.q 10 (.x 3 (.x 11 (.q 12 .nil))))))))))))) (Below wr.heap.size wr) (by kernel_rfl) (by kernel_rfl) (Below.refl _ _).drew ?_
          iterate 10 (refine wpT_q (v := ?_) (by simp only [List.getElem?_toArray, List.getElem?_cons_succ, List.getElem?_cons_zero]; try rfl) (by rfl) (fun W hW => ?_) ?_; rotate_left; (focus ((obtain ⟨hWc, hWf⟩ := bcell hW); go_simp; try with_reducible rfl)); try simp only [Act.put, List.setIfInBounds_toArray, List.set_cons_zero, List.set_cons_succ])
          refine wpT_x (by simp only [List.getElem?_toArray, List.getElem?_cons_succ, List.getElem?_cons_zero]; try rfl) (by rfl) (fun K hK => ?_)
          go_simp
          refine hleq.mono ?_
          rintro e w15 ⟨rfl, hb15'⟩
          have hb15 : Below wr.heap.size wr w15 := (Below.refl _ _).drew.trans hb15'
          refine hK (Below wr.heap.size wr) _ _ (fun _ h => h) hb15 ?_
          clear hK K hleq
          try simp only [Act.put, List.setIfInBounds_toArray, List.set_cons_zero, List.set_cons_succ]
          refine wpT_x (by simp only [List.getElem?_toArray, List.getElem?_cons_succ, List.getElem?_cons_zero]; try rfl) (by rfl) (fun K hK => ?_)
          go_simp
          refine (leq_ref r.lev r.cats rk.lev rk.cats w15).mono ?_
          rintro e w16 ⟨rfl, hb16'⟩
          have hb16 : Below wr.heap.size wr w16 := Below.then_ hb15 hb15.size hb16'
          refine hK (Below wr.heap.size wr) _ _ (fun _ h => h) hb16 ?_
          clear hK K
          try simp only [Act.put, List.setIfInBounds_toArray, List.set_cons_zero, List.set_cons_succ]
          iterate 1 (refine wpT_q (v := ?_) (by simp only [List.getElem?_toArray, List.getElem?_cons_succ, List.getElem?_cons_zero]; try rfl) (by rfl) (fun W hW => ?_) ?_; rotate_left; (focus ((obtain ⟨hWc, hWf⟩ := bcell hW); go_simp; try with_reducible rfl)); try simp only [Act.put, List.setIfInBounds_toArray, List.set_cons_zero, List.set_cons_succ])
          refine wpT_nil ?_
          have B16 := hide (BR2.out.trans (hb16.mono BR2.out.size))
          clear v1 v2 p1 p2 pl hb15 hb16 hb15' hb16' hbl
          go_wp2
          go_roundg (R.length - (k + 1))
          case measure => omega
          case rel => exact ⟨k + 1, by omega, rfl, by go_num, B16.out⟩
        · obtain rfl : k = R.length := by omega
          have B17 := hide (B13.out.trans (hbr2.mono B13.out.size))
          clear hbr2
          go_wp2
          go_roundg (R.length - (i + 1))
          case measure => omega
          case rel => exact ⟨i + 1, by omega, rfl, by go_num, B17.out⟩
    · obtain rfl : i = R.length := by omega
      have BR := hide hbr
      clear hbr
      go_wp2_with fail
      go_loopg [141] K.length (fun g x141 wr => ∃ j : Nat, j ≤ K.length ∧ g = K.length - j ∧ x141 = .int .i64 (j : Int) ∧ Below w4.heap.size w4 wr)
      case atStart => exact ⟨0, Nat.zero_le _, rfl, rfl, BR.out⟩
      case round =>
        obtain ⟨j, hj, hg2, rfl, hbr⟩ := hrel
        rcases Nat.lt_or_ge j K.length with hjK | hjK
        · have hjz : (j : Int) < K.length := by omega
          obtain ⟨m, hmj⟩ : ∃ m, K[j]? = some m := ⟨_, List.getElem?_eq_getElem hjK⟩
          obtain ⟨b, o, hA, hb, hc⟩ := HM4.out.2 (by omega)
          have v0 := (hbr.cell (p := ⟨b, o + (j * 2 + 0), none⟩) hb).trans (hc _ _ (flat_get markCells 2 (fun _ => rfl) K j m hmj 0 _ rfl))
          have v1 := (hbr.cell (p := ⟨b, o + (j * 2 + 1), none⟩) hb).trans (hc _ _ (flat_get markCells 2 (fun _ => rfl) K j m hmj 1 _ rfl))
          simp only [← Nat.add_assoc, Nat.add_zero] at v0 v1
          have hbl := Nat.lt_of_lt_of_le hb hbr.size
          have hmem := List.mem_of_getElem? hmj
          have h128 := HK.out m hmem
          obtain ⟨m2, hm2⟩ : ∃ m2 : MarkV, m2 = (m.1, UInt16.ofNat (m.2.toNat + 1000)) := ⟨_, rfl⟩
          have hm2n : (m2.2.toNat : Int) = (m.2.toNat : Int) + 1000 := by rw [hm2]; simp; omega
          have hm21 : m2.1 = m.1 := by rw [hm2]
          have hno : m2 ∉ K := fun h => by have := HK.out m2 h; omega
          have e1 : IntKind.u16.wrap ((m.2.toNat : Int) + 1000) = (m.2.toNat : Int) + 1000 := by rw [IntKind.wrap_u16]; omega
          have hbx : Below wr.heap.size wr (wr.alloc (.cells #[.int .u8 (m.1.toNat : Int), .int .u16 (m.2.toNat : Int)] 48)) := (Below.refl _ _).alloc (Nat.le_refl _) _
          have ht := trusted_ok ((H4.out.below hbr).below hbx) m
          rw [decide_eq_true hmem] at ht
          have BR2 := hide hbr
          have HNO := hide hno
          subst hA
          clear hc hmj hmem hm2 hno hbr
          go_wp2_with fail
          refine ht.mono ?_
          rintro e w6 ⟨rfl, hb6⟩
          have B6 := hide (BR2.out.trans ((Below.then_ hbx hbx.size hb6).mono BR2.out.size))
          have k21 := (Blk.new wr 48 #[.int .u8 (m.1.toNat : Int), .int .u16 (m.2.toNat : Int)]).below hb6 (Blk.new wr _ _).lt
          have z0 := k21.cell 0
          have z1 := k21.cell 1
          have zl := k21.lt
          have ht2 := trusted_ok (H4.out.below B6.out) m2
          rw [decide_eq_false HNO.out, hm2n, hm21] at ht2
          clear ht hb6 hbx v0 v1 hbl k21
          go_wp2_with fail
          refine ht2.mono ?_
          rintro e w7 ⟨rfl, hb7⟩
          have B7 := hide (B6.out.trans (hb7.mono B6.out.size))
          clear ht2 hb7 z0 z1 zl
          go_wp2
          go_roundg (K.length - (j + 1))
          case measure => omega
          case rel => exact ⟨j + 1, by omega, rfl, by go_num, B7.out⟩
        · obtain rfl : j = K.length := by omega
          go_wp2
          go_returns
          exact ⟨rfl, HB4.out.trans (hbr.mono HB4.out.size)⟩
end
end Go.Proofs.YtniboffmdkeacaaDoor

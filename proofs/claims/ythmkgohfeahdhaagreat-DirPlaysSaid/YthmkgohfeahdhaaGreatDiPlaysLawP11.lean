/- A directory's entry dropped: walked. A directory's calls: what comes of them. The fixed fact of the directories: walked. An act's name: walked. Two lists of entries, compared: walked. A directory's calls in a transaction of their own: what comes of them. The document's directories: plain. A directory's calls: their codes, and what comes of them. The document's directories: is there a name, all names: walked. The document's directories: what is written in place. -/
import Derived.Test.YthmkgohfeahdhaaGreatDiPlaysLawP10
namespace Go.Proofs.YthmkgohfeahdhaaGreat
open Go.RowKit
set_option linter.unusedSimpArgs false
set_option linter.unusedVariables false

section
variable {w w' : World} {i : Ids} {s : Sto} {gg : Nat} {g : GeoN} {lab : Int} {G : GS}
theorem build_ent0 (w : World) : (Instr.build 125 #[]).run Tryz.prog w = .ok (.agg EntV.zero.cells.toArray) w := by kernel_rfl
theorem flat2_length (L : List EntV) : (flat2 L).length = L.length * 2 := by
  induction L with
  | nil => rfl
  | cons n r ih => unfold flat2 at ih ⊢; rw [List.flatMap_cons, List.length_append, ih, List.length_cons]; simp [EntV.cells]; omega
theorem flat2_seg {L : List EntV} {k : Nat} (n' : EntV) (hk : k < L.length) : (flat2 L).take (k * 2) ++ n'.cells ++ (flat2 L).drop (k * 2 + n'.cells.length) = flat2 (L.set k n') := by
  induction L generalizing k with
  | nil => simp at hk
  | cons a r ih =>
    have ha : a.cells.length = 2 := rfl
    have hn : n'.cells.length = 2 := rfl
    cases k with
    | zero =>
      unfold flat2
      rw [Nat.zero_mul, List.take_zero, List.nil_append, Nat.zero_add, hn, List.set_cons_zero, List.flatMap_cons, List.flatMap_cons, List.drop_append, ← ha, List.drop_length, Nat.sub_self, List.drop_zero, List.nil_append]
    | succ k =>
      have := ih (k := k) (by simpa using hk)
      unfold flat2 at this ⊢
      rw [List.set_cons_succ, List.flatMap_cons, List.flatMap_cons, ← this, List.take_append, List.drop_append, List.take_of_length_le (by rw [ha]; omega), List.drop_of_length_le (by rw [ha]; omega), List.nil_append]
      rw [show (k + 1) * 2 - a.cells.length = k * 2 from by rw [ha]; omega, show (k + 1) * 2 + n'.cells.length - a.cells.length = k * 2 + n'.cells.length from by rw [ha]; omega]
      simp only [List.append_assoc]
theorem own2_set {w : World} {B ga N c k : Nat} {l : List EntV} (x : EntV) (h : w.ownsRow B 125 2 (.slice (some ⟨ga, 0, none⟩) N c) N (flat2 l)) (hk : k < N) (hl : l.length = N) : (w.setCells ga (k * 2) x.cells).ownsRow B 125 2 (.slice (some ⟨ga, 0, none⟩) N c) N (flat2 (l.set k x)) := by
  have := own_cells (vs := x.cells) (o := k * 2) h (by have : x.cells.length = 2 := rfl; omega)
  rwa [flat2_seg x (by omega)] at this
theorem own2_there {w : World} {B ga N c k : Nat} {l : List EntV} (h : w.ownsRow B 125 2 (.slice (some ⟨ga, 0, none⟩) N c) N (flat2 l)) (hk : k < N) : w.there ga (k * 2) 2 := by
  obtain ⟨-, h | ⟨g', cap, cur, hv, hg, hh, hn, hcm, hsz, ht⟩⟩ := h
  · cases h.1
  · simp only [Value.slice.injEq, Option.some.injEq, Addr.mk.injEq] at hv
    obtain ⟨⟨rfl, _⟩, _, rfl⟩ := hv
    have hB : Blk w ga 125 cur := hh
    exact hB.there (by omega)
theorem trimN_step {L : List EntV} {m : Nat} {e : EntV} (h : L[m]? = some e) (h0 : e.num = 0) : trimN L (m + 1) = trimN L m := by
  rw [trimN.eq_def]; simp [h, h0]
theorem trimN_stop {L : List EntV} {m : Nat} {e : EntV} (h : L[m]? = some e) (h0 : e.num ≠ 0) : trimN L (m + 1) = m + 1 := by
  rw [trimN.eq_def]; simp [h, h0]
set_option maxRecDepth 100000 in
set_option maxHeartbeats 6000000 in
theorem ddrop_main {num : Nat} {l : List EntV} {nm : ByteArray} {R : Int → World → Prop} (h : GAt w i s gg g lab G) (hln : l.length ≤ 1024) (hgd : ∀ e ∈ l, e.Good) (hop : OpensTo i s gg g lab G num l)
    (hx : (∀ e ∈ l, named nm e = false) → ∀ w', GAt w' i s gg g lab G → Tch w.heap.size i.own w w' → R 3 w')
    (hc : ∀ K e, l[K]? = some e → named nm e = true → (∀ j, j < K → ∀ x, l[j]? = some x → named nm x = false) → dropEnd l K ≤ K → ∀ W, GAt W i s gg g lab G → Tch w.heap.size i.own w W →
      Calls Tryz.prog 34 #[.pointer (some ⟨gg, 0, none⟩), .int .i64 (num : Int), .int .i64 ((16 * dropEnd l K : Nat) : Int)] W fun e w' => ∃ x, e = .returned (.int .i64 x) ∧ R x w')
    (hw : ∀ K e, l[K]? = some e → named nm e = true → (∀ j, j < K → ∀ x, l[j]? = some x → named nm x = false) → K < dropEnd l K → ∀ W z, GAt W i s gg g lab G → Tch w.heap.size i.own w W → w.heap.size ≤ z → Blk W z 235 (bvs (packB EntV.zero)).toArray →
      Calls Tryz.prog 33 #[.pointer (some ⟨gg, 0, none⟩), .int .i64 (num : Int), .int .i64 ((16 * K : Nat) : Int), .slice (some ⟨z, 0, none⟩) 16 16] W fun e w' => ∃ x, e = .returned (.int .i64 x) ∧ R x w') :
    Calls Tryz.prog 55 #[.pointer (some ⟨gg, 0, none⟩), .int .i64 (num : Int), .string nm] w fun e w' => ∃ x, e = .returned (.int .i64 x) ∧ R x w' := by
  have H := hide h
  have HOP := hide hop
  have HLN := hide (And.intro hln hgd)
  have HX := hide hx
  have HC := hide hc
  have HW := hide hw
  clear h hop hln hx hw hc
  go_enter Tryz.func55, Tryz.ntmps55
  go_wp2_with fail
  refine (HOP.out w H.out).mono ?_
  rintro e w1 ⟨A, c, rfl, hown, ha1, ht1⟩
  obtain ⟨N, hN⟩ : ∃ N, l.length = N := ⟨_, rfl⟩
  have HN := hide hN
  rw [hN] at hown ⊢
  have HO1 := hide hown
  have HA1 := hide ha1
  have HT1 := hide ht1
  clear hown ha1 ht1 hN
  go_wp2_with fail
  go_loopg [9, 10, 11, 12, 24] N (fun gh x9 x10 x11 x12 x24 wr => ∃ k : Nat, k ≤ N ∧ gh = N - k ∧ x24 = .int .i64 (k : Int) ∧ Hid (GAt wr i s gg g lab G) ∧ Hid (Tch w.heap.size i.own w wr) ∧ Hid (wr.ownsRow w.heap.size 125 2 (.slice A N c) N (flat2 l)) ∧ Hid (∀ j, j < k → ∀ x, l[j]? = some x → named nm x = false))
  case atStart => exact ⟨0, Nat.zero_le _, rfl, rfl, HA1, HT1, HO1, hide fun j hj => absurd hj (Nat.not_lt_zero _)⟩
  case round =>
    obtain ⟨k, hk, hgh, rfl, HA, HT, HO, HNO⟩ := hrel
    have HGH := hide hgh
    have hln := HLN.out.1
    have hnn := HN.out
    clear hgh HA1 HT1 HO1
    rcases Nat.lt_or_ge k N with hkl | hkl
    · obtain ⟨e, he⟩ : ∃ e, l[k]? = some e := ⟨_, List.getElem?_eq_getElem (by omega)⟩
      obtain ⟨ga, rfl, hga, hrg⟩ := ent_range HO.out (by omega)
      have hrg' : wr.rangeAt ga (k * 2) [.string e.name, .int .u16 (e.num.toNat : Int)] := hrg k e he
      have HRG := hide hrg'
      have HE := hide he
      have t1 : decide ((k : Int) < (N : Int)) = true := by simp; omega
      have t1' : (k : Int) < (N : Int) := by omega
      have e64 : IntKind.i64.wrap ((k : Int) + 1) = (k : Int) + 1 := IntWalk.i64_in _ (by omega)
      have hsz : (Tryz.prog.info? 125).map (·.size) = some ([Value.string e.name, .int .u16 (e.num.toNat : Int)] : List Value).length := size_ent
      have HSZ := hide hsz
      have HGA := hide hga
      clear hrg hrg' he hsz hln hnn
      go_upto_region 7 with (first | ((with_reducible refine at_load 125 (.tmp 27) ?_); refine wpList_load_mid rfl 125 (.tmp 27) rfl ga (k * 2) (by rfl) [.string e.name, .int .u16 (e.num.toNat : Int)] _ HRG.out Tryz.underlying125 rfl HSZ.out ?_) | fail)
      refine at_world (fun W => ∃ z, z = wr.heap.size ∧ Below wr.heap.size wr W ∧ Blk W z 125 #[.string e.name, .int .u16 (e.num.toNat : Int)]) ⟨_, rfl, (Below.refl _ _).alloc (Nat.le_refl _) _, Blk.new _ _ _⟩ (fun w5 h5 => ?_)
      obtain ⟨z, hz, hb5, hZ5⟩ := h5
      rw [← hz]
      have HA5 := hide (HA.out.below hb5)
      have HT5 := hide (HT.out.trans ((Tch.of_below hb5).mono HT.out.size fun _ _ h => h))
      have HO5 := hide (own_below HO.out hb5)
      have z0 := hZ5.cell 0
      have z1 := hZ5.cell 1
      have zl := hZ5.lt
      clear hz hb5 hZ5 HA HT HO HRG
      by_cases hnm : named nm e = true
      · obtain ⟨hn1, hn2⟩ := named_true hnm
        have HNM := hide hnm
        have hn0 : e.num.toNat ≠ 0 := fun h0 => hn1 (UInt16.toNat_inj.1 h0)
        have t0 : ((e.num.toNat : Int) == 0) = false := by rw [beq_eq_false_iff_ne]; omega
        have t0' : ¬ (e.num.toNat : Int) = 0 := by omega
        have t3 := name_eq_true hn2
        have hpk := pack_ok ⟨#[]⟩ 0 (by decide)
        rw [show (((0 : UInt16).toNat : Nat) : Int) = 0 from rfl] at hpk
        have HPK := hide hpk
        have HTH := hide (own2_there HO5.out hkl)
        have HSZ0 := hide (show (Tryz.prog.info? 125).map (·.size) = some EntV.zero.cells.toArray.size from size_ent)
        have HON := hide (show EntV.zero.cells.toArray.all (·.oneCell') = true from by simp [EntV.zero, EntV.cells, Value.oneCell'])
        clear hnm hn1 hn2 hn0 hpk
        go_upto_region 9 with (first | ((with_reducible refine at_build 125 #[] ?_); refine wpList_zero_as rfl 125 rfl _ (build_ent0 _) ?_) | ((with_reducible refine at_store 125 (.tmp 41) (.tmp 40) ?_); refine wpList_store_mid rfl 125 (.tmp 41) (.tmp 40) rfl ga (k * 2) EntV.zero.cells.toArray (by rfl) (by rfl) HTH.out HSZ0.out HON.out ?_) | fail)
        refine at_world (fun W => W = w5.setCells ga (k * 2) EntV.zero.cells) rfl (fun w6 h6 => ?_)
        have hgw : w.heap.size ≤ ga := (own_block_ge HO5.out rfl).1
        have htg : Tch w5.heap.size (· = ga) w5 w6 := by rw [h6]; exact Tch.setCells (S := (· = ga)) (fun _ => rfl) _ _ _
        have ho6 := own2_set EntV.zero HO5.out hkl HN.out
        rw [← h6] at ho6
        have hll := H.out.tx.log.log.lt
        have hgg := H.out.gp.lt
        have HA6 := hide (HA5.out.apart htg (fun b hb => ⟨fun ho => H.out.tx.other_new (by rw [hb]; exact hgw) ho, by omega, by omega⟩))
        have HT6 := hide (HT5.out.trans (htg.mono HT5.out.size (fun b hk hb => by omega)))
        have HO6 := hide ho6
        obtain ⟨L, hL⟩ : ∃ L, l.set k EntV.zero = L := ⟨_, rfl⟩
        rw [hL] at HO6
        have hLN : L.length = N := by rw [← hL, List.length_set]; exact HN.out
        have hdl : dropEnd l k = trimN L N := by unfold dropEnd; rw [hL, HN.out]
        have HLL := hide (And.intro hLN (And.intro hdl HLN.out.1))
        clear h6 htg hgw ho6 hll hgg hL hLN hdl HA5 HT5 HO5 HTH z0 z1 zl t0 t0' t3
        go_wp2_with fail
        go_loopg [11] N (fun gh x11 wr2 => ∃ n : Nat, n ≤ N ∧ gh = n ∧ x11 = .int .i64 (n : Int) ∧ wr2 = w6 ∧ Hid (trimN L n = trimN L N))
        case atStart => exact ⟨N, Nat.le_refl _, rfl, rfl, rfl, hide rfl⟩
        case round =>
          obtain ⟨n, hn, hgh2, rfl, rfl, HTR⟩ := hrel
          have HGH2 := hide hgh2
          have HNN := hide (And.intro hn hkl)
          clear hgh2
          cases n with
          | zero =>
            have hde : dropEnd l k = 0 := by rw [HLL.out.2.1, ← HTR.out]; rfl
            have HDE := hide hde
            obtain ⟨y, hy⟩ : ∃ y : Nat, 16 * 0 = y := ⟨_, rfl⟩
            have HY := hide hy
            have hin : 0 ≤ k := Nat.zero_le _
            have t9 : decide ((0 : Int) ≤ (k : Int)) = true := by simp
            have hy0 : y = 0 := by omega
            subst hy0
            clear hde hy hn hk
            have hres := HC.out k e HE.out HNM.out HNO.out (by rw [HDE.out]; have := hin; omega) wr HA6.out HT6.out
            rw [HDE.out, HY.out] at hres
            have HRES := hide hres
            clear hres
            go_wp2_with fail
            refine HRES.out.mono ?_
            rintro _ w8 ⟨x, rfl, hr⟩
            have HR := hide hr
            clear hr HRES
            go_wp2_with fail
            go_returns
            exact ⟨x, rfl, HR.out⟩
          | succ m =>
            obtain ⟨em, hem⟩ : ∃ em, L[m]? = some em := ⟨_, List.getElem?_eq_getElem (by have := HLL.out.1; omega)⟩
            obtain ⟨ga', hga', -, hrg2⟩ := ent_range HO6.out (by omega)
            obtain rfl : ga = ga' := by simpa using hga'
            have y1 : wr.cell? ⟨ga, m * 2 + 1, none⟩ = some (.int .u16 (em.num.toNat : Int)) := hrg2 m em hem 1 _ rfl
            have yl : ga < wr.heap.size := (own_block_ge HO6.out rfl).2
            have hNs := HLL.out.1
            have hNm := HN.out
            have hl1024 := HLL.out.2.2
            have a1 : decide ((0 : Int) < (((m + 1 : Nat)) : Int)) = true := by simp
            have a1' : (0 : Int) < (((m + 1 : Nat)) : Int) := by omega
            have a2 : IntKind.i64.wrap ((((m + 1 : Nat)) : Int) - 1) = (m : Int) := by rw [IntWalk.i64_in _ (by omega)]; omega
            have a4 : IntKind.i64.wrap (m : Int) = (m : Int) := IntWalk.i64_in _ (by omega)
            have a5 : IntKind.i64.wrap ((m : Int) + 1 - 1) = (m : Int) := by rw [IntWalk.i64_in _ (by omega)]; omega
            have a6 : decide ((0 : Int) < (m : Int) + 1) = true := decide_eq_true (by omega)
            have a7 : (0 : Int) < (m : Int) + 1 := by omega
            have a3 : decide ((m : Int) < (N : Int)) = true := by simp; omega
            have a3' : (m : Int) < (N : Int) := by omega
            have HEM := hide hem
            clear hga' hrg2 hem hNs hNm hl1024 hn hk
            by_cases hz : em.num = 0
            · have HST := hide (trimN_step HEM.out hz)
              have b1 : ((em.num.toNat : Int) == 0) = true := by rw [hz]; rfl
              have b1' : (em.num.toNat : Int) = 0 := by rw [hz]; rfl
              clear hz
              go_wp2_with fail
              go_roundg m
              case rel => exact ⟨m, by have := HNN.out.1; omega, rfl, by first | rfl | go_num, rfl, hide (HST.out.symm.trans HTR.out)⟩
              case measure => have := HGH2.out; omega
            · have hz' : em.num.toNat ≠ 0 := fun h0 => hz (UInt16.toNat_inj.1 h0)
              have b1 : ((em.num.toNat : Int) == 0) = false := by rw [beq_eq_false_iff_ne]; omega
              have b1' : ¬ (em.num.toNat : Int) = 0 := by omega
              have hde : dropEnd l k = m + 1 := by rw [HLL.out.2.1, ← HTR.out, trimN_stop HEM.out hz]
              have HDE := hide hde
              clear hz hz' hde
              by_cases hin : m + 1 ≤ k
              · obtain ⟨y, hy⟩ : ∃ y : Nat, 16 * (m + 1) = y := ⟨_, rfl⟩
                have HY := hide hy
                have e16 : IntKind.i64.wrap ((((m + 1 : Nat)) : Int) * 16) = (y : Int) := by rw [IntWalk.i64_in _ (by have := HLL.out; have := HNN.out; have := HN.out; omega)]; omega
                have e17 : IntKind.i64.wrap (((m : Int) + 1) * 16) = (y : Int) := by rw [IntWalk.i64_in _ (by have := HLL.out; have := HNN.out; have := HN.out; omega)]; omega
                have t9 : decide ((((m + 1 : Nat)) : Int) ≤ (k : Int)) = true := by simp; omega
                have t8 : decide ((m : Int) + 1 ≤ (k : Int)) = true := by simp; omega
                have t8' : (m : Int) + 1 ≤ (k : Int) := by omega
                clear hy
                have hin := hin
                have hres := HC.out k e HE.out HNM.out HNO.out (by rw [HDE.out]; have := hin; omega) wr HA6.out HT6.out
                rw [HDE.out, HY.out] at hres
                have HRES := hide hres
                clear hres
                go_wp2_with fail
                refine HRES.out.mono ?_
                rintro _ w8 ⟨x, rfl, hr⟩
                have HR := hide hr
                clear hr HRES
                go_wp2_with fail
                go_returns
                exact ⟨x, rfl, HR.out⟩
              · obtain ⟨y, hy⟩ : ∃ y : Nat, 16 * k = y := ⟨_, rfl⟩
                have HY := hide hy
                have e16 : IntKind.i64.wrap ((k : Int) * 16) = (y : Int) := by rw [IntWalk.i64_in _ (by have := HLL.out; have := HNN.out; have := HN.out; omega)]; omega
                have t9 : decide ((((m + 1 : Nat)) : Int) ≤ (k : Int)) = false := by simp; omega
                have t8 : decide ((m : Int) + 1 ≤ (k : Int)) = false := by simp; omega
                have t8' : ¬ (m : Int) + 1 ≤ (k : Int) := by omega
                clear hy
                go_wp2_with (first | ((with_reducible refine at_build 125 #[] ?_); refine wpList_zero_as rfl 125 rfl _ (build_ent0 _) ?_) | fail)
                refine (HPK.out wr).mono ?_
                rintro _ w66 ⟨rfl, hb6⟩
                have HA66 := hide (HA6.out.below hb6)
                have HT66 := hide (HT6.out.trans ((Tch.of_below hb6).mono HT6.out.size fun _ _ h => h))
                have HPS := hide (pack_size EntV.zero)
                clear hb6 HA6 HT6 HO6
                go_upto_region 15 with (first | ((with_reducible refine at_store 235 (.tmp 12) (.tmp 66) ?_); refine wpList_store_blk rfl 235 (.tmp 12) (.tmp 66) rfl w66.heap.size _ _ _ (by rfl) (by rfl) (Blk.new _ _ _) HPS.out (by rw [List.size_toArray, List.size_toArray, bvs_length, packB_length]; rfl) (bvs_oneCell _) (fun _ => ?_)) | fail)
                refine at_world (fun W => ∃ z, z = w66.heap.size ∧ Below w66.heap.size w66 W ∧ Blk W z 235 (bvs (packB EntV.zero)).toArray) ⟨_, rfl, below_setRow ((Below.refl _ _).alloc (Nat.le_refl _) _) (Nat.le_refl _) _, (Blk.new _ _ _).setRow_same _⟩ (fun w7 h7 => ?_)
                obtain ⟨z', hz', hb7, hZ7⟩ := h7
                rw [← hz']
                have HA7 := hide (HA66.out.below hb7)
                have HT7 := hide (HT66.out.trans ((Tch.of_below hb7).mono HT66.out.size fun _ _ h => h))
                have hzw : w.heap.size ≤ z' := by rw [hz']; exact HT66.out.size
                have HZ7 := hide (And.intro hzw hZ7)
                clear hz' hb7 hZ7 hzw HA66 HT66
                have hres := HW.out k e HE.out HNM.out HNO.out (by rw [HDE.out]; have := hin; omega) w7 z' HA7.out HT7.out HZ7.out.1 HZ7.out.2
                rw [HY.out] at hres
                have HRES := hide hres
                clear hres
                go_wp2_with (first | ((with_reducible refine at_slice 235 (.tmp 12) none none ?_); refine wpList_run rfl _ (exec_slice 235 (.tmp 12) none none rfl (run_slice_all 235 5 z' 16 Tryz.underlying235 (by kernel_rfl) (by decide))) ?_) | fail)
                refine HRES.out.mono ?_
                rintro _ w8 ⟨x, rfl, hr⟩
                have HR := hide hr
                clear hr HRES
                go_wp2_with fail
                go_returns
                exact ⟨x, rfl, HR.out⟩
      · have hnm' : named nm e = false := by simpa using hnm
        have hno' : ∀ j, j < k + 1 → ∀ x, l[j]? = some x → named nm x = false := fun j hj x hx => by
          rcases Nat.lt_succ_iff_lt_or_eq.1 hj with h1 | rfl
          · exact HNO.out j h1 x hx
          · rw [HE.out] at hx
            cases hx
            exact hnm'
        have HNO' := hide hno'
        by_cases hz0 : e.num = 0
        · have t0 : ((e.num.toNat : Int) == 0) = true := by rw [hz0]; rfl
          have t0' : (e.num.toNat : Int) = 0 := by rw [hz0]; rfl
          have hn0 : e.num.toNat = 0 := by rw [hz0]; rfl
          clear hnm hnm' hno' hz0
          go_wp2_with fail
          go_roundg (N - (k + 1))
          case rel => exact ⟨k + 1, by omega, rfl, by first | rfl | go_num, HA5, HT5, HO5, HNO'⟩
          case measure => have := HGH.out; omega
        · have hne : e.name ≠ nm := by
            rcases named_false hnm' with h0 | h0
            · exact absurd h0 hz0
            · exact h0
          have t3 := name_eq_false hne
          have hn0 : e.num.toNat ≠ 0 := fun h0 => hz0 (UInt16.toNat_inj.1 h0)
          have t0 : ((e.num.toNat : Int) == 0) = false := by rw [beq_eq_false_iff_ne]; omega
          have t0' : ¬ (e.num.toNat : Int) = 0 := by omega
          clear hnm hnm' hno' hz0 hne hn0
          go_wp2_with fail
          go_roundg (N - (k + 1))
          case rel => exact ⟨k + 1, by omega, rfl, by first | rfl | go_num, HA5, HT5, HO5, HNO'⟩
          case measure => have := HGH.out; omega
    · have t1 : decide ((k : Int) < (N : Int)) = false := by simp; omega
      have t1' : ¬ (k : Int) < (N : Int) := by omega
      have hno : ∀ e ∈ l, named nm e = false := fun e he => by
        obtain ⟨j, hj⟩ := List.getElem?_of_mem he
        exact HNO.out j (by have := (List.getElem?_eq_some_iff.1 hj).1; omega) e hj
      have HNO' := hide hno
      clear hkl hk hln hnn hno
      go_wp2
      go_returns
      exact ⟨3, rfl, HX.out HNO'.out _ HA.out HT.out⟩
end
end Go.Proofs.YthmkgohfeahdhaaGreat
namespace Go.Proofs.YthmkgohfeahdhaaGreat
open Go.RowKit
set_option linter.unusedSimpArgs false
set_option linter.unusedVariables false

/-- what a call on one node leaves of a group's other nodes -/
structure Mov (G G' : GS) (num : Nat) (p : Nat → Bool) (κ : Nat → Nat) (p' : Nat → Bool) (κ' : Nat → Nat) : Prop where
  nd : ∀ k, k ≠ num → G'.nd k = G.nd k
  by_ : ∀ x, G.tk x = true → (∀ c, p c = true → κ c ≠ x) → G'.by_ x = G.by_ x
  tk : ∀ x, G.tk x = true → (∀ c, p c = true → κ c ≠ x) → G'.tk x = true
  new : ∀ c, p' c = true → (∃ c0, p c0 = true ∧ κ' c = κ c0) ∨ G.tk (κ' c) = false
  more : ∀ x, G'.tk x = true → G.tk x = true ∨ ∃ c, p' c = true ∧ κ' c = x
theorem Left.mov {G G' : GS} {num : Nat} {p p' : Nat → Bool} {κ κ' : Nat → Nat} (h : Left G G' num p p' κ κ') : Mov G G' num p κ p' κ' :=
  ⟨h.nd, h.by_, fun x hx _ => h.tk x hx, fun c hc => by
    cases hp : p c with
    | true => exact .inl ⟨c, hp, (h.old c hp).1⟩
    | false => exact .inr (h.fresh c hc hp), fun x hx => (h.new x hx).imp id fun ⟨c, h1, _, h2⟩ => ⟨c, h1, h2⟩⟩
theorem Lost.mov {G G' : GS} {m num : Nat} {n : NodeV} {p p' : Nat → Bool} {κ : Nat → Nat} (h : Lost G G' num p κ) (ht : Tree G m n p κ) (hp : ∀ c, p' c = true → p c = true) : Mov G G' num p κ p' κ :=
  ⟨h.nd, fun x _ hx => h.by_ x hx, fun x h1 hx => by rw [h.tk x hx]; exact h1, fun c hc => .inl ⟨c, hp c hc, rfl⟩, fun x hx => by
    by_cases hn : ∃ c, p c = true ∧ κ c = x
    · obtain ⟨c, h1, rfl⟩ := hn
      exact .inl (ht.own c h1).2
    · rw [h.tk x fun c hc e => hn ⟨c, hc, e⟩] at hx
      exact .inl hx⟩
theorem FileAt.mov {G G' : GS} {m c len num : Nat} {n : NodeV} {κ κ1 κ2 : Nat → Nat} {p1 p2 : Nat → Bool} {f : Nat → UInt8} (h : FileAt G m n c κ len f) (hl : Mov G G' num p1 κ1 p2 κ2) (ha : Apart p1 κ1 (prOf c) κ) : FileAt G' m n c κ len f :=
  h.other (fun k hk => hl.by_ _ (h.tree.own k hk).2 fun c' hc' => ha c' k hc' hk) (fun k hk => hl.tk _ (h.tree.own k hk).2 fun c' hc' => ha c' k hc' hk)
theorem Apart.mov {G G' : GS} {m num : Nat} {n : NodeV} {κ κ1 κ2 : Nat → Nat} {p p1 p2 : Nat → Bool} (ht : Tree G m n p κ) (hl : Mov G G' num p1 κ1 p2 κ2) (ha : Apart p1 κ1 p κ) : Apart p2 κ2 p κ := fun c c' h1 h2 => by
  rcases hl.new c h1 with ⟨c0, h3, h4⟩ | h3
  · rw [h4]; exact ha c0 c' h3 h2
  · intro he
    rw [he, (ht.own c' h2).2] at h3
    cases h3
theorem DirN.mov {G G' : GS} {g : GeoN} {num num' : Nat} {l : List EntV} {κ κ1 κ2 : Nat → Nat} {p1 p2 : Nat → Bool} (h : DirN G g num l κ) (hl : Mov G G' num' p1 κ1 p2 κ2) (hn : num ≠ num') (ha : Apart p1 κ1 (prOf (blks (16 * l.length))) κ) : DirN G' g num l κ := by
  have e := hl.nd num hn
  exact ⟨by rw [e]; exact h.kind, by rw [e]; exact h.links, by rw [e]; exact h.size, by rw [e]; exact h.file.mov hl ha, h.len, h.good⟩
/-- a small directory's own blocks -/
def dk (g : GeoN) (num c : Nat) (κ : Nat → Nat) : List Nat := g.base :: (g.base + g.bitmap + (num - 1) / 2) :: ((List.range 6).filter (prOf c)).map fun k => g.data + κ k
/-- a directory's step -/
structure DStep (s s' : Sto) (g : GeoN) (G G' : GS) (num : Nat) (l l' : List EntV) (κ κ' : Nat → Nat) (K0 T : List Nat) : Prop where
  dir : DirN G' g num l' κ'
  links : (G'.nd num).links = (G.nd num).links
  gen : (G'.nd num).gen = (G.nd num).gen
  mov : Mov G G' num (prOf (blks (16 * l.length))) κ (prOf (blks (16 * l'.length))) κ'
  cnt : G'.cnt g.blocks + nkeys (blks (16 * l.length)) = G.cnt g.blocks + nkeys (blks (16 * l'.length))
  inn : s'.In (K0 ++ T)
  tlen : T.length ≤ 12
  small : max (blks (16 * l.length)) (blks (16 * l'.length)) ≤ 6 → ∀ x ∈ T, x ∈ dk g num (max (blks (16 * l.length)) (blks (16 * l'.length))) κ'
  stay : Stay s s' g
  keep : ∀ c, prOf (blks (16 * l.length)) c = true → prOf (blks (16 * l'.length)) c = true → κ' c = κ c
theorem dk_length (g : GeoN) (num c : Nat) (κ : Nat → Nat) : (dk g num c κ).length ≤ 8 := by
  have := List.length_filter_le (prOf c) (List.range 6)
  simp only [dk, List.length_cons, List.length_map, List.length_range] at this ⊢
  omega
/-- a small directory's step touches its own blocks alone -/
theorem DStep.inn' {s s' : Sto} {g : GeoN} {G G' : GS} {num : Nat} {l l' : List EntV} {κ κ' : Nat → Nat} {T : List Nat} (h : DStep s s' g G G' num l l' κ κ' (dk g num (blks (16 * l.length)) κ) T) (hle : l.length ≤ l'.length) (h6 : blks (16 * l'.length) ≤ 6) : s'.In (dk g num (blks (16 * l'.length)) κ') := by
  have hc : blks (16 * l.length) ≤ blks (16 * l'.length) := by unfold blks; omega
  have hs := h.small (by rw [Nat.max_eq_right hc]; exact h6)
  rw [Nat.max_eq_right hc] at hs
  refine h.inn.mono fun x hx => ?_
  rcases List.mem_append.1 hx with hx | hx
  · unfold dk at hx ⊢
    rcases List.mem_cons.1 hx with rfl | hx
    · exact List.mem_cons_self
    · rcases List.mem_cons.1 hx with rfl | hx
      · exact List.mem_cons_of_mem _ List.mem_cons_self
      · obtain ⟨k, hk, rfl⟩ := List.mem_map.1 hx
        obtain ⟨hk1, hk2⟩ := List.mem_filter.1 hk
        have hk3 : prOf (blks (16 * l'.length)) k = true := prOf_true.2 (by have := prOf_true.1 hk2; omega)
        exact List.mem_cons_of_mem _ (List.mem_cons_of_mem _ (List.mem_map.2 ⟨k, List.mem_filter.2 ⟨hk1, hk3⟩, by rw [h.keep k hk2 hk3]⟩))
  · exact hs x hx
def DRes (w w' : World) (i : Ids) (s : Sto) (gg : Nat) (g : GeoN) (lab : Int) (G : GS) (num : Nat) (l l' : List EntV) (κ : Nat → Nat) (K0 : List Nat) : Prop :=
  ∃ s' G' κ' T, GAt w' i s' gg g lab G' ∧ DStep s s' g G G' num l l' κ κ' K0 T ∧ Tch w.heap.size i.own w w'
/-- there was no room -/
def DFull (w w' : World) (i : Ids) (s : Sto) (gg : Nat) (g : GeoN) (lab : Int) (G : GS) (l l' : List EntV) : Prop :=
  g.blocks + nkeys (blks (16 * l.length)) < G.cnt g.blocks + nkeys (blks (16 * l'.length)) ∧ ∃ s' G', GAt w' i s' gg g lab G' ∧ Stay s s' g ∧ Tch w.heap.size i.own w w'
section
variable {w w' : World} {i : Ids} {s : Sto} {gg : Nat} {g : GeoN} {lab : Int} {G : GS} {K0 : List Nat}
theorem one_blk (a : Nat) : blks (16 * a + 16) - 16 * a / 64 = 1 := by unfold blks; omega
theorem dwrite {num at_ z : Nat} {l l' : List EntV} {x : EntV} {κ : Nat → Nat} (h : GAt w i s gg g lab G) (hK0 : s.In K0) (hKl : K0.length ≤ 16) (h1 : 1 ≤ num) (h2 : num ≤ g.nodes) (hb5 : g.blocks ≤ 512) (hd : DirN G g num l κ)
    (hat : at_ ≤ l.length) (hat2 : at_ < 1024) (hlen : l'.length = max l.length (at_ + 1)) (hgd : ∀ e ∈ l', e.Good) (hby : ∀ j, j < 16 * l'.length → over (fun j => (pks l).getD j 0) (16 * at_) (packB x) 16 j = (pks l').getD j 0)
    (hzo : ¬ i.own z) (hZ : Blk w z 235 (bvs (packB x)).toArray) :
    Calls Tryz.prog 33 #[.pointer (some ⟨gg, 0, none⟩), .int .i64 (num : Int), .int .i64 ((16 * at_ : Nat) : Int), .slice (some ⟨z, 0, none⟩) 16 16] w fun e w' =>
      (e = .returned (.int .i64 10) ∧ DFull w w' i s gg g lab G l l') ∨ (e = .returned (.int .i64 0) ∧ DRes w w' i s gg g lab G num l l' κ K0) := by
  have hll := hd.len
  have hpl : (packB x).length = 16 := packB_length x
  have hmax : max (blks (16 * l.length)) (blks (16 * at_ + 16)) = blks (16 * l'.length) := by rw [hlen]; unfold blks; omega
  have hms : max (16 * l.length) (16 * at_ + 16) = 16 * l'.length := by rw [hlen]; omega
  have h1b := one_blk at_
  have hrd := Rd.of_bytes hZ hpl
  have hwr := write_file (num := num) (off := 16 * at_) (cap := 16) (c := blks (16 * l.length)) (sz := 16 * l.length) (κ := κ) (f := fun j => (pks l).getD j 0) (K0 := K0) (data := packB x) (A := some ⟨z, 0, none⟩) h hK0 h1 h2 hb5 (by rw [hd.kind]; decide) hd.size hd.file (by omega) (by omega) (by omega) (by omega) (by rw [hpl]; exact hrd) (fun b hb => by cases hb; exact hzo)
    (by rw [hpl]; omega) (by rw [hpl, h1b]; split <;> omega) (by unfold blks; omega) (fun n' hs hd' => check_dir hs hd.kind hd.links (by rw [hd.size, hpl]; omega) (by rw [hd.size, hpl, hms]; omega))
  rw [hpl, hmax, hms, h1b] at hwr
  refine hwr.mono ?_
  rintro e w' (⟨he, hno, hs⟩ | ⟨he, s', G', κ', k1, k2, k3, k4, k5, k6, k7, k8, k9, k10, k11⟩)
  · exact .inl ⟨he, hno, hs⟩
  · refine .inr ⟨he, s', G', κ', (g.base :: ((tkeys (16 * at_ / 64) 1).filter (prOf (blks (16 * l'.length)))).map fun k => g.data + κ' k) ++ [g.base + g.bitmap + (num - 1) / 2], k1, ⟨⟨k4.trans hd.kind, by rw [k5]; exact hd.links, k3, k2.congr hby, by omega, hgd⟩, k5, k6, k7.mov, k8, ?_, ?_, ?_, k10, fun c hc _ => (k7.old c hc).1⟩, k11⟩
    · unfold KL at k9
      rw [List.append_assoc] at k9
      exact k9
    · have := List.length_filter_le (prOf (blks (16 * l'.length))) (tkeys (16 * at_ / 64) 1)
      have e1 : (tkeys (16 * at_ / 64) 1).length = 5 := rfl
      simp only [List.length_append, List.length_cons, List.length_map, List.length_nil]
      omega
    · intro hsm y hy
      have hle : blks (16 * l.length) ≤ blks (16 * l'.length) := by rw [← hmax]; omega
      rw [Nat.max_eq_right hle] at hsm ⊢
      rcases List.mem_append.1 hy with hy | hy
      · rcases List.mem_cons.1 hy with rfl | hy
        · exact List.mem_cons_self
        · obtain ⟨k, hk, rfl⟩ := List.mem_map.1 hy
          obtain ⟨hk1, hk2⟩ := List.mem_filter.1 hk
          refine List.mem_cons_of_mem _ (List.mem_cons_of_mem _ (List.mem_map.2 ⟨k, List.mem_filter.2 ⟨List.mem_range.2 ?_, hk2⟩, rfl⟩))
          have := prOf_true.1 hk2
          omega
      · rw [List.mem_singleton.1 hy]
        exact List.mem_cons_of_mem _ List.mem_cons_self
theorem dcut {num n : Nat} {l : List EntV} {κ : Nat → Nat} (h : GAt w i s gg g lab G) (hK0 : s.In K0) (hKl : K0.length ≤ 16) (h1 : 1 ≤ num) (h2 : num ≤ g.nodes) (hb5 : g.blocks ≤ 512) (hd : DirN G g num l κ) (hn : n < l.length) :
    Calls Tryz.prog 34 #[.pointer (some ⟨gg, 0, none⟩), .int .i64 (num : Int), .int .i64 ((16 * n : Nat) : Int)] w fun e w' => e = .returned (.int .i64 0) ∧ DRes w w' i s gg g lab G num l (l.take n) κ K0 := by
  have hll := hd.len
  have hln : (l.take n).length = n := by rw [List.length_take]; omega
  have hct := cut_file (num := num) (size := 16 * n) (sz := 16 * l.length) (K0 := K0) h hK0 (by split <;> (try split) <;> omega) h1 h2 hb5 (by rw [hd.kind]; decide) hd.size (by omega) hd.file (by omega)
    (fun n' hs hd' => check_dsize hs hd.kind hd.links (by omega) (by omega))
  refine hct.mono ?_
  rintro e w' ⟨he, s', G', k1, k2, k3, k4, k5, k6, k7, k8, k9, k10, k11⟩
  have hle : blks (16 * n) ≤ blks (16 * l.length) := by unfold blks; omega
  refine ⟨he, s', G', κ, (g.base :: (([256, 257, 258, 259, 260, 261, 262, 263, 264].filter (prOf (blks (16 * l.length)))).map fun k => g.data + κ k) ++ [g.data + κ (16 * n / 64)]) ++ [g.base + g.bitmap + (num - 1) / 2], k1, ⟨⟨k4.trans hd.kind, by rw [k5]; exact hd.links, by rw [hln]; exact k3, by rw [hln]; exact k2.congr (fun j hj => pks_take hj (by omega)), by omega, fun e he => hd.good e (List.mem_of_mem_take he)⟩, k5, k6, ?_, by rw [hln]; exact k8, ?_, ?_, ?_, k10, fun _ _ _ => rfl⟩, k11⟩
  · rw [hln]
    exact k7.mov hd.file.tree (fun c hc => prOf_true.2 (by have := prOf_true.1 hc; omega))
  · unfold cutL at k9
    simp only [List.append_assoc, List.cons_append] at k9 ⊢
    exact k9
  · have := List.length_filter_le (prOf (blks (16 * l.length))) [256, 257, 258, 259, 260, 261, 262, 263, 264]
    simp only [List.length_append, List.length_cons, List.length_map, List.length_nil] at this ⊢
    omega
  · intro hsm y hy
    rw [hln, Nat.max_eq_left hle] at hsm ⊢
    rcases List.mem_append.1 hy with hy | hy
    · rcases List.mem_append.1 hy with hy | hy
      · rcases List.mem_cons.1 hy with rfl | hy
        · exact List.mem_cons_self
        · obtain ⟨k, hk, rfl⟩ := List.mem_map.1 hy
          obtain ⟨hk1, hk2⟩ := List.mem_filter.1 hk
          have h3 := prOf_true.1 hk2
          simp only [List.mem_cons, List.not_mem_nil, or_false] at hk1
          omega
      · rw [List.mem_singleton.1 hy]
        refine List.mem_cons_of_mem _ (List.mem_cons_of_mem _ (List.mem_map.2 ⟨16 * n / 64, List.mem_filter.2 ⟨List.mem_range.2 ?_, prOf_true.2 ?_⟩, rfl⟩)) <;> unfold blks at * <;> omega
    · rw [List.mem_singleton.1 hy]
      exact List.mem_cons_of_mem _ List.mem_cons_self
theorem DRes.before {w0 : World} {num : Nat} {l l' : List EntV} {κ : Nat → Nat} (ht : Tch w0.heap.size i.own w0 w) (h : DRes w w' i s gg g lab G num l l' κ K0) : DRes w0 w' i s gg g lab G num l l' κ K0 := by
  obtain ⟨s', G', κ', T, k1, k2, k3⟩ := h
  exact ⟨s', G', κ', T, k1, k2, ht.trans (k3.mono ht.size fun _ _ h => h)⟩
theorem DFull.before {w0 : World} {l l' : List EntV} (ht : Tch w0.heap.size i.own w0 w) (h : DFull w w' i s gg g lab G l l') : DFull w0 w' i s gg g lab G l l' := by
  obtain ⟨k0, s', G', k1, k2, k3⟩ := h
  exact ⟨k0, s', G', k1, k2, ht.trans (k3.mono ht.size fun _ _ h => h)⟩
theorem DFull.never {l l' : List EntV} (hl : l'.length = l.length) (h : DFull w w' i s gg g lab G l l') : False := by
  have := h.1
  have h2 := cnt_le_ G g.blocks
  rw [hl] at this
  omega
/-- the places of what was turned -/
def turnL (l : List EntV) (nm : ByteArray) (v : UInt16) : List EntV := l.set (l.findIdx (named nm)) ⟨nm, v⟩
theorem find_at {l : List EntV} {nm : ByteArray} {K : Nat} {e : EntV} (h : l[K]? = some e) (he : named nm e = true) (hno : ∀ j, j < K → ∀ x, l[j]? = some x → named nm x = false) : l.findIdx (named nm) = K := by
  obtain ⟨hK, rfl⟩ := List.getElem?_eq_some_iff.1 h
  rw [List.findIdx_eq hK]
  exact ⟨he, fun j hj => hno j hj _ (List.getElem?_eq_getElem (by omega))⟩
theorem fresh_own {z : Nat} {w0 : World} (h : GAt w0 i s gg g lab G) (hz : w0.heap.size ≤ z) : ¬ i.own z := h.tx.other_new hz
/-- an entry added -/
theorem dadd_ok {num : Nat} {l : List EntV} {nm : ByteArray} {v : UInt16} {κ : Nat → Nat} (h : GAt w i s gg g lab G) (hK0 : s.In K0) (hKl : K0.length ≤ 16) (h1 : 1 ≤ num) (h2 : num ≤ g.nodes) (hb5 : g.blocks ≤ 512) (hd : DirN G g num l κ) (hn : nameErr nm.data.toList = 0) (hv : v ≠ 0) (hno : ∀ e ∈ l, named nm e = false) (hat : addAt l < 1024) :
    Calls Tryz.prog 53 #[.pointer (some ⟨gg, 0, none⟩), .int .i64 (num : Int), .agg #[.string nm, .int .u16 (v.toNat : Int)]] w fun e w' =>
      (e = .returned (.int .i64 10) ∧ DFull w w' i s gg g lab G l (addL l ⟨nm, v⟩)) ∨ (e = .returned (.int .i64 0) ∧ DRes w w' i s gg g lab G num l (addL l ⟨nm, v⟩) κ K0) := by
  have hx : EntV.Good ⟨nm, v⟩ := .inr ⟨hv, hn⟩
  have := dadd_main (R := fun x w' => (x = 10 ∧ DFull w w' i s gg g lab G l (addL l ⟨nm, v⟩)) ∨ (x = 0 ∧ DRes w w' i s gg g lab G num l (addL l ⟨nm, v⟩) κ K0)) h hd.len hd.good (dopens hd h1 h2) hn hv
    (fun ⟨e, he, hne⟩ => by rw [hno e he] at hne; cases hne)
    (fun _ W z hA hT hzw hZ => (dwrite hA hK0 hKl h1 h2 hb5 hd (addAt_le l) hat (addL_length l _) (good_addL hd.good hx) (fun j hj => pks_addL hj) (fresh_own h hzw) hZ).mono fun e w' hr => by
      rcases hr with ⟨rfl, hr⟩ | ⟨rfl, hr⟩
      · exact ⟨10, rfl, .inl ⟨rfl, hr.before hT⟩⟩
      · exact ⟨0, rfl, .inr ⟨rfl, hr.before hT⟩⟩)
  refine this.mono ?_
  rintro e w' ⟨x, rfl, ⟨rfl, hr⟩ | ⟨rfl, hr⟩⟩
  · exact .inl ⟨rfl, hr⟩
  · exact .inr ⟨rfl, hr⟩
/-- an entry's name is there -/
theorem dadd_there {num : Nat} {l : List EntV} {nm : ByteArray} {v : UInt16} {κ : Nat → Nat} (h : GAt w i s gg g lab G) (h1 : 1 ≤ num) (h2 : num ≤ g.nodes) (hd : DirN G g num l κ) (hn : nameErr nm.data.toList = 0) (hv : v ≠ 0) (hno : ∃ e ∈ l, named nm e = true) :
    Calls Tryz.prog 53 #[.pointer (some ⟨gg, 0, none⟩), .int .i64 (num : Int), .agg #[.string nm, .int .u16 (v.toNat : Int)]] w fun e w' => e = .returned (.int .i64 4) ∧ GAt w' i s gg g lab G ∧ Tch w.heap.size i.own w w' := by
  have := dadd_main (R := fun x w' => x = 4 ∧ GAt w' i s gg g lab G ∧ Tch w.heap.size i.own w w') h hd.len hd.good (dopens hd h1 h2) hn hv (fun _ w' k1 k2 => ⟨rfl, k1, k2⟩)
    (fun hno' => by obtain ⟨e, he, hne⟩ := hno; rw [hno' e he] at hne; cases hne)
  refine this.mono ?_
  rintro e w' ⟨x, rfl, rfl, hr⟩
  exact ⟨rfl, hr⟩
/-- an entry turned -/
theorem dturn_ok {num : Nat} {l : List EntV} {nm : ByteArray} {v : UInt16} {κ : Nat → Nat} (h : GAt w i s gg g lab G) (hK0 : s.In K0) (hKl : K0.length ≤ 16) (h1 : 1 ≤ num) (h2 : num ≤ g.nodes) (hb5 : g.blocks ≤ 512) (hd : DirN G g num l κ) (hv : v ≠ 0) (hno : ∃ e ∈ l, named nm e = true) :
    Calls Tryz.prog 59 #[.pointer (some ⟨gg, 0, none⟩), .int .i64 (num : Int), .agg #[.string nm, .int .u16 (v.toNat : Int)]] w fun e w' => e = .returned (.int .i64 0) ∧ DRes w w' i s gg g lab G num l (turnL l nm v) κ K0 := by
  have := dturn_main (nm := nm) (R := fun x w' => x = 0 ∧ DRes w w' i s gg g lab G num l (turnL l nm v) κ K0) h hd.len hd.good (dopens hd h1 h2) hv
    (fun hno' => by obtain ⟨e, he, hne⟩ := hno; rw [hno' e he] at hne; cases hne)
    (fun K e hK hne hj W z hA hT hzw hZ => by
      have hlt := (List.getElem?_eq_some_iff.1 hK).1
      have hll := hd.len
      have hx : EntV.Good ⟨nm, v⟩ := by
        obtain ⟨q1, rfl⟩ := named_true hne
        rcases hd.good e (List.mem_of_getElem? hK) with ⟨q, -⟩ | ⟨-, q⟩
        · exact absurd q q1
        · exact .inr ⟨hv, q⟩
      have e0 : turnL l nm v = l.set K ⟨nm, v⟩ := by unfold turnL; rw [find_at hK hne hj]
      rw [e0]
      refine (dwrite (at_ := K) (l' := l.set K ⟨nm, v⟩) hA hK0 hKl h1 h2 hb5 hd (Nat.le_of_lt hlt) (by omega) (by rw [List.length_set]; omega) (good_set hd.good hx) (fun j hj => by rw [List.length_set] at hj; exact pks_set hlt hj) (fresh_own h hzw) hZ).mono fun e w' hr => ?_
      rcases hr with ⟨rfl, hr⟩ | ⟨rfl, hr⟩
      · exact (hr.never (List.length_set ..)).elim
      · exact ⟨0, rfl, rfl, hr.before hT⟩)
  refine this.mono ?_
  rintro e w' ⟨x, rfl, rfl, hr⟩
  exact ⟨rfl, hr⟩
theorem dturn_no {num : Nat} {l : List EntV} {nm : ByteArray} {v : UInt16} {κ : Nat → Nat} (h : GAt w i s gg g lab G) (h1 : 1 ≤ num) (h2 : num ≤ g.nodes) (hd : DirN G g num l κ) (hv : v ≠ 0) (hno : ∀ e ∈ l, named nm e = false) :
    Calls Tryz.prog 59 #[.pointer (some ⟨gg, 0, none⟩), .int .i64 (num : Int), .agg #[.string nm, .int .u16 (v.toNat : Int)]] w fun e w' => e = .returned (.int .i64 3) ∧ GAt w' i s gg g lab G ∧ Tch w.heap.size i.own w w' := by
  have := dturn_main (nm := nm) (R := fun x w' => x = 3 ∧ GAt w' i s gg g lab G ∧ Tch w.heap.size i.own w w') h hd.len hd.good (dopens hd h1 h2) hv (fun _ w' k1 k2 => ⟨rfl, k1, k2⟩)
    (fun K e hK hne => by rw [hno e (List.mem_of_getElem? hK)] at hne; cases hne)
  refine this.mono ?_
  rintro e w' ⟨x, rfl, rfl, hr⟩
  exact ⟨rfl, hr⟩
/-- an entry dropped -/
theorem ddrop_ok {num K : Nat} {l : List EntV} {nm : ByteArray} {κ : Nat → Nat} {e0 : EntV} (h : GAt w i s gg g lab G) (hK0 : s.In K0) (hKl : K0.length ≤ 16) (h1 : 1 ≤ num) (h2 : num ≤ g.nodes) (hb5 : g.blocks ≤ 512) (hd : DirN G g num l κ) (hK : l[K]? = some e0) (hne : named nm e0 = true) (hno : ∀ j, j < K → ∀ x, l[j]? = some x → named nm x = false) :
    Calls Tryz.prog 55 #[.pointer (some ⟨gg, 0, none⟩), .int .i64 (num : Int), .string nm] w fun e w' => e = .returned (.int .i64 0) ∧ DRes w w' i s gg g lab G num l (dropL l K) κ K0 := by
  have hll := hd.len
  have huniq : ∀ K' e, l[K']? = some e → named nm e = true → (∀ j, j < K' → ∀ x, l[j]? = some x → named nm x = false) → K' = K := fun K' e q1 q2 q3 => (find_at q1 q2 q3).symm.trans (find_at hK hne hno)
  have := ddrop_main (nm := nm) (R := fun x w' => x = 0 ∧ DRes w w' i s gg g lab G num l (dropL l K) κ K0) h hd.len hd.good (dopens hd h1 h2)
    (fun hno' => by rw [hno' e0 (List.mem_of_getElem? hK)] at hne; cases hne)
    (fun K' e q1 q2 q3 hle W hA hT => by
      obtain rfl := huniq K' e q1 q2 q3
      have hlt := (List.getElem?_eq_some_iff.1 q1).1
      have e0 : dropL l K' = l.take (dropEnd l K') := by unfold dropL; rw [if_pos hle]
      rw [e0]
      refine (dcut hA hK0 hKl h1 h2 hb5 hd (by omega)).mono fun e w' hr => ?_
      obtain ⟨rfl, hr⟩ := hr
      exact ⟨0, rfl, rfl, hr.before hT⟩)
    (fun K' e q1 q2 q3 hle W z hA hT hzw hZ => by
      obtain rfl := huniq K' e q1 q2 q3
      have hlt := (List.getElem?_eq_some_iff.1 q1).1
      have e0 : dropL l K' = l.set K' EntV.zero := by unfold dropL; rw [if_neg (by omega)]
      rw [e0]
      refine (dwrite (at_ := K') (l' := l.set K' EntV.zero) hA hK0 hKl h1 h2 hb5 hd (Nat.le_of_lt hlt) (by omega) (by rw [List.length_set]; omega) (good_set hd.good EntV.zero_good) (fun j hj => by rw [List.length_set] at hj; exact pks_set hlt hj) (fresh_own h hzw) hZ).mono fun e w' hr => ?_
      rcases hr with ⟨rfl, hr⟩ | ⟨rfl, hr⟩
      · exact (hr.never (List.length_set ..)).elim
      · exact ⟨0, rfl, rfl, hr.before hT⟩)
  refine this.mono ?_
  rintro e w' ⟨x, rfl, rfl, hr⟩
  exact ⟨rfl, hr⟩
theorem ddrop_no {num : Nat} {l : List EntV} {nm : ByteArray} {κ : Nat → Nat} (h : GAt w i s gg g lab G) (h1 : 1 ≤ num) (h2 : num ≤ g.nodes) (hd : DirN G g num l κ) (hno : ∀ e ∈ l, named nm e = false) :
    Calls Tryz.prog 55 #[.pointer (some ⟨gg, 0, none⟩), .int .i64 (num : Int), .string nm] w fun e w' => e = .returned (.int .i64 3) ∧ GAt w' i s gg g lab G ∧ Tch w.heap.size i.own w w' := by
  have := ddrop_main (nm := nm) (R := fun x w' => x = 3 ∧ GAt w' i s gg g lab G ∧ Tch w.heap.size i.own w w') h hd.len hd.good (dopens hd h1 h2) (fun _ w' k1 k2 => ⟨rfl, k1, k2⟩)
    (fun K e hK hne => by rw [hno e (List.mem_of_getElem? hK)] at hne; cases hne)
    (fun K e hK hne => by rw [hno e (List.mem_of_getElem? hK)] at hne; cases hne)
  refine this.mono ?_
  rintro e w' ⟨x, rfl, rfl, hr⟩
  exact ⟨rfl, hr⟩
end
end Go.Proofs.YthmkgohfeahdhaaGreat
namespace Go.Proofs.YthmkgohfeahdhaaGreat
open Go.RowKit
set_option linter.unusedSimpArgs false
set_option linter.unusedVariables false

/-- configurations of two labels, the first with more blocks -/
def twoH (a : UInt8) : List UInt8 := [a, 0, 0, 0, 0, 10, 0, 0, 0, 0, 0, 0, 0, 0, 0, 0, 0, 0, 0, 0, 0, 0, 0, 0, 0]
def twoR (a : UInt8) : List RegV := szRegs 0 (twoH a)
theorem build_two (w : World) (a : UInt8) : (Instr.build 26 #[(1, .agg #[.int .u8 (a.toNat : Int), .int .u8 0, .int .u8 0, .int .u8 0, .int .u8 0, .int .u8 10, .int .u8 0, .int .u8 0, .int .u8 0, .int .u8 0, .int .u8 0, .int .u8 0, .int .u8 0, .int .u8 0, .int .u8 0, .int .u8 0, .int .u8 0, .int .u8 0, .int .u8 0, .int .u8 0, .int .u8 0, .int .u8 0, .int .u8 0, .int .u8 0, .int .u8 0])]).run Tryz.prog w = .ok (.agg (szCells 0 (twoH a) none 0 0)) w := by kernel_rfl
theorem two_len (a : UInt8) : (twoR a).length = 2 := rfl
theorem two_reg (a : UInt8) : (twoR a)[0]? = some (szReg 2 (twoH a) 0) := rfl
theorem two_conf (w : World) (a : UInt8) : Calls Tryz.prog 15 #[.agg (szCells 0 (twoH a) none 0 0)] w fun e w' => ∃ (cc : Nat) (K : List MarkV) (tb nb lb : Nat) (A1 A2 A3 : Option Addr) (c1 c2 c3 : Nat), e = .returned (.pointer (some ⟨cc, 0, none⟩)) ∧ Below w.heap.size w w' ∧ ConfIn w.heap.size w' cc (twoR a) K tb nb lb A1 A2 A3 c1 c2 c3 :=
  (size_conf (w := w) (m := 0) (H := twoH a) (A := none) (n := 0) (c := 0) (T := []) rfl (Rd.nil _ _ _ _) (by decide)).mono fun e w' ⟨cc, K, tb, nb, lb, B1, B2, B3, d1, d2, d3, he, hb, hin, _⟩ => ⟨cc, K, tb, nb, lb, B1, B2, B3, d1, d2, d3, he, hb, hin⟩
theorem two_geo {n : Nat} {a : UInt8} {b : Nat} (hF : CfFacts (twoR a) n) (hb : (szReg 2 (twoH a) 0).blocks = (b : Int)) : ∃ v u, (geosOf 32 (twoR a))[0]? = some v ∧ geoN v = u ∧ u.val = .agg v.cells.toArray ∧ u.Ok n ∧ u.blocks = b ∧ u.nodes = 8 := by
  obtain ⟨v, r, hv, hr, hgo, hval, hbl, hnd, -⟩ := hF.geo 0 (by rw [two_len]; omega)
  rw [two_reg] at hr
  cases hr
  have h2 : (szReg 2 (twoH a) 0).nodes = 8 := rfl
  rw [h2] at hnd
  rw [hb] at hbl
  exact ⟨v, _, hv, rfl, hval, hgo, by omega, by omega⟩
theorem two30 : (szReg 2 (twoH 30) 0).blocks = ((38 : Nat) : Int) := by decide +kernel
/-- a fresh group's root -/
theorem fresh_dir (g : GeoN) (κ : Nat → Nat) : DirN GS.fresh g 1 [] κ :=
  ⟨rfl, by decide, rfl, file_empty κ _ rfl (fresh_slot 2), by decide, fun e he => absurd he (by simp)⟩
def entA : EntV := ⟨⟨#[97]⟩, 5⟩
def entB : EntV := ⟨⟨#[98]⟩, 5⟩
def entC : EntV := ⟨⟨#[99]⟩, 5⟩
def entD : EntV := ⟨⟨#[100]⟩, 6⟩
def abc : List EntV := [entA, entB, entC]
theorem abc_name : ∀ (k : Nat) (e : EntV), abc[k]? = some e → nameErr e.name.data.toList = 0 ∧ e.num = 5
  | 0, e, h => by cases h; exact ⟨rfl, rfl⟩
  | 1, e, h => by cases h; exact ⟨rfl, rfl⟩
  | 2, e, h => by cases h; exact ⟨rfl, rfl⟩
  | k + 3, e, h => by simp [abc] at h
theorem abc_add : ∀ (k : Nat) (e : EntV), abc[k]? = some e → (∀ x ∈ abc.take k, named e.name x = false) ∧ addL (abc.take k) e = abc.take (k + 1) ∧ addAt (abc.take k) < 1024
  | 0, e, h => by cases h; exact ⟨by simp, rfl, by decide⟩
  | 1, e, h => by cases h; exact ⟨by decide +kernel, rfl, by decide +kernel⟩
  | 2, e, h => by cases h; exact ⟨by decide +kernel, rfl, by decide +kernel⟩
  | k + 3, e, h => by simp [abc] at h
theorem abc_before : ∀ j, j < 1 → ∀ x, abc[j]? = some x → named ⟨#[98]⟩ x = false := fun j hj x hx => by
  obtain rfl : j = 0 := by omega
  cases hx
  decide +kernel
theorem abc_len (k : Nat) (hk : k ≤ 3) : (abc.take k).length = k := by
  rw [List.length_take]; exact Nat.min_eq_left hk
theorem blks_small {n : Nat} (h : n ≤ 4) : blks (16 * n) ≤ 1 := by unfold blks; omega
theorem nkeys_small {c : Nat} (h : c ≤ 1) : nkeys c = c := by unfold nkeys; rw [if_neg (by omega), if_neg (by omega)]; rfl
set_option maxRecDepth 100000 in
set_option maxHeartbeats 4000000 in
theorem awake9_ok (w : World) : Calls Tryz.prog 51 #[] w fun e w' => e = .returned (.bool true) ∧ Below w.heap.size w w' := by
  have hbt := build_two w 30
  rw [show (((30 : UInt8).toNat : Nat) : Int) = 30 from rfl] at hbt
  have HBT := hide hbt
  clear hbt
  go_enter Tryz.func51, Tryz.ntmps51
  go_wp2_with (first | ((with_reducible refine at_build 22 #[(0, .const (.int .u8 30))] ?_); refine wpList_run rfl _ (exec_build 22 #[(0, .const (.int .u8 30))] rfl #[(0, .int .u8 30)] (by simp only [List.map_toArray, List.map_cons, List.map_nil]; rfl) _ (build_five _ _)) ?_) | ((with_reducible refine at_build 22 #[(0, .const (.int .u8 10))] ?_); refine wpList_run rfl _ (exec_build 22 #[(0, .const (.int .u8 10))] rfl #[(0, .int .u8 10)] (by simp only [List.map_toArray, List.map_cons, List.map_nil]; rfl) _ (build_five _ _)) ?_) | ((with_reducible refine at_build 23 #[(0, .tmp 13), (1, .tmp 14)] ?_); refine wpList_run rfl _ (exec_build 23 #[(0, .tmp 13), (1, .tmp 14)] rfl #[(0, .agg #[.int .u8 30, .int .u8 0, .int .u8 0, .int .u8 0, .int .u8 0]), (1, .agg #[.int .u8 10, .int .u8 0, .int .u8 0, .int .u8 0, .int .u8 0])] (by simp only [List.map_toArray, List.map_cons, List.map_nil]; rfl) _ (build_fives _ _ _)) ?_) | ((with_reducible refine at_build 26 #[(1, .tmp 15)] ?_); refine wpList_run rfl _ (exec_build 26 #[(1, .tmp 15)] rfl #[(1, .agg #[.int .u8 30, .int .u8 0, .int .u8 0, .int .u8 0, .int .u8 0, .int .u8 10, .int .u8 0, .int .u8 0, .int .u8 0, .int .u8 0, .int .u8 0, .int .u8 0, .int .u8 0, .int .u8 0, .int .u8 0, .int .u8 0, .int .u8 0, .int .u8 0, .int .u8 0, .int .u8 0, .int .u8 0, .int .u8 0, .int .u8 0, .int .u8 0, .int .u8 0])] (by simp only [List.map_toArray, List.map_cons, List.map_nil]; rfl) _ HBT.out) ?_) | fail)
  refine (two_conf w 30).mono ?_
  rintro e w1 ⟨cc, K, tb, nb, lb, B1, B2, B3, d1, d2, d3, rfl, hb1, hin⟩
  obtain ⟨n, hF⟩ := cf_facts hin.ok (by rw [two_len]; omega)
  obtain ⟨v, u, hv, hu, hval, hgo, hub, hun⟩ := two_geo hF two30
  have hfr := fresh_all (w := w1) hin hF (by rw [two_len]; omega)
  have HC := hide (And.intro hin (And.intro hv (And.intro hu (And.intro hval hb1))))
  have HGO := hide (And.intro hgo (And.intro hub hun))
  have HFR := hide hfr
  clear hin hv hu hval hgo hub hun hfr hb1 hF HBT
  go_wp2_with fail
  refine HFR.out.mono ?_
  rintro e w2 ⟨i, D, rfl, hx, hDn, hall, hown, hll, hb2⟩
  have hin2 := HC.out.1.below hb2
  have hgop := gopen_yes (tt := i.tt) hin2 HC.out.2.1 (by rw [HC.out.2.2.1]; exact HC.out.2.2.2.1)
  rw [HC.out.2.2.1, show ((0 : Nat) : Int) = 0 from rfl] at hgop
  have his := hall 0 v HC.out.2.1
  rw [HC.out.2.2.1] at his
  have HB2 := hide (HC.out.2.2.2.2.trans (hb2.mono HC.out.2.2.2.2.size))
  have HX2 := hide hx
  have HOWN := hide (show ∀ k, i.own k → w.heap.size ≤ k from fun k hk => Nat.le_trans HC.out.2.2.2.2.size (hown k hk))
  have HGP := hide hgop
  have HIS := hide (And.intro his (show u.Ok D.length by rw [hDn]; exact HGO.out.1))
  clear hin2 hgop hb2 hx hown his hall hll hDn HFR
  go_wp2_with fail
  refine HGP.out.mono ?_
  rintro e w3 ⟨gg, rfl, -, hG, hb3⟩
  have HA3 : Hid (GAt w3 i ⟨D, [], 0⟩ gg u 0 GS.fresh) := hide ⟨HX2.out.below hb3, hG, HIS.out.2, HIS.out.1, GS.fresh_ok⟩
  have HB3 := hide (HB2.out.trans (hb3.mono HB2.out.size))
  clear hG hb3 HGP HX2 HIS
  go_upto_region 5 with (fail)
  refine at_world (fun W => ∃ sb, sb = w3.heap.size ∧ Below w3.heap.size w3 W ∧ Blk W sb 9 #[.string ⟨#[97]⟩, .string ⟨#[98]⟩, .string ⟨#[99]⟩]) ⟨_, rfl, (Below.refl _ _).alloc (Nat.le_refl _) _, Blk.new _ _ _⟩ (fun w4 h4 => ?_)
  obtain ⟨sb, hsb, hb4, hS4⟩ := h4
  rw [← hsb]
  have HA4 := hide (HA3.out.below hb4)
  have HB4 := hide (HB3.out.trans (hb4.mono HB3.out.size))
  have HS4 := hide hS4
  have HSO := hide (show ¬ i.own sb from HA3.out.tx.other_new (Nat.le_of_eq hsb.symm))
  have HI4 : Hid (Sto.In ⟨D, [], 0⟩ (dk u 1 (blks (16 * 0)) fun _ => 0) ∧ GS.fresh.cnt 38 = nkeys (blks (16 * 0))) := hide ⟨fun x hx => absurd hx (by simp), by rw [fresh_cnt]; rfl⟩
  have HD4 := hide (fresh_dir u fun _ => 0)
  clear hsb hb4 hS4 HA3 HB3
  go_loopg [8, 32] 3 (fun gh x8 x32 wr => ∃ (k : Nat) (s : Sto) (G : GS) (κ : Nat → Nat), k ≤ 3 ∧ gh = 3 - k ∧ x32 = .int .i64 (k : Int) ∧ Hid (GAt wr i s gg u 0 G) ∧ Hid (DirN G u 1 (abc.take k) κ) ∧ Hid (s.In (dk u 1 (blks (16 * k)) κ) ∧ G.cnt 38 = nkeys (blks (16 * k))) ∧ Hid (Tch w4.heap.size i.own w4 wr) ∧ Hid (Blk wr sb 9 #[.string ⟨#[97]⟩, .string ⟨#[98]⟩, .string ⟨#[99]⟩]))
  case atStart => exact ⟨0, _, GS.fresh, fun _ => 0, Nat.zero_le _, rfl, rfl, HA4, HD4, HI4, hide (Tch.refl _ _ _), HS4⟩
  case round =>
    clear HA4 HD4 HI4
    obtain ⟨k, s, G, κ, hk, hgh, rfl, HA, HD, HI, HT, HS⟩ := hrel
    have HGH := hide hgh
    clear hgh
    rcases Nat.lt_or_ge k 3 with hkl | hkl
    · obtain ⟨e, he⟩ : ∃ e, abc[k]? = some e := ⟨_, List.getElem?_eq_getElem (by show k < 3; exact hkl)⟩
      have hc : wr.cell? ⟨sb, k, none⟩ = some (.string e.name) := by
        have h0 := HS.out.cell k
        rw [h0]
        have : k = 0 ∨ k = 1 ∨ k = 2 := by omega
        rcases this with rfl | rfl | rfl <;> cases he <;> rfl
      have sl := HS.out.lt
      obtain ⟨hn0, hn5⟩ := abc_name k e he
      obtain ⟨hno, hadd, hat⟩ := abc_add k e he
      have hev : (⟨e.name, 5⟩ : EntV) = e := by rw [← hn5]
      have hda := dadd_ok (num := 1) (nm := e.name) (v := 5) HA.out HI.out.1 (Nat.le_trans (dk_length _ _ _ _) (by omega)) (by omega) (by rw [HGO.out.2.2]; omega) (by rw [HGO.out.2.1]; omega) HD.out hn0 (by decide) hno hat
      rw [hev, hadd, show ((1 : Nat) : Int) = 1 from rfl, show (((5 : UInt16).toNat : Nat) : Int) = 5 from rfl] at hda
      have HDA := hide hda
      have t1 : decide ((k : Int) < 3) = true := by simp; omega
      have t1' : (k : Int) < 3 := by omega
      have e64 : IntKind.i64.wrap ((k : Int) + 1) = (k : Int) + 1 := IntWalk.i64_in _ (by omega)
      clear he hn0 hn5 hno hadd hat hev hda
      go_wp2_with fail
      refine HDA.out.mono ?_
      rintro e_ w5 (⟨rfl, hful⟩ | ⟨rfl, s5, G5, κ5, T5, ha5, hst5, ht5⟩)
      · exfalso
        have h1 := hful.1
        rw [HGO.out.2.1, HI.out.2] at h1
        rw [abc_len k (by omega), abc_len (k + 1) (by omega)] at h1
        have q1 := blks_small (n := k + 1) (by omega)
        have q2 := nkeys_small q1
        omega
      · have hi5 : s5.In (dk u 1 (blks (16 * (k + 1))) κ5) ∧ G5.cnt 38 = nkeys (blks (16 * (k + 1))) := by
          have h1 := hst5
          have h2 := h1.cnt
          have e1 := abc_len k (by omega)
          have e2 := abc_len (k + 1) (by omega)
          rw [e1, e2, HGO.out.2.1, HI.out.2] at h2
          have h3 : DStep s s5 u G G5 1 (abc.take k) (abc.take (k + 1)) κ κ5 (dk u 1 (blks (16 * (abc.take k).length)) κ) T5 := by rw [e1]; exact h1
          have h4 := h3.inn' (by omega) (by rw [e2]; have := blks_small (n := k + 1) (by omega); omega)
          rw [e2] at h4
          exact ⟨h4, by omega⟩
        have HA5 := hide ha5
        have HD5 := hide hst5.dir
        have HI5 := hide hi5
        have HT5 := hide (HT.out.trans (ht5.mono HT.out.size fun _ _ h => h))
        have HS5 := hide (HS.out.tch ht5 HS.out.lt HSO.out)
        clear ha5 hst5 hi5 ht5 HDA hc sl HA HD HI HT HS
        go_wp2_with fail
        go_roundg (3 - (k + 1))
        case rel => exact ⟨k + 1, s5, G5, κ5, by omega, rfl, by first | rfl | go_num, HA5, HD5, HI5, HT5, HS5⟩
        case measure => have := HGH.out; omega
    · have hk3 : k = 3 := by omega
      have t1 : decide ((k : Int) < 3) = false := by simp; omega
      have t1' : ¬ (k : Int) < 3 := by omega
      have HK3 := hide hk3
      have HD3 : Hid (DirN G u 1 abc κ) := hide (by have h0 := HD.out; rw [hk3] at h0; exact h0)
      have HI3 : Hid (s.In (dk u 1 (blks (16 * abc.length)) κ) ∧ G.cnt 38 = 1) := hide (by have h0 := HI.out; rw [hk3] at h0; exact ⟨h0.1, h0.2⟩)
      have hdr := ddrop_ok (num := 1) (K := 1) (nm := ⟨#[98]⟩) (e0 := entB) HA.out HI3.out.1 (Nat.le_trans (dk_length _ _ _ _) (by omega)) (by omega) (by rw [HGO.out.2.2]; omega) (by rw [HGO.out.2.1]; omega) HD3.out rfl (by decide +kernel) abc_before
      rw [show dropL abc 1 = [entA, EntV.zero, entC] from rfl, show ((1 : Nat) : Int) = 1 from rfl] at hdr
      have HDR := hide hdr
      clear hk hkl hk3 hdr HD HI
      go_wp2_with fail
      refine HDR.out.mono ?_
      rintro e_ w5 ⟨rfl, s5, G5, κ5, T5, ha5, hst5, ht5⟩
      have hi5 : s5.In (dk u 1 (blks (16 * 3)) κ5) := hst5.inn' (Nat.le_refl _) (by decide)
      have hc5 : G5.cnt 38 = 1 := by
        have h2 := hst5.cnt
        rw [HGO.out.2.1, HI3.out.2] at h2
        have : nkeys (blks (16 * abc.length)) = nkeys (blks (16 * [entA, EntV.zero, entC].length)) := rfl
        omega
      have hda := dadd_ok (num := 1) (nm := ⟨#[100]⟩) (v := 6) ha5 hi5 (Nat.le_trans (dk_length _ _ _ _) (by omega)) (by omega) (by rw [HGO.out.2.2]; omega) (by rw [HGO.out.2.1]; omega) hst5.dir rfl (by decide) (by decide +kernel) (by decide +kernel)
      rw [show addL [entA, EntV.zero, entC] ⟨⟨#[100]⟩, 6⟩ = [entA, entD, entC] from rfl, show ((1 : Nat) : Int) = 1 from rfl, show (((6 : UInt16).toNat : Nat) : Int) = 6 from rfl] at hda
      have HDA := hide hda
      have HC5 := hide hc5
      have HT5 := hide (HT.out.trans (ht5.mono HT.out.size fun _ _ h => h))
      clear ha5 hst5 hi5 ht5 hda hc5 HDR HA HT HD3 HI3 HS
      go_wp2_with fail
      refine HDA.out.mono ?_
      rintro e_ w6 (⟨rfl, hful⟩ | ⟨rfl, s6, G6, κ6, T6, ha6, hst6, ht6⟩)
      · exfalso
        have h1 := hful.1
        rw [HGO.out.2.1, HC5.out] at h1
        revert h1
        decide
      have hls := dlists (i := i) (s := s6) (gg := gg) (lab := 0) hst6.dir (by omega) (by rw [HGO.out.2.2]; omega) w6 ha6
      rw [show live [entA, entD, entC] = [entA, entD, entC] from rfl, show ([entA, entD, entC] : List EntV).length = 3 from rfl, show ((1 : Nat) : Int) = 1 from rfl] at hls
      have HLS := hide hls
      have HT6 := hide (HT5.out.trans (ht6.mono HT5.out.size fun _ _ h => h))
      clear ha6 hst6 ht6 hls HDA HT5
      go_wp2_with fail
      refine HLS.out.mono ?_
      rintro e_ w7 ⟨A7, c7, rfl, hown7, ha7, ht7⟩
      obtain ⟨g7, rfl, hg7, hr7⟩ := ent_range hown7 (by omega)
      have y2 : w7.cell? ⟨g7, 2, none⟩ = some (.string ⟨#[100]⟩) := hr7 1 entD rfl 0 _ rfl
      have y3 : w7.cell? ⟨g7, 3, none⟩ = some (.int .u16 6) := hr7 1 entD rfl 1 _ rfl
      have HT7 := hide (HT6.out.trans (ht7.mono HT6.out.size fun _ _ h => h))
      clear ha7 ht7 hown7 hr7 HLS HT6
      go_wp2_with fail
      go_returns
      exact ⟨rfl, (HB4.out.trans ((HT7.out.mono HB4.out.size (S' := fun _ => False) (fun k hk h => by have := HOWN.out k h; omega)).below fun _ _ h => h))⟩
end Go.Proofs.YthmkgohfeahdhaaGreat
namespace Go.Proofs.YthmkgohfeahdhaaGreat
open Go.RowKit
set_option linter.unusedSimpArgs false
set_option linter.unusedVariables false

def fewNames : List ByteArray := [⟨#[97]⟩, ⟨#[98]⟩, ⟨#[99]⟩, ⟨#[100, 100]⟩, ⟨#[101, 46, 102]⟩, ⟨#[102, 111, 117, 114, 116, 101, 101, 110, 45, 98, 121, 116, 101, 115]⟩, ⟨#[103]⟩, ⟨#[104]⟩]
def DAct.nm (a : DAct) : ByteArray := if a.raw then a.text else fewNames.getD (a.name % 8) ⟨#[]⟩
set_option maxRecDepth 100000 in
set_option maxHeartbeats 1000000 in
theorem actname_ok (a : DAct) (w : World) :
    Calls Tryz.prog 57 #[.agg a.cells.toArray] w fun e w' => e = .returned (.string a.nm) ∧ Below w.heap.size w w' := by
  obtain ⟨ak, an, am, tx, raw⟩ := a
  have hcs : (DAct.cells ⟨ak, an, am, tx, raw⟩).toArray = #[.int .u8 (ak : Int), .int .u8 (an : Int), .int .u16 (am : Int), .string tx, .bool raw] := rfl
  rw [hcs]
  clear hcs
  go_enter Tryz.func57, Tryz.ntmps57
  go_upto_region 1 with (fail)
  refine at_world (fun W => ∃ q, q = w.heap.size ∧ Below w.heap.size w W ∧ Blk W q 136 #[.int .u8 (ak : Int), .int .u8 (an : Int), .int .u16 (am : Int), .string tx, .bool raw]) ⟨_, rfl, (Below.refl _ _).alloc (Nat.le_refl _) _, Blk.new _ _ _⟩ (fun w0 h0 => ?_)
  obtain ⟨q, hq, hb0, hQ0⟩ := h0
  rw [← hq]
  have HB0 := hide hb0
  have q1 := hQ0.cell 1
  have q3 := hQ0.cell 3
  have q4 := hQ0.cell 4
  have ql := hQ0.lt
  have HQ0 := hide hQ0
  clear hq hb0 hQ0
  cases raw with
  | true =>
    go_wp2_with fail
    go_returns
    exact ⟨rfl, HB0.out⟩
  | false =>
    obtain ⟨j, hj, hj8⟩ : ∃ j : Nat, an % 8 = j ∧ j < 8 := ⟨_, rfl, Nat.mod_lt _ (by omega)⟩
    have hm : ((an : Int)).tmod 8 = (j : Int) := by rw [Int.tmod_eq_emod_of_nonneg (by omega)]; omega
    have hnm : DAct.nm ⟨ak, an, am, tx, false⟩ = fewNames.getD j ⟨#[]⟩ := by unfold DAct.nm; rw [if_neg (by simp), hj]
    have HNM := hide hnm
    clear hj hnm
    obtain rfl | rfl | rfl | rfl | rfl | rfl | rfl | rfl : j = 0 ∨ j = 1 ∨ j = 2 ∨ j = 3 ∨ j = 4 ∨ j = 5 ∨ j = 6 ∨ j = 7 := by omega
    all_goals
      clear hj8
      go_wp2_with fail
      go_returns
      exact ⟨by rw [HNM.out]; rfl, Below.trans HB0.out ((Below.refl _ _).alloc HB0.out.size _)⟩
end Go.Proofs.YthmkgohfeahdhaaGreat
namespace Go.Proofs.YthmkgohfeahdhaaGreat
open Go.RowKit
set_option linter.unusedSimpArgs false
set_option linter.unusedVariables false

def EntV.lits (e : EntV) : List Lit := [.string e.name.data.toList, .int .u16 (e.num.toNat : Int)]
theorem ent_lits (d : Nat) (e : EntV) (hn : e.name.size ≤ 2000) : Tryz.prog.keyLits (d + 3) 125 e.cells = some e.lits := by
  have h16 : ∀ (x : UInt16) j, Tryz.prog.keyLits (j + 1) 37 [.int .u16 (x.toNat : Int)] = some [.int .u16 (x.toNat : Int)] := fun x j => by unfold Program.keyLits; rw [Tryz.underlying37]; simp [wf16]
  have hs : ∀ (x : ByteArray) j, x.size ≤ 2000 → Tryz.prog.keyLits (j + 1) 9 [.string x] = some [.string x.data.toList] := fun x j hx => by unfold Program.keyLits; rw [Tryz.underlying9]; simp only; rw [if_pos (by unfold maxLen; omega)]
  have c3 : Tryz.prog.cellsOf 37 = 1 := by kernel_rfl
  have c1 : Tryz.prog.cellsOf 9 = 1 := by kernel_rfl
  have c6 : Tryz.prog.cellsOf 125 = 2 := by kernel_rfl
  obtain ⟨nm, v⟩ := e
  unfold Program.keyLits
  rw [Tryz.underlying125]
  simp only [EntV.cells, EntV.lits]
  simp only at hn
  simp [c1, c3, c6, h16, hs _ _ hn]
theorem ent_inj {a b : EntV} : a.lits = b.lits ↔ a = b := by
  constructor
  · intro h
    obtain ⟨n, v⟩ := a
    obtain ⟨m, u⟩ := b
    simp only [EntV.lits, List.cons.injEq, Lit.string.injEq, Lit.int.injEq, true_and, and_true] at h
    have : v = u := UInt16.toNat_inj.1 (by omega)
    have h0 : n = m := by
      obtain ⟨⟨n⟩⟩ := n
      obtain ⟨⟨m⟩⟩ := m
      simpa using h.1
    rw [h0, this]
  · rintro rfl; rfl
theorem ent_eq (w : World) (a b : EntV) (r : Bool) (ha : a.name.size ≤ 2000) (hb : b.name.size ≤ 2000) (hr : r = true ↔ a = b) : (Op.equalIn 10000 125 (.agg a.cells.toArray) (.agg b.cells.toArray)).run Tryz.prog w = .ok r w := by
  have hf : ∀ n : EntV, (Value.agg n.cells.toArray).formed Tryz.prog 125 = true := fun n => by
    unfold Value.formed
    rw [Tryz.underlying125]
    simp only [beq_iff_eq, List.size_toArray]
    kernel_rfl
  obtain ⟨q, h1, h2⟩ := run_equal_lits (P := Tryz.prog) w (m := 3) (D := 3) (by decide) (k := 125) (by kernel_rfl) (hf a) (hf b) (ent_lits 0 a ha) (ent_lits 0 b hb)
  rw [h1, show q = r from by
    rw [ent_inj] at h2
    cases q <;> cases r <;> simp_all]
theorem Rd.ent {w : World} {B n : Nat} {A : Option Addr} {l : List EntV} (h : Rd w B 2 A n (flat2 l)) (hn : 0 < n) : ∃ b o, A = some ⟨b, o, none⟩ ∧ b < B ∧ ∀ (k : Nat) (r : EntV), l[k]? = some r → w.rangeAt b (o + k * 2) r.cells := by
  obtain ⟨b, o, hA, hb, hc⟩ := h.2 hn
  refine ⟨b, o, hA, hb, fun k r hk j v hj => ?_⟩
  have hj2 : j < 2 := by have := (List.getElem?_eq_some_iff.1 hj).1; simpa [EntV.cells] using this
  have := hc (k * 2 + j) v ((flat2_get hk hj2).trans hj)
  rw [← Nat.add_assoc] at this
  exact this
set_option maxRecDepth 100000 in
set_option maxHeartbeats 2000000 in
theorem same_ents {w : World} {n c1 c2 : Nat} {A1 A2 : Option Addr} {l : List EntV} (h1 : Rd w w.heap.size 2 A1 n (flat2 l)) (h2 : Rd w w.heap.size 2 A2 n (flat2 l)) (hl : l.length = n) (hn : n ≤ 2000) (hs : ∀ e ∈ l, e.name.size ≤ 2000) :
    Calls Tryz.prog 66 #[.slice A1 n c1, .slice A2 n c2] w fun e w' => e = .returned (.bool true) ∧ Below w.heap.size w w' := by
  have H1 := hide h1
  have H2 := hide h2
  have HL := hide (And.intro hl hn)
  have HS := hide hs
  clear h1 h2 hl hn hs
  go_enter Tryz.func66, Tryz.ntmps66
  go_wp2_with fail
  go_loopg [5] n (fun gh x5 wr => ∃ k : Nat, k ≤ n ∧ gh = n - k ∧ x5 = .int .i64 (k : Int) ∧ Hid (Below w.heap.size w wr))
  case atStart => exact ⟨0, Nat.zero_le _, rfl, rfl, hide (Below.refl _ _)⟩
  case round =>
    obtain ⟨k, hk, hgh, rfl, HB⟩ := hrel
    have HGH := hide hgh
    clear hgh
    have hnn := HL.out.2
    rcases Nat.lt_or_ge k n with hkl | hkl
    · obtain ⟨e, he⟩ : ∃ e, l[k]? = some e := ⟨_, List.getElem?_eq_getElem (by have := HL.out.1; omega)⟩
      obtain ⟨b1, o1, rfl, hb1, hr1⟩ := ((H1.out.below HB.out).ent (by omega))
      obtain ⟨b2, o2, rfl, hb2, hr2⟩ := ((H2.out.below HB.out).ent (by omega))
      have HR1 := hide (hr1 k e he)
      have HR2 := hide (hr2 k e he)
      have HE := hide (HS.out e (List.mem_of_getElem? he))
      have HSZ := hide (show (Tryz.prog.info? 125).map (·.size) = some e.cells.length from size_ent)
      have t1 : decide ((k : Int) < (n : Int)) = true := by simp; omega
      have t1' : (k : Int) < (n : Int) := by omega
      have e64 : IntKind.i64.wrap ((k : Int) + 1) = (k : Int) + 1 := IntWalk.i64_in _ (by omega)
      clear hr1 hr2 he hb1 hb2 hnn
      go_upto_region 6 with (fail)
      refine wp_region_quiet_lit (by kernel_rfl) (by kernel_rfl) ?_
      iterate 3 go_big_quiet_step (fail)
      go_big_quiet_want
      refine quiet_exec (v := .agg e.cells.toArray) (fun W hW => by obtain ⟨nw, rfl⟩ := hW; exact exec_load_mid 125 (.tmp 19) rfl b1 (o1 + k * 2) rfl e.cells _ HR1.out Tryz.underlying125 rfl HSZ.out) ?_
      try simp only [Act.put, List.setIfInBounds_toArray, List.set_cons_zero, List.set_cons_succ]
      go_big_quiet_on
      iterate 3 go_big_quiet_step (fail)
      go_big_quiet_want
      refine quiet_exec (v := .agg e.cells.toArray) (fun W hW => by obtain ⟨nw, rfl⟩ := hW; exact exec_load_mid 125 (.tmp 23) rfl b2 (o2 + k * 2) rfl e.cells _ HR2.out Tryz.underlying125 rfl HSZ.out) ?_
      try simp only [Act.put, List.setIfInBounds_toArray, List.set_cons_zero, List.set_cons_succ]
      go_big_quiet_on
      go_big_quiet_want
      refine quiet_exec (v := .bool false) (fun W hW => by obtain ⟨nw, rfl⟩ := hW; exact exec_neq_agg 125 (.tmp 20) (.tmp 24) 125 rfl e.cells.toArray e.cells.toArray rfl rfl (by kernel_rfl) true (ent_eq _ e e true HE.out HE.out (by simp))) ?_
      try simp only [Act.put, List.setIfInBounds_toArray, List.set_cons_zero, List.set_cons_succ]
      go_big_quiet_on
      refine wpQuiet_nil ?_
      intro _ hw'
      obtain ⟨nq, hw''⟩ := hw'
      subst hw''
      refine at_world (fun W => Below wr.heap.size wr W) (below_drewN (Below.refl _ _) _) (fun w2 hb2 => ?_)
      have HB2 := hide (HB.out.trans (hb2.mono HB.out.size))
      clear hb2 HB
      go_wp2_with fail
      go_roundg (n - (k + 1))
      case rel => exact ⟨k + 1, by omega, rfl, by first | rfl | go_num, HB2⟩
      case measure => have := HGH.out; omega
    · have t1 : decide ((k : Int) < (n : Int)) = false := by simp; omega
      have t1' : ¬ (k : Int) < (n : Int) := by omega
      clear hkl hk hnn
      go_wp2
      go_returns
      exact ⟨rfl, HB.out⟩
end Go.Proofs.YthmkgohfeahdhaaGreat
namespace Go.Proofs.YthmkgohfeahdhaaGreat
open Go.RowKit
set_option linter.unusedSimpArgs false
set_option linter.unusedVariables false

section
variable {w w' : World} {i : Ids} {D : List BlkV} {gg : Nat} {g : GeoN} {lab : Int} {G : GS}
/-- what comes of a call on a directory: an error, or other places -/
def DOut (w w' : World) (i : Ids) (D : List BlkV) (gg : Nat) (g : GeoN) (lab : Int) (G : GS) (num : Nat) (l : List EntV) (κ : Nat → Nat) (c : Int) : Prop :=
  (c ≠ 0 ∧ ∃ s' G', GAt w' i s' gg g lab G' ∧ s'.D = D ∧ Tch w.heap.size i.own w w') ∨ (c = 0 ∧ ∃ l', l'.length ≤ l.length + 1 ∧ DRes w w' i ⟨D, [], 0⟩ gg g lab G num l l' κ [])
theorem DOut.bad {num : Nat} {l : List EntV} {κ : Nat → Nat} {c : Int} (hc : c ≠ 0) (h : GAt w' i ⟨D, [], 0⟩ gg g lab G ∧ Tch w.heap.size i.own w w') : DOut w w' i D gg g lab G num l κ c := .inl ⟨hc, _, G, h.1, rfl, h.2⟩
theorem nil_in : Sto.In ⟨D, [], 0⟩ [] := fun x hx => absurd hx (by simp)
theorem any_named (l : List EntV) (nm : ByteArray) : (∃ e ∈ l, named nm e = true) ∨ (∀ e ∈ l, named nm e = false) := by
  by_cases h : ∃ e ∈ l, named nm e = true
  · exact .inl h
  · exact .inr fun e he => by
      cases hn : named nm e with
      | false => rfl
      | true => exact absurd ⟨e, he, hn⟩ h
theorem first_named {l : List EntV} {nm : ByteArray} (h : ∃ e ∈ l, named nm e = true) : ∃ (K : Nat) (e : EntV), l[K]? = some e ∧ named nm e = true ∧ ∀ j, j < K → ∀ x, l[j]? = some x → named nm x = false := by
  have hlt : l.findIdx (named nm) < l.length := List.findIdx_lt_length.2 h
  refine ⟨_, _, List.getElem?_eq_getElem hlt, List.findIdx_getElem (w := hlt), fun j hj x hx => ?_⟩
  have := List.not_of_lt_findIdx hj
  obtain ⟨h1, rfl⟩ := List.getElem?_eq_some_iff.1 hx
  simpa using this
theorem dropL_length (l : List EntV) (K : Nat) : (dropL l K).length ≤ l.length := by
  unfold dropL
  split
  · rw [List.length_take]; omega
  · rw [List.length_set]; omega
end
theorem dacts_get : ∀ {L : List DAct} {k j : Nat} {n : DAct}, L[k]? = some n → j < 5 → (L.flatMap DAct.cells)[k * 5 + j]? = n.cells[j]?
  | [], k, j, n, h, _ => by simp at h
  | a :: r, 0, j, n, h, hj => by
    obtain rfl : a = n := by simpa using h
    rw [List.flatMap_cons, Nat.zero_mul, Nat.zero_add, List.getElem?_append_left (by simp [DAct.cells]; omega)]
  | a :: r, k + 1, j, n, h, hj => by
    have := dacts_get (L := r) (k := k) (j := j) (n := n) (by simpa using h) hj
    rw [List.flatMap_cons, List.getElem?_append_right (by simp [DAct.cells]; omega), ← this]
    congr 1
    simp [DAct.cells]; omega
theorem Rd.dact {w : World} {B n : Nat} {A : Option Addr} {l : List DAct} (h : Rd w B 5 A n (l.flatMap DAct.cells)) (hn : 0 < n) : ∃ b o, A = some ⟨b, o, none⟩ ∧ b < B ∧ ∀ (k : Nat) (r : DAct), l[k]? = some r → w.rangeAt b (o + k * 5) r.cells := by
  obtain ⟨b, o, hA, hb, hc⟩ := h.2 hn
  refine ⟨b, o, hA, hb, fun k r hk j v hj => ?_⟩
  have hj2 : j < 5 := by have := (List.getElem?_eq_some_iff.1 hj).1; simpa [DAct.cells] using this
  have := hc (k * 5 + j) v ((dacts_get hk hj2).trans hj)
  rw [← Nat.add_assoc] at this
  exact this
end Go.Proofs.YthmkgohfeahdhaaGreat
namespace Go.Proofs.YthmkgohfeahdhaaGreat
open Go.RowKit
set_option linter.unusedSimpArgs false
set_option linter.unusedVariables false

/-- the first node, a directory of places -/
def coreD (l : List EntV) : RC := ⟨2, 1, 1, [], l⟩
/-- a group whose first node alone has places -/
def dirC (nodes : Nat) (l : List EntV) : List RC := ((rnewL nodes).map RNd.core).set 1 (coreD l)
theorem dirC_start (nodes : Nat) : (rnewL nodes).map RNd.core = dirC nodes [] := by
  apply List.ext_getElem?
  intro j
  unfold dirC
  rw [List.getElem?_set]
  by_cases h : 1 = j
  · subst h
    rw [if_pos rfl, List.length_map, rnewL_length]
    by_cases hn : 1 < nodes + 1
    · rw [if_pos hn]
      unfold rnewL
      rw [List.getElem?_map, List.getElem?_set_ne (by omega), List.getElem?_set_ne (by omega), List.getElem?_set_self (by simp; omega)]
      rfl
    · rw [if_neg hn]
      exact List.getElem?_eq_none (by rw [List.length_map, rnewL_length]; omega)
  · rw [if_neg h]
section
variable {nodes : Nat} {l l' : List EntV} {L : List RNd}
theorem dirC_set {x : RNd} (h : L.map RNd.core = dirC nodes l) (hx : x.core = coreD l') : (L.set 1 x).map RNd.core = dirC nodes l' := by
  rw [List.map_set, h, hx]
  unfold dirC
  rw [List.set_set]
theorem dirC_len (h : L.map RNd.core = dirC nodes l) : L.length = nodes + 1 := by
  have := congrArg List.length h
  rw [List.length_map] at this
  unfold dirC at this
  rwa [List.length_set, List.length_map, rnewL_length] at this
theorem dirC_one (h : L.map RNd.core = dirC nodes l) (h1 : 1 ≤ nodes) : ∃ n, L[1]? = some n ∧ n.core = coreD l := by
  have hl := dirC_len h
  refine ⟨L[1], List.getElem?_eq_getElem (by omega), ?_⟩
  have := congrArg (·[1]?) h
  simp only [List.getElem?_map] at this
  unfold dirC at this
  rw [List.getElem?_eq_getElem (by omega), List.getElem?_set_self (by rw [List.length_map, rnewL_length]; omega)] at this
  exact Option.some.inj this
theorem rnewL_bare : ∀ n ∈ rnewL nodes, n.l = [] ∧ n.ps = [] := fun n hn => by
  unfold rnewL at hn
  rcases List.mem_or_eq_of_mem_set hn with hn | rfl
  · rcases List.mem_or_eq_of_mem_set hn with hn | rfl
    · rcases List.mem_or_eq_of_mem_set hn with hn | rfl
      · rw [(List.mem_replicate.1 hn).2]; exact ⟨rfl, rfl⟩
      · exact ⟨rfl, rfl⟩
    · exact ⟨rfl, rfl⟩
  · exact ⟨rfl, rfl⟩
theorem dirC_other (h : L.map RNd.core = dirC nodes l) {j : Nat} {n : RNd} (hj : L[j]? = some n) (h1 : j ≠ 1) : n.l = [] ∧ n.ps = [] := by
  have := congrArg (·[j]?) h
  simp only [List.getElem?_map] at this
  unfold dirC at this
  rw [hj, List.getElem?_set_ne (fun e => h1 e.symm), List.getElem?_map] at this
  cases hr : (rnewL nodes)[j]? with
  | none => rw [hr] at this; cases this
  | some m =>
    rw [hr] at this
    have e : n.core = m.core := Option.some.inj this
    obtain ⟨b1, b2⟩ := rnewL_bare m (List.mem_of_getElem? hr)
    have e1 : n.l = m.l := congrArg RC.l e
    have e2 : n.ps = m.ps := congrArg RC.ps e
    rw [e1, e2]
    exact ⟨b1, b2⟩
theorem dirC_small (h : L.map RNd.core = dirC nodes l) (hl : l.length ≤ 3000) (hn : nodes ≤ 128) : Small L := by
  refine ⟨by rw [dirC_len h]; omega, fun n hm => ?_⟩
  obtain ⟨j, hj, rfl⟩ := List.mem_iff_getElem.1 hm
  by_cases h1 : j = 1
  · subst h1
    obtain ⟨n, hn1, hc⟩ := dirC_one h (by rw [dirC_len h] at hj; omega)
    rw [List.getElem?_eq_getElem hj] at hn1
    obtain rfl := Option.some.inj hn1
    have e1 : L[1].l = [] := congrArg RC.l hc
    have e2 : L[1].ps = l := congrArg RC.ps hc
    rw [e1, e2]
    exact ⟨Nat.zero_le _, hl⟩
  · obtain ⟨e1, e2⟩ := dirC_other h (List.getElem?_eq_getElem hj) h1
    rw [e1, e2]
    exact ⟨Nat.zero_le _, Nat.zero_le _⟩
theorem dirC_usedTo (h : L.map RNd.core = dirC nodes l) : ∀ k, k ≤ L.length → usedTo 0 L k = if 1 < k then need2 (16 * l.length) else 0
  | 0, _ => rfl
  | k + 1, hk => by
    have ih := dirC_usedTo h k (by omega)
    rw [usedTo, ih]
    by_cases h0 : k = 0
    · subst h0; rfl
    rw [if_neg h0, List.getElem?_eq_getElem (show k < L.length by omega)]
    simp only
    by_cases h1 : k = 1
    · subst h1
      obtain ⟨n, hn1, hc⟩ := dirC_one h (by have := dirC_len h; omega)
      rw [List.getElem?_eq_getElem (by omega)] at hn1
      obtain rfl := Option.some.inj hn1
      have e1 : L[1].kind = 2 := congrArg RC.kind hc
      have e2 : L[1].ps = l := congrArg RC.ps hc
      unfold useN RNd.size
      rw [e1, e2]
      rw [if_neg (by omega), if_neg (by decide), if_neg (by omega), if_pos rfl, if_pos (by omega)]
      omega
    · obtain ⟨e1, e2⟩ := dirC_other h (List.getElem?_eq_getElem (show k < L.length by omega)) h1
      have : useN 0 k L[k] = 0 := by
        unfold useN RNd.size
        rw [e1, e2]
        have : need2 0 = 0 := rfl
        split
        · rfl
        · have e0 : (if k = 2 then 8 * 0 else if L[k].kind = 2 then 16 * ([] : List EntV).length else ([] : List UInt8).length) = 0 := by
            split
            · rfl
            · split <;> rfl
          rw [e0]; rfl
      rw [this, if_pos (by omega), if_pos (by omega)]
      omega
theorem dirC_used (h : L.map RNd.core = dirC nodes l) (h1 : 1 ≤ nodes) : usedTo 0 L L.length = need2 (16 * l.length) := by
  rw [dirC_usedTo h _ (Nat.le_refl _), if_pos (by have := dirC_len h; omega)]
end
/-! ### entries that are dropped -/
/-- no name is there twice -/
def Uniq (l : List EntV) : Prop := ∀ (i j : Nat) (e f : EntV), l[i]? = some e → l[j]? = some f → e.num ≠ 0 → f.num ≠ 0 → e.name = f.name → i = j
/-- the last place isn't empty -/
def Tight (l : List EntV) : Prop := trimN l l.length = l.length
/-- all of a name are empty -/
def blankL (l : List EntV) (nm : ByteArray) : List EntV := l.map fun e => if named nm e then EntV.zero else e
def dropR (l : List EntV) (nm : ByteArray) : List EntV := (blankL l nm).take (trimN (blankL l nm) l.length)
theorem blankL_len (l : List EntV) (nm : ByteArray) : (blankL l nm).length = l.length := by simp [blankL]
theorem blankL_get {l : List EntV} {nm : ByteArray} {k : Nat} {e : EntV} (h : l[k]? = some e) : (blankL l nm)[k]? = some (if named nm e then EntV.zero else e) := by
  unfold blankL
  rw [List.getElem?_map, h]
  rfl
theorem blank_set {l : List EntV} {nm : ByteArray} {K : Nat} {e : EntV} (hu : Uniq l) (hK : l[K]? = some e) (he : named nm e = true) : blankL l nm = l.set K EntV.zero := by
  apply List.ext_getElem?
  intro j
  have hKl := (List.getElem?_eq_some_iff.1 hK).1
  by_cases hj : j < l.length
  · rw [blankL_get (List.getElem?_eq_getElem hj)]
    by_cases h : K = j
    · subst h
      rw [List.getElem?_set_self hKl]
      have e2 := (List.getElem?_eq_some_iff.1 hK).2
      rw [e2, if_pos he]
    · rw [List.getElem?_set_ne h, List.getElem?_eq_getElem hj]
      rw [if_neg]
      intro hn
      obtain ⟨n1, n2⟩ := named_true hn
      obtain ⟨n3, n4⟩ := named_true he
      exact h (hu K j e _ hK (List.getElem?_eq_getElem hj) n3 n1 (n4.trans n2.symm))
  · rw [List.getElem?_eq_none (by rw [blankL_len]; omega), List.getElem?_eq_none (by rw [List.length_set]; omega)]
theorem trimN_top {l : List EntV} {k : Nat} (h : trimN l (k + 1) = k + 1) : ∀ e, l[k]? = some e → e.num ≠ 0 := fun e he h0 => by
  rw [trimN_step he h0] at h
  have := trimN_le l k
  omega
theorem dropR_eq {l : List EntV} {nm : ByteArray} {K : Nat} {e : EntV} (hu : Uniq l) (ht : Tight l) (hK : l[K]? = some e) (he : named nm e = true) : dropR l nm = dropL l K := by
  have hKl := (List.getElem?_eq_some_iff.1 hK).1
  unfold dropR dropL dropEnd
  rw [blank_set hu hK he]
  by_cases h : trimN (l.set K EntV.zero) l.length ≤ K
  · rw [if_pos h]
    apply List.ext_getElem?
    intro j
    by_cases hj : j < trimN (l.set K EntV.zero) l.length
    · rw [List.getElem?_take_of_lt hj, List.getElem?_take_of_lt hj, List.getElem?_set_ne (by omega)]
    · rw [List.getElem?_eq_none (by rw [List.length_take]; omega), List.getElem?_eq_none (by rw [List.length_take]; omega)]
  · rw [if_neg h]
    have hK2 : K + 1 < l.length := by
      rcases Nat.lt_or_ge (K + 1) l.length with h2 | h2
      · exact h2
      · have e1 : l.length = K + 1 := by omega
        rw [e1, trimN_step (e := EntV.zero) (List.getElem?_set_self hKl) rfl] at h
        exact absurd (trimN_le _ _) h
    obtain ⟨p, hp⟩ : ∃ p, l.length = p + 1 := ⟨l.length - 1, by omega⟩
    have h3 : trimN (l.set K EntV.zero) l.length = l.length := by
      unfold Tight at ht
      rw [hp] at ht ⊢
      have hg : (l.set K EntV.zero)[p]? = l[p]? := List.getElem?_set_ne (by omega)
      exact trimN_stop (hg.trans (List.getElem?_eq_getElem (show p < l.length by omega))) (trimN_top ht _ (List.getElem?_eq_getElem (by omega)))
    rw [h3, List.take_of_length_le (by rw [List.length_set]; exact Nat.le_refl _)]
theorem trimN_take (l : List EntV) : ∀ k, trimN (l.take (trimN l k)) (trimN l k) = trimN l k
  | 0 => rfl
  | k + 1 => by
    by_cases h : ∃ e, l[k]? = some e ∧ e.num = 0
    · obtain ⟨e, he, h0⟩ := h
      rw [trimN_step he h0]
      exact trimN_take l k
    · have h1 : trimN l (k + 1) = k + 1 := by
        cases hk : l[k]? with
        | none => unfold trimN; rw [hk]
        | some e => exact trimN_stop hk fun h0 => h ⟨e, hk, h0⟩
      rw [h1]
      cases hk : l[k]? with
      | none =>
        unfold trimN
        rw [List.getElem?_take_of_lt (by omega), hk]
      | some e => exact trimN_stop (by rw [List.getElem?_take_of_lt (by omega)]; exact hk) fun h0 => h ⟨e, hk, h0⟩
theorem tight_drop {l : List EntV} {nm : ByteArray} : Tight (dropR l nm) := by
  unfold Tight dropR
  have h := trimN_le (blankL l nm) l.length
  have e : ((blankL l nm).take (trimN (blankL l nm) l.length)).length = trimN (blankL l nm) l.length := by
    rw [List.length_take, blankL_len]; omega
  rw [e]
  exact trimN_take _ _
theorem uniq_drop {l : List EntV} {nm : ByteArray} (h : Uniq l) : Uniq (dropR l nm) := fun i j e f hi hj he hf hn => by
  have key : ∀ (i : Nat) (e : EntV), (dropR l nm)[i]? = some e → e.num ≠ 0 → l[i]? = some e := fun i e hi he => by
    unfold dropR at hi
    have hlt := (List.getElem?_eq_some_iff.1 hi).1
    rw [List.length_take, blankL_len] at hlt
    rw [List.getElem?_take_of_lt (by omega), blankL_get (List.getElem?_eq_getElem (show i < l.length by omega))] at hi
    have hi2 := Option.some.inj hi
    by_cases hb : named nm l[i] = true
    · rw [if_pos hb] at hi2
      rw [← hi2] at he
      exact absurd rfl he
    · rw [if_neg hb] at hi2
      rw [← hi2]
      exact List.getElem?_eq_getElem _
  exact h i j e f (key i e hi he) (key j f hj hf) he hf hn
theorem tight_nil : Tight [] := rfl
theorem uniq_nil : Uniq [] := fun i j e f h => absurd h (by simp)
theorem tight_of_last {l : List EntV} {e : EntV} {p : Nat} (hp : l.length = p + 1) (he : l[p]? = some e) (h0 : e.num ≠ 0) : Tight l := by
  unfold Tight
  rw [hp]
  exact trimN_stop he h0
theorem tight_set {l : List EntV} {x : EntV} {K : Nat} (ht : Tight l) (hx : x.num ≠ 0) : Tight (l.set K x) := by
  cases hl : l.length with
  | zero =>
    have : l = [] := List.length_eq_zero_iff.1 hl
    subst this
    exact tight_nil
  | succ p =>
    by_cases h : K = p
    · subst h
      exact tight_of_last (p := K) (by rw [List.length_set]; exact hl) (List.getElem?_set_self (by omega)) hx
    · have ht2 : trimN l (p + 1) = p + 1 := by unfold Tight at ht; rwa [hl] at ht
      exact tight_of_last (p := p) (e := l[p]) (by rw [List.length_set]; exact hl) (by rw [List.getElem?_set_ne h]; exact List.getElem?_eq_getElem _) (trimN_top ht2 _ (List.getElem?_eq_getElem _))
theorem tight_add {l : List EntV} {x : EntV} (ht : Tight l) (hx : x.num ≠ 0) : Tight (addL l x) := by
  unfold addL
  split
  · exact tight_set ht hx
  · exact tight_of_last (p := l.length) (e := x) (by simp) (by simp) hx
theorem uniq_set {l : List EntV} {x : EntV} {K : Nat} (hu : Uniq l) (hn : ∀ j e, l[j]? = some e → j ≠ K → named x.name e = false) : Uniq (l.set K x) := fun i j e f hi hj he hf hnm => by
  have key : ∀ (i : Nat) (e : EntV), (l.set K x)[i]? = some e → (i = K ∧ e = x) ∨ (i ≠ K ∧ l[i]? = some e) := fun i e hi => by
    by_cases h : i = K
    · subst h
      have hlt := (List.getElem?_eq_some_iff.1 hi).1
      rw [List.length_set] at hlt
      rw [List.getElem?_set_self hlt] at hi
      exact .inl ⟨rfl, (Option.some.inj hi).symm⟩
    · rw [List.getElem?_set_ne (fun e => h e.symm)] at hi
      exact .inr ⟨h, hi⟩
  rcases key i e hi with ⟨h1, h2⟩ | ⟨h1, h2⟩
  · rcases key j f hj with ⟨h3, h4⟩ | ⟨h3, h4⟩
    · rw [h1, h3]
    · have := hn j f h4 h3
      rcases named_false this with h5 | h5
      · exact absurd h5 hf
      · rw [h2] at hnm
        exact absurd hnm.symm h5
  · rcases key j f hj with ⟨h3, h4⟩ | ⟨h3, h4⟩
    · have := hn i e h2 h1
      rcases named_false this with h5 | h5
      · exact absurd h5 he
      · rw [h4] at hnm
        exact absurd hnm h5
    · exact hu i j e f h2 h4 he hf hnm
theorem uniq_add {l : List EntV} {x : EntV} (hu : Uniq l) (hno : ∀ e ∈ l, named x.name e = false) : Uniq (addL l x) := by
  unfold addL
  split
  · exact uniq_set hu fun j e he _ => hno e (List.mem_of_getElem? he)
  · intro i j e f hi hj he hf hnm
    have key : ∀ (i : Nat) (e : EntV), (l ++ [x])[i]? = some e → (i = l.length ∧ e = x) ∨ l[i]? = some e := fun i e hi => by
      by_cases h : i < l.length
      · rw [List.getElem?_append_left h] at hi; exact .inr hi
      · have hlt := (List.getElem?_eq_some_iff.1 hi).1
        rw [List.length_append, List.length_singleton] at hlt
        have hil : i = l.length := by omega
        subst hil
        simp at hi
        exact .inl ⟨rfl, hi.symm⟩
    rcases key i e hi with ⟨h1, h2⟩ | h2
    · rcases key j f hj with ⟨h3, h4⟩ | h4
      · rw [h1, h3]
      · rcases named_false (hno f (List.mem_of_getElem? h4)) with h5 | h5
        · exact absurd h5 hf
        · rw [h2] at hnm; exact absurd hnm.symm h5
    · rcases key j f hj with ⟨h3, h4⟩ | h4
      · rcases named_false (hno e (List.mem_of_getElem? h2)) with h5 | h5
        · exact absurd h5 he
        · rw [h4] at hnm; exact absurd hnm h5
      · exact hu i j e f h2 h4 he hf hnm
theorem turnL_eq {l : List EntV} {nm : ByteArray} {K : Nat} {e : EntV} (v : UInt16) (hK : l[K]? = some e) (he : named nm e = true) (hno : ∀ j, j < K → ∀ x, l[j]? = some x → named nm x = false) : turnL l nm v = l.set K ⟨e.name, v⟩ := by
  unfold turnL
  rw [find_at hK he hno, (named_true he).2]
theorem uniq_turn {l : List EntV} {nm : ByteArray} {v : UInt16} (hu : Uniq l) (h : ∃ e ∈ l, named nm e = true) : Uniq (turnL l nm v) := by
  obtain ⟨K, e, hK, he, hno⟩ := first_named h
  obtain ⟨n1, n2⟩ := named_true he
  rw [turnL_eq v hK he hno]
  refine uniq_set hu fun j f hf hj => ?_
  cases hn : named e.name f with
  | false => rfl
  | true =>
    obtain ⟨m1, m2⟩ := named_true hn
    exact absurd (hu j K f e hf hK m1 n1 m2) hj
theorem tight_turn {l : List EntV} {nm : ByteArray} {v : UInt16} (ht : Tight l) (hv : v ≠ 0) : Tight (turnL l nm v) := tight_set ht hv
end Go.Proofs.YthmkgohfeahdhaaGreat
namespace Go.Proofs.YthmkgohfeahdhaaGreat
open Go.RowKit
set_option linter.unusedSimpArgs false
set_option linter.unusedVariables false

section
variable {w w' : World} {i : Ids} {s : Sto} {gg : Nat} {g : GeoN} {lab : Int} {G : GS}
set_option maxRecDepth 100000 in
set_option maxHeartbeats 2000000 in
theorem dturn_zero {num : Nat} {l : List EntV} {nm : ByteArray} {v : UInt16} (h : GAt w i s gg g lab G) (hop : OpensTo i s gg g lab G num l) (hv : v = 0) :
    Calls Tryz.prog 59 #[.pointer (some ⟨gg, 0, none⟩), .int .i64 (num : Int), .agg #[.string nm, .int .u16 (v.toNat : Int)]] w fun e w' => e = .returned (.int .i64 27) ∧ GAt w' i s gg g lab G ∧ Tch w.heap.size i.own w w' := by
  have H := hide h
  have HOP := hide hop
  have HV := hide hv
  clear h hop hv
  go_enter Tryz.func59, Tryz.ntmps59
  go_upto_region 1 with (fail)
  refine at_world (fun W => ∃ q, q = w.heap.size ∧ Below w.heap.size w W ∧ Blk W q 125 #[.string nm, .int .u16 (v.toNat : Int)]) ⟨_, rfl, (Below.refl _ _).alloc (Nat.le_refl _) _, Blk.new _ _ _⟩ (fun w0 h0 => ?_)
  obtain ⟨q, hq, hb0, hQ0⟩ := h0
  rw [← hq]
  have HA0 := hide (H.out.below hb0)
  have HT0 := hide (Tch.of_below (S := i.own) hb0)
  have HQ0 := hide hQ0
  have HQN := hide (And.intro hq (show ¬ i.own q from H.out.tx.other_new (Nat.le_of_eq hq.symm)))
  clear hq hb0 hQ0
  go_wp2_with fail
  refine (HOP.out w0 HA0.out).mono ?_
  rintro e w1 ⟨A, c, rfl, hown, ha1, ht1⟩
  obtain ⟨N, hN⟩ : ∃ N, l.length = N := ⟨_, rfl⟩
  have HN := hide hN
  rw [hN] at hown ⊢
  have hqlt := HQ0.out.lt
  have HQ1 := hide (Blk.tch HQ0.out ht1 hqlt HQN.out.2)
  have HO1 := hide hown
  have HA1 := hide ha1
  have HT1 := hide (HT0.out.trans (ht1.mono HT0.out.size fun _ _ h => h))
  have qc1 := HQ1.out.cell 1
  have qc0 := HQ1.out.cell 0
  have ql := HQ1.out.lt
  clear hown ha1 ht1 hN hqlt HA0 HT0 HQ0
  have tv : ((v.toNat : Int) == 0) = true := by rw [HV.out]; rfl
  go_wp2_with fail
  go_returns
  exact ⟨rfl, HA1.out, HT1.out⟩
/-- a call's code, and the places behind it -/
def addC (l : List EntV) (nm : ByteArray) (v : UInt16) : Int × List EntV :=
  if nameErr nm.data.toList ≠ 0 then (nameErr nm.data.toList, l) else if v = 0 then (27, l) else if ∃ e ∈ l, named nm e = true then (4, l) else (0, addL l ⟨nm, v⟩)
def turnC (l : List EntV) (nm : ByteArray) (v : UInt16) : Int × List EntV :=
  if v = 0 then (27, l) else if ∃ e ∈ l, named nm e = true then (0, turnL l nm v) else (3, l)
def dropC (l : List EntV) (nm : ByteArray) : Int × List EntV :=
  if ∃ e ∈ l, named nm e = true then (0, dropR l nm) else (3, l)
def findC (l : List EntV) (nm : ByteArray) : Int × Int := match l.find? (named nm) with
  | some e => ((e.num.toNat : Int), 0)
  | none => (0, 3)
/-- what comes of a call on a directory, its code known -/
def COut (w w' : World) (i : Ids) (D : List BlkV) (gg : Nat) (g : GeoN) (lab : Int) (G : GS) (num : Nat) (l : List EntV) (κ : Nat → Nat) (r : Int × List EntV) : Prop :=
  (r.1 ≠ 0 ∧ ∃ s' G', GAt w' i s' gg g lab G' ∧ s'.D = D ∧ Tch w.heap.size i.own w w') ∨ (r.1 = 0 ∧ r.2.length ≤ l.length + 1 ∧ DRes w w' i ⟨D, [], 0⟩ gg g lab G num l r.2 κ [])
variable {D : List BlkV}
theorem COut.bad {num : Nat} {l : List EntV} {κ : Nat → Nat} {r : Int × List EntV} (hc : r.1 ≠ 0) (h : GAt w' i ⟨D, [], 0⟩ gg g lab G ∧ Tch w.heap.size i.own w w') : COut w w' i D gg g lab G num l κ r := .inl ⟨hc, _, G, h.1, rfl, h.2⟩
theorem add_code {num : Nat} {l : List EntV} {nm : ByteArray} {v : UInt16} {κ : Nat → Nat} (h : GAt w i ⟨D, [], 0⟩ gg g lab G) (h1 : 1 ≤ num) (h2 : num ≤ g.nodes) (hb5 : g.blocks ≤ 512) (hd : DirN G g num l κ) (hl : l.length < 100) (hroom : G.cnt g.blocks + nkeys (blks (16 * (l.length + 1))) ≤ g.blocks + nkeys (blks (16 * l.length))) :
    Calls Tryz.prog 53 #[.pointer (some ⟨gg, 0, none⟩), .int .i64 (num : Int), .agg #[.string nm, .int .u16 (v.toNat : Int)]] w fun e w' => e = .returned (.int .i64 (addC l nm v).1) ∧ COut w w' i D gg g lab G num l κ (addC l nm v) := by
  unfold addC
  by_cases hn : nameErr nm.data.toList = 0
  · rw [if_neg (by simpa using hn)]
    by_cases hv : v = 0
    · rw [if_pos hv]
      exact (dadd_zero h (dopens hd h1 h2) hn hv).mono fun e w' hr => ⟨hr.1, .bad (by simp) hr.2⟩
    · rw [if_neg hv]
      rcases any_named l nm with hx | hx
      · rw [if_pos hx]
        exact (dadd_there h h1 h2 hd hn hv hx).mono fun e w' hr => ⟨hr.1, .bad (by simp) hr.2⟩
      · rw [if_neg (fun ⟨e, he, hne⟩ => by rw [hx e he] at hne; cases hne)]
        have hat := addAt_le l
        have hlen := addL_length l ⟨nm, v⟩
        refine (dadd_ok h nil_in (by simp) h1 h2 hb5 hd hn hv hx (by omega)).mono fun e w' hr => ?_
        rcases hr with hr | hr
        · exfalso
          have h3 := hr.2.1
          have h4 : nkeys (blks (16 * (addL l ⟨nm, v⟩).length)) ≤ nkeys (blks (16 * (l.length + 1))) := nkeys_mono (by unfold blks; omega)
          omega
        · exact ⟨hr.1, .inr ⟨rfl, by show (addL l ⟨nm, v⟩).length ≤ _; omega, hr.2⟩⟩
  · rw [if_pos hn]
    exact (dadd_name h (dopens hd h1 h2) hn).mono fun e w' hr => ⟨hr.1, .bad hn hr.2⟩
theorem turn_code {num : Nat} {l : List EntV} {nm : ByteArray} {v : UInt16} {κ : Nat → Nat} (h : GAt w i ⟨D, [], 0⟩ gg g lab G) (h1 : 1 ≤ num) (h2 : num ≤ g.nodes) (hb5 : g.blocks ≤ 512) (hd : DirN G g num l κ) :
    Calls Tryz.prog 59 #[.pointer (some ⟨gg, 0, none⟩), .int .i64 (num : Int), .agg #[.string nm, .int .u16 (v.toNat : Int)]] w fun e w' => e = .returned (.int .i64 (turnC l nm v).1) ∧ COut w w' i D gg g lab G num l κ (turnC l nm v) := by
  unfold turnC
  by_cases hv : v = 0
  · rw [if_pos hv]
    exact (dturn_zero h (dopens hd h1 h2) hv).mono fun e w' hr => ⟨hr.1, .bad (by simp) hr.2⟩
  · rw [if_neg hv]
    rcases any_named l nm with hx | hx
    · rw [if_pos hx]
      exact (dturn_ok h nil_in (by simp) h1 h2 hb5 hd hv hx).mono fun e w' hr => ⟨hr.1, .inr ⟨rfl, by show (turnL l nm v).length ≤ _; unfold turnL; rw [List.length_set]; omega, hr.2⟩⟩
    · rw [if_neg (fun ⟨e, he, hne⟩ => by rw [hx e he] at hne; cases hne)]
      exact (dturn_no h h1 h2 hd hv hx).mono fun e w' hr => ⟨hr.1, .bad (by simp) hr.2⟩
theorem drop_code {num : Nat} {l : List EntV} {nm : ByteArray} {κ : Nat → Nat} (h : GAt w i ⟨D, [], 0⟩ gg g lab G) (h1 : 1 ≤ num) (h2 : num ≤ g.nodes) (hb5 : g.blocks ≤ 512) (hd : DirN G g num l κ) (hu : Uniq l) (ht : Tight l) :
    Calls Tryz.prog 55 #[.pointer (some ⟨gg, 0, none⟩), .int .i64 (num : Int), .string nm] w fun e w' => e = .returned (.int .i64 (dropC l nm).1) ∧ COut w w' i D gg g lab G num l κ (dropC l nm) := by
  unfold dropC
  rcases any_named l nm with hx | hx
  · rw [if_pos hx]
    obtain ⟨K, e0, q1, q2, q3⟩ := first_named hx
    rw [dropR_eq hu ht q1 q2]
    exact (ddrop_ok h nil_in (by simp) h1 h2 hb5 hd q1 q2 q3).mono fun e w' hr => ⟨hr.1, .inr ⟨rfl, by show (dropL l K).length ≤ _; have := dropL_length l K; omega, hr.2⟩⟩
  · rw [if_neg (fun ⟨e, he, hne⟩ => by rw [hx e he] at hne; cases hne)]
    exact (ddrop_no h h1 h2 hd hx).mono fun e w' hr => ⟨hr.1, .bad (by simp) hr.2⟩
theorem find_live (l : List EntV) (nm : ByteArray) : l.find? (named nm) = (live l).find? (fun e => decide (e.name = nm)) := by
  unfold live
  rw [List.find?_filter]
  congr 1
  funext e
  unfold named
  by_cases h : e.num = 0 <;> simp [h]
theorem find_code {num : Nat} {l : List EntV} {nm : ByteArray} {κ : Nat → Nat} (h : GAt w i s gg g lab G) (h1 : 1 ≤ num) (h2 : num ≤ g.nodes) (hd : DirN G g num l κ) :
    Calls Tryz.prog 54 #[.pointer (some ⟨gg, 0, none⟩), .int .i64 (num : Int), .string nm] w fun e w' => e = .returned (.tuple #[.int .i64 (findC l nm).1, .int .i64 (findC l nm).2]) ∧ GAt w' i s gg g lab G ∧ Tch w.heap.size i.own w w' := by
  unfold findC
  rw [find_live]
  have hll : (live l).length ≤ 1024 := Nat.le_trans (List.length_filter_le _ _) hd.len
  cases hf : (live l).find? (fun e => decide (e.name = nm)) with
  | none =>
    exact dfind_no h (dlists hd h1 h2) hll fun e he => by
      have := List.find?_eq_none.1 hf e he
      simpa using this
  | some e0 =>
    obtain ⟨hp, pre, post, hab, hno⟩ := List.find?_eq_some_iff_append.1 hf
    have hK : (live l)[pre.length]? = some e0 := by rw [hab]; simp
    exact dfind_at hK (by simpa using hp) h (dlists hd h1 h2) hll fun j hj x hx => by
      rw [hab, List.getElem?_append_left hj] at hx
      have := hno x (List.mem_of_getElem? hx)
      simpa using this
end
end Go.Proofs.YthmkgohfeahdhaaGreat
namespace Go.Proofs.YthmkgohfeahdhaaGreat
open Go.RowKit
set_option linter.unusedSimpArgs false
set_option linter.unusedVariables false

theorem findC_no {l : List EntV} {nm : ByteArray} (h : ∀ e ∈ l, named nm e = false) : findC l nm = (0, 3) := by
  unfold findC
  rw [List.find?_eq_none.2 (fun e he => by rw [h e he]; simp)]
theorem findC_at {l : List EntV} {nm : ByteArray} {K : Nat} {e : EntV} (hK : l[K]? = some e) (he : named nm e = true) (hno : ∀ j, j < K → ∀ x, l[j]? = some x → named nm x = false) : findC l nm = ((e.num.toNat : Int), 0) := by
  unfold findC
  have hKl := (List.getElem?_eq_some_iff.1 hK).1
  have : l.find? (named nm) = some e := by
    rw [List.find?_eq_some_iff_append]
    refine ⟨he, l.take K, l.drop (K + 1), ?_, fun x hx => ?_⟩
    · have e2 := (List.getElem?_eq_some_iff.1 hK).2
      rw [← e2, List.getElem_cons_drop, List.take_append_drop]
    · obtain ⟨j, hj⟩ := List.getElem?_of_mem hx
      have hj2 := (List.getElem?_eq_some_iff.1 hj).1
      rw [List.length_take] at hj2
      rw [List.getElem?_take_of_lt (by omega)] at hj
      rw [hno j (by omega) x hj]; rfl
  rw [this]
/-- a node's places, as they lie -/
theorem ent_cells2 {w : World} {A : Option Addr} {N c : Nat} {l : List EntV} (h : w.ownsRow 0 125 2 (.slice A N c) N (flat2 l)) (hn : 0 < N) : ∃ g, A = some ⟨g, 0, none⟩ ∧ g < w.heap.size ∧ ∀ (k : Nat) (e : EntV), l[k]? = some e → w.cell? ⟨g, k * 2, none⟩ = some (.string e.name) ∧ w.cell? ⟨g, k * 2 + 1, none⟩ = some (.int .u16 (e.num.toNat : Int)) := by
  obtain ⟨g, h1, h2, h3⟩ := ent_range h hn
  exact ⟨g, h1, h2, fun k e he => ⟨h3 k e he 0 _ rfl, h3 k e he 1 _ rfl⟩⟩
section
variable {w w' : World} {mb nb cN tn tc blocks : Nat} {L : List RNd} {T : Option Addr}
set_option maxRecDepth 100000 in
set_option maxHeartbeats 1000000 in
theorem rdir_ok {k : Nat} {n : RNd} (h : GrAt w mb nb L cN T tn tc blocks) (hk : L[k]? = some n) (hn : n.kind = 2) :
    Calls Tryz.prog 123 #[.pointer (some ⟨mb, 0, none⟩), .int .i64 (k : Int)] w fun e w' => e = .returned (.int .i64 0) ∧ w = w' := by
  have hkl : k < L.length := (List.getElem?_eq_some_iff.1 hk).1
  have c0 : w.cell? ⟨nb, k * 5, none⟩ = some (.int .u8 2) := by
    have h0 := h.r.cell hk (j := 0) (by omega)
    rw [show n.cells[0]? = some (.int .u8 (n.kind.toNat : Int)) from rfl, hn] at h0
    exact h0
  have nbl := h.r.lt
  have m0 := h.m.cell 0
  have ml := h.m.lt
  have hkz : (k : Int) < (L.length : Int) := by omega
  generalize L.length = N at *
  clear h hk hn
  go_enter Tryz.func123, Tryz.ntmps123
  go_wp2
  go_returns
  exact ⟨rfl, rfl⟩
set_option maxRecDepth 100000 in
set_option maxHeartbeats 2000000 in
theorem rfind_ok {k : Nat} {n : RNd} {nm : ByteArray} (h : GrAt w mb nb L cN T tn tc blocks) (hk : L[k]? = some n) (hn : n.kind = 2) (hps : n.ps.length ≤ 3000) :
    Calls Tryz.prog 61 #[.pointer (some ⟨mb, 0, none⟩), .int .i64 (k : Int), .string nm] w fun e w' => e = .returned (.tuple #[.int .i64 (findC n.ps nm).1, .int .i64 (findC n.ps nm).2]) ∧ w = w' := by
  have HD := hide (rdir_ok h hk hn)
  have hkl : k < L.length := (List.getElem?_eq_some_iff.1 hk).1
  have c4 : w.cell? ⟨nb, k * 5 + 4, none⟩ = some (.slice n.P n.ps.length n.pc) := h.r.cell hk (j := 4) (by omega)
  have nbl := h.r.lt
  have m0 := h.m.cell 0
  have ml := h.m.lt
  have hkz : (k : Int) < (L.length : Int) := by omega
  have HPS := hide (h.r.all n (List.mem_of_getElem? hk)).p
  obtain ⟨N, hN⟩ : ∃ N, n.ps.length = N := ⟨_, rfl⟩
  rw [hN] at c4 HPS hps
  have HN := hide hN
  generalize L.length = M at *
  generalize n.P = P at *
  generalize n.pc = pc at *
  generalize n.ps = ps at *
  clear h hk hn hN
  go_enter Tryz.func61, Tryz.ntmps61
  go_wp2_with fail
  refine HD.out.mono ?_
  rintro e w_ ⟨rfl, hw_⟩
  subst hw_
  clear HD
  go_wp2_with fail
  go_loopg [10] N (fun gh x10 wr => ∃ j : Nat, j ≤ N ∧ gh = N - j ∧ x10 = .int .i64 (j : Int) ∧ Hid (w = wr) ∧ Hid (∀ i, i < j → ∀ x, ps[i]? = some x → named nm x = false))
  case atStart => exact ⟨0, Nat.zero_le _, rfl, rfl, hide rfl, hide fun j hj => absurd hj (Nat.not_lt_zero _)⟩
  case round =>
    obtain ⟨j, hj, hgh, rfl, HW, HNO⟩ := hrel
    have hww := HW.out
    subst hww
    have HGH := hide hgh
    clear hgh
    rcases Nat.lt_or_ge j N with hlt | hge
    · obtain ⟨e, he⟩ : ∃ e, ps[j]? = some e := ⟨_, List.getElem?_eq_getElem (by rw [HN.out]; exact hlt)⟩
      obtain ⟨ga, rfl, hga, hrg⟩ := ent_cells2 HPS.out (by omega)
      obtain ⟨y0, y1⟩ := hrg j e he
      have HE := hide he
      have t1 : decide ((j : Int) < (N : Int)) = true := by simp; omega
      have t1' : (j : Int) < (N : Int) := by omega
      have e64 : IntKind.i64.wrap ((j : Int) + 1) = (j : Int) + 1 := IntWalk.i64_in _ (by omega)
      have e7 : IntKind.i64.wrap (e.num.toNat : Int) = (e.num.toNat : Int) := IntWalk.i64_in _ (by have := e.num.toNat_lt; omega)
      clear he hrg
      by_cases hnm : named nm e = true
      · have HF := hide (findC_at HE.out hnm HNO.out)
        obtain ⟨hn1, hn2⟩ := named_true hnm
        have hn0 : e.num.toNat ≠ 0 := fun h0 => hn1 (UInt16.toNat_inj.1 h0)
        have t2 : decide ((0 : Int) < (e.num.toNat : Int)) = true := by simp; omega
        have t2' : (0 : Int) < (e.num.toNat : Int) := by omega
        have t3 := name_eq_true hn2
        clear hnm hn1 hn2 hn0
        go_wp2
        go_returns
        exact ⟨by rw [HF.out]; rfl, rfl⟩
      · have hnm' : named nm e = false := by simpa using hnm
        have hno' : ∀ i, i < j + 1 → ∀ x, ps[i]? = some x → named nm x = false := fun i hi x hx => by
          rcases Nat.lt_succ_iff_lt_or_eq.1 hi with h1 | rfl
          · exact HNO.out i h1 x hx
          · rw [HE.out] at hx
            cases hx
            exact hnm'
        have HNO' := hide hno'
        by_cases h0 : e.num.toNat = 0
        · have t2 : decide ((0 : Int) < (e.num.toNat : Int)) = false := by rw [h0]; rfl
          have t2' : ¬ (0 : Int) < (e.num.toNat : Int) := by omega
          clear hnm hnm' hno' h0
          go_wp2
          go_roundg (N - (j + 1))
          case rel => exact ⟨j + 1, by omega, rfl, by first | rfl | go_num, hide rfl, HNO'⟩
          case measure => have := HGH.out; omega
        · have hne : e.name ≠ nm := by
            rcases named_false hnm' with h1 | h1
            · exact absurd (by rw [h1]; rfl) h0
            · exact h1
          have t2 : decide ((0 : Int) < (e.num.toNat : Int)) = true := by simp; omega
          have t2' : (0 : Int) < (e.num.toNat : Int) := by omega
          have t3 := name_eq_false hne
          clear hnm hnm' hno' h0 hne
          go_wp2
          go_roundg (N - (j + 1))
          case rel => exact ⟨j + 1, by omega, rfl, by first | rfl | go_num, hide rfl, HNO'⟩
          case measure => have := HGH.out; omega
    · have t1 : decide ((j : Int) < (N : Int)) = false := by simp; omega
      have t1' : ¬ (j : Int) < (N : Int) := by omega
      have HF := hide (findC_no (l := ps) (nm := nm) fun e he => by
        obtain ⟨i, hi⟩ := List.getElem?_of_mem he
        exact HNO.out i (by have := (List.getElem?_eq_some_iff.1 hi).1; have := HN.out; omega) e hi)
      clear hge
      go_wp2
      go_returns
      exact ⟨by rw [HF.out]; rfl, rfl⟩
set_option maxRecDepth 100000 in
set_option maxHeartbeats 4000000 in
theorem rlist_ok {k : Nat} {n : RNd} (h : GrAt w mb nb L cN T tn tc blocks) (hk : L[k]? = some n) (hn : n.kind = 2) (hps : n.ps.length ≤ 3000) :
    Calls Tryz.prog 64 #[.pointer (some ⟨mb, 0, none⟩), .int .i64 (k : Int)] w fun e w' => ∃ A c, e = .returned (.tuple #[.slice A (live n.ps).length c, .int .i64 0]) ∧ w'.ownsRow w.heap.size 125 2 (.slice A (live n.ps).length c) (live n.ps).length (flat2 (live n.ps)) ∧ Below w.heap.size w w' := by
  have HD := hide (rdir_ok h hk hn)
  have hkl : k < L.length := (List.getElem?_eq_some_iff.1 hk).1
  have c4 : w.cell? ⟨nb, k * 5 + 4, none⟩ = some (.slice n.P n.ps.length n.pc) := h.r.cell hk (j := 4) (by omega)
  have nbl := h.r.lt
  have m0 := h.m.cell 0
  have ml := h.m.lt
  have hkz : (k : Int) < (L.length : Int) := by omega
  have HPS := hide (h.r.all n (List.mem_of_getElem? hk)).p
  obtain ⟨N, hN⟩ : ∃ N, n.ps.length = N := ⟨_, rfl⟩
  rw [hN] at c4 HPS hps
  have HN := hide hN
  generalize L.length = M at *
  generalize n.P = P at *
  generalize n.pc = pc at *
  generalize n.ps = ps at *
  clear h hk hn hN
  go_enter Tryz.func64, Tryz.ntmps64
  go_wp2_with fail
  refine HD.out.mono ?_
  rintro e w_ ⟨rfl, hw_⟩
  subst hw_
  clear HD
  go_wp2_with fail
  clear c4 nbl m0 ml
  go_loopg [7, 9] N (fun gh x7 x9 wr => ∃ (j m : Nat) (Ao : Option Addr) (co : Nat), j ≤ N ∧ gh = N - j ∧ x7 = .slice Ao m co ∧ x9 = .int .i64 (j : Int) ∧ Hid ((live (ps.take j)).length = m) ∧ Hid (Below w.heap.size w wr) ∧ Hid (wr.ownsRow w.heap.size 125 2 (.slice Ao m co) m (flat2 (live (ps.take j)))))
  case atStart => exact ⟨0, 0, none, 0, Nat.zero_le _, rfl, rfl, rfl, hide (by simp [live]), hide (Below.refl _ _), hide (World.ownsRow_nil _ _ _ _)⟩
  case round =>
    obtain ⟨j, m, Ao, co, hj, hgh, rfl, rfl, HM, HB, HO⟩ := hrel
    have HGH := hide hgh
    clear hgh
    rcases Nat.lt_or_ge j N with hlt | hge
    · obtain ⟨e, he⟩ : ∃ e, ps[j]? = some e := ⟨_, List.getElem?_eq_getElem (by rw [HN.out]; exact hlt)⟩
      obtain ⟨ga, rfl, hga, hrg⟩ := ent_range (own_below HPS.out HB.out) (by omega)
      have hrg' : wr.rangeAt ga (j * 2) [.string e.name, .int .u16 (e.num.toNat : Int)] := hrg j e he
      have y0 : wr.cell? ⟨ga, j * 2, none⟩ = some (.string e.name) := hrg' 0 _ rfl
      have y1 : wr.cell? ⟨ga, j * 2 + 1, none⟩ = some (.int .u16 (e.num.toNat : Int)) := hrg' 1 _ rfl
      have HRG := hide hrg'
      have HE := hide he
      have t1 : decide ((j : Int) < (N : Int)) = true := by simp; omega
      have t1' : (j : Int) < (N : Int) := by omega
      have e64 : IntKind.i64.wrap ((j : Int) + 1) = (j : Int) + 1 := IntWalk.i64_in _ (by omega)
      have hsz : (Tryz.prog.info? 125).map (·.size) = some ([Value.string e.name, .int .u16 (e.num.toNat : Int)] : List Value).length := size_ent
      have HSZ := hide hsz
      have hls := live_snoc ps j HE.out
      clear he hrg hrg' hsz
      by_cases hz : e.num = 0
      · rw [if_pos hz] at hls
        have hn0 : e.num.toNat = 0 := by rw [hz]; rfl
        have t2 : decide ((0 : Int) < (e.num.toNat : Int)) = false := by simp; omega
        have t2' : ¬ (0 : Int) < (e.num.toNat : Int) := by omega
        have HLS := hide hls
        clear hls hz hn0
        go_wp2
        go_roundg (N - (j + 1))
        case rel => exact ⟨j + 1, m, Ao, co, by omega, rfl, rfl, by first | rfl | go_num, hide (by rw [HLS.out]; exact HM.out), HB, hide (by rw [HLS.out]; exact HO.out)⟩
        case measure => have := HGH.out; omega
      · rw [if_neg hz] at hls
        have hn0 : e.num.toNat ≠ 0 := fun h0 => hz (UInt16.toNat_inj.1 h0)
        have t2 : decide ((0 : Int) < (e.num.toNat : Int)) = true := by simp; omega
        have t2' : (0 : Int) < (e.num.toNat : Int) := by omega
        have HLS := hide hls
        obtain ⟨j0, hj0, j1, j2, j3⟩ := info_ent
        have HJ := hide (And.intro hj0 (And.intro j1 (And.intro j2 j3)))
        have hone : ∀ u ∈ ([.string e.name, .int .u16 (e.num.toNat : Int)] : List Value), u.oneCell' = true := by simp [Value.oneCell']
        have HONE := hide hone
        have hmk : m ≤ 1000000 := by
          have h1 := HM.out
          have h2 : (live (ps.take j)).length ≤ (ps.take j).length := List.length_filter_le _ _
          rw [List.length_take] at h2
          omega
        have hwl := HB.out.size
        have HWL := hide hwl
        clear hls hj0 j1 j2 j3 hone hz hn0 hwl
        go_upto_region 10 with (fail)
        clear y0 y1
        go_wp2_with (first | ((with_reducible refine at_load 125 (.tmp 39) ?_); refine wpList_load_mid rfl 125 (.tmp 39) rfl ga (j * 2) (by rfl) [.string e.name, .int .u16 (e.num.toNat : Int)] _ HRG.out Tryz.underlying125 rfl HSZ.out ?_) | (at_builtin; refine wpList_append_one rfl (.tmp 36) (.tmp 41) 60 rfl w.heap.size 125 j0 (.agg #[.string ⟨#[]⟩, .int .u16 0]) 2 24 Tryz.underlying60 HJ.out.1 HJ.out.2.1 HJ.out.2.2.1 HJ.out.2.2.2 rfl (by decide) Ao co m (flat2 (live (ps.take j))) [.string e.name, .int .u16 (e.num.toNat : Int)] wr rfl HO.out rfl rfl rfl HONE.out hmk (by decide) HWL.out ?_; intro A9 c9 w6 hown9 hg9 hb9 hat9) | fail)
        have hfl : flat2 (live (ps.take j)) ++ [.string e.name, .int .u16 (e.num.toNat : Int)] = flat2 (live (ps.take (j + 1))) := by
          rw [HLS.out]
          simp [flat2, EntV.cells]
        rw [hfl] at hown9
        have HO6 := hide hown9
        have HB6 := hide (HB.out.grown hg9 HWL.out (fun g hg => (own_block_ge HO.out hg).1))
        clear hown9 hg9 hb9 hat9 hfl HB HO hga hmk
        go_roundg (N - (j + 1))
        case rel => exact ⟨j + 1, m + 1, A9, c9, by omega, rfl, rfl, by first | rfl | go_num, hide (by rw [HLS.out, List.length_append, HM.out]; rfl), HB6, HO6⟩
        case measure => have := HGH.out; omega
    · have t1 : decide ((j : Int) < (N : Int)) = false := by simp; omega
      have t1' : ¬ (j : Int) < (N : Int) := by omega
      have htk : ps.take j = ps := List.take_of_length_le (by have := HN.out; omega)
      have HF := hide (And.intro HM.out HO.out)
      rw [htk] at HF
      clear hge hj htk
      go_wp2
      go_returns
      refine ⟨Ao, co, ?_, ?_, HB.out⟩
      · have e1 := HF.out.1
        simp [e1]
      · rw [HF.out.1]
        exact HF.out.2
end
end Go.Proofs.YthmkgohfeahdhaaGreat
namespace Go.Proofs.YthmkgohfeahdhaaGreat
open Go.RowKit
set_option linter.unusedSimpArgs false
set_option linter.unusedVariables false

theorem flat5_same : ∀ {L : List RNd} {k : Nat} {n n' : RNd}, L[k]? = some n → n'.cells = n.cells → flat5 (L.set k n') = flat5 L
  | [], k, n, n', h, _ => by simp at h
  | a :: r, 0, n, n', h, hc => by
    obtain rfl : a = n := by simpa using h
    unfold flat5
    rw [List.set_cons_zero, List.flatMap_cons, List.flatMap_cons, hc]
  | a :: r, k + 1, n, n', h, hc => by
    have := flat5_same (L := r) (k := k) (n := n) (n' := n') (by simpa using h) hc
    unfold flat5 at this ⊢
    rw [List.set_cons_succ, List.flatMap_cons, List.flatMap_cons, this]
theorem RNd.pb_some {n : RNd} {g : Nat} (h : n.P = some ⟨g, 0, none⟩) : n.pb = some g := by unfold RNd.pb; rw [h]; rfl
theorem RNd.pb_with (n : RNd) (xs : List EntV) : (n.withP n.P xs n.pc).pb = n.pb := by
  obtain ⟨k, l, g, A, b, c, P, ps, pc⟩ := n
  cases P <;> rfl
theorem set_get {L : List RNd} {k j : Nat} {n' m : RNd} (h : (L.set k n')[j]? = some m) : (j = k ∧ m = n') ∨ (j ≠ k ∧ L[j]? = some m) := by
  by_cases e : j = k
  · subst e
    have hlt := (List.getElem?_eq_some_iff.1 h).1
    rw [List.length_set] at hlt
    rw [List.getElem?_set_self hlt] at h
    exact .inl ⟨rfl, (Option.some.inj h).symm⟩
  · rw [List.getElem?_set_ne (fun x => e x.symm)] at h
    exact .inr ⟨e, h⟩
/-- a node's places may lie where they lay, or in new memory -/
def PNew (B : Nat) (n n' : RNd) : Prop := ∀ g, n'.pb = some g → n.pb = some g ∨ B ≤ g
theorem PHigh.set {B B' : Nat} {L : List RNd} {k : Nat} {n n' : RNd} (h : PHigh B L) (hk : L[k]? = some n) (hn : PNew B' n n') (hB : B ≤ B') : PHigh B (L.set k n') := fun m hm g hg => by
  rcases List.mem_or_eq_of_mem_set hm with hm | rfl
  · exact h m hm g hg
  · rcases hn g hg with h1 | h1
    · exact h n (List.mem_of_getElem? hk) g h1
    · omega
theorem Sep.set {w : World} {L : List RNd} {k : Nat} {n n' : RNd} (h : Sep L) (hk : L[k]? = some n) (hat : ∀ m ∈ L, m.At w) (hn : PNew w.heap.size n n') : Sep (L.set k n') := fun i j a b hi hj hij g ha hb => by
  have low : ∀ m ∈ L, m.pb = some g → g < w.heap.size := fun m hm hg => (own_block_ge (hat m hm).p hg).2
  rcases set_get hi with ⟨h1, rfl⟩ | ⟨h1, h2⟩
  · rcases set_get hj with ⟨h3, rfl⟩ | ⟨h3, h4⟩
    · omega
    · rcases hn g ha with h5 | h5
      · exact h k j n b hk h4 (fun e => h3 e.symm) g h5 hb
      · have := low b (List.mem_of_getElem? h4) hb; omega
  · rcases set_get hj with ⟨h3, rfl⟩ | ⟨h3, h4⟩
    · rcases hn g hb with h5 | h5
      · exact h i k a n h2 hk h1 g ha h5
      · have := low a (List.mem_of_getElem? h2) ha; omega
    · exact h i j a b h2 h4 hij g ha hb
section
variable {w w' : World} {mb nb cN tn tc blocks : Nat} {L : List RNd} {T : Option Addr}
theorem RNd.At.apart {n : RNd} {g : Nat} {cur : Array Value} (h : n.At w) (hB : Blk w g 125 cur) (ht : Tch w.heap.size (· = g) w w') (hne : n.pb ≠ some g) : n.At w' :=
  ⟨own_from h.b ht (fun g' cur' hB' e => by subst e; exact hB'.ne hB (by decide) rfl), own_keep h.p fun g' hg' => ht.block g' (own_block_ge h.p hg').2 (fun e => hne (by subst e; exact hg'))⟩
theorem RNd.At.blk {n : RNd} {g : Nat} (h : n.At w) (hP : n.P = some ⟨g, 0, none⟩) : ∃ cur, Blk w g 125 cur ∧ cur.size = n.pc * 2 := by
  rcases h.p.2 with ⟨h0, _⟩ | ⟨g', cap, cur, hv, _, hh, _, _, hsz, _⟩
  · rw [hP] at h0; cases h0
  · rw [hP] at hv
    simp only [Value.slice.injEq, Option.some.injEq, Addr.mk.injEq] at hv
    obtain ⟨⟨rfl, _⟩, _, rfl⟩ := hv
    exact ⟨cur, hh, hsz⟩
/-- a node's places' block is written, its header stays -/
theorem Row5.inplace {k g : Nat} {n n' : RNd} {cur : Array Value} (h : Row5 w nb L cN) (hk : L[k]? = some n) (hP : n.P = some ⟨g, 0, none⟩) (hB : Blk w g 125 cur) (ht : Tch w.heap.size (· = g) w w') (hc : n'.cells = n.cells) (hn' : n'.At w') (hs : Sep L) : Row5 w' nb (L.set k n') cN := by
  refine ⟨by rw [List.length_set, flat5_same hk hc]; exact own_from h.row ht (fun g' cur' hB' e => by subst e; exact hB'.ne hB (by decide) rfl), fun m hm => ?_⟩
  obtain ⟨j, hj⟩ := List.getElem?_of_mem hm
  rcases set_get hj with ⟨_, rfl⟩ | ⟨h1, h2⟩
  · exact hn'
  · exact (h.all m (List.mem_of_getElem? h2)).apart hB ht (fun e => hs k j n m hk h2 (fun x => h1 x.symm) g (RNd.pb_some hP) e)
theorem GrAt.inplace {k g : Nat} {n n' : RNd} {cur : Array Value} (h : GrAt w mb nb L cN T tn tc blocks) (hk : L[k]? = some n) (hP : n.P = some ⟨g, 0, none⟩) (hB : Blk w g 125 cur) (ht : Tch w.heap.size (· = g) w w') (hc : n'.cells = n.cells) (hn' : n'.At w') (hs : Sep L) : GrAt w' mb nb (L.set k n') cN T tn tc blocks :=
  ⟨by rw [List.length_set]; exact h.m.tch ht h.m.lt (fun e => by subst e; exact h.m.ne hB (by decide) rfl), h.r.inplace hk hP hB ht hc hn' hs⟩
theorem RNd.At.setE {n : RNd} {g q : Nat} (h : n.At w) (hP : n.P = some ⟨g, 0, none⟩) (hq : q < n.ps.length) (e : EntV) : (n.withP n.P (n.ps.set q e) n.pc).At (w.setCells g (q * 2) e.cells) := by
  obtain ⟨cur, hB, _⟩ := h.blk hP
  refine ⟨own_from h.b (Tch.setCells (S := (· = g)) (fun _ => rfl) _ _ _) (fun g' cur' hB' e => by subst e; exact hB'.ne hB (by decide) rfl), ?_⟩
  have h2 := h.p
  show (w.setCells g (q * 2) e.cells).ownsRow 0 125 2 (.slice n.P (n.ps.set q e).length n.pc) (n.ps.set q e).length (flat2 (n.ps.set q e))
  rw [hP] at h2 ⊢
  have := own_cells (vs := e.cells) (o := q * 2) h2 (by simp [EntV.cells]; omega)
  rw [flat2_seg e hq] at this
  rw [List.length_set]
  exact this
theorem RNd.At.setV {n : RNd} {g q : Nat} {e : EntV} (h : n.At w) (hP : n.P = some ⟨g, 0, none⟩) (hq : n.ps[q]? = some e) (v : UInt16) : (n.withP n.P (n.ps.set q ⟨e.name, v⟩) n.pc).At (w.setCell ⟨g, q * 2 + 1, none⟩ (.int .u16 (v.toNat : Int))) := by
  obtain ⟨cur, hB, _⟩ := h.blk hP
  have hql := (List.getElem?_eq_some_iff.1 hq).1
  refine ⟨own_from h.b (Tch.setCell (S := (· = g)) (fun _ => rfl)) (fun g' cur' hB' e => by subst e; exact hB'.ne hB (by decide) rfl), ?_⟩
  have h2 := h.p
  show (w.setCell ⟨g, q * 2 + 1, none⟩ (.int .u16 (v.toNat : Int))).ownsRow 0 125 2 (.slice n.P (n.ps.set q ⟨e.name, v⟩).length n.pc) (n.ps.set q ⟨e.name, v⟩).length (flat2 (n.ps.set q ⟨e.name, v⟩))
  rw [hP] at h2 ⊢
  have h3 := own_cell1 (o := q * 2 + 1) (u := .int .u16 (v.toNat : Int)) h2 (by omega)
  have e1 : (flat2 n.ps).set (q * 2 + 1) (.int .u16 (v.toNat : Int)) = flat2 (n.ps.set q ⟨e.name, v⟩) := by
    apply List.ext_getElem?
    intro j
    obtain ⟨a, r, hr, rfl⟩ : ∃ a r, r < 2 ∧ j = a * 2 + r := ⟨j / 2, j % 2, Nat.mod_lt _ (by omega), by omega⟩
    by_cases ha : a < n.ps.length
    · by_cases haq : a = q
      · subst haq
        rw [flat2_get (L := n.ps.set a ⟨e.name, v⟩) (List.getElem?_set_self ha) hr]
        have : r = 0 ∨ r = 1 := by omega
        rcases this with rfl | rfl
        · rw [List.getElem?_set_ne (by omega), flat2_get hq hr]; rfl
        · rw [List.getElem?_set_self (by rw [flat2_length]; omega)]; rfl
      · rw [List.getElem?_set_ne (by omega), flat2_get (L := n.ps.set q ⟨e.name, v⟩) (n := n.ps[a]) (by rw [List.getElem?_set_ne (fun x => haq x.symm), List.getElem?_eq_getElem ha]) hr]
        exact flat2_get (List.getElem?_eq_getElem ha) hr
    · rw [List.getElem?_eq_none (by rw [List.length_set, flat2_length]; omega), List.getElem?_eq_none (by rw [flat2_length, List.length_set]; omega)]
  rw [e1] at h3
  rw [List.length_set]
  exact h3
/-- fewer places -/
theorem RNd.At.fewer {n : RNd} {m : Nat} (h : n.At w) (hm : m ≤ n.ps.length) : (n.withP n.P (n.ps.take m) n.pc).At w := by
  refine ⟨h.b, ?_⟩
  show w.ownsRow 0 125 2 (.slice n.P (n.ps.take m).length n.pc) (n.ps.take m).length (flat2 (n.ps.take m))
  have hl : (n.ps.take m).length = m := by rw [List.length_take]; omega
  have hf : flat2 (n.ps.take m) = (flat2 n.ps).take (m * 2) := by
    apply List.ext_getElem?
    intro j
    obtain ⟨a, r, hr, rfl⟩ : ∃ a r, r < 2 ∧ j = a * 2 + r := ⟨j / 2, j % 2, Nat.mod_lt _ (by omega), by omega⟩
    by_cases ha : a < m
    · rw [List.getElem?_take_of_lt (by omega), flat2_get (L := n.ps.take m) (n := n.ps[a]) (by rw [List.getElem?_take_of_lt ha, List.getElem?_eq_getElem]) hr]
      exact (flat2_get (List.getElem?_eq_getElem (by omega)) hr).symm
    · rw [List.getElem?_eq_none (by rw [flat2_length, hl]; omega), List.getElem?_eq_none (by rw [List.length_take]; omega)]
  rw [hl, hf]
  have hp := h.p
  refine ⟨by rw [List.length_take, flat2_length]; omega, ?_⟩
  rcases hp.2 with ⟨h0, h1⟩ | ⟨g, cap, cur, hv, hg, hh, hnc, hcm, hsz, htk⟩
  · left
    simp only [Value.slice.injEq] at h0 ⊢
    exact ⟨⟨h0.1, by omega, h0.2.2⟩, by omega⟩
  · right
    simp only [Value.slice.injEq] at hv
    refine ⟨g, cap, cur, by rw [hv.1, hv.2.2], hg, hh, by omega, hcm, hsz, ?_⟩
    rw [← htk, List.take_take]
    congr 1
    omega
end
end Go.Proofs.YthmkgohfeahdhaaGreat

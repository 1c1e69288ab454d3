/- The document's directories: an entry added: walked. The document's directories: an entry turned: walked. The document's directories: an entry dropped: walked. DirPlays: what holds between the calls. DirPlays: calls in any order on a directory: the law, walked. -/
import Derived.Test.YthmkgohfeahdhaaGreatDiPlaysLawP11
namespace Go.Proofs.YthmkgohfeahdhaaGreat
open Go.RowKit
set_option linter.unusedSimpArgs false
set_option linter.unusedVariables false

theorem grown_own {w w6 : World} {row : Option Nat} {e : TypeId} {sz n : Nat} {v : Value} {xs : List Value} (h : w.ownsRow 0 e sz v n xs) (hg : w.grownBy w6 row) (hne : ∀ g, v.ownBlock = some g → some g ≠ row) : w6.ownsRow 0 e sz v n xs :=
  own_keep h fun g hg' => hg.block g (own_block_ge h hg').2 (hne g hg')
section
variable {w w' : World} {mb nb cN tn tc blocks : Nat} {L : List RNd} {T : Option Addr}
theorem RNd.At.type {n : RNd} {g : Nat} {t : TypeId} {cur : Array Value} (h : n.At w) (hB : Blk w g t cur) (hne : t ≠ 125) : some g ≠ n.pb := fun e => row_not_blk h.p hB hne e.symm
theorem RNd.At.bytes {n m : RNd} (h : n.At w) (hm : m.At w) : ∀ g, (Value.slice m.A m.l.length m.c).ownBlock = some g → some g ≠ n.pb := fun g hg => by
  rcases hm.b.2 with ⟨h0, _⟩ | ⟨g', cap, cur, hv, _, hh, _⟩
  · rw [h0] at hg; cases hg
  · rw [hv] at hg
    have e : g' = g := by simpa [Value.ownBlock] using hg
    subst e
    exact h.type (show Blk w g' 5 cur from hh) (by decide)
/-- a node's places have grown; its header is written -/
theorem Row5.regrown {k m c' : Nat} {n : RNd} {A' : Option Addr} {ps' : List EntV} {w6 : World} (h : Row5 w nb L cN) (hk : L[k]? = some n) (hg : w.grownBy w6 n.pb) (hown : w6.ownsRow 0 125 2 (.slice A' m c') m (flat2 ps')) (hm : ps'.length = m) (hs : Sep L) :
    Row5 (w6.setCell ⟨nb, k * 5 + 4, none⟩ (.slice A' m c')) nb (L.set k (n.withP A' ps' c')) cN := by
  have hkl : k < L.length := (List.getElem?_eq_some_iff.1 hk).1
  have hn := h.all n (List.mem_of_getElem? hk)
  obtain ⟨cur, hB, _⟩ := h.blk
  have hnb : some nb ≠ n.pb := hn.type hB (by decide)
  have hB6 : Blk w6 nb 62 cur := hB.grown hg hnb
  have hrow : w6.ownsRow 0 62 5 (.slice (some ⟨nb, 0, none⟩) L.length cN) L.length (flat5 L) := grown_own h.row hg fun g hg' => by
    have e : nb = g := by simpa [Value.ownBlock] using hg'
    subst e; exact hnb
  have ht : Tch w6.heap.size (· = nb) w6 (w6.setCell ⟨nb, k * 5 + 4, none⟩ (.slice A' m c')) := Tch.setCell fun _ => rfl
  have step : ∀ x : RNd, x.At w6 → x.At (w6.setCell ⟨nb, k * 5 + 4, none⟩ (.slice A' m c')) := fun x hx => hx.tch ht (fun g cur' hB' e => by subst e; exact hB6.ne hB' (by decide) rfl) (fun g cur' hB' e => by subst e; exact hB6.ne hB' (by decide) rfl)
  refine ⟨?_, fun x hx => step x ?_⟩
  · have := own_cell1 (u := .slice A' m c') (o := k * 5 + 4) hrow (by omega)
    rw [flat5_set (n' := n.withP A' ps' c') hk (by omega) (by
      have e : (n.withP A' ps' c').cells = [.int .u8 (n.kind.toNat : Int), .int .i64 (n.links : Int), .int .u16 (n.gen.toNat : Int), .slice n.A n.l.length n.c, .slice A' ps'.length c'] := rfl
      rw [e, hm]; rfl)] at this
    rw [List.length_set]
    exact this
  · obtain ⟨j, hj⟩ := List.getElem?_of_mem hx
    rcases set_get hj with ⟨_, rfl⟩ | ⟨h1, h2⟩
    · have hb0 := grown_own hn.b hg (hn.bytes hn)
      refine ⟨hb0, ?_⟩
      show w6.ownsRow 0 125 2 (.slice A' ps'.length c') ps'.length (flat2 ps')
      rw [hm]; exact hown
    · have hxa := h.all x (List.mem_of_getElem? h2)
      exact ⟨grown_own hxa.b hg (hn.bytes hxa), grown_own hxa.p hg fun g hg' e => hs j k x n h2 hk h1 g hg' e.symm⟩
theorem addC_name {l : List EntV} {nm : ByteArray} {v : UInt16} (h : nameErr nm.data.toList ≠ 0) : addC l nm v = (nameErr nm.data.toList, l) := by unfold addC; rw [if_pos h]
theorem addC_zero {l : List EntV} {nm : ByteArray} {v : UInt16} (h : nameErr nm.data.toList = 0) (hv : v = 0) : addC l nm v = (27, l) := by unfold addC; rw [if_neg (by simpa using h), if_pos hv]
theorem addC_there {l : List EntV} {nm : ByteArray} {v : UInt16} (h : nameErr nm.data.toList = 0) (hv : v ≠ 0) (hx : ∃ e ∈ l, named nm e = true) : addC l nm v = (4, l) := by unfold addC; rw [if_neg (by simpa using h), if_neg hv, if_pos hx]
theorem addC_new {l : List EntV} {nm : ByteArray} {v : UInt16} (h : nameErr nm.data.toList = 0) (hv : v ≠ 0) (hx : ∀ e ∈ l, named nm e = false) : addC l nm v = (0, addL l ⟨nm, v⟩) := by
  unfold addC
  rw [if_neg (by simpa using h), if_neg hv, if_neg (fun ⟨e, he, hne⟩ => by rw [hx e he] at hne; cases hne)]
set_option maxRecDepth 100000 in
set_option maxHeartbeats 6000000 in
theorem radd_ok {k : Nat} {n : RNd} {nm : ByteArray} {v : UInt16} (h : GrAt w mb nb L cN T tn tc blocks) (hS : Small L) (ht : tn ≤ 6000) (hk : L[k]? = some n) (hn : n.kind = 2) (hps : n.ps.length ≤ 1000) (hsep : Sep L)
    (hroom : ∀ P' c', usedTo tn (L.set k (n.withP P' (addL n.ps ⟨nm, v⟩) c')) L.length ≤ blocks) :
    Calls Tryz.prog 62 #[.pointer (some ⟨mb, 0, none⟩), .int .i64 (k : Int), .agg #[.string nm, .int .u16 (v.toNat : Int)]] w fun e w' => e = .returned (.int .i64 (addC n.ps nm v).1) ∧
      (((addC n.ps nm v).1 ≠ 0 ∧ Below w.heap.size w w') ∨ ((addC n.ps nm v).1 = 0 ∧ ∃ P' c', GrAt w' mb nb (L.set k (n.withP P' (addC n.ps nm v).2 c')) cN T tn tc blocks ∧ PNew w.heap.size n (n.withP P' (addC n.ps nm v).2 c') ∧ Tch w.heap.size (fun x => x = nb ∨ n.pb = some x) w w')) := by
  have H := hide h
  have HS := hide (And.intro hS (And.intro ht (And.intro hsep hroom)))
  have HK := hide hk
  have HKN := hide hn
  have hkl : k < L.length := (List.getElem?_eq_some_iff.1 hk).1
  have HPSL := hide hps
  clear h hS ht hk hn hsep hroom hps
  go_enter Tryz.func62, Tryz.ntmps62
  go_upto_region 1 with (fail)
  refine at_world (fun W => ∃ q, q = w.heap.size ∧ Below w.heap.size w W ∧ Blk W q 125 #[.string nm, .int .u16 (v.toNat : Int)]) ⟨_, rfl, (Below.refl _ _).alloc (Nat.le_refl _) _, Blk.new _ _ _⟩ (fun w1 h1 => ?_)
  obtain ⟨q, hq, hb1, hQ1⟩ := h1
  rw [← hq]
  have H1 := hide (H.out.below hb1)
  have HB1 := hide hb1
  have HQ1 := hide hQ1
  have HQW := hide hq
  have HD := hide (rdir_ok H1.out HK.out HKN.out)
  have HF := hide (rfind_ok (nm := nm) H1.out HK.out HKN.out (by have := HPSL.out; omega))
  have q0 := hQ1.cell 0
  have q1 := hQ1.cell 1
  have ql := hQ1.lt
  have c4 : w1.cell? ⟨nb, k * 5 + 4, none⟩ = some (.slice n.P n.ps.length n.pc) := H1.out.r.cell HK.out (j := 4) (by omega)
  have nbl := H1.out.r.lt
  have m0 := H1.out.m.cell 0
  have ml := H1.out.m.lt
  have hkz : (k : Int) < (L.length : Int) := by omega
  obtain ⟨M, hM⟩ : ∃ M, L.length = M := ⟨_, rfl⟩
  obtain ⟨N, hN⟩ : ∃ N, n.ps.length = N := ⟨_, rfl⟩
  rw [hM] at m0 hkz
  rw [hN] at c4
  have HMN := hide (And.intro hM hN)
  clear hq hb1 hQ1 hM hN hkl
  go_wp2_with fail
  refine HD.out.mono ?_
  rintro e w_ ⟨rfl, hw_⟩
  subst hw_
  clear HD
  go_wp2_with fail
  refine (refname_ok nm w1).mono ?_
  rintro _ w_ ⟨rfl, hw_⟩
  have hw2 := hw_.symm
  clear hw_
  subst hw2
  by_cases hne : nameErr nm.data.toList = 0
  rotate_left
  · have HA := hide (addC_name (l := n.ps) (v := v) hne)
    have HNE := hide hne
    obtain ⟨z, hz⟩ : ∃ z, nameErr nm.data.toList = z := ⟨_, rfl⟩
    have HZ := hide hz
    rw [hz] at hne ⊢
    have t1 : (z == 0) = false := by rw [beq_eq_false_iff_ne]; exact hne
    clear hz
    go_wp2
    go_returns
    exact ⟨by rw [HA.out, HZ.out]; rfl, .inl ⟨by rw [HA.out]; exact HNE.out, HB1.out⟩⟩
  have HNE := hide hne
  rw [hne]
  clear hne
  by_cases hv : v = 0
  · have HA := hide (addC_zero (l := n.ps) HNE.out hv)
    have tv : ((v.toNat : Int) == 0) = true := by rw [hv]; rfl
    clear hv
    go_wp2
    go_returns
    exact ⟨by rw [HA.out]; rfl, .inl ⟨by rw [HA.out]; simp, HB1.out⟩⟩
  have HV := hide hv
  have hv0 : v.toNat ≠ 0 := fun h0 => hv (UInt16.toNat_inj.1 h0)
  have tv : ((v.toNat : Int) == 0) = false := by rw [beq_eq_false_iff_ne]; omega
  clear hv hv0
  go_wp2_with fail
  refine HF.out.mono ?_
  rintro e w_ ⟨rfl, hw_⟩
  subst hw_
  clear HF
  rcases any_named n.ps nm with hx | hx
  · obtain ⟨K, e0, k1, k2, k3⟩ := first_named hx
    rw [findC_at k1 k2 k3]
    have HA := hide (addC_there HNE.out HV.out hx)
    generalize (e0.num.toNat : Int) = z
    clear hx k1 k2 k3
    go_wp2
    go_returns
    exact ⟨by rw [HA.out]; rfl, .inl ⟨by rw [HA.out]; simp, HB1.out⟩⟩
  rw [findC_no hx]
  have HA := hide (addC_new HNE.out HV.out hx)
  clear hx tv
  go_wp2_with fail
  go_loopg [12] N (fun gh x12 wr => ∃ j : Nat, j ≤ N ∧ gh = N - j ∧ x12 = .int .i64 (j : Int) ∧ Hid (w1 = wr) ∧ Hid (∀ i, i < j → ∀ x, n.ps[i]? = some x → x.num ≠ 0))
  case atStart => exact ⟨0, Nat.zero_le _, rfl, rfl, hide rfl, hide fun j hj => absurd hj (Nat.not_lt_zero _)⟩
  case round =>
    obtain ⟨j, hj, hgh, rfl, HW, HNO⟩ := hrel
    have hww := HW.out
    subst hww
    have HGH := hide hgh
    clear hgh
    rcases Nat.lt_or_ge j N with hlt | hge
    · obtain ⟨e, he⟩ : ∃ e, n.ps[j]? = some e := ⟨_, List.getElem?_eq_getElem (by rw [HMN.out.2]; exact hlt)⟩
      have hat := H1.out.r.all n (List.mem_of_getElem? HK.out)
      have hP := hat.p
      rw [HMN.out.2] at hP
      obtain ⟨ga, hPA, hga, hrg⟩ := ent_cells2 hP (by omega)
      obtain ⟨y0, y1⟩ := hrg j e he
      have hcap := own_le_cap hP
      obtain ⟨cur, hBE, hcur⟩ := hat.blk hPA
      have HE := hide he
      have HPA := hide hPA
      have HAT := hide hat
      have HBE := hide (And.intro hBE (And.intro hcur hcap))
      rw [hPA] at c4
      have t1 : decide ((j : Int) < (N : Int)) = true := by simp; omega
      have t1' : (j : Int) < (N : Int) := by omega
      have e64 : IntKind.i64.wrap ((j : Int) + 1) = (j : Int) + 1 := IntWalk.i64_in _ (by have := HPSL.out; have := HMN.out.2; omega)
      clear he hat hP hPA hrg hcap hBE hcur
      by_cases hz : e.num = 0
      · have t2 : ((e.num.toNat : Int) == 0) = true := by rw [hz]; rfl
        have HZ := hide hz
        have HLT := hide hlt
        clear hz hlt
        go_upto_region 17 with (fail)
        refine wp_region_text [0, 0, 0, 0, 0, 0, 0, 2] (· = w1.drew) (by kernel_rfl) (by kernel_rfl) rfl ?_
        iterate 5 (refine wpOrd_q (v := ?_) (by rfl) (fun W hW => ?_) ?_; rotate_left; (focus ((cases hW; go_simp); try with_reducible rfl)); try simp only [Act.put, List.setIfInBounds_toArray, List.set_cons_zero, List.set_cons_succ])
        refine wpOrd_q (v := .agg #[.string nm, .int .u16 (v.toNat : Int)]) (by rfl) (fun W hW => by cases hW; exact exec_load_blk 125 (.tmp 5) rfl q _ #[.string nm, .int .u16 (v.toNat : Int)] _ rfl HQ1.out.drew Tryz.underlying125 rfl (by exact size_ent)) ?_
        try simp only [Act.put, List.setIfInBounds_toArray, List.set_cons_zero, List.set_cons_succ]
        iterate 1 (refine wpOrd_q (v := ?_) (by rfl) (fun W hW => ?_) ?_; rotate_left; (focus ((cases hW; go_simp); try with_reducible rfl)); try simp only [Act.put, List.setIfInBounds_toArray, List.set_cons_zero, List.set_cons_succ])
        refine wpOrd_b (by rfl) (fun K hK => ?_)
        refine wp_store_mid 125 (.tmp 68) (.tmp 67) rfl ga (j * 2) #[.string nm, .int .u16 (v.toNat : Int)] (by rfl) (by rfl) (HBE.out.1.drew.there (by have := HBE.out.2; have := HLT.out; simp; omega)) (by exact size_ent) (by simp [Value.oneCell']) ?_
        refine hK (fun _ => True) _ _ trivial (wpOrd_nil ?_)
        have hq2 : j < n.ps.length := by rw [HMN.out.2]; exact HLT.out
        have hadd : addL n.ps ⟨nm, v⟩ = n.ps.set j ⟨nm, v⟩ := by
          have h1 := addAt_eq HNO.out (.inr ⟨e, HE.out, HZ.out⟩)
          unfold addL
          rw [h1, if_pos hq2]
        have hres : GrAt (w1.drew.setCells ga (j * 2) (EntV.cells ⟨nm, v⟩)) mb nb (L.set k (n.withP n.P (n.ps.set j ⟨nm, v⟩) n.pc)) cN T tn tc blocks :=
          (H1.out.below (Below.refl _ _).drew).inplace HK.out HPA.out HBE.out.1.drew (Tch.setCells (S := (· = ga)) (fun _ => rfl) _ _ _) (by simp [RNd.cells, RNd.withP]) ((HAT.out.tch (S := fun _ => False) (Tch.of_below (Below.refl _ _).drew) (fun _ _ _ h => h) (fun _ _ _ h => h)).setE HPA.out hq2 _) HS.out.2.2.1
        have htch : Tch w.heap.size (fun x => x = nb ∨ n.pb = some x) w (w1.drew.setCells ga (j * 2) (EntV.cells ⟨nm, v⟩)) :=
          (Tch.of_below HB1.out).trans ((Tch.drew (Tch.refl _ _ _)).trans (Tch.setCells (fun _ => .inr (RNd.pb_some HPA.out)) _ _ _))
        have HRES := hide (And.intro hres htch)
        have HADD := hide hadd
        clear hres htch hadd hq2 hK K c4 nbl m0 ml q0 q1 ql y0 y1
        go_wp2
        go_returns
        refine ⟨by rw [HA.out]; rfl, .inr ⟨by rw [HA.out], n.P, n.pc, ?_, fun g hg => .inl ?_, HRES.out.2⟩⟩
        · rw [HA.out, HADD.out]; exact HRES.out.1
        · exact (RNd.pb_with n _).symm.trans hg
      · have hn0 : e.num.toNat ≠ 0 := fun h0 => hz (UInt16.toNat_inj.1 h0)
        have t2 : ((e.num.toNat : Int) == 0) = false := by rw [beq_eq_false_iff_ne]; omega
        have hno' : ∀ i, i < j + 1 → ∀ x, n.ps[i]? = some x → x.num ≠ 0 := free_more HE.out hz HNO.out
        have HNO' := hide hno'
        clear hno' hz hn0
        go_wp2
        go_roundg (N - (j + 1))
        case rel => exact ⟨j + 1, by omega, rfl, by first | rfl | go_num, hide rfl, HNO'⟩
        case measure => have := HGH.out; omega
    · have hjN : j = N := by omega
      have t1 : decide ((j : Int) < (N : Int)) = false := by simp; omega
      have t1' : ¬ (j : Int) < (N : Int) := by omega
      have t2 : decide ((1024 : Int) ≤ (N : Int)) = false := by have := HPSL.out; have := HMN.out.2; simp; omega
      have t2' : ¬ (1024 : Int) ≤ (N : Int) := by have := HPSL.out; have := HMN.out.2; omega
      have HJN := hide hjN
      clear hge hj hjN
      go_upto_region 21 with (fail)
      have hat := H1.out.r.all n (List.mem_of_getElem? HK.out)
      have hown := hat.p
      rw [HMN.out.2] at hown
      obtain ⟨curN, hBN, _⟩ := H1.out.r.blk
      have hnb : some nb ≠ n.pb := hat.type hBN (by decide)
      have hqb : some q ≠ n.pb := fun e => by
        have h0 := (own_block_ge (H.out.r.all n (List.mem_of_getElem? HK.out)).p e.symm).2
        have := HQW.out
        omega
      have hmb : some mb ≠ n.pb := hat.type H1.out.m (by decide)
      have hmn := H1.out.m.ne hBN (by decide)
      have hpb : (Value.slice n.P N n.pc).ownBlock = n.pb := by unfold RNd.pb; rw [HMN.out.2]
      have HOWN := hide hown
      have HNB := hide (And.intro hnb (And.intro hqb (And.intro hmb (And.intro hmn hpb))))
      obtain ⟨j0, hj0, j1, j2, j3⟩ := info_ent
      have HJ := hide (And.intro hj0 (And.intro j1 (And.intro j2 j3)))
      have HSB := hide (show ∀ W, Below w1.heap.size w1 W → (nb < W.heap.size ∧ W.cell? ⟨nb, k * 5 + 4, none⟩ = some (.slice n.P N n.pc)) ∧ Blk W q 125 #[.string nm, .int .u16 (v.toNat : Int)] from fun W hb => ⟨⟨Nat.lt_of_lt_of_le nbl hb.size, (hb.cell (p := ⟨nb, k * 5 + 4, none⟩) nbl).trans c4⟩, HQ1.out.below hb HQ1.out.lt⟩)
      clear hat hown hBN hnb hqb hmb hmn hpb hj0 j1 j2 j3
      refine wp_region_text [0, 0, 0, 0, 0, 0, 1, 1, 0, 0, 2] (fun W => (nb < W.heap.size ∧ W.cell? ⟨nb, k * 5 + 4, none⟩ = some (.slice n.P N n.pc)) ∧ Blk W q 125 #[.string nm, .int .u16 (v.toNat : Int)]) (by kernel_rfl) (by kernel_rfl) (HSB.out _ (Below.refl _ _).drew) ?_
      iterate 5 (refine wpOrd_q (v := ?_) (by rfl) (fun W hW => ?_) ?_; rotate_left; (focus ((obtain ⟨⟨z1, z2⟩, -⟩ := hW; go_simp); try with_reducible rfl)); try simp only [Act.put, List.setIfInBounds_toArray, List.set_cons_zero, List.set_cons_succ])
      refine wpOrd_q (v := .agg #[.string nm, .int .u16 (v.toNat : Int)]) (by rfl) (fun W hW => exec_load_blk 125 (.tmp 5) rfl q _ _ _ rfl hW.2 Tryz.underlying125 rfl (by exact size_ent)) ?_
      try simp only [Act.put, List.setIfInBounds_toArray, List.set_cons_zero, List.set_cons_succ]
      refine wpOrd_x (by rfl) (fun K hK => ?_)
      go_simp
      refine hK _ _ _ (fun _ h => h) (HSB.out _ ((Below.refl _ _).drew.alloc (Nat.le_refl _) _)) ?_
      clear hK K
      try simp only [Act.put, List.setIfInBounds_toArray, List.set_cons_zero, List.set_cons_succ]
      refine at_world (fun W => ∃ lb, lb = w1.heap.size ∧ Below w1.heap.size w1 W ∧ W.ownsRow 0 125 2 (.slice (some ⟨lb, 0, none⟩) 1 1) 1 [.string nm, .int .u16 (v.toNat : Int)]) ⟨_, rfl, (Below.refl _ _).drew.alloc (Nat.le_refl _) _, own_lit (w := w1.drew) rfl rfl (Nat.zero_le _) (by simp [maxLen]) rfl⟩ (fun w2 h2 => ?_)
      obtain ⟨lb, hlb, hb2, hl2⟩ := h2
      try rw [show w1.drew.heap.size = w1.heap.size from rfl]
      rw [← hlb]
      have HB2 := hide hb2
      have HL2 := hide hl2
      have HONE := hide (show ∀ u ∈ ([.string nm, .int .u16 (v.toNat : Int)] : List Value), u.oneCell' = true by simp [Value.oneCell'])
      have H2 := hide (H1.out.below hb2)
      have HNL := hide (show N ≤ 1000 from by have := HPSL.out; have := HMN.out.2; omega)
      clear hlb hb2 hl2 c4 nbl m0 ml q0 q1 ql
      refine wpOrd_x (by rfl) (fun K hK => ?_)
      refine wp_append_rd w2 (.tmp 79) (.tmp 81) 60 (by rfl) 0 125 j0 (.agg #[.string ⟨#[]⟩, .int .u16 0]) 2 24 Tryz.underlying60 HJ.out.1 HJ.out.2.1 HJ.out.2.2.1 HJ.out.2.2.2 rfl (by decide) (.slice n.P N n.pc) N (flat2 n.ps) (by first | rfl | simp [Act.eval]) (own_below HOWN.out HB2.out) w2.heap.size (some ⟨lb, 0, none⟩) 1 1 [.string nm, .int .u16 (v.toNat : Int)] (by first | rfl | simp [Act.eval]) (Rd.of_own HL2.out) HONE.out (by have := HNL.out; simp only [maxLen]; omega) (by have := HNL.out; omega) (Nat.zero_le _) ?_
      intro v6 w6 hown6 hg6 _ hat6
      obtain ⟨A6, c6, rfl, _, _, _⟩ := own_form hown6
      rw [HNB.out.2.2.2.2] at hg6 hat6
      obtain ⟨⟨nbl2, c42⟩, hQ2⟩ := HSB.out w2 HB2.out
      have cc6 : w6.cell? ⟨nb, k * 5 + 4, none⟩ = some (.slice n.P N n.pc) := (World.cell?_of_block (a := ⟨nb, k * 5 + 4, none⟩) (hg6.block nb nbl2 HNB.out.1)).trans c42
      have m6 : nb < w6.heap.size := Nat.lt_of_lt_of_le nbl2 hg6.size
      have f6 : w6.frozen? ⟨nb, k * 5 + 4, none⟩ = false := (World.frozen?_of_block (a := ⟨nb, k * 5 + 4, none⟩) (hg6.block nb nbl2 HNB.out.1)).trans (H2.out.r.frozen _)
      refine hK _ _ _ (fun _ h => h) ⟨⟨m6, cc6⟩, hQ2.grown hg6 HNB.out.2.1⟩ ?_
      clear hK K
      try simp only [Act.put, List.setIfInBounds_toArray, List.set_cons_zero, List.set_cons_succ]
      have hfl : flat2 n.ps ++ [.string nm, .int .u16 (v.toNat : Int)] = flat2 (n.ps ++ [⟨nm, v⟩]) := by simp [flat2, EntV.cells]
      rw [hfl] at hown6
      have hadd : addL n.ps ⟨nm, v⟩ = n.ps ++ [⟨nm, v⟩] := by
        have h1 := addAt_eq (l := n.ps) (j := N) (fun i hi x hx => HNO.out i (by have := HJN.out; omega) x hx) (.inl HMN.out.2.symm)
        unfold addL
        rw [h1, if_neg (by rw [HMN.out.2]; omega)]
      have hlen6 : (n.ps ++ [(⟨nm, v⟩ : EntV)]).length = N + 1 := by rw [List.length_append, HMN.out.2]; rfl
      have hr7 := H2.out.r.regrown HK.out hg6 hown6 hlen6 HS.out.2.2.1
      have hm7 := (H2.out.m.grown hg6 HNB.out.2.2.1).far (p := ⟨nb, k * 5 + 4, none⟩) HNB.out.2.2.2.1 (.slice A6 (N + 1) c6)
      have ht7 : Tch w.heap.size (fun x => x = nb ∨ n.pb = some x) w (w6.setCell ⟨nb, k * 5 + 4, none⟩ (.slice A6 (N + 1) c6)) :=
        (Tch.of_below (HB1.out.trans (HB2.out.mono HB1.out.size))).trans ((Tch.grown hg6 (Nat.le_trans HB1.out.size HB2.out.size) (fun g hg _ => .inr hg)).trans (Tch.setCell fun _ => .inl rfl))
      have hpn : PNew w.heap.size n (n.withP A6 (n.ps ++ [⟨nm, v⟩]) c6) := fun g hg => by
        have e1 : (n.withP A6 (n.ps ++ [⟨nm, v⟩]) c6).pb = (Value.slice A6 (N + 1) c6).ownBlock := by
          show (Value.slice A6 (n.ps ++ [(⟨nm, v⟩ : EntV)]).length c6).ownBlock = _
          rw [hlen6]
        rw [e1] at hg
        rcases hat6 with h5 | h5
        · rw [h5] at hg; exact .inl hg
        · rw [h5] at hg
          right
          have h6 := HB1.out.size
          have h7 := HB2.out.size
          cases hg
          omega
      obtain ⟨n', hn'⟩ : ∃ n', n.withP A6 (n.ps ++ [⟨nm, v⟩]) c6 = n' := ⟨_, rfl⟩
      have hroom := HS.out.2.2.2 A6 c6
      rw [hadd] at hroom
      rw [hn'] at hr7 hpn hroom
      have hS7 : Small (L.set k n') := by
        refine ⟨by rw [List.length_set]; exact HS.out.1.1, fun m hm => ?_⟩
        rcases List.mem_or_eq_of_mem_set hm with hm | rfl
        · exact HS.out.1.2 m hm
        · rw [← hn']
          exact ⟨(HS.out.1.2 n (List.mem_of_getElem? HK.out)).1, by show (n.ps ++ [(⟨nm, v⟩ : EntV)]).length ≤ 3000; rw [hlen6]; have := HNL.out; omega⟩
      have hlen7 : (L.set k n').length = M := by rw [List.length_set]; exact HMN.out.1
      have HRES : Hid (∀ W, Below (w6.setCell ⟨nb, k * 5 + 4, none⟩ (.slice A6 (N + 1) c6)).heap.size (w6.setCell ⟨nb, k * 5 + 4, none⟩ (.slice A6 (N + 1) c6)) W → GrAt W mb nb (L.set k n') cN T tn tc blocks ∧ Tch w.heap.size (fun x => x = nb ∨ n.pb = some x) w W) := hide (fun W hb => by
        refine ⟨⟨?_, hr7.below hb⟩, ht7.trans ((Tch.of_below hb).mono ht7.size fun _ _ h => h)⟩
        rw [List.length_set]
        exact hm7.below hb hm7.lt)
      rw [HMN.out.1] at hm7 hroom
      have hM1 : 1 ≤ M := by have := (List.getElem?_eq_some_iff.1 HK.out).1; have := HMN.out.1; omega
      have hfu := rfull_ok (T := T) (tc := tc) (blocks := blocks) (w6.setCell ⟨nb, k * 5 + 4, none⟩ (.slice A6 (N + 1) c6)) hr7 hS7 HS.out.2.1 (by rw [hlen7]; exact hM1)
      rw [hlen7] at hfu
      have HHN := hide (And.intro hadd (And.intro hn' hpn))
      have HRO := hide hroom
      iterate 2 (refine wpOrd_q (v := ?_) (by rfl) (fun W hW => ?_) ?_; rotate_left; (focus ((obtain ⟨⟨z1, z2⟩, -⟩ := hW; go_simp); try with_reducible rfl)); try simp only [Act.put, List.setIfInBounds_toArray, List.set_cons_zero, List.set_cons_succ])
      refine wpOrd_b (by rfl) (fun K hK => ?_)
      go_simp
      refine hK (fun _ => True) _ _ trivial (wpOrd_nil ?_)
      clear hK K
      obtain ⟨W7, hW7⟩ : ∃ W7, w6.setCell ⟨nb, k * 5 + 4, none⟩ (.slice A6 (N + 1) c6) = W7 := ⟨_, rfl⟩
      rw [hW7] at hm7 hfu HRES ⊢
      have HM7 := hide hm7
      have HFU := hide hfu
      have hszg := size_rgroup (.slice (some ⟨nb, 0, none⟩) M cN) (.slice T tn tc) (.int .i64 (blocks : Int))
      have HSZ := hide hszg
      clear hown6 hlen6 hfl hadd hr7 hm7 ht7 hpn hS7 hlen7 hfu hn' hroom hW7 hszg cc6 f6 m6 hg6 hat6 hQ2 c42 nbl2 hM1
      go_wp2_with (first | ((with_reducible refine at_load 47 (.tmp 86) ?_); refine wpList_load_blk rfl 47 (.tmp 86) rfl mb _ _ _ (by rfl) HM7.out Tryz.underlying47 rfl HSZ.out ?_) | fail)
      refine HFU.out.mono ?_
      rintro e w8 ⟨rfl, hb8⟩
      obtain ⟨r1, r2⟩ := HRES.out w8 hb8
      have HR1 := hide r1
      have HR2 := hide r2
      clear r1 r2 hb8 HRES HFU HM7
      have t9 : decide (blocks < usedTo tn (L.set k n') M) = false := by have := HRO.out; simp; omega
      rw [t9]
      clear t9
      go_wp2
      go_returns
      refine ⟨by rw [HA.out]; rfl, .inr ⟨by rw [HA.out], A6, c6, ?_, ?_, HR2.out⟩⟩
      · rw [HA.out, HHN.out.1, HHN.out.2.1]; exact HR1.out
      · rw [HA.out, HHN.out.1, HHN.out.2.1]; exact HHN.out.2.2
end
end Go.Proofs.YthmkgohfeahdhaaGreat
namespace Go.Proofs.YthmkgohfeahdhaaGreat
open Go.RowKit
set_option linter.unusedSimpArgs false
set_option linter.unusedVariables false

section
variable {w w' : World} {mb nb cN tn tc blocks : Nat} {L : List RNd} {T : Option Addr}
set_option maxRecDepth 100000 in
set_option maxHeartbeats 4000000 in
theorem rturn_ok {k : Nat} {n : RNd} {nm : ByteArray} {v : UInt16} (h : GrAt w mb nb L cN T tn tc blocks) (hk : L[k]? = some n) (hn : n.kind = 2) (hps : n.ps.length ≤ 1000) (hsep : Sep L) :
    Calls Tryz.prog 60 #[.pointer (some ⟨mb, 0, none⟩), .int .i64 (k : Int), .agg #[.string nm, .int .u16 (v.toNat : Int)]] w fun e w' => e = .returned (.int .i64 (turnC n.ps nm v).1) ∧
      (((turnC n.ps nm v).1 ≠ 0 ∧ Below w.heap.size w w') ∨ ((turnC n.ps nm v).1 = 0 ∧ ∃ P' c', GrAt w' mb nb (L.set k (n.withP P' (turnC n.ps nm v).2 c')) cN T tn tc blocks ∧ PNew w.heap.size n (n.withP P' (turnC n.ps nm v).2 c') ∧ Tch w.heap.size (fun x => x = nb ∨ n.pb = some x) w w')) := by
  have H := hide h
  have HS := hide hsep
  have HK := hide hk
  have HKN := hide hn
  have hkl : k < L.length := (List.getElem?_eq_some_iff.1 hk).1
  have HPSL := hide hps
  clear h hk hn hsep hps
  go_enter Tryz.func60, Tryz.ntmps60
  go_upto_region 1 with (fail)
  refine at_world (fun W => ∃ q, q = w.heap.size ∧ Below w.heap.size w W ∧ Blk W q 125 #[.string nm, .int .u16 (v.toNat : Int)]) ⟨_, rfl, (Below.refl _ _).alloc (Nat.le_refl _) _, Blk.new _ _ _⟩ (fun w1 h1 => ?_)
  obtain ⟨q, hq, hb1, hQ1⟩ := h1
  rw [← hq]
  have H1 := hide (H.out.below hb1)
  have HB1 := hide hb1
  have HQ1 := hide hQ1
  have HD := hide (rdir_ok H1.out HK.out HKN.out)
  have q0 := hQ1.cell 0
  have q1 := hQ1.cell 1
  have ql := hQ1.lt
  have c4 : w1.cell? ⟨nb, k * 5 + 4, none⟩ = some (.slice n.P n.ps.length n.pc) := H1.out.r.cell HK.out (j := 4) (by omega)
  have nbl := H1.out.r.lt
  have m0 := H1.out.m.cell 0
  have ml := H1.out.m.lt
  have hkz : (k : Int) < (L.length : Int) := by omega
  obtain ⟨M, hM⟩ : ∃ M, L.length = M := ⟨_, rfl⟩
  obtain ⟨N, hN⟩ : ∃ N, n.ps.length = N := ⟨_, rfl⟩
  rw [hM] at m0 hkz
  rw [hN] at c4
  have HMN := hide (And.intro hM hN)
  clear hq hb1 hQ1 hM hN hkl
  go_wp2_with fail
  refine HD.out.mono ?_
  rintro e w_ ⟨rfl, hw_⟩
  subst hw_
  clear HD
  by_cases hv : v = 0
  · have HA := hide (show turnC n.ps nm v = (27, n.ps) by unfold turnC; rw [if_pos hv])
    have tv : ((v.toNat : Int) == 0) = true := by rw [hv]; rfl
    clear hv
    go_wp2
    go_returns
    exact ⟨by rw [HA.out]; rfl, .inl ⟨by rw [HA.out]; simp, HB1.out⟩⟩
  have HV := hide hv
  have hv0 : v.toNat ≠ 0 := fun h0 => hv (UInt16.toNat_inj.1 h0)
  have tv : ((v.toNat : Int) == 0) = false := by rw [beq_eq_false_iff_ne]; omega
  have HC := hide (show ∀ W, Below w1.heap.size w1 W → nb < W.heap.size ∧ W.cell? ⟨nb, k * 5 + 4, none⟩ = some (.slice n.P N n.pc) ∧ q < W.heap.size ∧ W.cell? ⟨q, 0, none⟩ = some (.string nm) ∧ W.cell? ⟨q, 1, none⟩ = some (.int .u16 (v.toNat : Int)) from fun W hb =>
    ⟨Nat.lt_of_lt_of_le nbl hb.size, (hb.cell (p := ⟨nb, k * 5 + 4, none⟩) nbl).trans c4, Nat.lt_of_lt_of_le ql hb.size, (hb.cell (p := ⟨q, 0, none⟩) ql).trans q0, (hb.cell (p := ⟨q, 1, none⟩) ql).trans q1⟩)
  clear hv hv0
  go_wp2_with fail
  clear q0 q1 ql c4 nbl m0 ml tv
  go_loopg [9] N (fun gh x9 wr => ∃ j : Nat, j ≤ N ∧ gh = N - j ∧ x9 = .int .i64 (j : Int) ∧ Hid (Below w1.heap.size w1 wr) ∧ Hid (∀ i, i < j → ∀ x, n.ps[i]? = some x → named nm x = false))
  case atStart => exact ⟨0, Nat.zero_le _, rfl, rfl, hide (Below.refl _ _), hide fun j hj => absurd hj (Nat.not_lt_zero _)⟩
  case round =>
    obtain ⟨j, hj, hgh, rfl, HB, HNO⟩ := hrel
    have HGH := hide hgh
    clear hgh
    rcases Nat.lt_or_ge j N with hlt | hge
    · obtain ⟨e, he⟩ : ∃ e, n.ps[j]? = some e := ⟨_, List.getElem?_eq_getElem (by rw [HMN.out.2]; exact hlt)⟩
      have Hr := hide (H1.out.below HB.out)
      have hat := Hr.out.r.all n (List.mem_of_getElem? HK.out)
      have hP := hat.p
      rw [HMN.out.2] at hP
      obtain ⟨ga, hPA, hga, hrg⟩ := ent_cells2 hP (by omega)
      obtain ⟨y0, y1⟩ := hrg j e he
      obtain ⟨cur, hBE, hcur⟩ := hat.blk hPA
      obtain ⟨nbl, c4, ql, q0, q1⟩ := HC.out wr HB.out
      rw [hPA] at c4
      have HE := hide he
      have HPA := hide hPA
      have HAT := hide hat
      have HBE := hide hBE
      have t1 : decide ((j : Int) < (N : Int)) = true := by simp; omega
      have t1' : (j : Int) < (N : Int) := by omega
      have e64 : IntKind.i64.wrap ((j : Int) + 1) = (j : Int) + 1 := IntWalk.i64_in _ (by have := HPSL.out; have := HMN.out.2; omega)
      have HFA := hide (show ∀ W, Below wr.heap.size wr W → ga < W.heap.size ∧ W.cell? ⟨ga, j * 2, none⟩ = some (.string e.name) ∧ W.cell? ⟨ga, j * 2 + 1, none⟩ = some (.int .u16 (e.num.toNat : Int)) from fun W hb =>
        ⟨Nat.lt_of_lt_of_le hga hb.size, (hb.cell (p := ⟨ga, j * 2, none⟩) hga).trans y0, (hb.cell (p := ⟨ga, j * 2 + 1, none⟩) hga).trans y1⟩)
      clear he hat hP hPA hrg hcur hBE
      go_upto_region 10 with (fail)
      by_cases hnm : named nm e = true
      · obtain ⟨hn1, hn2⟩ := named_true hnm
        have hn0 : e.num.toNat ≠ 0 := fun h0 => hn1 (UInt16.toNat_inj.1 h0)
        have t2 : decide ((0 : Int) < (e.num.toNat : Int)) = true := by simp; omega
        have t2' : (0 : Int) < (e.num.toNat : Int) := by omega
        have t2n : decide (0 < e.num.toNat) = true := by simp; omega
        have t2n' : 0 < e.num.toNat := by omega
        have t3 := name_eq_true hn2
        have HNM := hide hnm
        have HLT := hide hlt
        clear hnm hn1 hn2 hn0 hlt
        refine wp_region_text [0, 0, 0, 0, 0, 0, 0, 0, 0, 0, 0, 0, 0, 0, 0, 0, 0, 0, 0, 0, 0, 0] (· = wr.drew) (by kernel_rfl) (by kernel_rfl) rfl ?_
        iterate 22 (refine wpOrd_q (v := ?_) (by rfl) (fun W hW => ?_) ?_; rotate_left; (focus ((cases hW; go_simp); try with_reducible rfl)); try simp only [Act.put, List.setIfInBounds_toArray, List.set_cons_zero, List.set_cons_succ])
        refine wpOrd_nil ?_
        refine at_world (fun W => Below wr.heap.size wr W) (Below.refl _ _).drew (fun w2 hb2 => ?_)
        obtain ⟨hga, y0, y1⟩ := HFA.out w2 hb2
        have hbb := HB.out.trans (hb2.mono HB.out.size)
        obtain ⟨nbl, c4, ql, q0, q1⟩ := HC.out w2 hbb
        rw [HPA.out] at c4
        have H2 := hide (Hr.out.below hb2)
        have HAT2 := hide (H2.out.r.all n (List.mem_of_getElem? HK.out))
        have HBE2 := hide (HBE.out.below hb2 HBE.out.lt)
        have HB2 := hide hbb
        have fz := HBE2.out.frozen (j * 2 + 1)
        clear hb2 hbb
        go_upto_region 11 with (fail)
        refine wp_region_text [0, 0, 0, 0, 0, 0, 0, 0, 0, 2] (· = w2.drew) (by kernel_rfl) (by kernel_rfl) rfl ?_
        iterate 9 (refine wpOrd_q (v := ?_) (by rfl) (fun W hW => ?_) ?_; rotate_left; (focus ((cases hW; go_simp); try with_reducible rfl)); try simp only [Act.put, List.setIfInBounds_toArray, List.set_cons_zero, List.set_cons_succ])
        refine wpOrd_b (by rfl) (fun K hK => ?_)
        go_simp
        refine hK (fun _ => True) _ _ trivial (wpOrd_nil ?_)
        have hq2 : j < n.ps.length := by rw [HMN.out.2]; exact HLT.out
        have hTA := hide (turnL_eq v HE.out HNM.out HNO.out)
        have HA : Hid (turnC n.ps nm v = (0, n.ps.set j ⟨e.name, v⟩)) := hide (by
          unfold turnC
          rw [if_neg HV.out, if_pos ⟨e, List.mem_of_getElem? HE.out, HNM.out⟩, hTA.out])
        have hres : GrAt (w2.drew.setCell ⟨ga, j * 2 + 1, none⟩ (.int .u16 (v.toNat : Int))) mb nb (L.set k (n.withP n.P (n.ps.set j ⟨e.name, v⟩) n.pc)) cN T tn tc blocks :=
          (H2.out.below (Below.refl _ _).drew).inplace HK.out HPA.out HBE2.out.drew (Tch.setCell (S := (· = ga)) (fun _ => rfl)) (by simp [RNd.cells, RNd.withP]) ((HAT2.out.tch (S := fun _ => False) (Tch.of_below (Below.refl _ _).drew) (fun _ _ _ h => h) (fun _ _ _ h => h)).setV HPA.out HE.out _) HS.out
        have htch : Tch w.heap.size (fun x => x = nb ∨ n.pb = some x) w (w2.drew.setCell ⟨ga, j * 2 + 1, none⟩ (.int .u16 (v.toNat : Int))) :=
          (Tch.of_below (HB1.out.trans (HB2.out.mono HB1.out.size))).trans ((Tch.drew (Tch.refl _ _ _)).trans (Tch.setCell (fun _ => .inr (RNd.pb_some HPA.out))))
        have HRES := hide (And.intro hres htch)
        clear hres htch hq2 hK K c4 nbl q0 q1 ql y0 y1
        go_wp2
        go_returns
        refine ⟨by rw [HA.out]; rfl, .inr ⟨by rw [HA.out], n.P, n.pc, ?_, fun g hg => .inl ?_, HRES.out.2⟩⟩
        · rw [HA.out]; exact HRES.out.1
        · exact (RNd.pb_with n _).symm.trans hg
      · have hnm' : named nm e = false := by simpa using hnm
        have hno' : ∀ i, i < j + 1 → ∀ x, n.ps[i]? = some x → named nm x = false := fun i hi x hx => by
          rcases Nat.lt_succ_iff_lt_or_eq.1 hi with h1 | rfl
          · exact HNO.out i h1 x hx
          · rw [HE.out] at hx
            cases hx
            exact hnm'
        have HNO' := hide hno'
        by_cases h0 : e.num.toNat = 0
        · have t2 : decide ((0 : Int) < (e.num.toNat : Int)) = false := by rw [h0]; rfl
          have t2' : ¬ (0 : Int) < (e.num.toNat : Int) := by omega
          have t2n : decide (0 < e.num.toNat) = false := by simp; omega
          have t2n' : ¬ 0 < e.num.toNat := by omega
          clear hnm hnm' hno' h0
          refine wp_region_text [0, 0, 0, 0, 0, 0, 0, 0, 0, 0, 0, 0, 0, 0, 0, 0, 0, 0, 0, 0, 0, 0] (· = wr.drew) (by kernel_rfl) (by kernel_rfl) rfl ?_
          iterate 10 (refine wpOrd_q (v := ?_) (by rfl) (fun W hW => ?_) ?_; rotate_left; (focus ((cases hW; go_simp); try with_reducible rfl)); try simp only [Act.put, List.setIfInBounds_toArray, List.set_cons_zero, List.set_cons_succ])
          iterate 11 (refine wpOrd_n (by rfl) ?_; try simp only [Act.put, List.setIfInBounds_toArray, List.set_cons_zero, List.set_cons_succ])
          iterate 1 (refine wpOrd_q (v := ?_) (by rfl) (fun W hW => ?_) ?_; rotate_left; (focus ((cases hW; go_simp); try with_reducible rfl)); try simp only [Act.put, List.setIfInBounds_toArray, List.set_cons_zero, List.set_cons_succ])
          refine wpOrd_nil ?_
          refine at_world (fun W => Below wr.heap.size wr W) (Below.refl _ _).drew (fun w2 hb2 => ?_)
          have HB2 := hide (HB.out.trans (hb2.mono HB.out.size))
          clear hb2 c4 nbl q0 q1 ql y0 y1 hga
          go_wp2
          go_roundg (N - (j + 1))
          case rel => exact ⟨j + 1, by omega, rfl, by first | rfl | go_num, HB2, HNO'⟩
          case measure => have := HGH.out; omega
        · have hne : e.name ≠ nm := by
            rcases named_false hnm' with h1 | h1
            · exact absurd (by rw [h1]; rfl) h0
            · exact h1
          have t2 : decide ((0 : Int) < (e.num.toNat : Int)) = true := by simp; omega
          have t2' : (0 : Int) < (e.num.toNat : Int) := by omega
          have t2n : decide (0 < e.num.toNat) = true := by simp; omega
          have t2n' : 0 < e.num.toNat := by omega
          have t3 := name_eq_false hne
          clear hnm hnm' hno' h0 hne
          refine wp_region_text [0, 0, 0, 0, 0, 0, 0, 0, 0, 0, 0, 0, 0, 0, 0, 0, 0, 0, 0, 0, 0, 0] (· = wr.drew) (by kernel_rfl) (by kernel_rfl) rfl ?_
          iterate 22 (refine wpOrd_q (v := ?_) (by rfl) (fun W hW => ?_) ?_; rotate_left; (focus ((cases hW; go_simp); try with_reducible rfl)); try simp only [Act.put, List.setIfInBounds_toArray, List.set_cons_zero, List.set_cons_succ])
          refine wpOrd_nil ?_
          refine at_world (fun W => Below wr.heap.size wr W) (Below.refl _ _).drew (fun w2 hb2 => ?_)
          have HB2 := hide (HB.out.trans (hb2.mono HB.out.size))
          clear hb2 c4 nbl q0 q1 ql y0 y1 hga
          go_wp2
          go_roundg (N - (j + 1))
          case rel => exact ⟨j + 1, by omega, rfl, by first | rfl | go_num, HB2, HNO'⟩
          case measure => have := HGH.out; omega
    · have t1 : decide ((j : Int) < (N : Int)) = false := by simp; omega
      have t1' : ¬ (j : Int) < (N : Int) := by omega
      obtain ⟨nbl, c4, ql, q0, q1⟩ := HC.out wr HB.out
      have HA := hide (show turnC n.ps nm v = (3, n.ps) by
        unfold turnC
        rw [if_neg HV.out, if_neg]
        rintro ⟨e, he, hne⟩
        obtain ⟨i, hi⟩ := List.getElem?_of_mem he
        have := HNO.out i (by have := (List.getElem?_eq_some_iff.1 hi).1; have := HMN.out.2; omega) e hi
        rw [this] at hne
        cases hne)
      clear hge
      go_wp2
      go_returns
      exact ⟨by rw [HA.out]; rfl, .inl ⟨by rw [HA.out]; simp, HB1.out.trans (HB.out.mono HB1.out.size)⟩⟩
end
end Go.Proofs.YthmkgohfeahdhaaGreat
namespace Go.Proofs.YthmkgohfeahdhaaGreat
open Go.RowKit
set_option linter.unusedSimpArgs false
set_option linter.unusedVariables false

/-- places, the first ones of a name being empty -/
def blankTo (l : List EntV) (nm : ByteArray) (j : Nat) : List EntV := (blankL l nm).take j ++ l.drop j
theorem blankTo_len (l : List EntV) (nm : ByteArray) (j : Nat) : (blankTo l nm j).length = l.length := by
  unfold blankTo
  rw [List.length_append, List.length_take, blankL_len, List.length_drop]; omega
theorem blankTo_zero (l : List EntV) (nm : ByteArray) : blankTo l nm 0 = l := by simp [blankTo]
theorem blankTo_all (l : List EntV) (nm : ByteArray) : blankTo l nm l.length = blankL l nm := by
  unfold blankTo
  rw [List.drop_length, List.append_nil, List.take_of_length_le (by rw [blankL_len]; exact Nat.le_refl _)]
theorem blankTo_get {l : List EntV} {nm : ByteArray} {j i : Nat} {e : EntV} (he : l[i]? = some e) : (blankTo l nm j)[i]? = some (if i < j then (if named nm e then EntV.zero else e) else e) := by
  have hi := (List.getElem?_eq_some_iff.1 he).1
  unfold blankTo
  by_cases h : i < j
  · rw [List.getElem?_append_left (by rw [List.length_take, blankL_len]; omega), List.getElem?_take_of_lt h, blankL_get he, if_pos h]
  · rw [if_neg h, List.getElem?_append_right (by rw [List.length_take, blankL_len]; omega), List.length_take, blankL_len, List.getElem?_drop, ← he]
    congr 1
    omega
theorem blankTo_next {l : List EntV} {nm : ByteArray} {j : Nat} {e : EntV} (he : l[j]? = some e) : blankTo l nm (j + 1) = if named nm e then (blankTo l nm j).set j EntV.zero else blankTo l nm j := by
  obtain ⟨hj, e2⟩ := List.getElem?_eq_some_iff.1 he
  have e1 : ∀ (i : Nat) (x : EntV), i ≠ j → (if i < j + 1 then (if named nm x then EntV.zero else x) else x) = (if i < j then (if named nm x then EntV.zero else x) else x) := fun i x hij => by
    by_cases h : i < j
    · rw [if_pos h, if_pos (by omega)]
    · rw [if_neg h, if_neg (by omega)]
  apply List.ext_getElem?
  intro i
  by_cases hi : i < l.length
  · rw [blankTo_get (List.getElem?_eq_getElem hi)]
    by_cases hn : named nm e = true
    · rw [if_pos hn]
      by_cases hij : i = j
      · subst hij
        rw [e2, if_pos (by omega), if_pos hn, List.getElem?_set_self (by rw [blankTo_len]; exact hj)]
      · rw [e1 i _ hij, List.getElem?_set_ne (fun x => hij x.symm), blankTo_get (List.getElem?_eq_getElem hi)]
    · rw [if_neg hn]
      by_cases hij : i = j
      · subst hij
        rw [e2, if_pos (by omega), if_neg hn, blankTo_get he, if_neg (by omega)]
      · rw [e1 i _ hij, blankTo_get (List.getElem?_eq_getElem hi)]
  · rw [List.getElem?_eq_none (by rw [blankTo_len]; omega)]
    split
    · rw [List.getElem?_eq_none (by rw [List.length_set, blankTo_len]; omega)]
    · rw [List.getElem?_eq_none (by rw [blankTo_len]; omega)]
theorem run_slice_hi2 {P : Program} {w : World} (t e : TypeId) (A : Option Addr) (len cap h : Nat) (k : IntKind) (hu : P.underlying t = some (.slice e)) (hs : (P.info? e).map (·.size) = some 2) (hl : h ≤ cap) :
    (Instr.sliceAt t (.slice A len cap) none (some (.int k (h : Int))) none).run P w = .ok (.slice A h cap) w := by
  cases hq : P.info? e with
  | none => simp [hq] at hs
  | some i =>
    have hi : i.size = 2 := by simpa [hq] using hs
    have h1 : (h : Int) ≤ (cap : Int) := by omega
    cases A <;> simp [Instr.sliceAt, Instr.slice, run_underlying hu, Instr.sliceBounds, run_sliceBound, h1, sizeOf, typeInfo, hq, hi, sliced, Addr.add, Result.andThen]
theorem Sep.same {L : List RNd} {k : Nat} {n : RNd} (h : Sep L) (hk : L[k]? = some n) (xs : List EntV) : Sep (L.set k (n.withP n.P xs n.pc)) := fun i j a b hi hj hij g ha hb => by
  rcases set_get hi with ⟨h1, rfl⟩ | ⟨h1, h2⟩
  · rcases set_get hj with ⟨h3, rfl⟩ | ⟨h3, h4⟩
    · omega
    · rw [RNd.pb_with] at ha
      exact h k j n b hk h4 (fun e => h3 e.symm) g ha hb
  · rcases set_get hj with ⟨h3, rfl⟩ | ⟨h3, h4⟩
    · rw [RNd.pb_with] at hb
      exact h i k a n h2 hk h1 g ha hb
    · exact h i j a b h2 h4 hij g ha hb
section
variable {w w' : World} {mb nb cN tn tc blocks : Nat} {L : List RNd} {T : Option Addr}
/-- what is known while places are written -/
structure DropAt (w W : World) (mb nb cN tn tc blocks : Nat) (L : List RNd) (T : Option Addr) (k : Nat) (n : RNd) (xs : List EntV) : Prop where
  gr : GrAt W mb nb (L.set k (n.withP n.P xs n.pc)) cN T tn tc blocks
  ht : Tch w.heap.size (fun x => x = nb ∨ n.pb = some x) w W
theorem DropAt.facts {W : World} {k : Nat} {n : RNd} {xs : List EntV} (h : DropAt w W mb nb cN tn tc blocks L T k n xs) (hk : L[k]? = some n) :
    nb < W.heap.size ∧ W.cell? ⟨nb, k * 5 + 4, none⟩ = some (.slice n.P xs.length n.pc) ∧ W.frozen? ⟨nb, k * 5 + 4, none⟩ = false ∧ (n.withP n.P xs n.pc).At W := by
  have hkl := (List.getElem?_eq_some_iff.1 hk).1
  have hk' : (L.set k (n.withP n.P xs n.pc))[k]? = some (n.withP n.P xs n.pc) := List.getElem?_set_self hkl
  exact ⟨h.gr.r.lt, h.gr.r.cell hk' (j := 4) (by omega), h.gr.r.frozen _, h.gr.r.all _ (List.mem_of_getElem? hk')⟩
theorem DropAt.drew {W : World} {k : Nat} {n : RNd} {xs : List EntV} (h : DropAt w W mb nb cN tn tc blocks L T k n xs) : DropAt w W.drew mb nb cN tn tc blocks L T k n xs :=
  ⟨h.gr.below (Below.refl _ _).drew, h.ht.trans (Tch.drew (Tch.refl _ _ _))⟩
theorem DropAt.blank {W : World} {k g j : Nat} {n : RNd} {xs : List EntV} (h : DropAt w W mb nb cN tn tc blocks L T k n xs) (hk : L[k]? = some n) (hP : n.P = some ⟨g, 0, none⟩) (hj : j < xs.length) (hs : Sep L) : DropAt w (W.setCells g (j * 2) EntV.zero.cells) mb nb cN tn tc blocks L T k n (xs.set j EntV.zero) := by
  have hkl := (List.getElem?_eq_some_iff.1 hk).1
  have hk' : (L.set k (n.withP n.P xs n.pc))[k]? = some (n.withP n.P xs n.pc) := List.getElem?_set_self hkl
  obtain ⟨_, _, _, hat⟩ := h.facts hk
  obtain ⟨cur, hB, _⟩ := hat.blk hP
  have h1 := h.gr.inplace (n' := n.withP n.P (xs.set j EntV.zero) n.pc) hk' hP hB (Tch.setCells (S := (· = g)) (fun _ => rfl) EntV.zero.cells (j * 2) W) (by simp [RNd.cells, RNd.withP]) (hat.setE hP hj EntV.zero) (hs.same hk xs)
  rw [List.set_set] at h1
  exact ⟨h1, h.ht.trans (Tch.setCells (fun _ => .inr (RNd.pb_some hP)) _ _ _)⟩
theorem DropAt.fewer {W : World} {k m : Nat} {n : RNd} {xs : List EntV} (h : DropAt w W mb nb cN tn tc blocks L T k n xs) (hk : L[k]? = some n) (hm : m ≤ xs.length) : DropAt w (W.setCell ⟨nb, k * 5 + 4, none⟩ (.slice n.P m n.pc)) mb nb cN tn tc blocks L T k n (xs.take m) := by
  have hkl := (List.getElem?_eq_some_iff.1 hk).1
  have hk' : (L.set k (n.withP n.P xs n.pc))[k]? = some (n.withP n.P xs n.pc) := List.getElem?_set_self hkl
  obtain ⟨_, _, _, hat⟩ := h.facts hk
  have hl : (xs.take m).length = m := by rw [List.length_take]; omega
  have h1 := h.gr.r.set1 (n' := n.withP n.P (xs.take m) n.pc) (u := .slice n.P m n.pc) hk' (j := 4) (by omega) (by
    have e : (n.withP n.P (xs.take m) n.pc).cells = [.int .u8 (n.kind.toNat : Int), .int .i64 (n.links : Int), .int .u16 (n.gen.toNat : Int), .slice n.A n.l.length n.c, .slice n.P (xs.take m).length n.pc] := rfl
    rw [e, hl]; rfl) (hat.fewer hm)
  rw [List.set_set] at h1
  have hmn := h.gr.m.ne h.gr.r.blk.choose_spec.1 (by decide)
  exact ⟨⟨by have := h.gr.m.far (p := ⟨nb, k * 5 + 4, none⟩) hmn (.slice n.P m n.pc); rw [List.length_set] at this ⊢; exact this, h1⟩, h.ht.trans (Tch.setCell fun _ => .inl rfl)⟩
set_option maxRecDepth 100000 in
set_option maxHeartbeats 6000000 in
theorem rdrop_ok {k : Nat} {n : RNd} {nm : ByteArray} (h : GrAt w mb nb L cN T tn tc blocks) (hk : L[k]? = some n) (hn : n.kind = 2) (hps : n.ps.length ≤ 1000) (hsep : Sep L) :
    Calls Tryz.prog 58 #[.pointer (some ⟨mb, 0, none⟩), .int .i64 (k : Int), .string nm] w fun e w' => e = .returned (.int .i64 (dropC n.ps nm).1) ∧
      (((dropC n.ps nm).1 ≠ 0 ∧ Below w.heap.size w w') ∨ ((dropC n.ps nm).1 = 0 ∧ ∃ P' c', GrAt w' mb nb (L.set k (n.withP P' (dropC n.ps nm).2 c')) cN T tn tc blocks ∧ PNew w.heap.size n (n.withP P' (dropC n.ps nm).2 c') ∧ Tch w.heap.size (fun x => x = nb ∨ n.pb = some x) w w')) := by
  have HF := hide (rfind_ok (nm := nm) h hk hn (by omega))
  have HS := hide hsep
  have HK := hide hk
  have hkl : k < L.length := (List.getElem?_eq_some_iff.1 hk).1
  have HPSL := hide hps
  have hnn : n.withP n.P n.ps n.pc = n := rfl
  have HD0 : Hid (DropAt w w mb nb cN tn tc blocks L T k n n.ps) := hide ⟨by
    rw [hnn]
    have : L.set k n = L := by
      apply List.ext_getElem?
      intro i
      by_cases e : k = i
      · subst e; rw [List.getElem?_set_self hkl, hk]
      · rw [List.getElem?_set_ne e]
    rw [this]; exact h, Tch.refl _ _ _⟩
  have nbl := h.r.lt
  have m0 := h.m.cell 0
  have ml := h.m.lt
  have hkz : (k : Int) < (L.length : Int) := by omega
  obtain ⟨M, hM⟩ : ∃ M, L.length = M := ⟨_, rfl⟩
  obtain ⟨N, hN⟩ : ∃ N, n.ps.length = N := ⟨_, rfl⟩
  rw [hM] at m0 hkz
  have HMN := hide (And.intro hM hN)
  clear h hk hn hsep hps hnn hM hN hkl
  go_enter Tryz.func58, Tryz.ntmps58
  go_wp2_with fail
  refine HF.out.mono ?_
  rintro e w_ ⟨rfl, hw_⟩
  subst hw_
  clear HF
  rcases any_named n.ps nm with hx | hx
  rotate_left
  · have HA := hide (show dropC n.ps nm = (3, n.ps) by
      unfold dropC
      rw [if_neg (fun ⟨e, he, hne⟩ => by rw [hx e he] at hne; cases hne)])
    rw [findC_no hx]
    clear hx
    go_wp2
    go_returns
    exact ⟨by rw [HA.out]; rfl, .inl ⟨by rw [HA.out]; simp, Below.refl _ _⟩⟩
  have HA := hide (show dropC n.ps nm = (0, dropR n.ps nm) by unfold dropC; rw [if_pos hx])
  obtain ⟨K, e0, k1, k2, k3⟩ := first_named hx
  rw [findC_at k1 k2 k3]
  generalize (e0.num.toNat : Int) = z0
  clear hx k1 k2 k3
  go_wp2_with fail
  clear nbl m0 ml
  go_loopg [10] N (fun gh x10 wr => ∃ j : Nat, j ≤ N ∧ gh = N - j ∧ x10 = .int .i64 (j : Int) ∧ Hid (DropAt w wr mb nb cN tn tc blocks L T k n (blankTo n.ps nm j)))
  case atStart => exact ⟨0, Nat.zero_le _, rfl, rfl, by rw [blankTo_zero]; exact HD0⟩
  case round =>
    clear HD0
    obtain ⟨j, hj, hgh, rfl, HD⟩ := hrel
    have HGH := hide hgh
    clear hgh
    obtain ⟨nbl, c4, f4, hat⟩ := HD.out.facts HK.out
    rw [blankTo_len, HMN.out.2] at c4
    have hP := hat.p
    rw [show (n.withP n.P (blankTo n.ps nm j) n.pc).ps = blankTo n.ps nm j from rfl, blankTo_len, HMN.out.2] at hP
    rcases Nat.lt_or_ge j N with hlt | hge
    · obtain ⟨e, he⟩ : ∃ e, n.ps[j]? = some e := ⟨_, List.getElem?_eq_getElem (by rw [HMN.out.2]; exact hlt)⟩
      obtain ⟨ga, hPA, hga, hrg⟩ := ent_cells2 hP (by omega)
      have hPA' : n.P = some ⟨ga, 0, none⟩ := hPA
      obtain ⟨y0, y1⟩ := hrg j e (by rw [blankTo_get he, if_neg (by omega)])
      obtain ⟨cur, hBE, hcur⟩ := hat.blk hPA
      have hcap := own_le_cap hP
      rw [hPA'] at c4
      have HE := hide he
      have HPA := hide hPA'
      have HBE := hide (And.intro hBE (And.intro hcur hcap))
      have t1 : decide ((j : Int) < (N : Int)) = true := by simp; omega
      have t1' : (j : Int) < (N : Int) := by omega
      have e64 : IntKind.i64.wrap ((j : Int) + 1) = (j : Int) + 1 := IntWalk.i64_in _ (by have := HPSL.out; have := HMN.out.2; omega)
      have hnx := blankTo_next (nm := nm) he
      clear he hat hP hPA hPA' hrg hcur hBE hcap
      by_cases hnm : named nm e = true
      · obtain ⟨hn1, hn2⟩ := named_true hnm
        have hn0 : e.num.toNat ≠ 0 := fun h0 => hn1 (UInt16.toNat_inj.1 h0)
        have t2 : decide ((0 : Int) < (e.num.toNat : Int)) = true := by simp; omega
        have t2' : (0 : Int) < (e.num.toNat : Int) := by omega
        have t2n : decide (0 < e.num.toNat) = true := by simp; omega
        have t2n' : 0 < e.num.toNat := by omega
        have t3 := name_eq_true hn2
        rw [if_pos hnm] at hnx
        have HNX := hide hnx
        have HLT := hide hlt
        clear hnm hn1 hn2 hn0 hlt hnx
        go_upto_region 9 with (fail)
        have HTH := hide (show wr.there ga (j * 2) 2 from HBE.out.1.there (by have h5 := HBE.out.2.1; have h6 := HBE.out.2.2; have h7 := HLT.out; have h8 : (n.withP n.P (blankTo n.ps nm j) n.pc).pc = n.pc := rfl; omega))
        have HSZ0 := hide (show (Tryz.prog.info? 125).map (·.size) = some EntV.zero.cells.toArray.size from size_ent)
        have HON := hide (show EntV.zero.cells.toArray.all (·.oneCell') = true by simp [EntV.zero, EntV.cells, Value.oneCell'])
        clear y0 y1 hga
        go_wp2_with (first | ((with_reducible refine at_build 125 #[] ?_); refine wpList_zero_as rfl 125 rfl _ (build_ent0 _) ?_) | ((with_reducible refine at_store 125 (.tmp 63) (.tmp 62) ?_); refine wpList_store_mid rfl 125 (.tmp 63) (.tmp 62) rfl ga (j * 2) EntV.zero.cells.toArray (by rfl) (by rfl) HTH.out HSZ0.out HON.out ?_) | fail)
        have hd := HD.out.blank HK.out HPA.out (j := j) (by rw [blankTo_len, HMN.out.2]; exact HLT.out) HS.out
        rw [← HNX.out] at hd
        have HD2 := hide hd
        clear hd
        go_roundg (N - (j + 1))
        case rel => exact ⟨j + 1, by have := HLT.out; omega, rfl, by first | rfl | go_num, HD2⟩
        case measure => have := HGH.out; have := HLT.out; omega
      · have hnm' : named nm e = false := by simpa using hnm
        rw [if_neg hnm] at hnx
        rw [← hnx] at HD
        by_cases h0 : e.num.toNat = 0
        · have t2 : decide ((0 : Int) < (e.num.toNat : Int)) = false := by rw [h0]; rfl
          have t2' : ¬ (0 : Int) < (e.num.toNat : Int) := by omega
          have t2n : decide (0 < e.num.toNat) = false := by simp; omega
          have t2n' : ¬ 0 < e.num.toNat := by omega
          clear hnm hnm' h0 hnx
          go_wp2
          go_roundg (N - (j + 1))
          case rel => exact ⟨j + 1, by omega, rfl, by first | rfl | go_num, HD⟩
          case measure => have := HGH.out; omega
        · have hne : e.name ≠ nm := by
            rcases named_false hnm' with h1 | h1
            · exact absurd (by rw [h1]; rfl) h0
            · exact h1
          have t2 : decide ((0 : Int) < (e.num.toNat : Int)) = true := by simp; omega
          have t2' : (0 : Int) < (e.num.toNat : Int) := by omega
          have t2n : decide (0 < e.num.toNat) = true := by simp; omega
          have t2n' : 0 < e.num.toNat := by omega
          have t3 := name_eq_false hne
          clear hnm hnm' h0 hne hnx
          go_wp2
          go_roundg (N - (j + 1))
          case rel => exact ⟨j + 1, by omega, rfl, by first | rfl | go_num, HD⟩
          case measure => have := HGH.out; omega
    · have hjN : j = N := by omega
      have t1 : decide ((j : Int) < (N : Int)) = false := by simp; omega
      have t1' : ¬ (j : Int) < (N : Int) := by omega
      have HD1 := HD
      rw [hjN, ← HMN.out.2, blankTo_all] at HD1
      clear hge hj hjN hP hat HD
      go_wp2_with fail
      clear c4 nbl f4
      obtain ⟨B, hB⟩ : ∃ B, blankL n.ps nm = B := ⟨_, rfl⟩
      rw [hB] at HD1
      have hBl : B.length = N := by rw [← hB, blankL_len]; exact HMN.out.2
      have hDR : dropR n.ps nm = B.take (trimN B N) := by unfold dropR; rw [hB, HMN.out.2]
      have HBL := hide (And.intro hBl hDR)
      clear hB hBl hDR
      go_loopg [] N (fun gh wr => ∃ m : Nat, m ≤ N ∧ gh = m ∧ Hid (DropAt w wr mb nb cN tn tc blocks L T k n (B.take m)) ∧ Hid (trimN B m = trimN B N))
      case atStart => exact ⟨N, Nat.le_refl _, rfl, by rw [List.take_of_length_le (by rw [HBL.out.1]; exact Nat.le_refl _)]; exact HD1, hide rfl⟩
      case round =>
        clear HD1
        obtain ⟨m, hm, hgh, HD, HTR⟩ := hrel
        have HGH := hide hgh
        clear hgh
        have hml : (B.take m).length = m := by rw [List.length_take, HBL.out.1]; omega
        obtain ⟨nbl, c4, f4, hat⟩ := HD.out.facts HK.out
        rw [hml] at c4
        have hP := hat.p
        rw [show (n.withP n.P (B.take m) n.pc).ps = B.take m from rfl, hml] at hP
        go_upto_region 10 with (fail)
        rcases Nat.eq_zero_or_pos m with hm0 | hm0
        · have t1 : decide ((0 : Int) < (m : Int)) = false := by simp; omega
          have t1' : ¬ (0 : Int) < (m : Int) := by omega
          have t1n : decide (0 < m) = false := by simp; omega
          have t1n' : ¬ 0 < m := by omega
          have HM0 := hide hm0
          clear hm0 hP hat hml
          refine wp_region_text [0, 0, 0, 0, 0, 0, 0, 0, 0, 0, 0, 0, 0, 0, 0, 0, 0, 0, 0, 0, 0, 0] (· = wr.drew) (by kernel_rfl) (by kernel_rfl) rfl ?_
          iterate 7 (refine wpOrd_q (v := ?_) (by rfl) (fun W hW => ?_) ?_; rotate_left; (focus ((cases hW; go_simp); try with_reducible rfl)); try simp only [Act.put, List.setIfInBounds_toArray, List.set_cons_zero, List.set_cons_succ])
          iterate 14 (refine wpOrd_n (by rfl) ?_; try simp only [Act.put, List.setIfInBounds_toArray, List.set_cons_zero, List.set_cons_succ])
          iterate 1 (refine wpOrd_q (v := ?_) (by rfl) (fun W hW => ?_) ?_; rotate_left; (focus ((cases hW; go_simp); try with_reducible rfl)); try simp only [Act.put, List.setIfInBounds_toArray, List.set_cons_zero, List.set_cons_succ])
          refine wpOrd_nil ?_
          have HD2 := hide HD.out.drew
          obtain ⟨W2, hW2⟩ : ∃ W2, wr.drew = W2 := ⟨_, rfl⟩
          rw [hW2] at HD2 ⊢
          clear c4 f4 nbl hW2 HD
          go_wp2
          go_returns
          have hdr : dropR n.ps nm = B.take m := by
            rw [HBL.out.2, ← HTR.out]
            have : trimN B m = m := by rw [HM0.out]; rfl
            rw [this]
          refine ⟨by rw [HA.out]; rfl, .inr ⟨by rw [HA.out], n.P, n.pc, ?_, fun g hg => .inl ?_, HD2.out.ht⟩⟩
          · rw [HA.out, hdr]; exact HD2.out.gr
          · exact (RNd.pb_with n _).symm.trans hg
        obtain ⟨p, hp⟩ : ∃ p, m = p + 1 := ⟨m - 1, by omega⟩
        obtain ⟨e, he⟩ : ∃ e, B[p]? = some e := ⟨_, List.getElem?_eq_getElem (by rw [HBL.out.1]; omega)⟩
        obtain ⟨ga, hPA, hga, hrg⟩ := ent_cells2 hP (by omega)
        have hPA' : n.P = some ⟨ga, 0, none⟩ := hPA
        obtain ⟨y0, y1⟩ := hrg p e (by rw [List.getElem?_take_of_lt (by omega)]; exact he)
        rw [hPA'] at c4
        have hcap := own_le_cap hP
        have t1 : decide ((0 : Int) < (m : Int)) = true := by simp; omega
        have t1' : (0 : Int) < (m : Int) := by omega
        have t1n : decide (0 < m) = true := by simp; omega
        have t1n' : 0 < m := by omega
        have e64 : IntKind.i64.wrap ((m : Int) - 1) = (p : Int) := by rw [IntWalk.i64_in _ (by have := HPSL.out; have := HMN.out.2; omega)]; omega
        have hpz : (p : Int) < (m : Int) := by omega
        have HPM := hide hp
        have HE := hide he
        have HPA := hide hPA'
        have HCAP := hide (show p ≤ n.pc from by have : (n.withP n.P (B.take m) n.pc).pc = n.pc := rfl; omega)
        clear hp he hP hat hPA hPA' hrg hcap hml hm0 y0
        by_cases hz : e.num = 0
        · have t2 : ((e.num.toNat : Int) == 0) = true := by rw [hz]; rfl
          have hst := trimN_step HE.out hz
          rw [← HPM.out, HTR.out] at hst
          have HTR2 := hide hst.symm
          clear hz hst
          refine wp_region_text [0, 0, 0, 0, 0, 0, 0, 0, 0, 0, 0, 0, 0, 0, 0, 0, 0, 0, 0, 0, 0, 0] (· = wr.drew) (by kernel_rfl) (by kernel_rfl) rfl ?_
          iterate 22 (refine wpOrd_q (v := ?_) (by rfl) (fun W hW => ?_) ?_; rotate_left; (focus ((cases hW; go_simp); try with_reducible rfl)); try simp only [Act.put, List.setIfInBounds_toArray, List.set_cons_zero, List.set_cons_succ])
          refine wpOrd_nil ?_
          have HD2 := hide HD.out.drew
          obtain ⟨W2, hW2⟩ : ∃ W2, wr.drew = W2 := ⟨_, rfl⟩
          rw [hW2] at HD2 ⊢
          clear c4 f4 nbl y1 hW2 HD hga
          obtain ⟨nbl, c4, f4, -⟩ := HD2.out.facts HK.out
          rw [List.length_take, HBL.out.1, Nat.min_eq_left hm, HPA.out] at c4
          go_upto_region 11 with (fail)
          refine wp_region_text [0, 0, 0, 0, 0, 0, 0, 0, 0, 0, 0, 0, 0, 0, 2] (· = W2.drew) (by kernel_rfl) (by kernel_rfl) rfl ?_
          iterate 11 (refine wpOrd_q (v := ?_) (by rfl) (fun W hW => ?_) ?_; rotate_left; (focus ((cases hW; go_simp); try with_reducible rfl)); try simp only [Act.put, List.setIfInBounds_toArray, List.set_cons_zero, List.set_cons_succ])
          refine wpOrd_q (v := .slice (some ⟨ga, 0, none⟩) p n.pc) (by rfl) (fun W hW => by cases hW; exact exec_slice 60 (.tmp 90) none (some (.tmp 96)) rfl (run_slice_hi2 60 125 (some ⟨ga, 0, none⟩) m n.pc p .i64 Tryz.underlying60 (by kernel_rfl) HCAP.out)) ?_
          try simp only [Act.put, List.setIfInBounds_toArray, List.set_cons_zero, List.set_cons_succ]
          iterate 2 (refine wpOrd_q (v := ?_) (by rfl) (fun W hW => ?_) ?_; rotate_left; (focus ((cases hW; go_simp); try with_reducible rfl)); try simp only [Act.put, List.setIfInBounds_toArray, List.set_cons_zero, List.set_cons_succ])
          refine wpOrd_b (by rfl) (fun K hK => ?_)
          go_simp
          refine hK (fun _ => True) _ _ trivial (wpOrd_nil ?_)
          have hd := HD2.out.drew.fewer HK.out (m := p) (by rw [List.length_take, HBL.out.1]; have := HPM.out; omega)
          rw [List.take_take, Nat.min_eq_left (by have := HPM.out; omega), HPA.out] at hd
          have HD3 := hide hd
          clear hd hK K c4 f4 nbl
          go_wp2
          go_roundg p
          case rel => exact ⟨p, by have := HPM.out; omega, rfl, HD3, HTR2⟩
          case measure => have := HGH.out; have := HPM.out; omega
        · have hn0 : e.num.toNat ≠ 0 := fun h0 => hz (UInt16.toNat_inj.1 h0)
          have t2 : ((e.num.toNat : Int) == 0) = false := by rw [beq_eq_false_iff_ne]; omega
          have hst := trimN_stop HE.out hz
          rw [← HPM.out, HTR.out] at hst
          have hdr : dropR n.ps nm = B.take m := by rw [HBL.out.2, hst]
          have HDR := hide hdr
          clear hz hn0 hst hdr
          refine wp_region_text [0, 0, 0, 0, 0, 0, 0, 0, 0, 0, 0, 0, 0, 0, 0, 0, 0, 0, 0, 0, 0, 0] (· = wr.drew) (by kernel_rfl) (by kernel_rfl) rfl ?_
          iterate 22 (refine wpOrd_q (v := ?_) (by rfl) (fun W hW => ?_) ?_; rotate_left; (focus ((cases hW; go_simp); try with_reducible rfl)); try simp only [Act.put, List.setIfInBounds_toArray, List.set_cons_zero, List.set_cons_succ])
          refine wpOrd_nil ?_
          have HD2 := hide HD.out.drew
          obtain ⟨W2, hW2⟩ : ∃ W2, wr.drew = W2 := ⟨_, rfl⟩
          rw [hW2] at HD2 ⊢
          clear c4 f4 nbl y1 hW2 HD hga
          go_wp2
          go_returns
          refine ⟨by rw [HA.out]; rfl, .inr ⟨by rw [HA.out], n.P, n.pc, ?_, fun g hg => .inl ?_, HD2.out.ht⟩⟩
          · rw [HA.out, HDR.out]; exact HD2.out.gr
          · exact (RNd.pb_with n _).symm.trans hg
end
end Go.Proofs.YthmkgohfeahdhaaGreat
namespace Go.Proofs.YthmkgohfeahdhaaGreat
open Go.RowKit
set_option linter.unusedSimpArgs false
set_option linter.unusedVariables false

/-- the directory -/
structure PlayD (G : GS) (u : GeoN) (l : List EntV) (κ : Nat → Nat) : Prop where
  dir : DirN G u 1 l κ
  uniq : Uniq l
  tight : Tight l
  cnt : G.cnt u.blocks = nkeys (blks (16 * l.length))
/-- the document's -/
structure RefL (B : Nat) (L : List RNd) (l : List EntV) : Prop where
  core : L.map RNd.core = dirC 8 l
  high : PHigh B L
  sep : Sep L
theorem RefL.one {B : Nat} {L : List RNd} {l : List EntV} (h : RefL B L l) : ∃ n, L[1]? = some n ∧ n.core = coreD l := dirC_one h.core (by omega)
theorem core_with {n : RNd} {l l' : List EntV} {P' : Option Addr} {c' : Nat} (h : n.core = coreD l) : (n.withP P' l' c').core = coreD l' := by
  have h1 : n.kind = 2 := congrArg RC.kind h
  have h2 : n.links = 1 := congrArg RC.links h
  have h3 : n.gen = 1 := congrArg RC.gen h
  have h4 : n.l = [] := congrArg RC.l h
  show (⟨n.kind, n.links, n.gen, n.l, l'⟩ : RC) = coreD l'
  rw [h1, h2, h3, h4]
  rfl
theorem RefL.step {w : World} {B c' : Nat} {L : List RNd} {l l' : List EntV} {n : RNd} {P' : Option Addr} (h : RefL B L l) (hk : L[1]? = some n) (hc : n.core = coreD l) (hat : ∀ m ∈ L, m.At w) (hB : B ≤ w.heap.size) (hn : PNew w.heap.size n (n.withP P' l' c')) : RefL B (L.set 1 (n.withP P' l' c')) l' :=
  ⟨dirC_set h.core (core_with hc), h.high.set hk hn hB, h.sep.set hk hat hn⟩
section
variable {w w' : World} {mb nb cN tn tc blocks : Nat} {L : List RNd} {T : Option Addr} {i : Ids} {s : Sto} {gg : Nat} {g : GeoN} {lab : Int} {G : GS}
theorem GrAt.avoid2 {k : Nat} {n : RNd} (h : GrAt w mb nb L cN T tn tc blocks) (hk : L[k]? = some n) (ha : GAt w i s gg g lab G) : ∀ x, (x = nb ∨ n.pb = some x) → ¬ i.own x ∧ x ≠ i.ll ∧ x ≠ gg := by
  rintro x (rfl | hx)
  · obtain ⟨cur, hB, _⟩ := h.r.blk
    exact ⟨ha.tx.other hB (by decide) (by decide) (by decide), hB.ne ha.tx.log.log (by decide), hB.ne ha.gp (by decide)⟩
  · have hn := h.r.all n (List.mem_of_getElem? hk)
    have : ∃ cur, Blk w x 125 cur := by
      rcases hn.p.2 with ⟨h0, _⟩ | ⟨g', cap, cur, hv, _, hh, _⟩
      · unfold RNd.pb at hx
        rw [h0] at hx; cases hx
      · unfold RNd.pb at hx
        rw [hv] at hx
        have e : g' = x := by simpa [Value.ownBlock] using hx
        subst e
        exact ⟨cur, hh⟩
    obtain ⟨cur, hB⟩ := this
    exact ⟨ha.tx.other hB (by decide) (by decide) (by decide), hB.ne ha.tx.log.log (by decide), hB.ne ha.gp (by decide)⟩
theorem COut.tch {D : List BlkV} {num : Nat} {l : List EntV} {κ : Nat → Nat} {r : Int × List EntV} (h : COut w w' i D gg g lab G num l κ r) : Tch w.heap.size i.own w w' := by
  rcases h with ⟨-, s', G', -, -, h⟩ | ⟨-, -, s', G', κ', T', -, -, h⟩
  · exact h
  · exact h
end
/-- what is known behind the switch -/
def PlayOut (w3 wc : World) (i ii : Ids) (Dk : List BlkV) (g2 : Nat) (u : GeoN) (l : List EntV) (mb nb cN tc : Nat) (T : Option Addr) (L : List RNd) (ob nbo cNo tco : Nat) (To : Option Addr) (Lo : List RNd) (cd : Int) : Prop :=
  Tch w3.heap.size (fun x => x = i.dd ∨ x = i.rr) w3 wc ∧
  ((cd ≠ 0 ∧ (∃ s' G', GAt wc ii s' g2 u 0 G' ∧ s'.D = Dk) ∧ GrAt wc mb nb L cN T 0 tc 38 ∧ GrAt wc ob nbo Lo cNo To 0 tco 38) ∨
   (cd = 0 ∧ ∃ s' G' κ' l' L', GAt wc ii s' g2 u 0 G' ∧ s'.bad = 0 ∧ s'.D = Dk ∧ PlayD G' u l' κ' ∧ l'.length ≤ l.length + 1 ∧ GrAt wc mb nb L' cN T 0 tc 38 ∧ RefL w3.heap.size L' l'))
theorem play_join {w3 w15 w16 w17 : World} {i ii : Ids} {Dk : List BlkV} {g2 : Nat} {u : GeoN} {G : GS} {κ : Nat → Nat} {l : List EntV} {mb nb cN tc : Nat} {T : Option Addr} {L : List RNd} {ob nbo cNo tco : Nat} {To : Option Addr} {Lo : List RNd} {r : Int × List EntV} {n : RNd}
    (hout : COut w15 w16 ii Dk g2 u 0 G 1 l κ r) (hm : GrAt w16 mb nb L cN T 0 tc 38) (ho : GrAt w16 ob nbo Lo cNo To 0 tco 38) (hr : RefL w3.heap.size L l ∧ w3.heap.size ≤ nb) (hn : L[1]? = some n ∧ n.core = coreD l) (hp : PlayD G u l κ) (hut : r.1 = 0 → Uniq r.2 ∧ Tight r.2)
    (ht : Tch w3.heap.size (fun x => x = i.dd ∨ x = i.rr) w3 w16)
    (hrf : (r.1 ≠ 0 ∧ Below w16.heap.size w16 w17) ∨ (r.1 = 0 ∧ ∃ P' c', GrAt w17 mb nb (L.set 1 (n.withP P' r.2 c')) cN T 0 tc 38 ∧ PNew w16.heap.size n (n.withP P' r.2 c') ∧ Tch w16.heap.size (fun x => x = nb ∨ n.pb = some x) w16 w17)) :
    PlayOut w3 w17 i ii Dk g2 u l mb nb cN tc T L ob nbo cNo tco To Lo r.1 := by
  rcases hrf with ⟨hc, hb⟩ | ⟨hc, P', c', hg, hpn, htr⟩
  · refine ⟨ht.trans ((Tch.of_below hb).mono ht.size fun _ _ h => h), .inl ⟨hc, ?_, hm.below hb, ho.below hb⟩⟩
    rcases hout with ⟨-, s', G', ha, hd, -⟩ | ⟨h0, -⟩
    · exact ⟨s', G', ha.below hb, hd⟩
    · exact absurd h0 hc
  · have hlow : ∀ x, (x = nb ∨ n.pb = some x) → w3.heap.size ≤ x := by
      rintro x (rfl | hx)
      · exact hr.2
      · exact hr.1.high n (List.mem_of_getElem? hn.1) x hx
    refine ⟨ht.trans (htr.mono ht.size fun k hk hs => by have := hlow k hs; omega), .inr ⟨hc, ?_⟩⟩
    rcases hout with ⟨h0, -⟩ | ⟨-, hlen, s', G', κ', T', ha, hst, -⟩
    · exact absurd hc h0
    · obtain ⟨hu, htt⟩ := hut hc
      refine ⟨s', G', κ', r.2, _, ha.apart htr (hm.avoid2 hn.1 ha), hst.stay.bad, hst.stay.D, ⟨hst.dir, hu, htt, ?_⟩, hlen, hg, hr.1.step hn.1 hn.2 hm.r.all ht.size hpn⟩
      have h1 := hst.cnt
      have h2 := hp.cnt
      omega
theorem play_find {w3 w17 : World} {i ii : Ids} {Dk : List BlkV} {g2 : Nat} {u : GeoN} {G : GS} {κ : Nat → Nat} {l : List EntV} {mb nb cN tc : Nat} {T : Option Addr} {L : List RNd} {ob nbo cNo tco : Nat} {To : Option Addr} {Lo : List RNd} {cd : Int}
    (ha : GAt w17 ii ⟨Dk, [], 0⟩ g2 u 0 G) (hm : GrAt w17 mb nb L cN T 0 tc 38) (ho : GrAt w17 ob nbo Lo cNo To 0 tco 38) (hr : RefL w3.heap.size L l) (hp : PlayD G u l κ) (ht : Tch w3.heap.size (fun x => x = i.dd ∨ x = i.rr) w3 w17) :
    PlayOut w3 w17 i ii Dk g2 u l mb nb cN tc T L ob nbo cNo tco To Lo cd := by
  refine ⟨ht, ?_⟩
  by_cases h : cd = 0
  · exact .inr ⟨h, _, G, κ, l, L, ha, rfl, rfl, hp, by omega, hm, hr⟩
  · exact .inl ⟨h, ⟨_, G, ha, rfl⟩, hm, ho⟩
theorem add_ut {l : List EntV} {nm : ByteArray} {v : UInt16} (hu : Uniq l) (ht : Tight l) : (addC l nm v).1 = 0 → Uniq (addC l nm v).2 ∧ Tight (addC l nm v).2 := by
  intro h
  by_cases hn : nameErr nm.data.toList = 0
  · by_cases hv : v = 0
    · rw [addC_zero hn hv] at h; exact absurd h (by simp)
    · rcases any_named l nm with hx | hx
      · rw [addC_there hn hv hx] at h; exact absurd h (by simp)
      · rw [addC_new hn hv hx]
        exact ⟨uniq_add hu hx, tight_add ht hv⟩
  · rw [addC_name hn] at h; exact absurd h hn
theorem turn_ut {l : List EntV} {nm : ByteArray} {v : UInt16} (hu : Uniq l) (ht : Tight l) : (turnC l nm v).1 = 0 → Uniq (turnC l nm v).2 ∧ Tight (turnC l nm v).2 := by
  unfold turnC
  by_cases hv : v = 0
  · rw [if_pos hv]; intro h; exact absurd h (by simp)
  · rw [if_neg hv]
    split
    · rename_i hx
      intro _
      exact ⟨uniq_turn hu hx, tight_turn ht hv⟩
    · intro h; exact absurd h (by simp)
theorem drop_ut {l : List EntV} {nm : ByteArray} (hu : Uniq l) : (dropC l nm).1 = 0 → Uniq (dropC l nm).2 ∧ Tight (dropC l nm).2 := by
  unfold dropC
  split
  · intro _; exact ⟨uniq_drop hu, tight_drop⟩
  · intro h; exact absurd h (by simp)
theorem nkeys_play {k : Nat} (h : k ≤ 62) : nkeys (blks (16 * k)) ≤ 38 := by
  have h1 : blks (16 * k) ≤ 16 := by unfold blks; omega
  have h2 := nkeys_mono h1
  have h3 : nkeys 16 = 17 := rfl
  omega
/-- the document's group has room -/
theorem ref_room {B : Nat} {L : List RNd} {l l' : List EntV} {n : RNd} (h : RefL B L l) (hc : n.core = coreD l) (hl : l'.length ≤ 62) : ∀ P' c', usedTo 0 (L.set 1 (n.withP P' l' c')) L.length ≤ 38 := fun P' c' => by
  have h1 := dirC_used (nodes := 8) (dirC_set h.core (core_with (P' := P') (c' := c') (l' := l') hc)) (by omega)
  rw [List.length_set] at h1
  rw [h1]
  unfold need2
  exact nkeys_play hl
end Go.Proofs.YthmkgohfeahdhaaGreat
namespace Go.Proofs.YthmkgohfeahdhaaGreat
open Go.RowKit
set_option linter.unusedSimpArgs false
set_option linter.unusedVariables false
theorem zero_ent1 (w : World) : (zeroValue 125).run Tryz.prog w = .ok (.agg EntV.zero.cells.toArray) w := by kernel_rfl
theorem play_geo : (szReg 2 (twoH 30) 0).nodes = 8 := by decide +kernel
set_option maxRecDepth 100000 in
set_option maxHeartbeats 16000000 in
theorem dplays_all {w : World} {A : Option Addr} {n c : Nat} {LA : List DAct} (hR : Rd w w.heap.size 5 A n (LA.flatMap DAct.cells)) (hL : LA.length = n) (hn : n ≤ maxLen) (hok : ∀ a ∈ LA, a.Ok) :
    Calls Tryz.prog 9 #[.slice A n c] w fun e w' => e = .returned (.bool true) ∧ Below w.heap.size w w' := by
  have HRA := hide hR
  have HLO := hide (And.intro hL hok)
  have hn63 : n ≤ 9223372036854775807 := by unfold maxLen at hn; omega
  have HN63 := hide hn63
  have HBT := hide (show ∀ W, (Instr.build 26 #[(1, .agg #[.int .u8 30, .int .u8 0, .int .u8 0, .int .u8 0, .int .u8 0, .int .u8 10, .int .u8 0, .int .u8 0, .int .u8 0, .int .u8 0, .int .u8 0, .int .u8 0, .int .u8 0, .int .u8 0, .int .u8 0, .int .u8 0, .int .u8 0, .int .u8 0, .int .u8 0, .int .u8 0, .int .u8 0, .int .u8 0, .int .u8 0, .int .u8 0, .int .u8 0])]).run Tryz.prog W = .ok (.agg (szCells 0 (twoH 30) none 0 0)) W from fun W => build_two W 30)
  clear hR hL hok hn
  go_enter Tryz.func9, Tryz.ntmps9
  go_wp2_with fail
  refine (awake9_ok w).mono ?_
  rintro e w1 ⟨rfl, hb1⟩
  have HB1 := hide hb1
  clear hb1
  go_wp2_with (first | ((with_reducible refine at_build 22 #[(0, .const (.int .u8 30))] ?_); refine wpList_run rfl _ (exec_build 22 #[(0, .const (.int .u8 30))] rfl #[(0, .int .u8 30)] (by simp only [List.map_toArray, List.map_cons, List.map_nil]; rfl) _ (build_five _ _)) ?_) | ((with_reducible refine at_build 22 #[(0, .const (.int .u8 10))] ?_); refine wpList_run rfl _ (exec_build 22 #[(0, .const (.int .u8 10))] rfl #[(0, .int .u8 10)] (by simp only [List.map_toArray, List.map_cons, List.map_nil]; rfl) _ (build_five _ _)) ?_) | ((with_reducible refine at_build 23 #[(0, .tmp 33), (1, .tmp 34)] ?_); refine wpList_run rfl _ (exec_build 23 #[(0, .tmp 33), (1, .tmp 34)] rfl #[(0, .agg #[.int .u8 30, .int .u8 0, .int .u8 0, .int .u8 0, .int .u8 0]), (1, .agg #[.int .u8 10, .int .u8 0, .int .u8 0, .int .u8 0, .int .u8 0])] (by simp only [List.map_toArray, List.map_cons, List.map_nil]; rfl) _ (build_fives _ _ _)) ?_) | ((with_reducible refine at_build 26 #[(1, .tmp 35)] ?_); refine wpList_run rfl _ (exec_build 26 #[(1, .tmp 35)] rfl #[(1, .agg #[.int .u8 30, .int .u8 0, .int .u8 0, .int .u8 0, .int .u8 0, .int .u8 10, .int .u8 0, .int .u8 0, .int .u8 0, .int .u8 0, .int .u8 0, .int .u8 0, .int .u8 0, .int .u8 0, .int .u8 0, .int .u8 0, .int .u8 0, .int .u8 0, .int .u8 0, .int .u8 0, .int .u8 0, .int .u8 0, .int .u8 0, .int .u8 0, .int .u8 0])] (by simp only [List.map_toArray, List.map_cons, List.map_nil]; rfl) _ (HBT.out _)) ?_) | fail)
  refine (two_conf w1 30).mono ?_
  rintro e w2 ⟨cc, K, tb, nb0, lb, B1, B2, B3, d1, d2, d3, rfl, hb2, hin⟩
  have hb12 : Below w.heap.size w w2 := HB1.out.trans (hb2.mono HB1.out.size)
  obtain ⟨n0, hF⟩ := cf_facts hin.ok (by rw [two_len]; omega)
  obtain ⟨v, u, hv, hu, hval, hgo, hub, hun⟩ := two_geo hF two30
  have hfr := fresh_all (w := w2) hin hF (by rw [two_len]; omega)
  have hreg := fun W (hW : ConfIn w1.heap.size W cc (twoR 30) K tb nb0 lb B1 B2 B3 d1 d2 d3) => reg_ok hW (two_reg 30)
  rw [two30, play_geo, show ((0 : Nat) : Int) = 0 from rfl] at hreg
  have HREG := hide hreg
  have HC := hide (And.intro hin (And.intro hv (And.intro hu (And.intro hval hb12))))
  have HGO := hide (And.intro hgo (And.intro hub hun))
  have HFR := hide hfr
  have HN := hide (And.intro hF.ge hF.le)
  clear hin hv hu hval hgo hub hun hfr hb12 hF hb2 HBT HB1 hreg
  go_wp2_with fail
  refine HFR.out.mono ?_
  rintro e w3 ⟨i, D, rfl, hx, hDn, hall, hown, hll, hb3⟩
  have his := hall 0 v HC.out.2.1
  rw [HC.out.2.2.1] at his
  have HL3 := hide hx.log
  have HDR := hide (show i.dd < w3.heap.size ∧ i.rr < w3.heap.size ∧ w2.heap.size ≤ i.dd ∧ w2.heap.size ≤ i.rr from ⟨hx.log.disk.dlt, hx.log.disk.row.lt, hown _ (.inr (.inr (.inl rfl))), hown _ (.inr (.inr (.inr rfl)))⟩)
  have HB23 := hide hb3
  have HI3 : Hid (D.length = n0 ∧ Sto.Is ⟨D, [], 0⟩ u GS.fresh ∧ GS.fresh.Ok) := hide ⟨hDn, his, GS.fresh_ok⟩
  have hop := fun (W : World) (hW : Below w2.heap.size w2 W) (tt : Nat) => gopen_yes (tt := tt) (HC.out.1.below hW) HC.out.2.1 (by rw [HC.out.2.2.1]; exact HC.out.2.2.2.1)
  rw [HC.out.2.2.1, show ((0 : Nat) : Int) = 0 from rfl] at hop
  have HOP := hide hop
  have HD3 : Hid (PlayD GS.fresh u [] fun _ => 0) := hide ⟨fresh_dir u _, uniq_nil, tight_nil, by rw [fresh_cnt]; rfl⟩
  have HIN3 := hide (HC.out.1.below hb3)
  clear hb3 hx hown his hall hll hDn HFR hop
  go_wp2_with fail
  refine (HREG.out w3 HIN3.out).mono ?_
  rintro e w4 ⟨rfl, hb4⟩
  have HB4 := hide hb4
  clear hb4 HREG HIN3
  go_upto_region 6 with (fail)
  refine at_world (fun W => ∃ rg, rg = w4.heap.size ∧ rg < W.heap.size ∧ W.cell? ⟨rg, 3, none⟩ = some (.int .i64 38) ∧ W.cell? ⟨rg, 4, none⟩ = some (.int .i64 8) ∧ Below w4.heap.size w4 W) ⟨_, rfl, by simp, (Blk.new w4 _ _).cell 3, (Blk.new w4 _ _).cell 4, (Below.refl _ _).alloc (Nat.le_refl _) _⟩ (fun w5 h5 => ?_)
  obtain ⟨rg, hrg, rgl, y3, y4, hb5⟩ := h5
  rw [← hrg]
  have HB5 := hide (HB4.out.trans (hb5.mono HB4.out.size))
  have hnw := rnew_ok w5 (nodes := 8) 38 (by omega) (by omega)
  rw [show ((8 : Nat) : Int) = 8 from rfl] at hnw
  have HNW := hide hnw
  clear hrg hb5 hnw HB4
  go_wp2_with fail
  refine HNW.out.mono ?_
  rintro e w6 ⟨nb, rfl, hr6, hnb, hb6⟩
  have HR6 := hide hr6
  have HNB := hide hnb
  have HB6 := hide (HB5.out.trans (hb6.mono HB5.out.size))
  have hszg := size_rgroup (.slice (some ⟨nb, 0, none⟩) 9 9) (.slice none 0 0) (.int .i64 38)
  clear hr6 hnb hb6 HNW y3 y4 rgl
  go_upto_region 7 with (first | ((with_reducible refine at_alloc 47 ?_); refine wpList_alloc_as rfl 47 rfl _ (zero_group _) ?_) | ((with_reducible refine at_store 47 (.tmp 9) (.tmp 53) ?_); refine wpList_store_blk rfl 47 (.tmp 9) (.tmp 53) rfl w6.heap.size _ _ _ (by rfl) (by rfl) (Blk.new _ _ _) hszg rfl (by simp [Value.oneCell']) (fun _ => ?_)) | fail)
  refine at_world (fun W => ∃ mb, mb = w6.heap.size ∧ Below w3.heap.size w3 W ∧ GrAt W mb nb (rnewL 8) 9 none 0 0 38) ⟨_, rfl, below_setRow (HB6.out.alloc HB6.out.size _) HB6.out.size _, (Blk.new _ _ _).setRow_same _, ?_⟩ (fun w7 hw7 => ?_)
  · exact (HR6.out.below ((Below.refl _ _).alloc (Nat.le_refl _) _)).tch (Tch.setRow (S := (· = w6.heap.size)) (fun _ => rfl)) (fun g cur hB e => (Blk.new _ _ _).ne hB (by decide) e.symm) (fun g cur hB e => (Blk.new _ _ _).ne hB (by decide) e.symm) (fun g cur hB e => (Blk.new _ _ _).ne hB (by decide) e.symm)
  obtain ⟨mb, hmb, hb7, hgr7⟩ := hw7
  rw [← hmb]
  have HB7 := hide hb7
  have HGR7 := hide hgr7
  have HMB := hide (show w3.heap.size ≤ mb from by have := HB6.out.size; omega)
  have HREF7 : Hid (RefL w3.heap.size (rnewL 8) [] ∧ w3.heap.size ≤ nb) := hide ⟨⟨dirC_start 8, (fun m hm g hg => by
    have : ∀ m ∈ rnewL 8, m.P = none := by decide +kernel
    have h1 := this m hm
    unfold RNd.pb at hg
    rw [h1] at hg
    exact absurd hg (by simp [Value.ownBlock])), (fun a b x y ha hb hab g hg => by
    have : ∀ m ∈ rnewL 8, m.P = none := by decide +kernel
    have h1 := this x (List.mem_of_getElem? ha)
    unfold RNd.pb at hg
    rw [h1] at hg
    exact absurd hg (by simp [Value.ownBlock]))⟩, by have := HB5.out.size; have := HNB.out; omega⟩
  clear hmb hb7 hgr7 hszg HR6 HB6 HNB HB5
  go_wp2_with fail
  go_loopg [10, 11, 12, 13, 14, 15, 16, 17, 18, 19, 20, 21, 22, 23, 24, 25, 26, 27, 28, 29, 30, 56] n (fun gh x10 x11 x12 x13 x14 x15 x16 x17 x18 x19 x20 x21 x22 x23 x24 x25 x26 x27 x28 x29 x30 x56 wr => ∃ (k : Nat) (Dk : List BlkV) (G : GS) (κ : Nat → Nat) (l : List EntV) (nb cN tc : Nat) (T : Option Addr) (L : List RNd), k ≤ n ∧ gh = n - k ∧ x56 = .int .i64 (k : Int) ∧ Hid (l.length ≤ k ∧ k ≤ 61) ∧ Hid (Tch w3.heap.size (fun x => x = i.dd ∨ x = i.rr) w3 wr) ∧ Hid (LogAt wr i.ll i.dd i.rr Dk) ∧ Hid (Dk.length = n0 ∧ Sto.Is ⟨Dk, [], 0⟩ u G ∧ G.Ok) ∧ Hid (PlayD G u l κ) ∧ Hid (GrAt wr mb nb L cN T 0 tc 38) ∧ Hid (RefL w3.heap.size L l ∧ w3.heap.size ≤ nb))
  case atStart => exact ⟨0, D, GS.fresh, fun _ => 0, [], nb, 9, 0, none, rnewL 8, Nat.zero_le _, rfl, rfl, hide ⟨Nat.le_refl _, by omega⟩, hide (Tch.of_below HB7.out), hide (HL3.out.below HB7.out), HI3, HD3, HGR7, HREF7⟩
  case round =>
    clear HL3 HI3 HD3 HGR7 HREF7 HB7
    obtain ⟨k, Dk, G, κ, l, nb, cN, tc, T, L, hk, hgh, rfl, HK, HT, HL, HI, HPD, HGR, HREF⟩ := hrel
    have HGH := hide hgh
    clear hgh
    have HD32 := hide (show 32 ≤ Dk.length from by rw [HI.out.1]; exact HN.out.1)
    have HBr : Hid (Below w2.heap.size w2 wr) := hide (HB23.out.trans ((HT.out.mono HB23.out.size (S' := fun _ => False) (fun k hk h => by
      have := HDR.out
      rcases h with h | h <;> omega)).below fun _ _ h => h))
    have HBW := hide (HC.out.2.2.2.2.trans (HBr.out.mono HC.out.2.2.2.2.size))
    rcases Nat.lt_or_ge k n with hkl | hkl
    rotate_left
    · have t1 : decide ((k : Int) < (n : Int)) = false := by simp; omega
      have t1' : ¬ (k : Int) < (n : Int) := by omega
      clear hkl hk
      go_wp2
      go_returns
      exact ⟨rfl, HBW.out⟩
    obtain ⟨a, ha⟩ : ∃ a, LA[k]? = some a := ⟨_, List.getElem?_eq_getElem (by have := HLO.out.1; omega)⟩
    obtain ⟨ba, oa, rfl, hba, hra⟩ := (HRA.out.below HBW.out).dact (by omega)
    have hra' := hra k a ha
    have hname := actname_ok a
    obtain ⟨hk8, hn8, hm16⟩ := HLO.out.2 a (List.mem_of_getElem? ha)
    obtain ⟨nm, hnm⟩ : ∃ nm, a.nm = nm := ⟨_, rfl⟩
    rw [hnm] at hname
    obtain ⟨ak, an, am, tx, raw⟩ := a
    simp only at hk8 hm16
    have hac : DAct.cells ⟨ak, an, am, tx, raw⟩ = [.int .u8 (ak : Int), .int .u8 (an : Int), .int .u16 (am : Int), .string tx, .bool raw] := rfl
    rw [hac] at hra' hname
    have hsz : (Tryz.prog.info? 136).map (·.size) = some ([.int .u8 (ak : Int), .int .u8 (an : Int), .int .u16 (am : Int), .string tx, .bool raw] : List Value).length := by
      have : (Tryz.prog.info? 136).map (·.size) = some 5 := by kernel_rfl
      rw [this]; rfl
    have HRG := hide hra'
    have HNAME := hide hname
    have HSZ := hide hsz
    have HAK := hide (And.intro hk8 hm16)
    have t1 : decide ((k : Int) < (n : Int)) = true := by simp; omega
    have t1' : (k : Int) < (n : Int) := by omega
    have e64 : IntKind.i64.wrap ((k : Int) + 1) = (k : Int) + 1 := IntWalk.i64_in _ (by have := HN63.out; omega)
    clear ha hra hra' hname hsz hba hn8 hk8 hm16 hnm hac
    go_upto_region 10 with (first | ((with_reducible refine at_load 136 (.tmp 59) ?_); refine wpList_load_mid rfl 136 (.tmp 59) rfl ba (oa + k * 5) (by rfl) [.int .u8 (ak : Int), .int .u8 (an : Int), .int .u16 (am : Int), .string tx, .bool raw] _ HRG.out Tryz.underlying136 rfl HSZ.out ?_) | fail)
    refine at_world (fun W => ∃ z, z = wr.heap.size ∧ Below wr.heap.size wr W ∧ Blk W z 136 #[.int .u8 (ak : Int), .int .u8 (an : Int), .int .u16 (am : Int), .string tx, .bool raw]) ⟨_, rfl, (Below.refl _ _).alloc (Nat.le_refl _) _, Blk.new _ _ _⟩ (fun w10 h10 => ?_)
    obtain ⟨z, hz, hb10, hZ10⟩ := h10
    rw [← hz]
    have HB10 := hide hb10
    have HL10 := hide (HL.out.below hb10)
    have HZ10 := hide hZ10
    have HZN := hide hz
    have z3 := hZ10.cell 3
    have zl := hZ10.lt
    have HWR3 := hide HT.out.size
    have HT10 := hide (HT.out.trans ((Tch.of_below hb10).mono HT.out.size fun _ _ h => h))
    have HBF : Hid (Below w.heap.size w w10) := hide (HBW.out.trans (hb10.mono HBW.out.size))
    have HBr10 := hide (HBr.out.trans (hb10.mono HBr.out.size))
    have HGR10 := hide (HGR.out.below hb10)
    clear hz hZ10 HRG HSZ hb10 HT HL HGR HBr
    by_cases hk60 : 60 < k
    · have t2 : decide ((60 : Int) < (k : Int)) = true := by simp; omega
      have t2' : (60 : Int) < (k : Int) := by omega
      clear hk60 hk hkl
      go_wp2
      go_returns
      exact ⟨rfl, HBF.out⟩
    have t2 : decide ((60 : Int) < (k : Int)) = false := by simp; omega
    have t2' : ¬ (60 : Int) < (k : Int) := by omega
    by_cases htx : 200 < tx.size
    · have t3 : decide ((200 : Int) < (tx.size : Int)) = true := by simp; omega
      have t3' : (200 : Int) < (tx.size : Int) := by omega
      clear hk60 hk hkl htx
      go_wp2
      go_returns
      exact ⟨rfl, HBF.out⟩
    have t3 : decide ((200 : Int) < (tx.size : Int)) = false := by simp; omega
    have t3' : ¬ (200 : Int) < (tx.size : Int) := by omega
    have HK60 := hide (And.intro hk60 hkl)
    clear hk60 htx hk hkl
    have hbeg := begin_ok HL10.out HD32.out
    have HBEG := hide hbeg
    clear hbeg
    go_wp2_with fail
    refine HBEG.out.mono ?_
    rintro e w11 ⟨tt, mq, rfl, htt, hmq, hxa, hba⟩
    obtain ⟨ii, hii⟩ : ∃ ii : Ids, Ids.mk tt mq i.ll i.dd i.rr = ii := ⟨_, rfl⟩
    have htt' : tt = ii.tt := by rw [← hii]
    rw [hii] at hxa
    subst htt'
    have HXA := hide hxa
    have HBA := hide hba
    have HII := hide (And.intro hii (And.intro htt hmq))
    have HOL := hide (show ∀ k, k < w3.heap.size → ii.own k → k = i.dd ∨ k = i.rr from by
      have h0 := HT10.out.size
      rintro k hk (e | e | e | e)
      · omega
      · rw [← hii] at e; simp only at e; omega
      · rw [← hii] at e; exact .inl e
      · rw [← hii] at e; exact .inr e)
    clear hii htt hmq hxa hba HBEG
    go_wp2_with fail
    refine (HOP.out w11 (HBr10.out.trans (HBA.out.mono HBr10.out.size)) ii.tt).mono ?_
    rintro e w12 ⟨g2, rfl, -, hGb, hbb⟩
    have hug : u.Ok Dk.length := by rw [HI.out.1]; exact HGO.out.1
    have HAB : Hid (GAt w12 ii ⟨Dk, [], 0⟩ g2 u 0 G) := hide ⟨HXA.out.below hbb, hGb, hug, HI.out.2.1, HI.out.2.2⟩
    have HBB := hide (HBA.out.trans (hbb.mono HBA.out.size))
    clear hug hGb hbb HXA HBA
    have HZ12 := hide (HZ10.out.below HBB.out HZ10.out.lt)
    have HZO := hide (show ¬ ii.own z from by
      have h0 := HL10.out.disk.dlt
      have h1 := HT10.out.size
      have h2 := HZN.out
      have h3 := HDR.out
      have h4 := HZ10.out.lt
      have h5 := HB10.out.size
      have h6 := HII.out
      have h7 := HWR3.out
      rintro (e | e | e | e)
      · omega
      · rw [← h6.1] at e; simp only at e; omega
      · rw [← h6.1] at e; simp only at e; omega
      · rw [← h6.1] at e; simp only at e; omega)
    have HT12 : Hid (Tch w3.heap.size (fun x => x = i.dd ∨ x = i.rr) w3 w12) := hide (HT10.out.trans ((Tch.of_below HBB.out).mono HT10.out.size fun _ _ h => h))
    have HGR12 := hide (HGR10.out.below HBB.out)
    have hL9 := dirC_len HREF.out.1.core
    have hm12 := HGR12.out.m
    rw [hL9] at hm12
    have HM12 := hide hm12
    have hszg := size_rgroup (.slice (some ⟨nb, 0, none⟩) 9 cN) (.slice T 0 tc) (.int .i64 38)
    have HSZG := hide hszg
    have hcp := rcopy_ok w12 (T := T) (tc := tc) 38 HGR12.out.r (dirC_small HREF.out.1.core (by have := HK.out; omega) (by omega)) (by rw [hL9]; omega)
    rw [hL9] at hcp
    have HCP := hide hcp
    have HL9 := hide hL9
    clear hL9 hm12 hszg hcp z3 zl t1 t1' t2 t2' t3 t3' HZ10 HT10 HL10 HGR10
    go_wp2_with (first | ((with_reducible refine at_load 47 (.tmp 9) ?_); refine wpList_load_blk rfl 47 (.tmp 9) rfl mb _ _ _ (by rfl) HM12.out Tryz.underlying47 rfl HSZG.out ?_) | fail)
    refine HCP.out.mono ?_
    rintro e w13 ⟨nbo, cNo, To, tco, Lo, rfl, hcore, hro, hnbo, hpho, hsepo, hb13⟩
    have hLo9 : Lo.length = 9 := by have := congrArg List.length hcore; rw [List.length_map, List.length_map, HL9.out] at this; exact this
    have HREFO : Hid (RefL w12.heap.size Lo l ∧ w12.heap.size ≤ nbo) := hide ⟨⟨hcore.trans HREF.out.1.core, hpho, hsepo⟩, hnbo⟩
    have HRO13 := hide hro
    have hszo := size_rgroup (.slice (some ⟨nbo, 0, none⟩) 9 cNo) (.slice To 0 tco) (.int .i64 38)
    have HLO9 := hide hLo9
    have HB13 := hide hb13
    clear hcore hro hnbo hpho hsepo hb13 hLo9 HCP HM12
    go_upto_region 14 with (first | ((with_reducible refine at_alloc 47 ?_); refine wpList_alloc_as rfl 47 rfl _ (zero_group _) ?_) | ((with_reducible refine at_store 47 (.tmp 15) (.tmp 78) ?_); refine wpList_store_blk rfl 47 (.tmp 15) (.tmp 78) rfl w13.heap.size _ _ _ (by rfl) (by rfl) (Blk.new _ _ _) hszo rfl (by simp [Value.oneCell']) (fun _ => ?_)) | fail)
    refine at_world (fun W => ∃ ob, ob = w13.heap.size ∧ Below w12.heap.size w12 W ∧ GrAt W ob nbo Lo cNo To 0 tco 38) ⟨_, rfl, below_setRow (HB13.out.alloc HB13.out.size _) HB13.out.size _, by rw [HLO9.out]; exact (Blk.new _ _ _).setRow_same _, ?_⟩ (fun w14 hw14 => ?_)
    · exact (HRO13.out.below ((Below.refl _ _).alloc (Nat.le_refl _) _)).tch (Tch.setRow (S := (· = w13.heap.size)) (fun _ => rfl)) (fun g cur hB e => (Blk.new _ _ _).ne hB (by decide) e.symm) (fun g cur hB e => (Blk.new _ _ _).ne hB (by decide) e.symm) (fun g cur hB e => (Blk.new _ _ _).ne hB (by decide) e.symm)
    obtain ⟨ob, hob, hb14, hgo14⟩ := hw14
    rw [← hob]
    have HOG14 := hide hgo14
    have HB14 := hide hb14
    have HZ14 := hide (HZ12.out.below hb14 HZ12.out.lt)
    have HA14 := hide (HAB.out.below hb14)
    have HGR14 := hide (HGR12.out.below hb14)
    have HT14 : Hid (Tch w3.heap.size (fun x => x = i.dd ∨ x = i.rr) w3 w14) := hide (HT12.out.trans ((Tch.of_below hb14).mono HT12.out.size fun _ _ h => h))
    have HOBM := hide (show w12.heap.size ≤ ob ∧ mb < w12.heap.size from by have := HB13.out.size; have := HGR12.out.m.lt; omega)
    have HW12 := hide HT12.out.size
    clear hob hb14 hgo14 hszo HRO13 HB13 HZ12 HAB HGR12 HT12
    obtain ⟨v, hv⟩ : ∃ v : UInt16, v = UInt16.ofNat (am % 200) := ⟨_, rfl⟩
    have hvn : v.toNat = am % 200 := by rw [hv, UInt16.toNat_ofNat', Nat.mod_eq_of_lt (by omega)]
    have r1 : ((am : Int)).tmod 200 = (v.toNat : Int) := by rw [Int.tmod_eq_emod_of_nonneg (by omega), hvn]; omega
    clear hv hvn
    try simp only [Act.put, List.setIfInBounds_toArray, List.set_cons_zero, List.set_cons_succ]
    go_cut [16] from 79 to 84 (fun x16 wc => ∃ y, x16 = .pointer (some ⟨y, 0, none⟩) ∧ Hid (Below w14.heap.size w14 wc ∧ w14.heap.size ≤ y) ∧ Hid (Blk wc y 125 #[.string nm, .int .u16 (v.toNat : Int)]))
    case first =>
      refine wp_region_tree (.q 0 (.q 2 (.q 3 (.q 4 (.br 1 (.q 5 (.x 6 (.x 7 .nil))) 6 (.x 1 (.q 5 (.x 7 .nil)))))))) (fun W => Below w14.heap.size w14 W) (by kernel_rfl) (by kernel_rfl) (Below.refl _ _).drew ?_
      refine wpT_q (v := .agg #[.int .u8 (ak : Int), .int .u8 (an : Int), .int .u16 (am : Int), .string tx, .bool raw]) (by simp only [List.getElem?_toArray, List.getElem?_cons_succ, List.getElem?_cons_zero]; try rfl) (by rfl) (fun W hW => exec_load_blk 136 (.tmp 11) rfl z _ _ _ rfl (HZ14.out.below hW HZ14.out.lt) Tryz.underlying136 rfl (by kernel_rfl)) ?_
      try simp only [Act.put, List.setIfInBounds_toArray, List.set_cons_zero, List.set_cons_succ]
      iterate 3 (refine wpT_q (v := ?_) (by simp only [List.getElem?_toArray, List.getElem?_cons_succ, List.getElem?_cons_zero]; try rfl) (by rfl) (fun W hW => ?_) ?_; rotate_left; (focus ((have c2 := (HZ14.out.below hW HZ14.out.lt).cell 2; have cl := (HZ14.out.below hW HZ14.out.lt).lt; go_simp); try with_reducible rfl)); try simp only [Act.put, List.setIfInBounds_toArray, List.set_cons_zero, List.set_cons_succ])
      refine wpT_br ?_ ?_
      · refine wpT_x (by simp only [List.getElem?_toArray, List.getElem?_cons_succ, List.getElem?_cons_zero]; try rfl) (by rfl) (fun K hK => ?_)
        go_simp
        refine (HNAME.out _).mono ?_
        rintro e w7 ⟨rfl, hb7⟩
        have hb7 : Below w14.heap.size w14 w7 := (Below.refl _ _).drew.trans hb7
        refine hK _ _ _ (fun _ h => h) hb7 ?_
        clear hK K
        try simp only [Act.put, List.setIfInBounds_toArray, List.set_cons_zero, List.set_cons_succ]
        iterate 1 (refine wpT_q (v := ?_) (by simp only [List.getElem?_toArray, List.getElem?_cons_succ, List.getElem?_cons_zero]; try rfl) (by rfl) (fun W hW => ?_) ?_; rotate_left; (focus ((go_simp); try with_reducible rfl)); try simp only [Act.put, List.setIfInBounds_toArray, List.set_cons_zero, List.set_cons_succ])
        refine wpT_x (by simp only [List.getElem?_toArray, List.getElem?_cons_succ, List.getElem?_cons_zero]; try rfl) (by rfl) (fun K hK => ?_)
        refine wp_alloc_as 125 rfl _ (zero_ent1 _) ?_
        have hb8 : Below w14.heap.size w14 (w7.alloc (.cells EntV.zero.cells.toArray 125)) := hb7.alloc hb7.size _
        refine hK _ _ _ (fun _ h => h) hb8 ?_
        clear hK K
        try simp only [Act.put, List.setIfInBounds_toArray, List.set_cons_zero, List.set_cons_succ]
        refine wpT_x (by simp only [List.getElem?_toArray, List.getElem?_cons_succ, List.getElem?_cons_zero]; try rfl) (by rfl) (fun K hK => ?_)
        refine wp_store_blk 125 (.tmp 16) (.tmp 84) rfl w7.heap.size 125 _ _ (by rfl) (by rfl) (Blk.new _ _ _) (by exact size_ent) (by simp [EntV.cells]) (by simp [Value.oneCell']) (fun hG => ?_)
        have hb9 : Below w14.heap.size w14 ((w7.alloc (.cells EntV.zero.cells.toArray 125)).setRow w7.heap.size #[.string nm, .int .u16 (v.toNat : Int)]) := below_setRow hb8 hb7.size _
        refine hK _ _ _ (fun _ h => h) hb9 ?_
        have HF := hide (And.intro hb9 hb7.size)
        have HG9 := hide hG
        clear hK K hb7 hb8 hb9 hG
        try simp only [Act.put, List.setIfInBounds_toArray, List.set_cons_zero, List.set_cons_succ]
        refine wpT_nil ?_
        go_wp2
        go_meet
        case rel => exact ⟨_, rfl, HF, HG9⟩
      · refine wpT_x (by simp only [List.getElem?_toArray, List.getElem?_cons_succ, List.getElem?_cons_zero]; try rfl) (by rfl) (fun K hK => ?_)
        refine wp_alloc_as 125 rfl _ (zero_ent1 _) ?_
        have hb7 : Below w14.heap.size w14 (w14.drew.alloc (.cells EntV.zero.cells.toArray 125)) := (Below.refl _ _).drew.alloc (Nat.le_refl _) _
        have hG1 := Blk.new w14.drew 125 EntV.zero.cells.toArray
        refine hK _ _ _ (fun _ h => h) hb7 ?_
        clear hK K
        try simp only [Act.put, List.setIfInBounds_toArray, List.set_cons_zero, List.set_cons_succ]
        refine wpT_x (by simp only [List.getElem?_toArray, List.getElem?_cons_succ, List.getElem?_cons_zero]; try rfl) (by rfl) (fun K hK => ?_)
        go_simp
        refine (HNAME.out _).mono ?_
        rintro e w7 ⟨rfl, hb8⟩
        have hG2 := hG1.below hb8 hG1.lt
        have hb8 : Below w14.heap.size w14 w7 := hb7.trans (hb8.mono hb7.size)
        refine hK _ _ _ (fun _ h => h) hb8 ?_
        clear hK K
        try simp only [Act.put, List.setIfInBounds_toArray, List.set_cons_zero, List.set_cons_succ]
        iterate 1 (refine wpT_q (v := ?_) (by simp only [List.getElem?_toArray, List.getElem?_cons_succ, List.getElem?_cons_zero]; try rfl) (by rfl) (fun W hW => ?_) ?_; rotate_left; (focus ((go_simp); try with_reducible rfl)); try simp only [Act.put, List.setIfInBounds_toArray, List.set_cons_zero, List.set_cons_succ])
        refine wpT_x (by simp only [List.getElem?_toArray, List.getElem?_cons_succ, List.getElem?_cons_zero]; try rfl) (by rfl) (fun K hK => ?_)
        refine wp_store_blk 125 (.tmp 16) (.tmp 84) rfl w14.heap.size 125 _ _ (by rfl) (by rfl) hG2 (by exact size_ent) (by simp [EntV.zero, EntV.cells]) (by simp [Value.oneCell']) (fun hG => ?_)
        have hb9 : Below w14.heap.size w14 (w7.setRow w14.heap.size #[.string nm, .int .u16 (v.toNat : Int)]) := below_setRow hb8 (Nat.le_refl _) _
        refine hK _ _ _ (fun _ h => h) hb9 ?_
        have HF := hide (And.intro hb9 (Nat.le_refl w14.heap.size))
        have HG9 := hide hG
        clear hK K hb7 hb8 hb9 hG hG1 hG2
        try simp only [Act.put, List.setIfInBounds_toArray, List.set_cons_zero, List.set_cons_succ]
        refine wpT_nil ?_
        go_wp2
        go_meet
        case rel => exact ⟨_, rfl, HF, HG9⟩
    case rest =>
      clear r1
      obtain ⟨y, rfl, HBC, HE⟩ := hcut
      have HA14x := hide (HA14.out.below HBC.out.1)
      have HA15d := hide ((HA14.out.below HBC.out.1).below (Below.refl _ _).drew)
      have HGR15 := hide (HGR14.out.below HBC.out.1)
      have HOG15 := hide (HOG14.out.below HBC.out.1)
      have HT15 : Hid (Tch w3.heap.size (fun x => x = i.dd ∨ x = i.rr) w3 wc) := hide (HT14.out.trans ((Tch.of_below HBC.out.1).mono HT14.out.size fun _ _ h => h))
      have HE15 := HE
      have HYO := hide (show ¬ ii.own y from HA14.out.tx.other_new HBC.out.2)
      obtain ⟨n1, hn1, hc1⟩ := HREF.out.1.one
      have HN1 := hide (And.intro hn1 hc1)
      have HN2 := hide (And.intro (show n1.kind = 2 from congrArg RC.kind hc1) (show n1.ps = l from congrArg RC.ps hc1))
      have HL61 := hide (show l.length ≤ 60 from by have := HK.out; have := HK60.out; omega)
      have HSM := hide (dirC_small HREF.out.1.core (by have := HL61.out; omega) (by omega))
      have hz15 := HZ14.out.below HBC.out.1 HZ14.out.lt
      have z0 := hz15.cell 0
      have zl := hz15.lt
      obtain ⟨q, hq, hq7⟩ : ∃ q : Nat, ak % 7 = q ∧ q < 7 := ⟨_, rfl, Nat.mod_lt _ (by omega)⟩
      have km : ((ak : Int)).tmod 7 = (q : Int) := by rw [Int.tmod_eq_emod_of_nonneg (by omega)]; omega
      clear hz15 hq hn1 hc1 HA14 HGR14 HOG14 HT14 HZ14 HE
      go_upto_block 2 with (fail)
      go_cut [17, 18, 19, 20, 21, 22] from 85 to 128 (fun x17 x18 x19 x20 x21 x22 we => ∃ cd : Int, x17 = .int .i64 cd ∧ x18 = .int .i64 cd ∧ Hid (PlayOut w3 we i ii Dk g2 u l mb nb cN tc T L ob nbo cNo tco To Lo cd))
      case first =>
        obtain rfl | rfl | rfl | hq : q = 4 ∨ q = 5 ∨ q = 6 ∨ (q ≠ 4 ∧ q ≠ 5 ∧ q ≠ 6) := by omega
        · clear hq7
          go_upto_region 19 with (fail)
          refine wp_region_ord [0, 1, 2, 4, 5, 3, 6, 7, 8] [0, 0, 0, 0, 0, 1, 2, 0, 0] (fun W => Blk W y 125 #[.string nm, .int .u16 (v.toNat : Int)]) (by kernel_rfl) (by kernel_rfl) HE15.out.drew ?_
          iterate 5 (refine wpOrd_q (v := ?_) (by rfl) (fun W hW => ?_) ?_; rotate_left; (focus ((have z0 := hW.cell 0; have z1 := hW.cell 1; have zl := hW.lt; go_simp); try with_reducible rfl)); try simp only [Act.put, List.setIfInBounds_toArray, List.set_cons_zero, List.set_cons_succ])
          have hpc := drop_code (num := 1) (nm := nm) HA15d.out (by omega) (by rw [HGO.out.2.2]; omega) (by rw [HGO.out.2.1]; omega) HPD.out.dir HPD.out.uniq HPD.out.tight
          rw [show ((1 : Nat) : Int) = 1 from rfl] at hpc
          have HPC := hide hpc
          clear hpc
          refine wpOrd_x (by rfl) (fun KK hKK => ?_)
          go_simp
          refine HPC.out.mono ?_
          rintro e w16 ⟨rfl, hout⟩
          have hty : Tch wc.drew.heap.size ii.own wc.drew w16 := hout.tch
          have HE16 := hide (HE15.out.drew.tch hty HE15.out.drew.lt HYO.out)
          refine hKK _ _ _ (fun _ h => h) HE16.out ?_
          clear hKK KK
          try simp only [Act.put, List.setIfInBounds_toArray, List.set_cons_zero, List.set_cons_succ]
          have HM16 := hide ((HGR15.out.below (Below.refl _ _).drew).own HA15d.out.tx hty)
          have HO16 := hide ((HOG15.out.below (Below.refl _ _).drew).own HA15d.out.tx hty)
          have HT16 := hide (HT15.out.trans ((Tch.drew (Tch.refl _ _ wc)).trans (hty.mono HT15.out.size HOL.out)))
          have HOUT := hide hout
          clear hout hty HPC
          have hrc := rdrop_ok (nm := nm) HM16.out HN1.out.1 HN2.out.1 (by rw [HN2.out.2]; have := HL61.out; omega) HREF.out.1.sep
          rw [show ((1 : Nat) : Int) = 1 from rfl, HN2.out.2] at hrc
          have HRC := hide hrc
          clear hrc
          refine wpOrd_b (by rfl) (fun KK hKK => ?_)
          go_simp
          refine HRC.out.mono ?_
          rintro e w17 ⟨rfl, hrf⟩
          refine hKK (fun _ => True) _ _ trivial ?_
          clear hKK KK
          try simp only [Act.put, List.setIfInBounds_toArray, List.set_cons_zero, List.set_cons_succ]
          iterate 2 (refine wpOrd_q (v := ?_) (by rfl) (fun W hW => ?_) ?_; rotate_left; (focus (go_simp; try with_reducible rfl)); try simp only [Act.put, List.setIfInBounds_toArray, List.set_cons_zero, List.set_cons_succ])
          refine wpOrd_nil ?_
          have HRES := hide (play_join HOUT.out HM16.out HO16.out HREF.out HN1.out HPD.out (drop_ut HPD.out.uniq) HT16.out hrf)
          clear hrf HRC HOUT HM16 HO16 HT16 HE16
          generalize (dropC l nm).1 = cd at *
          go_wp2
          go_meet
          case rel => exact ⟨_, rfl, rfl, HRES⟩
        · clear hq7
          go_upto_region 21 with (fail)
          refine wp_region_ord [0, 1, 3, 2, 4, 5, 6] [0, 0, 0, 1, 2, 0, 0] (fun W => Blk W y 125 #[.string nm, .int .u16 (v.toNat : Int)]) (by kernel_rfl) (by kernel_rfl) HE15.out.drew ?_
          iterate 1 (refine wpOrd_q (v := ?_) (by rfl) (fun W hW => ?_) ?_; rotate_left; (focus ((have z0 := hW.cell 0; have z1 := hW.cell 1; have zl := hW.lt; go_simp); try with_reducible rfl)); try simp only [Act.put, List.setIfInBounds_toArray, List.set_cons_zero, List.set_cons_succ])
          refine wpOrd_q (v := .agg #[.string nm, .int .u16 (v.toNat : Int)]) (by rfl) (fun W hW => exec_load_blk 125 (.tmp 16) rfl y _ _ _ rfl hW Tryz.underlying125 rfl (by exact size_ent)) ?_
          try simp only [Act.put, List.setIfInBounds_toArray, List.set_cons_zero, List.set_cons_succ]
          refine wpOrd_q (v := .agg #[.string nm, .int .u16 (v.toNat : Int)]) (by rfl) (fun W hW => exec_load_blk 125 (.tmp 16) rfl y _ _ _ rfl hW Tryz.underlying125 rfl (by exact size_ent)) ?_
          try simp only [Act.put, List.setIfInBounds_toArray, List.set_cons_zero, List.set_cons_succ]
          have hpc := turn_code (num := 1) (nm := nm) (v := v) HA15d.out (by omega) (by rw [HGO.out.2.2]; omega) (by rw [HGO.out.2.1]; omega) HPD.out.dir
          rw [show ((1 : Nat) : Int) = 1 from rfl] at hpc
          have HPC := hide hpc
          clear hpc
          refine wpOrd_x (by rfl) (fun KK hKK => ?_)
          go_simp
          refine HPC.out.mono ?_
          rintro e w16 ⟨rfl, hout⟩
          have hty : Tch wc.drew.heap.size ii.own wc.drew w16 := hout.tch
          have HE16 := hide (HE15.out.drew.tch hty HE15.out.drew.lt HYO.out)
          refine hKK _ _ _ (fun _ h => h) HE16.out ?_
          clear hKK KK
          try simp only [Act.put, List.setIfInBounds_toArray, List.set_cons_zero, List.set_cons_succ]
          have HM16 := hide ((HGR15.out.below (Below.refl _ _).drew).own HA15d.out.tx hty)
          have HO16 := hide ((HOG15.out.below (Below.refl _ _).drew).own HA15d.out.tx hty)
          have HT16 := hide (HT15.out.trans ((Tch.drew (Tch.refl _ _ wc)).trans (hty.mono HT15.out.size HOL.out)))
          have HOUT := hide hout
          clear hout hty HPC
          have hrc := rturn_ok (nm := nm) (v := v) HM16.out HN1.out.1 HN2.out.1 (by rw [HN2.out.2]; have := HL61.out; omega) HREF.out.1.sep
          rw [show ((1 : Nat) : Int) = 1 from rfl, HN2.out.2] at hrc
          have HRC := hide hrc
          clear hrc
          refine wpOrd_b (by rfl) (fun KK hKK => ?_)
          go_simp
          refine HRC.out.mono ?_
          rintro e w17 ⟨rfl, hrf⟩
          refine hKK (fun _ => True) _ _ trivial ?_
          clear hKK KK
          try simp only [Act.put, List.setIfInBounds_toArray, List.set_cons_zero, List.set_cons_succ]
          iterate 2 (refine wpOrd_q (v := ?_) (by rfl) (fun W hW => ?_) ?_; rotate_left; (focus (go_simp; try with_reducible rfl)); try simp only [Act.put, List.setIfInBounds_toArray, List.set_cons_zero, List.set_cons_succ])
          refine wpOrd_nil ?_
          have HRES := hide (play_join HOUT.out HM16.out HO16.out HREF.out HN1.out HPD.out (turn_ut HPD.out.uniq HPD.out.tight) HT16.out hrf)
          clear hrf HRC HOUT HM16 HO16 HT16 HE16
          generalize (turnC l nm v).1 = cd at *
          go_wp2
          go_meet
          case rel => exact ⟨_, rfl, rfl, HRES⟩
        · clear hq7
          have y0 := HE15.out.cell 0
          have yl := HE15.out.lt
          have hpc := find_code (num := 1) (nm := nm) (HA14x.out) (by omega) (by rw [HGO.out.2.2]; omega) HPD.out.dir
          rw [show ((1 : Nat) : Int) = 1 from rfl] at hpc
          have HPC := hide hpc
          clear hpc
          go_wp2_with fail
          refine HPC.out.mono ?_
          rintro e w16 ⟨rfl, ha16, ht16⟩
          have HM16 := hide (HGR15.out.own HA14x.out.tx ht16)
          have HO16 := hide (HOG15.out.own HA14x.out.tx ht16)
          have HT16 := hide (HT15.out.trans (ht16.mono HT15.out.size HOL.out))
          have HE16 := hide (HE15.out.tch ht16 HE15.out.lt HYO.out)
          have HA16 := hide ha16
          have hrc := rfind_ok (nm := nm) HM16.out HN1.out.1 HN2.out.1 (by rw [HN2.out.2]; have := HL61.out; omega)
          rw [show ((1 : Nat) : Int) = 1 from rfl, HN2.out.2] at hrc
          have HRC := hide hrc
          have y0 := HE16.out.cell 0
          have yl := HE16.out.lt
          clear ha16 ht16 hrc HPC HGR15 HOG15 HT15
          generalize (findC l nm).1 = fv at *
          generalize (findC l nm).2 = cd at *
          go_wp2_with fail
          refine HRC.out.mono ?_
          rintro e w17 ⟨rfl, hw17⟩
          have hw18 := hw17.symm
          clear hw17
          subst hw18
          have HRES := hide (play_find (cd := cd) HA16.out HM16.out HO16.out HREF.out.1 HPD.out HT16.out)
          clear y0 yl HRC HM16 HO16 HT16 HA16 HE16
          go_wp2
          go_meet
          case rel => exact ⟨_, rfl, rfl, HRES⟩
        · have tq4 : ((q : Int) == 4) = false := by rw [beq_eq_false_iff_ne]; omega
          have tq5 : ((q : Int) == 5) = false := by rw [beq_eq_false_iff_ne]; omega
          have tq6 : ((q : Int) == 6) = false := by rw [beq_eq_false_iff_ne]; omega
          clear hq7 hq
          go_upto_region 17 with (fail)
          refine wp_region_ord [0, 1, 3, 2, 4, 5, 6] [0, 0, 0, 1, 2, 0, 0] (fun W => Blk W y 125 #[.string nm, .int .u16 (v.toNat : Int)]) (by kernel_rfl) (by kernel_rfl) HE15.out.drew ?_
          iterate 1 (refine wpOrd_q (v := ?_) (by rfl) (fun W hW => ?_) ?_; rotate_left; (focus ((have z0 := hW.cell 0; have z1 := hW.cell 1; have zl := hW.lt; go_simp); try with_reducible rfl)); try simp only [Act.put, List.setIfInBounds_toArray, List.set_cons_zero, List.set_cons_succ])
          refine wpOrd_q (v := .agg #[.string nm, .int .u16 (v.toNat : Int)]) (by rfl) (fun W hW => exec_load_blk 125 (.tmp 16) rfl y _ _ _ rfl hW Tryz.underlying125 rfl (by exact size_ent)) ?_
          try simp only [Act.put, List.setIfInBounds_toArray, List.set_cons_zero, List.set_cons_succ]
          refine wpOrd_q (v := .agg #[.string nm, .int .u16 (v.toNat : Int)]) (by rfl) (fun W hW => exec_load_blk 125 (.tmp 16) rfl y _ _ _ rfl hW Tryz.underlying125 rfl (by exact size_ent)) ?_
          try simp only [Act.put, List.setIfInBounds_toArray, List.set_cons_zero, List.set_cons_succ]
          have hpc := add_code (num := 1) (nm := nm) (v := v) HA15d.out (by omega) (by rw [HGO.out.2.2]; omega) (by rw [HGO.out.2.1]; omega) HPD.out.dir (by have := HL61.out; omega) (by have h1 := HPD.out.cnt; have h2 := nkeys_play (k := l.length + 1) (by have := HL61.out; omega); rw [h1, HGO.out.2.1]; omega)
          rw [show ((1 : Nat) : Int) = 1 from rfl] at hpc
          have HPC := hide hpc
          clear hpc
          refine wpOrd_x (by rfl) (fun KK hKK => ?_)
          go_simp
          refine HPC.out.mono ?_
          rintro e w16 ⟨rfl, hout⟩
          have hty : Tch wc.drew.heap.size ii.own wc.drew w16 := hout.tch
          have HE16 := hide (HE15.out.drew.tch hty HE15.out.drew.lt HYO.out)
          refine hKK _ _ _ (fun _ h => h) HE16.out ?_
          clear hKK KK
          try simp only [Act.put, List.setIfInBounds_toArray, List.set_cons_zero, List.set_cons_succ]
          have HM16 := hide ((HGR15.out.below (Below.refl _ _).drew).own HA15d.out.tx hty)
          have HO16 := hide ((HOG15.out.below (Below.refl _ _).drew).own HA15d.out.tx hty)
          have HT16 := hide (HT15.out.trans ((Tch.drew (Tch.refl _ _ wc)).trans (hty.mono HT15.out.size HOL.out)))
          have HOUT := hide hout
          clear hout hty HPC
          have hrc := radd_ok (nm := nm) (v := v) HM16.out HSM.out (Nat.zero_le _) HN1.out.1 HN2.out.1 (by rw [HN2.out.2]; have := HL61.out; omega) HREF.out.1.sep (by rw [HN2.out.2]; exact ref_room HREF.out.1 HN1.out.2 (by have := addL_length l ⟨nm, v⟩; have := addAt_le l; have := HL61.out; omega))
          rw [show ((1 : Nat) : Int) = 1 from rfl, HN2.out.2] at hrc
          have HRC := hide hrc
          clear hrc
          refine wpOrd_b (by rfl) (fun KK hKK => ?_)
          go_simp
          refine HRC.out.mono ?_
          rintro e w17 ⟨rfl, hrf⟩
          refine hKK (fun _ => True) _ _ trivial ?_
          clear hKK KK
          try simp only [Act.put, List.setIfInBounds_toArray, List.set_cons_zero, List.set_cons_succ]
          iterate 2 (refine wpOrd_q (v := ?_) (by rfl) (fun W hW => ?_) ?_; rotate_left; (focus (go_simp; try with_reducible rfl)); try simp only [Act.put, List.setIfInBounds_toArray, List.set_cons_zero, List.set_cons_succ])
          refine wpOrd_nil ?_
          have HRES := hide (play_join HOUT.out HM16.out HO16.out HREF.out HN1.out HPD.out (add_ut HPD.out.uniq HPD.out.tight) HT16.out hrf)
          clear hrf HRC HOUT HM16 HO16 HT16 HE16
          generalize (addC l nm v).1 = cd at *
          go_wp2
          go_meet
          case rel => exact ⟨_, rfl, rfl, HRES⟩
      case rest =>
        clear HA14x HA15d HGR15 HOG15 HT15 HE15 HYO HN1 HN2 HSM z0 zl km HBC HNAME
        obtain ⟨cd, rfl, rfl, HP⟩ := hcut
        obtain ⟨ht17, hout⟩ := HP.out
        have HT17 := hide ht17
        rcases hout with ⟨hc, ⟨s', G', ha, hsd⟩, hgm, hgo⟩ | ⟨rfl, s', G', κ', l', L', ha, hbad, hsD, hpd, hlen, hgm, href⟩
        · clear HP ht17
          have tc : (cd == 0) = false := by rw [beq_eq_false_iff_ne]; exact hc
          have hL9 := HL9.out
          have hmm := hgm.m
          have hmo := hgo.m
          rw [hL9] at hmm
          rw [HLO9.out] at hmo
          have HMM := hide hmm
          have HMO := hide hmo
          have HRO := hide hgo.r
          have hszo := size_rgroup (.slice (some ⟨nbo, 0, none⟩) 9 cNo) (.slice To 0 tco) (.int .i64 38)
          have hav : ¬ ii.own mb ∧ mb ≠ ii.ll := ⟨ha.tx.other hmm (by decide) (by decide) (by decide), hmm.ne ha.tx.log.log (by decide)⟩
          have HAV := hide hav
          have HAX := hide (And.intro ha hsd)
          clear hc hmm hmo hgm hgo ha hsd hL9 hav
          go_upto_region 41 with (first | ((with_reducible refine at_load 47 (.tmp 15) ?_); refine wpList_load_blk rfl 47 (.tmp 15) rfl ob _ _ _ (by rfl) HMO.out Tryz.underlying47 rfl hszo ?_) | ((with_reducible refine at_store 47 (.tmp 9) (.tmp 134) ?_); refine wpList_store_blk rfl 47 (.tmp 9) (.tmp 134) rfl mb _ _ _ (by rfl) (by rfl) HMM.out hszo rfl (by simp [Value.oneCell']) (fun _ => ?_)) | fail)
          refine at_world (fun W => GrAt W mb nbo Lo cNo To 0 tco 38 ∧ Tch w3.heap.size (fun x => x = i.dd ∨ x = i.rr) w3 W ∧ LogAt W i.ll i.dd i.rr Dk) ⟨⟨by rw [HLO9.out]; exact HMM.out.setRow_same _, HRO.out.tch (Tch.setRow (S := (· = mb)) (fun _ => rfl)) (fun g cur hB e => HMM.out.ne hB (by decide) e.symm) (fun g cur hB e => HMM.out.ne hB (by decide) e.symm) (fun g cur hB e => HMM.out.ne hB (by decide) e.symm)⟩, HT17.out.trans ((Tch.setRow (S := (· = mb)) (B := w3.heap.size) (fun _ => rfl)).mono (Nat.le_refl _) (fun x hx e => by have := HMB.out; omega)), ?_⟩ (fun w18 hw18 => ?_)
          · have h0 := (HAX.out.1.tx.apart (S := (· = mb)) (Tch.setRow (S := (· = mb)) (c := #[.slice (some ⟨nbo, 0, none⟩) 9 cNo, .slice To 0 tco, .int .i64 38]) (fun _ => rfl)) (fun k hk => by subst hk; exact HAV.out)).log
            rw [HAX.out.2] at h0
            exact h0.ids HII.out.1
          obtain ⟨q1, q2, q3⟩ := hw18
          have HG18 := hide q1
          have HT18 := hide q2
          have HL18 := hide q3
          have HREF18 : Hid (RefL w3.heap.size Lo l ∧ w3.heap.size ≤ nbo) := hide ⟨⟨HREFO.out.1.core, fun m hm g hg => Nat.le_trans HW12.out (HREFO.out.1.high m hm g hg), HREFO.out.1.sep⟩, Nat.le_trans HW12.out HREFO.out.2⟩
          have HK18 := hide (show l.length ≤ k + 1 ∧ k + 1 ≤ 61 from by have := HK.out; have := HK60.out; omega)
          clear q1 q2 q3 HAX HT17 tc
          go_wp2
          go_roundg (n - (k + 1))
          case rel => exact ⟨k + 1, Dk, G, κ, l, nbo, cNo, tco, To, Lo, by have := HK60.out; omega, rfl, by first | rfl | go_num, HK18, HT18, HL18, HI, HPD, HG18, HREF18⟩
          case measure => have := HGH.out; have := HK60.out; omega
        · clear HP ht17
          have hcom := commit_ok ha.tx hbad
          have HCOM := hide hcom
          have HA17 := hide ha
          have HG17 := hide hgm
          have HPD17 := hide hpd
          have HSD := hide (And.intro hsD (And.intro hlen href))
          clear hcom ha hbad hsD hpd hlen hgm href HREFO HLO9 HW12
          go_wp2_with fail
          refine HCOM.out.mono ?_
          rintro e_ w18 ⟨lp, rfl, hp, hx18, ht18⟩
          have HT18 := hide (HT17.out.trans (ht18.mono HT17.out.size HOL.out))
          have HG18 := hide (HG17.out.own HA17.out.tx ht18)
          have HI18 : Hid ((commitD s' lp).length = n0 ∧ Sto.Is ⟨commitD s' lp, [], 0⟩ u G' ∧ G'.Ok) := hide ⟨by rw [commit_len, HSD.out.1]; exact HI.out.1, is_commit HA17.out.is HGO.out.1 HA17.out.tx.ok hp, HA17.out.gok⟩
          have HL18 : Hid (LogAt w18 i.ll i.dd i.rr (commitD s' lp)) := hide (hx18.log.ids HII.out.1)
          clear hp hx18 ht18 HCOM HA17 HT17 HG17 HI HPD HD32
          generalize commitD s' lp = D8 at *
          have HD322 := hide (show 32 ≤ D8.length from by rw [HI18.out.1]; exact HN.out.1)
          have HBr18 : Hid (Below w2.heap.size w2 w18) := hide (HB23.out.trans ((HT18.out.mono HB23.out.size (S' := fun _ => False) (fun k hk h => by
            have := HDR.out
            rcases h with h | h <;> omega)).below fun _ _ h => h))
          have hbeg := begin_ok HL18.out HD322.out
          have HBEG := hide hbeg
          clear hbeg
          go_wp2_with fail
          refine HBEG.out.mono ?_
          rintro e w19 ⟨tt, mq, rfl, htt, hmq, hxa, hba⟩
          obtain ⟨ii2, hii⟩ : ∃ ii : Ids, Ids.mk tt mq i.ll i.dd i.rr = ii := ⟨_, rfl⟩
          have htt' : tt = ii2.tt := by rw [← hii]
          rw [hii] at hxa
          subst htt'
          have HXA := hide hxa
          have HBA := hide hba
          have HII2 := hide (And.intro hii (And.intro htt hmq))
          have HOL2 := hide (show ∀ k, k < w3.heap.size → ii2.own k → k = i.dd ∨ k = i.rr from by
            have h0 := HT18.out.size
            rintro k hk (e | e | e | e)
            · omega
            · rw [← hii] at e; simp only at e; omega
            · rw [← hii] at e; exact .inl e
            · rw [← hii] at e; exact .inr e)
          clear hii htt hmq hxa hba HBEG
          go_wp2_with fail
          refine (HOP.out w19 (HBr18.out.trans (HBA.out.mono HBr18.out.size)) ii2.tt).mono ?_
          rintro e w20 ⟨g3, rfl, -, hGb, hbb⟩
          have hug : u.Ok D8.length := by rw [HI18.out.1]; exact HGO.out.1
          have HAB2 : Hid (GAt w20 ii2 ⟨D8, [], 0⟩ g3 u 0 G') := hide ⟨HXA.out.below hbb, hGb, hug, HI18.out.2.1, HI18.out.2.2⟩
          have HBB2 := hide (HBA.out.trans (hbb.mono HBA.out.size))
          clear hug hGb hbb HXA HBA
          have HT20 : Hid (Tch w3.heap.size (fun x => x = i.dd ∨ x = i.rr) w3 w20) := hide (HT18.out.trans ((Tch.of_below HBB2.out).mono HT18.out.size fun _ _ h => h))
          have HG20 := hide (HG18.out.below HBB2.out)
          obtain ⟨n1, hn1, hc1⟩ := HSD.out.2.2.one
          have HN1 := hide (And.intro hn1 (And.intro (show n1.kind = 2 from congrArg RC.kind hc1) (show n1.ps = l' from congrArg RC.ps hc1)))
          have HL61 := hide (show l'.length ≤ 61 ∧ l'.length ≤ k + 1 from by have := HK.out; have := HK60.out; have := HSD.out.2.1; omega)
          have hls := dlists HPD17.out.dir (i := ii2) (s := ⟨D8, [], 0⟩) (gg := g3) (lab := 0) (by omega) (by rw [HGO.out.2.2]; omega)
          have HLS := hide hls
          have hl1 := hls w20 HAB2.out
          rw [show ((1 : Nat) : Int) = 1 from rfl] at hl1
          have HL1 := hide hl1
          obtain ⟨N, hN⟩ : ∃ N, (live l').length = N := ⟨_, rfl⟩
          rw [hN] at HL1
          have HNN := hide (And.intro hN (show N ≤ 61 from by
            have h0 := List.length_filter_le (fun e : EntV => decide (e.num ≠ 0)) l'
            have h1 : (live l').length ≤ l'.length := h0
            have := HL61.out
            omega))
          clear hn1 hc1 hls hl1 hN HT18 HL18 HG18 HBr18
          go_wp2_with fail
          refine HL1.out.mono ?_
          rintro e w21 ⟨A1, c1, rfl, hown1, ha21, ht21⟩
          have HA21 := hide ha21
          have HO21 := hide hown1
          have HT21 := hide (HT20.out.trans (ht21.mono HT20.out.size HOL2.out))
          have HG21 := hide (HG20.out.own HAB2.out.tx ht21)
          have HW21 := hide ht21.size
          have hrl := rlist_ok HG21.out HN1.out.1 HN1.out.2.1 (by rw [HN1.out.2.2]; have := HL61.out; omega)
          rw [HN1.out.2.2, HNN.out.1, show ((1 : Nat) : Int) = 1 from rfl] at hrl
          have HRL := hide hrl
          clear hown1 ha21 ht21 hrl HL1 HT20 HG20
          go_wp2_with fail
          refine HRL.out.mono ?_
          rintro e w22 ⟨A2, c2, rfl, hown2, hb22⟩
          have HA22 := hide (HA21.out.below hb22)
          have HO22 := hide (own_below HO21.out hb22)
          have HR22 := hide (own_mono hown2 HW21.out)
          have HT22 := hide (HT21.out.trans ((Tch.of_below hb22).mono HT21.out.size fun _ _ h => h))
          have HG22 := hide (HG21.out.below hb22)
          have HOF := hide (show ∀ x, w20.heap.size ≤ x → ¬ ii2.own x from fun x hx => HAB2.out.tx.other_new hx)
          clear hown2 hb22 HRL HA21 HO21 HT21 HG21 HW21
          have hnd := gs_node' (num := 1) HA22.out (by omega) (by rw [HGO.out.2.2]; omega)
          have hdir : (G'.nd 1).dir.length = 6 := HA22.out.gok.dir 1
          obtain ⟨nn, hnn⟩ : ∃ nn, G'.nd 1 = nn := ⟨_, rfl⟩
          rw [hnn, show ((1 : Nat) : Int) = 1 from rfl] at hnd
          rw [hnn] at hdir
          have HND := hide hnd
          have HNV := hide hnn
          have HDI := hide hdir
          clear hnd hnn hdir
          go_wp2_with fail
          refine HND.out.mono ?_
          rintro e w23 ⟨rfl, ha23, ht23⟩
          have HA23 := hide ha23
          have HO23 := hide (own_tch HO22.out ht23 HOF.out)
          have HR23 := hide (own_tch HR22.out ht23 HOF.out)
          have HT23 := hide (HT22.out.trans (ht23.mono HT22.out.size HOL2.out))
          have HG23 := hide (HG22.out.own HA22.out.tx ht23)
          clear ha23 ht23 HND HA22 HO22 HR22 HT22 HG22
          go_upto_region 38 with (first | ((with_reducible refine at_alloc 130 ?_); refine wpList_alloc_as rfl 130 rfl _ (zero_node _) ?_) | ((with_reducible refine at_store 130 (.tmp 27) (.tmp 157) ?_); refine wpList_store_blk rfl 130 (.tmp 27) (.tmp 157) rfl w23.heap.size _ _ _ (by rfl) (by rfl) (Blk.new _ _ _) (size_nodeOf HDI.out) (by rw [List.size_toArray, List.size_toArray, NodeV.cells_length HDI.out]; rfl) (NodeV.cells_one _) (fun _ => ?_)) | fail)
          refine at_world (fun W => ∃ q, q = w23.heap.size ∧ Below w23.heap.size w23 W ∧ Blk W q 130 nn.cells.toArray) ⟨_, rfl, below_setRow ((Below.refl _ _).alloc (Nat.le_refl _) _) (Nat.le_refl _) _, (Blk.new _ _ _).setRow_same _⟩ (fun w24 h24 => ?_)
          obtain ⟨nq, hnq, hb24, hQ24⟩ := h24
          rw [← hnq]
          have HA24 := hide (HA23.out.below hb24)
          have HO24 := hide (own_below HO23.out hb24)
          have HR24 := hide (own_below HR23.out hb24)
          have HT24 := hide (HT23.out.trans ((Tch.of_below hb24).mono HT23.out.size fun _ _ h => h))
          have HG24 := hide (HG23.out.below hb24)
          have HQ24 := hide hQ24
          have HQO := hide (show ¬ ii2.own nq from HA23.out.tx.other_new (Nat.le_of_eq hnq.symm))
          clear hnq hb24 hQ24 HA23 HO23 HR23 HT23 HG23
          have hem := dempty_ok HA24.out HLS.out
          rw [show ((1 : Nat) : Int) = 1 from rfl, HNN.out.1] at hem
          have HEM := hide hem
          clear hem
          go_wp2_with fail
          refine HEM.out.mono ?_
          rintro e w25 ⟨rfl, ha25, ht25⟩
          have HL25 : Hid (LogAt w25 i.ll i.dd i.rr D8) := hide (ha25.tx.log.ids HII2.out.1)
          have HO25 := hide (own_tch HO24.out ht25 HOF.out)
          have HR25 := hide (own_tch HR24.out ht25 HOF.out)
          have HT25 := hide (HT24.out.trans (ht25.mono HT24.out.size HOL2.out))
          have HG25 := hide (HG24.out.own HA24.out.tx ht25)
          have HQ25 := hide (HQ24.out.tch ht25 HQ24.out.lt HQO.out)
          clear ha25 ht25 HEM HA24 HO24 HR24 HT24 HG24 HQ24
          obtain ⟨y, hy⟩ : ∃ y : Nat, 16 * l'.length = y := ⟨_, rfl⟩
          have c3 := (HQ25.out.cell 3).trans (node_cells_at nn).2.2.2
          rw [← HNV.out, HPD17.out.dir.size, hy] at c3
          have nql := HQ25.out.lt
          have hL9' := dirC_len HSD.out.2.2.core
          have m0 := HG25.out.m.cell 0
          have ml := HG25.out.m.lt
          have n9 : w25.cell? ⟨nb, 9, none⟩ = some (.slice n1.P n1.ps.length n1.pc) := HG25.out.r.cell HN1.out.1 (j := 4) (by omega)
          have nbl := HG25.out.r.lt
          rw [HN1.out.2.2] at n9
          rw [hL9', show (8 + 1 : Nat) = 9 from rfl] at m0
          have HCE := hide (show ∀ W, Below w25.heap.size w25 W → nq < W.heap.size ∧ W.cell? ⟨nq, 3, none⟩ = some (.int .u32 (y : Int)) ∧ mb < W.heap.size ∧ W.cell? ⟨mb, 0, none⟩ = some (.slice (some ⟨nb, 0, none⟩) 9 cN) ∧ nb < W.heap.size ∧ W.cell? ⟨nb, 9, none⟩ = some (.slice n1.P l'.length n1.pc) from fun W hb =>
            ⟨Nat.lt_of_lt_of_le nql hb.size, (hb.cell (p := ⟨nq, 3, none⟩) nql).trans c3, Nat.lt_of_lt_of_le ml hb.size, (hb.cell (p := ⟨mb, 0, none⟩) ml).trans m0, Nat.lt_of_lt_of_le nbl hb.size, (hb.cell (p := ⟨nb, 9, none⟩) nbl).trans n9⟩)
          obtain ⟨Q, hQ⟩ : ∃ Q, l'.length = Q := ⟨_, rfl⟩
          rw [hQ] at HCE hy
          have hq61 : Q ≤ 61 := by have := HL61.out; omega
          have s1 : IntKind.i64.wrap (y : Int) = (y : Int) := IntWalk.i64_in _ (by omega)
          have s3 : IntKind.i64.wrap (16 * (Q : Int)) = (y : Int) := by rw [IntWalk.i64_in _ (by omega)]; omega
          obtain ⟨bz, hbz, hbz'⟩ : ∃ bz, decide (N = 0) = bz ∧ ((N : Int) == 0) = bz := ⟨_, rfl, by by_cases h0 : N = 0 <;> simp [h0]⟩
          rw [hbz]
          have HSE := hide (fun W (hb : Below w25.heap.size w25 W) => same_ents (w := W) (c1 := c1) (c2 := c2) (l := live l') (Rd.of_own (own_below HO25.out hb)) (Rd.of_own (own_below HR25.out hb)) HNN.out.1 (by have := HNN.out.2; omega) (fun e he => by
            have h0 : e ∈ l' := (List.mem_filter.1 he).1
            have := (HPD17.out.dir.good e h0).name.1
            omega))
          clear hbz hQ hq61 hy c3 nql hL9' m0 ml n9 nbl HQ25 HO25 HR25
          go_upto_region 39 with (fail)
          refine wp_region_text [0, 0, 0, 0, 0, 0, 0, 0, 0, 0, 0, 0, 0, 1, 0, 0, 0, 0, 0, 0, 0, 0, 0, 0, 0, 0, 0, 0, 0, 0, 0, 0, 0, 0, 0, 0] (fun W => Below w25.heap.size w25 W) (by kernel_rfl) (by kernel_rfl) (Below.refl _ _).drew ?_
          iterate 13 (refine wpOrd_q (v := ?_) (by rfl) (fun W hW => ?_) ?_; rotate_left; (focus ((obtain ⟨q1, q2, q3, q4, q5, q6⟩ := HCE.out W hW; go_simp); try with_reducible rfl)); try simp only [Act.put, List.setIfInBounds_toArray, List.set_cons_zero, List.set_cons_succ])
          refine wpOrd_x (by rfl) (fun KK hKK => ?_)
          go_simp
          refine (HSE.out _ (Below.refl _ _).drew).mono ?_
          rintro e w26 ⟨rfl, hb26⟩
          have HB26 := hide (show Below w25.heap.size w25 w26 from (Below.refl _ _).drew.trans hb26)
          refine hKK _ _ _ (fun _ h => h) HB26.out ?_
          clear hKK KK hb26
          try simp only [Act.put, List.setIfInBounds_toArray, List.set_cons_zero, List.set_cons_succ]
          iterate 22 (refine wpOrd_q (v := ?_) (by rfl) (fun W hW => ?_) ?_; rotate_left; (focus ((obtain ⟨q1, q2, q3, q4, q5, q6⟩ := HCE.out W hW; go_simp); try with_reducible rfl)); try simp only [Act.put, List.setIfInBounds_toArray, List.set_cons_zero, List.set_cons_succ])
          refine wpOrd_nil ?_
          have HT26 := hide (HT25.out.trans ((Tch.of_below HB26.out).mono HT25.out.size fun _ _ h => h))
          have HL26 := hide (HL25.out.below HB26.out)
          have HG26 := hide (HG25.out.below HB26.out)
          have HREF26 : Hid (RefL w3.heap.size L' l' ∧ w3.heap.size ≤ nb) := hide ⟨HSD.out.2.2, HREF.out.2⟩
          have HK26 := hide (show l'.length ≤ k + 1 ∧ k + 1 ≤ 61 from by have := HL61.out; have := HK60.out; omega)
          clear HT25 HL25 HG25 HB26 HCE HSE s1 s3 hbz'
          go_wp2
          go_roundg (n - (k + 1))
          case rel => exact ⟨k + 1, D8, G', κ', l', nb, cN, tc, T, L', by have := HK60.out; omega, rfl, by first | rfl | go_num, HK26, HT26, HL26, HI18, HPD17, HG26, HREF26⟩
          case measure => have := HGH.out; have := HK60.out; omega
end Go.Proofs.YthmkgohfeahdhaaGreat

/- GroupFull: the law, walked. -/
import Derived.Test.YtniboffmdkeacaaFsAwake
import Derived.Test.YtniboffmdkeacaaFsCom3
import Derived.Test.YtniboffmdkeacaaGpNone
namespace Go.Proofs.Ytniboffmdkeacaa
open Go.RowKit
set_option linter.unusedSimpArgs false
set_option linter.unusedVariables false

theorem commit_bit {s : Sto} (h : s.Ok) {l : List Nat} (hp : l.Perm (s.M.map (·.1))) {f j : Nat} (hf : 32 ≤ f) : Sto.bit ⟨commitD s l, [], 0⟩ f j = s.bit f j := by
  unfold Sto.bit
  have : Sto.at_ ⟨commitD s l, [], 0⟩ (f + j / 512) = s.at_ (f + j / 512) := commit_at h hp (.inr (by omega))
  rw [this]
theorem or_one (b : Nat) (hb : b < 256) : bits BinOp.or IntKind.u8 (b : Int) 1 = ((b ||| 1 : Nat) : Int) ∧ b ||| 1 < 256 := by
  have : ∀ b : Fin 256, bits BinOp.or IntKind.u8 (b.val : Int) 1 = ((b.val ||| 1 : Nat) : Int) ∧ b.val ||| 1 < 256 := by decide +kernel
  exact this ⟨b, hb⟩

section
variable {m : UInt8} {H : List UInt8} {A : Option Addr} {n c : Nat} {T : List UInt8} {w : World}
set_option maxRecDepth 100000 in
set_option maxHeartbeats 4000000 in
theorem full_all (hH : H.length = 25) (hT : Rd w w.heap.size 1 A n (bvs T)) (hnm : n ≤ 9223372036854775807) (lab which b : Nat) (hlab : lab < 256) (hwh : which < 65536) (hb : b < 256) :
    Calls Try.prog 4 #[.agg (szCells m H A n c), .int .u8 (lab : Int), .int .u16 (which : Int), .int .u8 (b : Int)] w fun e w' => e = .returned (.bool true) ∧ Below w.heap.size w w' := by
  have hsz : (szCells m H A n c).size = 27 := szCells_size hH
  go_enter Try.func4, Try.ntmps4
  go_upto_region 1 with (fail)
  refine at_world (fun W => ∃ bx, bx = w.heap.size ∧ Below w.heap.size w W ∧ Blk W bx 26 (szCells m H A n c)) ⟨_, rfl, (Below.refl _ _).alloc (Nat.le_refl _) _, Blk.new _ _ _⟩ (fun w1 h1 => ?_)
  obtain ⟨bx, hbx, hb1, hX1⟩ := h1
  rw [← hbx]
  have hS : ((Try.prog.info? 26).map (·.size)) = some (szCells m H A n c).size := by rw [hsz]; kernel_rfl
  have HS := hide hS
  have HB1 := hide hb1
  have HX1 := hide hX1
  clear hbx hX1 hS hsz hb1
  go_wp2_with fail
  refine (awake7_ok w1).mono ?_
  rintro e w2 ⟨rfl, hb2⟩
  have HX2 := hide (HX1.out.below hb2 HX1.out.lt)
  have HB2 := hide (HB1.out.trans (hb2.mono HB1.out.size))
  have HT2 := hide ((hT.below HB2.out).more HB2.out.size)
  have HH := hide (And.intro hH hnm)
  clear hb2 HX1 HB1 hT hH hnm
  go_wp2_with (first | (refine wpList_load_row rfl 26 (.tmp 4) (by rfl) bx (by rfl) 26 (szCells m H A n c) (0, 0) _ HX2.out Try.underlying26 rfl HS.out ?_) | fail)
  refine (size_conf (w := w2) HH.out.1 HT2.out HH.out.2).mono ?_
  rintro e w3 ⟨cc, K, tb, nb, lb, B1, B2, B3, d1, d2, d3, rfl, hb3, hin, hK⟩
  obtain ⟨n0, hF⟩ := sz_facts (m := m) (H := H) hin.ok
  have hbeg := begun_ok (w := w3) hin hF.tot hF.ge hF.le
  have HIN := hide hin
  have HF := hide hF
  have HB3 := hide (HB2.out.trans (hb3.mono HB2.out.size))
  generalize szRegs m H = R at *
  clear hin hK hF hb3 HX2 HB2 HT2 HS HH
  go_wp2_with fail
  refine hbeg.mono ?_
  rintro e w4 ⟨i, rfl, hx, hown, hll, hb4⟩
  have HIN4 := hide (HIN.out.below hb4)
  have HB4 := hide (HB3.out.trans (hb4.mono HB3.out.size))
  have HL4 := hide hx.log
  have HOWN := hide (And.intro hown hll)
  have HW34 := hide hb4
  clear hx hown hll hb4 hbeg
  have hR2 := HF.out.two
  have hR5 := HF.out.five
  go_wp2_with fail
  refine (len_ok HIN4.out).mono ?_
  rintro e w_ ⟨rfl, hw_⟩
  have hw_ := hw_.symm
  subst hw_
  have e1 : ((lab : Int)).tmod (R.length : Int) = ((lab % R.length : Nat) : Int) := by rw [Int.tmod_eq_emod_of_nonneg (by omega)]; omega
  have hz : ((R.length : Int) == 0) = false := by rw [beq_eq_false_iff_ne]; omega
  have hk : lab % R.length < R.length := Nat.mod_lt _ (by omega)
  obtain ⟨v, r, hv, hr, hgo, hval, hbl, -, g4, g512, -, -⟩ := HF.out.geo _ hk
  generalize lab % R.length = k at *
  go_wp2_with fail
  have hreg := reg_ok HIN4.out hr
  rw [← hbl] at hreg
  have hop := fun (W : World) (hW : ConfIn w2.heap.size W cc R K tb nb lb B1 B2 B3 d1 d2 d3) (tt : Nat) => gopen_yes (tt := tt) hW hv hval
  generalize hu : geoN v = u at *
  have HOP := hide hop
  have HREG := hide hreg
  have HGO := hide (And.intro hgo (And.intro g4 g512))
  clear hop hreg hv hr hgo hval hbl e1 hz hk hu HF hR2 hR5
  refine HREG.out.mono ?_
  rintro e w5 ⟨rfl, hb5⟩
  have HIN5 := hide (HIN4.out.below hb5)
  have HB5 := hide (HB4.out.trans (hb5.mono HB4.out.size))
  have HL5 := hide (HL4.out.below hb5)
  have HW35 := hide (HW34.out.trans (hb5.mono HW34.out.size))
  clear hb5 HIN4 HB4 HL4 HREG HW34 HIN5
  go_upto_region 7 with (fail)
  refine at_world (fun W => ∃ rg, rg = w5.heap.size ∧ rg < W.heap.size ∧ W.cell? ⟨rg, 3, none⟩ = some (.int .i64 (u.blocks : Int)) ∧ Below w3.heap.size w3 W ∧ LogAt W i.ll i.dd i.rr (begD n0)) ⟨_, rfl, by simp, (Blk.new w5 _ _).cell 3, HW35.out.alloc HW35.out.size _, HL5.out.below ((Below.refl _ _).alloc (Nat.le_refl _) _)⟩ (fun w6 h6 => ?_)
  obtain ⟨rg, hrg, rgl, y3, hb6, hL6⟩ := h6
  rw [← hrg]
  have HB6 := hide hb6
  have HL6 := hide hL6
  have HRG := hide (show rg ≠ i.dd ∧ rg ≠ i.rr from by have := HL5.out.disk.dlt; have := HL5.out.disk.row.lt; constructor <;> omega)
  have HY3 := hide y3
  clear hrg hb6 hL6 HL5 HB5 HW35
  go_wp2_with fail
  go_loopg [57] u.blocks (fun gh x57 wr => ∃ (q : Nat) (Dk : List BlkV), q ≤ u.blocks ∧ gh = u.blocks - q ∧ x57 = .int .i64 (q : Int) ∧ Hid (Below w3.heap.size w3 wr) ∧ Hid (LogAt wr i.ll i.dd i.rr Dk) ∧ Hid (Tch w6.heap.size (fun x => x = i.dd ∨ x = i.rr) w6 wr) ∧ Hid (Dk.length = n0 ∧ ∀ j, j < u.blocks → Sto.bit ⟨Dk, [], 0⟩ u.base j = decide (j < q)))
  case atStart =>
    have hub := HGO.out.1.base
    exact ⟨0, begD n0, Nat.zero_le _, rfl, rfl, HB6, HL6, hide (Tch.refl _ _ _), hide ⟨begD_length _, fun j hj => by rw [begD_bit (by omega)]; simp⟩⟩
  case round =>
    obtain ⟨q, Dk, hq, hg, rfl, HBr, HLr, HTr, HI⟩ := hrel
    have HGH := hide hg
    clear hg
    rcases Nat.lt_or_ge q u.blocks with hql | hql
    · have hqz : (q : Int) < u.blocks := by omega
      have hq512 : (q : Int) ≤ 511 := by have := HGO.out.2.2; omega
      have HD32 := hide (show 32 ≤ Dk.length from by rw [HI.out.1]; have := HGO.out.1.fits; have := HGO.out.1.base; have := HGO.out.1.data; omega)
      go_wp2_with fail
      refine (begin_ok HLr.out HD32.out).mono ?_
      rintro e w7 ⟨tt, mm, rfl, htt, hmm, hx7, hb7⟩
      obtain ⟨ii, hii⟩ : ∃ ii : Ids, Ids.mk tt mm i.ll i.dd i.rr = ii := ⟨_, rfl⟩
      have htt' : tt = ii.tt := by rw [← hii]
      rw [hii] at hx7
      subst htt'
      have HX7 := hide hx7
      have HB7 := hide hb7
      have HII := hide (And.intro hii (And.intro htt hmm))
      clear hii htt hmm hx7 hb7
      go_wp2_with fail
      refine (HOP.out w7 (HIN.out.below (HBr.out.trans (HB7.out.mono HBr.out.size))) ii.tt).mono ?_
      rintro e w8 ⟨gg, rfl, -, hG8, hb8⟩
      have HX8 := hide (HX7.out.below hb8)
      have HG8 := hide hG8
      have HB8 := hide (HB7.out.trans (hb8.mono HB7.out.size))
      clear hG8 hb8 HX7 HB7
      have hgo' : u.Ok (Sto.mk Dk [] 0).D.length := by simp only; rw [HI.out.1]; exact HGO.out.1
      have htake := take_ok HX8.out HG8.out hgo' (by simp) (free_cons hql (by rw [HI.out.2 q hql]; simp) (fun j hj => by rw [HI.out.2 j (by omega)]; simpa using hj)) hql
      have hq1 : ((q + 1 : Nat) : Int) = (q : Int) + 1 := by omega
      rw [hq1] at htake
      have HTK := hide htake
      have HGO' := hide hgo'
      have ew : IntKind.i64.wrap ((q : Int) + 1) = (q : Int) + 1 := IntWalk.i64_in _ (by omega)
      have HQ1 := hide hq1
      clear hq1
      clear htake hgo'
      go_wp2_with fail
      refine HTK.out.mono ?_
      rintro e w9 ⟨rfl, hx9, ht9⟩
      obtain ⟨s1, hs1⟩ : ∃ s1, Sto.take ⟨Dk, [], 0⟩ u q = s1 := ⟨_, rfl⟩
      have hD1 : s1.D = Dk := by rw [← hs1]; exact take_D _ _
      have hM1 : s1.M.length ≤ 2 := by rw [← hs1]; exact take_len _ _
      have hb0 : s1.bad = 0 := by rw [← hs1]; unfold Sto.take Sto.setBit; split <;> rfl
      have hbit1 : ∀ j, j < u.blocks → s1.bit u.base j = decide (j < q + 1) := fun j hj => by
        rw [← hs1, bit_take HX8.out.ok HGO'.out hj, HI.out.2 j hj]
        by_cases h : j = q
        · simp [h]
        · rw [if_neg h]; congr 1; apply propext; omega
      rw [hs1] at hx9
      have HG9 := hide (GroupAt.tch HX8.out HG8.out ht9)
      have HT9 := hide ((Tch.of_below (S := ii.own) HB8.out).trans (ht9.mono HB8.out.size fun _ _ h => h))
      have HX9 := hide hx9
      have HS1 := hide (And.intro hD1 (And.intro hM1 (And.intro hb0 hbit1)))
      have HIL := hide HI.out.1
      clear hs1 hD1 hM1 hb0 hbit1 hx9 ht9 HX8 HG8 HB8 HTK HI
      go_upto_region 14 with (first | ((with_reducible refine at_alloc 43 ?_); refine wpList_alloc_as rfl 43 rfl _ (zero_block _) ?_) | fail)
      refine at_world (fun W => ∃ g, g = w9.heap.size ∧ Below w9.heap.size w9 W ∧ Blk W g 43 (bvs zeroB).toArray) ⟨_, rfl, (Below.refl _ _).alloc (Nat.le_refl _) _, Blk.new _ _ _⟩ (fun w10 h10 => ?_)
      obtain ⟨g, hg, hb10, hG10⟩ := h10
      rw [← hg]
      obtain ⟨ho, hy⟩ := or_one b hb
      generalize b ||| 1 = y at ho hy
      have HB10 := hide (And.intro hb10 (show w9.heap.size ≤ g from Nat.le_of_eq hg.symm))
      have HG10 := hide hG10
      have HY := hide hy
      clear hg hb10 hG10 hy
      go_upto_region 15 with (first | ((with_reducible refine at_store 5 (.tmp 76) (.tmp 75) ?_); refine wpList_store_cell rfl 5 (.tmp 76) (.tmp 75) rfl g 0 _ _ _ (by rfl) (by rfl) HG10.out (by rw [bvs_size zeroB_length]; decide) rfl (by kernel_rfl) ?_) | fail)
      refine at_world (fun W => ∃ u : Value, u = .int .u8 (y : Int) ∧ W = w10.setCell ⟨g, 0, none⟩ u) ⟨_, by rfl, rfl⟩ (fun w11 h11 => ?_)
      obtain ⟨vv, rfl, hw11⟩ := h11
      obtain ⟨x0, hx0⟩ : ∃ x0, zeroB.set 0 (UInt8.ofNat y) = x0 := ⟨_, rfl⟩
      have hG11 := HG10.out.set_ 0 (.int .u8 (y : Int))
      rw [show (Value.int .u8 (y : Int)) = bv (UInt8.ofNat y) from (bv_ofNat HY.out).symm, bvs_set, bv_ofNat HY.out, hx0, ← hw11] at hG11
      have hx64 : x0.length = 64 := by rw [← hx0, List.length_set]; exact zeroB_length
      have hb11 : Below w9.heap.size w9 w11 := by rw [hw11]; exact HB10.out.1.setCell HB10.out.2 _
      have HG11 := hide hG11
      have HX11 := hide (HX9.out.below hb11)
      have HGP := hide (HG9.out.below hb11)
      have HT11 := hide (HT9.out.trans ((Tch.of_below hb11).mono HT9.out.size fun _ _ h => h))
      have HX0 := hide hx64
      have hput := gput_ok (k := q) HX11.out HGP.out (by rw [HS1.out.1]; exact HGO'.out) (by have := HS1.out.2.1; omega) hql hx64
      rw [HQ1.out] at hput
      have HPUT := hide hput
      clear hw11 hx0 hG11 hx64 hb11 hput HG10 HB10 HX9 HG9 HT9 ho
      go_wp2_with (first | (refine wpList_take (by kernel_rfl) ?_) | ((with_reducible refine at_load 43 (.tmp 22) ?_); refine wpList_load_blk rfl 43 (.tmp 22) rfl g 43 _ _ (by rfl) HG11.out Try.underlying43 rfl (size_blockOf HX0.out) ?_) | fail)
      refine HPUT.out.mono ?_
      rintro e w12 ⟨rfl, hx12, ht12⟩
      obtain ⟨s2, hs2⟩ : ∃ s2, s1.put (u.data + q) x0 = s2 := ⟨_, rfl⟩
      rw [hs2] at hx12
      have hD2 : s2.D = Dk := by rw [← hs2]; exact HS1.out.1
      have hb2 : s2.bad = 0 := by rw [← hs2]; exact HS1.out.2.2.1
      have hbit2 : ∀ j, j < u.blocks → s2.bit u.base j = decide (j < q + 1) := fun j hj => by
        rw [← hs2, bit_put_far (by have := HGO.out.1.data; have := HGO.out.1.map; omega)]
        exact HS1.out.2.2.2 j hj
      have HX12 := hide hx12
      have HT12 := hide (HT11.out.trans (ht12.mono HT11.out.size fun _ _ h => h))
      have HS2 := hide (And.intro hD2 hbit2)
      have hcom := commit_ok hx12 hb2
      have HCOM := hide hcom
      clear hs2 hx12 ht12 hD2 hb2 hbit2 hcom HX11 HGP HT11 HPUT HS1 HG11 HX0
      go_wp2_with fail
      refine HCOM.out.mono ?_
      rintro e w13 ⟨l, rfl, hp, hx13, ht13⟩
      have hT13 := HT12.out.trans (ht13.mono HT12.out.size fun _ _ h => h)
      have hub := HGO.out.1.base
      have hbit3 : ∀ j, j < u.blocks → Sto.bit ⟨commitD s2 l, [], 0⟩ u.base j = decide (j < q + 1) := fun j hj => by
        rw [commit_bit HX12.out.ok hp (by omega)]
        exact HS2.out.2 j hj
      have hlen3 : (commitD s2 l).length = Dk.length := by rw [commit_len, HS2.out.1]
      have HL13 := hide hx13.log
      have HL14 : Hid (LogAt w13 i.ll i.dd i.rr (commitD s2 l)) := hide (by
        have h := HL13.out
        have e := HII.out.1
        rw [← congrArg Ids.ll e, ← congrArg Ids.dd e, ← congrArg Ids.rr e] at h
        exact h)
      have hown3 : ∀ k, ii.own k → k < wr.heap.size → (k = i.dd ∨ k = i.rr) := fun k hk hl => by
        have e := HII.out.1
        have h1 := HII.out.2.1
        have h2 := HII.out.2.2
        rcases hk with h | h | h | h
        · omega
        · rw [← e] at h; simp only at h; omega
        · rw [← e] at h; exact .inl h
        · rw [← e] at h; exact .inr h
      have hdr : ∀ k, (k = i.dd ∨ k = i.rr) → w3.heap.size ≤ k := fun k h => by rcases h with h | h; exact HOWN.out.1 k (.inr (.inr (.inl h))); exact HOWN.out.1 k (.inr (.inr (.inr h)))
      have HB14 : Hid (Below w3.heap.size w3 w13) := hide (HBr.out.trans ((hT13.mono HBr.out.size (S' := fun _ => False) (fun k hk h => by
        have := hdr k (hown3 k h (by have := HBr.out.size; omega))
        omega)).below fun _ _ h => h))
      have HT14 : Hid (Tch w6.heap.size (fun x => x = i.dd ∨ x = i.rr) w6 w13) := hide (HTr.out.trans (hT13.mono HTr.out.size (fun k hk h => hown3 k h (by have := HTr.out.size; omega))))
      have HI14 := hide (And.intro (hlen3.trans HIL.out) hbit3)
      clear hp hx13 ht13 hT13 hub hbit3 hlen3 HL13 hown3 hdr HCOM HX12 HT12 HS2
      go_wp2
      go_roundg (u.blocks - (q + 1))
      case rel => exact ⟨q + 1, _, by omega, rfl, by rw [HQ1.out], HB14, HL14, HT14, HI14⟩
      case measure => have := HGH.out; omega
    · have hqe : q = u.blocks := by omega
      have hqf : decide ((q : Int) < u.blocks) = false := by simp; omega
      have HALL : Hid (∀ j, j < u.blocks → Sto.bit ⟨Dk, [], 0⟩ u.base j = true) := hide (fun j hj => by rw [HI.out.2 j hj]; simp; omega)
      have HIL := hide HI.out.1
      have HD32 := hide (show 32 ≤ Dk.length from by rw [HI.out.1]; have := HGO.out.1.fits; have := HGO.out.1.base; have := HGO.out.1.data; omega)
      clear HI hqe HGH
      go_wp2_with fail
      refine (begin_ok HLr.out HD32.out).mono ?_
      rintro e w7 ⟨tt, mm, rfl, htt, hmm, hx7, hb7⟩
      obtain ⟨ii, hii⟩ : ∃ ii : Ids, Ids.mk tt mm i.ll i.dd i.rr = ii := ⟨_, rfl⟩
      have htt' : tt = ii.tt := by rw [← hii]
      rw [hii] at hx7
      subst htt'
      have HX7 := hide hx7
      have HB7 := hide hb7
      have HII := hide (And.intro hii (And.intro htt hmm))
      clear hii htt hmm hx7 hb7
      go_wp2_with fail
      refine (HOP.out w7 (HIN.out.below (HBr.out.trans (HB7.out.mono HBr.out.size))) ii.tt).mono ?_
      rintro e w8 ⟨gg, rfl, -, hG8, hb8⟩
      have HX8 := hide (HX7.out.below hb8)
      have HG8 := hide hG8
      have HB8 := hide (HB7.out.trans (hb8.mono HB7.out.size))
      clear hG8 hb8 HX7 HB7
      have HGO' := hide (show u.Ok (Sto.mk Dk [] 0).D.length from by simp only; rw [HIL.out]; exact HGO.out.1)
      go_wp2_with fail
      refine (take_full HX8.out HG8.out HGO'.out (free_none HALL.out)).mono ?_
      rintro e w9 ⟨rfl, hx9, ht9⟩
      have HX9 := hide hx9
      have HG9 := hide (GroupAt.tch HX8.out HG8.out ht9)
      have HT9 := hide ((Tch.of_below (S := ii.own) HB8.out).trans (ht9.mono HB8.out.size fun _ _ h => h))
      clear hx9 ht9 HX8 HG8 HB8
      have hrgo : ¬ ii.own rg := fun hk => by
        have e := HII.out.1
        have h1 := HII.out.2.1
        have h2 := HII.out.2.2
        have h3 := HTr.out.size
        rcases hk with h | h | h | h
        · omega
        · rw [← e] at h; simp only at h; omega
        · rw [← e] at h; exact HRG.out.1 h
        · rw [← e] at h; exact HRG.out.2 h
      have y9 : w9.cell? ⟨rg, 3, none⟩ = some (.int .i64 (u.blocks : Int)) := by
        rw [← HY3.out]
        have a1 := World.cell?_of_block (w := w6) (a := ⟨rg, 3, none⟩) (HTr.out.block rg rgl (fun h => by rcases h with h | h; exact HRG.out.1 h; exact HRG.out.2 h))
        have a2 := World.cell?_of_block (w := wr) (a := ⟨rg, 3, none⟩) (HT9.out.block rg (Nat.lt_of_lt_of_le rgl HTr.out.size) hrgo)
        exact a2.trans a1
      have rgl9 : rg < w9.heap.size := Nat.lt_of_lt_of_le (Nat.lt_of_lt_of_le rgl HTr.out.size) HT9.out.size
      have g4 := HGO.out.2.1
      have g5 := HGO.out.2.2
      have c1 : IntKind.u16.wrap (u.blocks : Int) = (u.blocks : Int) := by rw [IntKind.wrap_u16]; omega
      have c2 : ((u.blocks : Int) == 0) = false := by rw [beq_eq_false_iff_ne]; omega
      have c3 : (which : Int).tmod (u.blocks : Int) = ((which % u.blocks : Nat) : Int) := by rw [Int.tmod_eq_emod_of_nonneg (by omega)]; omega
      have hk0 : which % u.blocks < u.blocks := Nat.mod_lt _ (by omega)
      generalize which % u.blocks = k0 at c3 hk0
      have c4 : IntKind.u16.wrap (1 + (k0 : Int)) = 1 + (k0 : Int) := by rw [IntKind.wrap_u16]; omega
      have hk1 : ((k0 + 1 : Nat) : Int) = 1 + (k0 : Int) := by omega
      have hgive := give_ok (k := k0) HX9.out HG9.out HGO'.out (by simp) hk0 (HALL.out k0 hk0)
      rw [hk1] at hgive
      have HGV := hide hgive
      have HK1 := hide hk1
      clear hgive hk1 g4 g5 hrgo
      go_wp2_with fail
      refine HGV.out.mono ?_
      rintro e w10 ⟨rfl, hx10, ht10⟩
      obtain ⟨s1, hs1⟩ : ∃ s1, Sto.setBit ⟨Dk, [], 0⟩ u.base k0 false = s1 := ⟨_, rfl⟩
      have hD1 : s1.D = Dk := by rw [← hs1]; exact setBit_D _ _ _ _
      have hM1 : s1.M.length ≤ 1 := by rw [← hs1]; exact setBit_len _ _ _ _
      have hbit1 : ∀ j, j < u.blocks → s1.bit u.base j = if j = k0 then false else true := fun j hj => by
        rw [← hs1, bit_setBit HX9.out.ok, HALL.out j hj]
      rw [hs1] at hx10
      have HX10 := hide hx10
      have HG10 := hide (GroupAt.tch HX9.out HG9.out ht10)
      have HT10 := hide (HT9.out.trans (ht10.mono HT9.out.size fun _ _ h => h))
      have hg1 : u.Ok s1.D.length := by rw [hD1]; exact HGO'.out
      have htake := take_ok (k := k0) HX10.out HG10.out hg1 (by omega) (free_cons hk0 (by rw [hbit1 k0 hk0, if_pos rfl]) (fun j hj => by rw [hbit1 j (by omega), if_neg (by omega)])) hk0
      rw [HK1.out] at htake
      have HTK := hide htake
      have HS1 := hide (And.intro hg1 hM1)
      clear hs1 hD1 hM1 hbit1 hx10 ht10 hg1 htake HX9 HG9 HT9 HGV y9 rgl9 c1 c2 c3 c4
      go_wp2_with fail
      refine HTK.out.mono ?_
      rintro e w11 ⟨rfl, hx11, ht11⟩
      obtain ⟨s2, hs2⟩ : ∃ s2, Sto.take s1 u k0 = s2 := ⟨_, rfl⟩
      have hat : s2.at_ (u.data + k0) = zeroB := by rw [← hs2]; unfold Sto.take; rw [Sto.at_put, if_pos rfl]
      have hg2 : u.Ok s2.D.length := by rw [← hs2, take_D]; exact HS1.out.1
      rw [hs2] at hx11
      have HX11 := hide hx11
      have HG11 := hide (GroupAt.tch HX10.out HG10.out ht11)
      have HT11 := hide (HT10.out.trans (ht11.mono HT10.out.size fun _ _ h => h))
      have hget := gget_ok (k := k0) HX11.out HG11.out hg2 hk0
      rw [HK1.out, hat] at hget
      have HGT := hide hget
      clear hs2 hat hg2 hx11 ht11 hget HTK HX10 HG10 HT10
      go_wp2_with fail
      refine HGT.out.mono ?_
      rintro e w12 ⟨rfl, hx12, ht12⟩
      have HT12 := hide (HT11.out.trans (ht12.mono HT11.out.size fun _ _ h => h))
      clear hx12 ht12 HGT HX11 HG11 HT11
      go_upto_region 25 with (first | ((with_reducible refine at_alloc 43 ?_); refine wpList_alloc_as rfl 43 rfl _ (zero_block _) ?_) | ((with_reducible refine at_store 43 (.tmp 32) (.tmp 131) ?_); refine wpList_store_blk rfl 43 (.tmp 32) (.tmp 131) rfl w12.heap.size 43 _ _ (by rfl) (by rfl) (Blk.new _ _ _) (size_blockOf zeroB_length) ((bvs_size zeroB_length).trans (bvs_size zeroB_length).symm) (bvs_oneCell _) (fun _ => ?_)) | fail)
      refine at_world (fun W => ∃ g, g = w12.heap.size ∧ Below w12.heap.size w12 W ∧ Blk W g 43 (bvs zeroB).toArray) ⟨_, rfl, below_setRow ((Below.refl _ _).alloc (Nat.le_refl _) _) (Nat.le_refl _) _, (Blk.new _ _ _).setRow_same _⟩ (fun w13 h13 => ?_)
      obtain ⟨g, hg, hb13, hG13⟩ := h13
      rw [← hg]
      have hown3 : ∀ k, ii.own k → k < w3.heap.size → False := fun k hk hl => by
        have e := HII.out.1
        have h1 := HII.out.2.1
        have h2 := HII.out.2.2
        have h3 := HBr.out.size
        rcases hk with h | h | h | h
        · omega
        · rw [← e] at h; simp only at h; omega
        · have := HOWN.out.1 k (.inr (.inr (.inl (by rw [← e] at h; exact h)))); omega
        · have := HOWN.out.1 k (.inr (.inr (.inr (by rw [← e] at h; exact h)))); omega
      have hT13 : Tch wr.heap.size ii.own wr w13 := HT12.out.trans ((Tch.of_below hb13).mono HT12.out.size fun _ _ h => h)
      have hbf : Below w3.heap.size w3 w13 := HBr.out.trans ((hT13.mono HBr.out.size (S' := fun _ => False) (fun k hk h => hown3 k h (by omega))).below fun _ _ h => h)
      have HBF := hide (HB3.out.trans (hbf.mono HB3.out.size))
      have HG13 := hide hG13
      clear hg hb13 hG13 hown3 hT13 hbf HT12
      go_wp2_with (first | (refine wpList_take (by kernel_rfl) ?_) | ((with_reducible refine at_load 43 (.tmp 32) ?_); refine wpList_load_blk rfl 43 (.tmp 32) rfl g 43 _ _ (by rfl) HG13.out Try.underlying43 rfl (size_blockOf zeroB_length) ?_) | ((with_reducible refine at_build 43 #[] ?_); refine wpList_zero_as rfl 43 rfl _ (build_block _) ?_) | ((with_reducible refine at_binop .eql 43 (.tmp 149) (.tmp 150) 43 ?_); refine wpList_run rfl _ (exec_eql_agg 43 (.tmp 149) (.tmp 150) 43 rfl _ _ rfl rfl (by kernel_rfl) _ (block_eq _ zeroB_length zeroB_length)) ?_) | fail)
      go_returns
      exact ⟨by simp, HBF.out⟩
end
end Go.Proofs.Ytniboffmdkeacaa

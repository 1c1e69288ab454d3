/- FileMiddle: writing in the middle takes no block and changes what is meant, no byte else: for every input the law returns true, and its arguments read as they did. -/
import Derived.Test.YtoeejeieplhifaaMFib
import Derived.Test.YtoeejeieplhifaaRows
import Derived.WalkKit
import Derived.ProofKit
import Derived.OpenShut
import Derived.ShutString
import Derived.ChangeOld
import Derived.Below
import Derived.Lib.SmallJoins
import Derived.Test.YtoeejeieplhifaaMArg
namespace Go.Proofs.Ytoeejeieplhifaa
open Go.RowKit
set_option linter.unusedSimpArgs false
set_option linter.unusedVariables false

theorem nat_u8 {n : Nat} (h : n < 256) : ∃ b : UInt8, n = b.toNat := ⟨UInt8.ofNat n, by rw [UInt8.toNat_ofNat']; omega⟩
theorem mid_list {sz at_ k : Nat} (b c : UInt8) (h : at_ + k ≤ sz) (f : Nat → UInt8) : (List.range sz).map (fun j => over (over f 0 (bytesL sz b) sz) at_ (bytesL k c) k (0 + j)) = (bytesL sz b).take at_ ++ (bytesL k c ++ (bytesL sz b).drop (at_ + k)) := by
  apply List.ext_getElem?
  intro j
  rw [List.getElem?_append, List.getElem?_append, List.length_take, bytesL_length, bytesL_length, Nat.min_eq_left (by omega)]
  rcases Nat.lt_or_ge j sz with hj | hj
  · rw [List.getElem?_map, List.getElem?_range hj, Option.map_some, Nat.zero_add]
    unfold over
    rcases Nat.lt_or_ge j at_ with h1 | h1
    · rw [if_neg (by omega), if_pos (by omega), if_pos h1, List.getElem?_take, if_pos h1, Nat.sub_zero, List.getD_eq_getElem?_getD, List.getElem?_eq_getElem (by rw [bytesL_length]; exact hj)]
      rfl
    · rw [if_neg (show ¬ j < at_ by omega)]
      rcases Nat.lt_or_ge j (at_ + k) with h2 | h2
      · rw [if_pos (by omega), if_pos (by omega), List.getD_eq_getElem?_getD, List.getElem?_eq_getElem (by rw [bytesL_length]; omega)]
        rfl
      · rw [if_neg (by omega), if_pos (by omega), if_neg (by omega), List.getElem?_drop, Nat.sub_zero, show at_ + k + (j - at_ - k) = j from by omega, List.getD_eq_getElem?_getD, List.getElem?_eq_getElem (by rw [bytesL_length]; exact hj)]
        rfl
  · rw [List.getElem?_eq_none (by simp; omega), if_neg (by omega), if_neg (by omega), List.getElem?_drop, List.getElem?_eq_none (by rw [bytesL_length]; omega)]
theorem rd_drew {w : World} {B n sz : Nat} {A : Option Addr} {xs : List Value} (nw : Nat) (h : Rd w B sz A n xs) : Rd (w.drewN nw) B sz A n xs := h
set_option maxRecDepth 100000 in
set_option maxHeartbeats 4000000 in
theorem middle_all (w : World) (n0 off0 many0 : Nat) (b : UInt8) (hn0 : n0 < 65536) (hoff0 : off0 < 65536) (hmany0 : many0 < 65536) :
    Calls Try.prog 8 #[.int .u16 (n0 : Int), .int .u16 (off0 : Int), .int .u16 (many0 : Int), .int .u8 (b.toNat : Int)] w fun e w' => e = .returned (.bool true) ∧ Below w.heap.size w w' := by
  obtain ⟨sz, hsz⟩ : ∃ sz, n0 % 1200 = sz := ⟨_, rfl⟩
  have hsz1 : sz ≤ 1199 := by omega
  obtain ⟨at_, hat⟩ : ∃ x, off0 % (sz + 1) = x := ⟨_, rfl⟩
  have hat1 : at_ ≤ sz := by have := Nat.mod_lt off0 (show 0 < sz + 1 by omega); omega
  obtain ⟨kk, hkk⟩ : ∃ x, many0 % (sz - at_ + 1) = x := ⟨_, rfl⟩
  have hkk1 : at_ + kk ≤ sz := by have := Nat.mod_lt many0 (show 0 < sz - at_ + 1 by omega); omega
  have e1 : (n0 : Int).tmod 1200 = (sz : Int) := by rw [Int.tmod_eq_emod_of_nonneg (by omega)]; omega
  have e2 : IntKind.u16.wrap (sz : Int) = (sz : Int) := by rw [IntKind.wrap_u16]; omega
  have e3 : IntKind.i64.wrap (sz : Int) = (sz : Int) := IntWalk.i64_in _ (by omega)
  have e4 : IntKind.i64.wrap (off0 : Int) = (off0 : Int) := IntWalk.i64_in _ (by omega)
  have e5 : IntKind.i64.wrap (many0 : Int) = (many0 : Int) := IntWalk.i64_in _ (by omega)
  have e6 : IntKind.i64.wrap ((sz : Int) + 1) = (sz : Int) + 1 := IntWalk.i64_in _ (by omega)
  have e7 : (off0 : Int).tmod ((sz : Int) + 1) = (at_ : Int) := by
    rw [Int.tmod_eq_emod_of_nonneg (by omega), ← hat]; norm_cast
  have e8 : IntKind.i64.wrap (at_ : Int) = (at_ : Int) := IntWalk.i64_in _ (by omega)
  have e9 : IntKind.i64.wrap ((sz : Int) - (at_ : Int)) = ((sz - at_ : Nat) : Int) := by rw [IntWalk.i64_in _ (by omega)]; omega
  have e10 : IntKind.i64.wrap (((sz - at_ : Nat) : Int) + 1) = ((sz - at_ : Nat) : Int) + 1 := IntWalk.i64_in _ (by omega)
  have e11 : (many0 : Int).tmod (((sz - at_ : Nat) : Int) + 1) = (kk : Int) := by
    rw [Int.tmod_eq_emod_of_nonneg (by omega), ← hkk]; norm_cast
  have e12 : IntKind.i64.wrap (kk : Int) = (kk : Int) := IntWalk.i64_in _ (by omega)
  have e13 : IntKind.i64.wrap ((at_ : Int) + (kk : Int)) = (at_ : Int) + (kk : Int) := IntWalk.i64_in _ (by omega)
  obtain ⟨b2, hb2⟩ : ∃ b2 : UInt8, b ^^^ 85 = b2 := ⟨_, rfl⟩
  have e14 : bits BinOp.xor IntKind.u8 (b.toNat : Int) 85 = (b2.toNat : Int) := by
    have := xor8 (a := b.toNat) (b := 85) b.toNat_lt (by decide)
    rw [← hb2, UInt8.toNat_xor]
    exact this
  have HE1 := hide (And.intro e1 (And.intro e2 e3))
  have HE2 := hide (And.intro e4 (And.intro e6 (And.intro e7 e8)))
  have HE3 := hide (And.intro e5 (And.intro e9 (And.intro e10 (And.intro e11 e12))))
  have HE4 := hide (And.intro e13 e14)
  clear e1 e2 e3 e4 e5 e6 e7 e8 e9 e10 e11 e12 e13 e14 hsz hat hkk hb2
  go_enter Try.func8, Try.ntmps8
  go_wp2_with fail
  refine (awake8_ok w).mono ?_
  rintro e w1 ⟨rfl, hb1⟩
  have HB1 := hide hb1
  clear hb1
  go_wp2_with fail
  refine (small_ok w1).mono ?_
  rintro e w2 ⟨cc, K, tb, nb, lb, B1, B2, B3, d1, d2, d3, rfl, hb2, hin⟩
  have hb12 : Below w.heap.size w w2 := HB1.out.trans (hb2.mono HB1.out.size)
  obtain ⟨n, hF⟩ := cf_facts hin.ok (by rw [small_len]; omega)
  obtain ⟨v, u, hv, hu, hval, hgo, hub, hun⟩ := small_geo hF
  have hfr := fresh_all (w := w2) hin hF (by rw [small_len]; omega)
  have HC := hide (And.intro hin (And.intro hv (And.intro hu (And.intro hval hb12))))
  have HGO := hide (And.intro hgo (And.intro hub hun))
  have HFR := hide hfr
  have HN := hide (And.intro hF.ge hF.le)
  clear hin hv hu hval hgo hub hun hfr hb12 hF hb2 HB1
  go_wp2_with fail
  refine HFR.out.mono ?_
  rintro e w3 ⟨i, D, rfl, hx, hDn, hall, hown, hll, hb3⟩
  have his := hall 0 v HC.out.2.1
  rw [HC.out.2.2.1] at his
  have HX3 := hide hx
  have HW23 := hide hb3
  have HOWN := hide (show ∀ k, i.own k → w2.heap.size ≤ k from hown)
  have HIS := hide (And.intro his (show u.Ok D.length by rw [hDn]; exact HGO.out.1))
  have HDN := hide hDn
  have hop := fun (W : World) (hW : Below w2.heap.size w2 W) (tt : Nat) => gopen_yes (tt := tt) (HC.out.1.below hW) HC.out.2.1 (by rw [HC.out.2.2.1]; exact HC.out.2.2.2.1)
  rw [HC.out.2.2.1] at hop
  rw [show ((0 : Nat) : Int) = 0 from rfl] at hop
  have HOP := hide hop
  clear hb3 hx hown his hall hll hDn HFR hop
  obtain ⟨e1, e2, e3⟩ := HE1.out
  go_wp2_with fail
  refine (HOP.out w3 HW23.out i.tt).mono ?_
  rintro e w4 ⟨gg, rfl, -, hG, hb4⟩
  have HA4 : Hid (GAt w4 i ⟨D, [], 0⟩ gg u 0 GS.fresh) := hide ⟨HX3.out.below hb4, hG, HIS.out.2, HIS.out.1, GS.fresh_ok⟩
  have HW24 := hide (HW23.out.trans (hb4.mono HW23.out.size))
  clear hG hb4 HX3 e1 e2
  go_wp2_with fail
  refine (bytes_ok w4 (n := sz) b (by omega)).mono ?_
  rintro e w5 ⟨p, rfl, hp, hB5, hb5⟩
  obtain ⟨c, hc⟩ : ∃ c, blks sz = c := ⟨_, rfl⟩
  have hc19 : c ≤ 19 := by rw [← hc]; unfold blks; omega
  have hc0 : blks (0 + (bytesL sz b).length) = c := by rw [bytesL_length, Nat.zero_add, hc]
  have hwr := write_file (num := 3) (off := 0) (cap := sz) (c := 0) (sz := 0) (κ := fun _ => 0) (f := fun _ => 0) (K0 := []) (data := bytesL sz b) (A := some ⟨p, 0, none⟩) (HA4.out.below hb5) (fun x hx => by simp at hx) (by omega) (by rw [HGO.out.2.2]; omega) (by rw [HGO.out.2.1]; omega)
    (by decide) rfl (fresh_file _ _) (by omega) (by rw [bytesL_length]; omega) (by omega) (by rw [bytesL_length]; omega) (by rw [bytesL_length]; exact Rd.of_bytes hB5 (bytesL_length _ _)) (fun x hx => by cases hx; exact HA4.out.tx.other_new hp)
    (by rw [hc0]; omega) (by rw [hc0, List.length_nil]; split <;> omega) (by decide)
    (fun n' hs hd => check_grow hs rfl (by decide) (by rw [bytesL_length]; have : (GS.fresh.nd 3).size.toNat = 0 := rfl; omega))
  rw [hc0, bytesL_length, show ((3 : Nat) : Int) = 3 from rfl, show ((0 : Nat) : Int) = 0 from rfl, HGO.out.2.1] at hwr
  rw [show max 0 (0 + sz) = sz from by omega, show max 0 c = c from by omega] at hwr
  have HWR := hide hwr
  have HB5 := hide (HW24.out.trans (hb5.mono HW24.out.size))
  have HCC := hide (And.intro hc hc19)
  clear hwr hc0 hp hB5 hb5 hc hc19 HW24
  go_wp2_with fail
  refine HWR.out.mono ?_
  rintro e w6 (⟨rfl, hno, -⟩ | ⟨rfl, s6, G6, κ6, ha6, hf6, hsz6, hk6, hl6, -, -, hcnt6, -, hst6, ht6⟩)
  · exfalso
    rw [fresh_cnt] at hno
    have h1 := nkeys_mono HCC.out.2
    have h2 : nkeys 19 = 20 := by decide
    omega
  have HA6 := hide ha6
  have HF6 := hide (And.intro hf6 (And.intro hsz6 (And.intro (show (G6.nd 3).kind = 1 from hk6) (show (G6.nd 3).links ≠ 0 from by rw [hl6]; decide))))
  have HT6 := hide ((Tch.of_below (S := i.own) HB5.out).trans (ht6.mono HB5.out.size fun _ _ h => h))
  have HST := hide hst6
  have HCOM := hide (commit_ok ha6.tx hst6.bad)
  clear ha6 hf6 hsz6 hk6 hl6 hcnt6 hst6 ht6 HWR HA4
  obtain ⟨e4, e6, e7, e8⟩ := HE2.out
  obtain ⟨e5, e9, e10, e11, e12⟩ := HE3.out
  have hz1 : ((sz : Int) + 1 == 0) = false := by simp; omega
  have hz2 : (((sz - at_ : Nat) : Int) + 1 == 0) = false := by simp; omega
  go_wp2_with fail
  refine HCOM.out.mono ?_
  rintro e w7 ⟨l, rfl, hp, hx7, ht7⟩
  have hlen7 : (commitD s6 l).length = n := by rw [commit_len, HST.out.D]; exact HDN.out
  have HIS7 := hide (is_commit HA6.out.is HGO.out.1 HA6.out.tx.ok hp)
  have HLEN := hide hlen7
  have HGK := hide HA6.out.gok
  have HL7 := hide hx7.log
  have HT7 := hide (HT6.out.trans (ht7.mono HT6.out.size fun _ _ h => h))
  clear hp hx7 ht7 hlen7 HCOM HA6 HT6 HST
  clear e3 e4 e6 e7 e8 e5 e9 e10 e11 e12 hz1 hz2
  go_wp2_with fail
  refine (begin_ok HL7.out (by rw [HLEN.out]; exact HN.out.1)).mono ?_
  rintro e w8 ⟨tt, mq, rfl, htt, hmq, hx8, hb8⟩
  have HB27 := hide (HT7.out.below fun k hk h => by have := HOWN.out k h; omega)
  obtain ⟨ii, hii⟩ : ∃ ii : Ids, Ids.mk tt mq i.ll i.dd i.rr = ii := ⟨_, rfl⟩
  have htt' : tt = ii.tt := by rw [← hii]
  have hown8 : ∀ k, ii.own k → w2.heap.size ≤ k := by
    have h0 := HB27.out.size
    have h1 := HOWN.out i.dd (.inr (.inr (.inl rfl)))
    have h2 := HOWN.out i.rr (.inr (.inr (.inr rfl)))
    rw [← hii]
    rintro k (e | e | e | e) <;> simp only at e <;> omega
  rw [hii] at hx8
  subst htt'
  have HOW := hide hown8
  have HX8 := hide hx8
  have HB8 := hide (HB27.out.trans (hb8.mono HB27.out.size))
  clear hii htt hmq hx8 hb8 hown8
  go_wp2_with fail
  refine (HOP.out w8 HB8.out ii.tt).mono ?_
  rintro e w9 ⟨g9, rfl, -, hG9, hb9⟩
  have ha9 : GAt w9 ii ⟨commitD s6 l, [], 0⟩ g9 u 0 G6 := ⟨HX8.out.below hb9, hG9, by simp only; rw [HLEN.out]; exact HGO.out.1, HIS7.out, HGK.out⟩
  have HT9 := hide (Tch.of_below (S := ii.own) (HB8.out.trans (hb9.mono HB8.out.size)))
  have hus := gs_usage ha9
  rw [HGO.out.2.1] at hus
  have HUS := hide hus
  clear hG9 hb9 ha9 hus HX8
  go_wp2_with fail
  refine HUS.out.mono ?_
  rintro e w10 ⟨rfl, s10, ha10, hst10, ht10⟩
  have HIN10 := hide (hst10.in_ (K := []) (fun x hx => by cases hx))
  have HA10 := hide ha10
  have HT10 := hide (HT9.out.trans (ht10.mono HT9.out.size fun _ _ h => h))
  have e14 := HE4.out.2
  clear ha10 hst10 ht10 HUS HT9
  go_wp2_with fail
  refine (bytes_ok w10 (n := kk) b2 (by omega)).mono ?_
  rintro e w11 ⟨p2, rfl, hp2, hB11, hb11⟩
  have HB11 := hide hB11
  have hmx : max c (blks (at_ + (bytesL kk b2).length)) = c := by rw [bytesL_length, ← HCC.out.1]; unfold blks; omega
  have hbc : blks (at_ + (bytesL kk b2).length) ≤ c := by rw [bytesL_length, ← HCC.out.1]; unfold blks; omega
  have hc19 := HCC.out.2
  have hwr := write_file (num := 3) (off := at_) (cap := kk) (c := c) (sz := sz) (K0 := []) (data := bytesL kk b2) (A := some ⟨p2, 0, none⟩) (HA10.out.below hb11) HIN10.out (by omega) (by rw [HGO.out.2.2]; omega) (by rw [HGO.out.2.1]; omega)
    (by rw [HF6.out.2.2.1]; decide) HF6.out.2.1 (by rw [HGO.out.2.1]; exact HF6.out.1) (by omega) (by rw [bytesL_length]; omega) (by omega) (by rw [bytesL_length]; omega) (by rw [bytesL_length]; exact Rd.of_bytes hB11 (bytesL_length _ _)) (fun x hx => by cases hx; exact HA10.out.tx.other_new hp2)
    (by omega) (by rw [hmx, List.length_nil, if_pos (by omega)]; omega) (by rw [← HCC.out.1]; unfold blks; omega)
    (fun n' hs hd => check_grow hs HF6.out.2.2.1 HF6.out.2.2.2 (by rw [HF6.out.2.1, bytesL_length]; omega))
  rw [hmx, bytesL_length, show ((3 : Nat) : Int) = 3 from rfl, HGO.out.2.1] at hwr
  rw [show max sz (at_ + kk) = sz from by omega] at hwr
  have HWR := hide hwr
  have HNO := hide (show ¬ ii.own p2 from HA10.out.tx.other_new hp2)
  have HT11 := hide (HT10.out.trans ((Tch.of_below hb11).mono HT10.out.size fun _ _ h => h))
  clear hwr hmx hbc hc19 hp2 hB11 hb11 e14 HT10
  go_wp2_with fail
  refine HWR.out.mono ?_
  rintro e w12 (⟨rfl, hno, -⟩ | ⟨rfl, s12, G12, κ12, ha12, hf12, hsz12, hk12, hl12, -, -, hcnt12, -, hst12, ht12⟩)
  · exfalso
    have := cnt_le_ G6 67
    omega
  have hcnt : G12.cnt 67 = G6.cnt 67 := by omega
  have hus := gs_usage ha12
  rw [HGO.out.2.1, hcnt] at hus
  have HUS := hide hus
  have HF12 := hide (And.intro hf12 (And.intro hsz12 (show (G12.nd 3).kind ≠ 0 from by rw [hk12, HF6.out.2.2.1]; decide)))
  have HB12 := hide (HB11.out.tch2 ht12 HNO.out)
  have HT12 := hide (HT11.out.trans (ht12.mono HT11.out.size fun _ _ h => h))
  clear ha12 hf12 hsz12 hk12 hl12 hcnt12 hst12 ht12 hcnt hus HWR HB11 HT11
  go_wp2_with fail
  refine HUS.out.mono ?_
  rintro e w13 ⟨rfl, s13, ha13, -, ht13⟩
  have hrd := read_file (num := 3) (off := 0) (many := 16384) (en := sz) ha13 (by omega) (by rw [HGO.out.2.2]; omega) HF12.out.2.2 HF12.out.2.1 (by rw [HGO.out.2.1]; exact HF12.out.1) (by omega) (by omega) (by omega) (by omega)
  rw [Nat.sub_zero, mid_list b b2 hkk1, show ((3 : Nat) : Int) = 3 from rfl, show ((0 : Nat) : Int) = 0 from rfl, show ((16384 : Nat) : Int) = 16384 from rfl] at hrd
  have HRD := hide hrd
  have HB13 := hide (HB12.out.tch2 ht13 HNO.out)
  have HT13 := hide (HT12.out.trans (ht13.mono HT12.out.size fun _ _ h => h))
  clear ha13 ht13 hrd HUS HT12 HB12
  go_wp2_with fail
  refine HRD.out.mono ?_
  rintro e w14 ⟨A14, c14, rfl, hR14, -, ht14, -, hc14, -⟩
  have HB14 := hide (HB13.out.tch2 ht14 HNO.out)
  have HT14 := hide (HT13.out.trans (ht14.mono HT13.out.size fun _ _ h => h))
  have HR14 := hide hR14
  clear ht14 hR14 HRD HT13 HB13
  go_wp2_with fail
  refine (bytes_ok w14 (n := sz) b (by omega)).mono ?_
  rintro e w15 ⟨p3, rfl, hp3, hB15, hb15⟩
  obtain ⟨o, ho⟩ : ∃ o, bytesL sz b = o := ⟨_, rfl⟩
  obtain ⟨m, hm⟩ : ∃ m, bytesL kk b2 = m := ⟨_, rfl⟩
  have hol : o.length = sz := by rw [← ho]; exact bytesL_length _ _
  have hml : m.length = kk := by rw [← hm]; exact bytesL_length _ _
  have hG := HR14.out.below hb15
  have hO := Rd.of_bytes hB15 (bytesL_length _ _)
  have hM := Rd.of_bytes (HB14.out.below hb15 HB14.out.lt) (bytesL_length _ _)
  rw [ho] at hO hG
  rw [hm] at hM hG
  have t1 : (o.take at_ ++ (m ++ o.drop (at_ + kk))).take at_ = o.take at_ := by
    rw [List.take_append_of_le_length (by simp; omega), List.take_take, Nat.min_self]
  have t2 : ((o.take at_ ++ (m ++ o.drop (at_ + kk))).drop at_).take (at_ + kk - at_) = m := by
    rw [List.drop_append_of_le_length (by simp; omega), List.drop_eq_nil_of_le (by simp; omega), List.nil_append, List.take_append_of_le_length (by omega), List.take_of_length_le (by omega)]
  have t3 : ((o.take at_ ++ (m ++ o.drop (at_ + kk))).drop (at_ + kk)).take (sz - (at_ + kk)) = o.drop (at_ + kk) := by
    rw [← List.append_assoc, List.drop_append_of_le_length (by simp; omega), List.drop_eq_nil_of_le (by simp; omega), List.nil_append, List.take_of_length_le (by simp; omega)]
  have t4 : (o.drop (at_ + kk)).take (sz - (at_ + kk)) = o.drop (at_ + kk) := List.take_of_length_le (by simp; omega)
  have g1 := hG.head (hi := at_) hat1
  have g2 := hG.part hc14 (lo := at_) (hi := at_ + kk) (by omega) hkk1
  have g3 := hG.part hc14 (lo := at_ + kk) (hi := sz) hkk1 (Nat.le_refl _)
  have o1 := hO.head (hi := at_) hat1
  have o3 := hO.part (Nat.le_refl _) (lo := at_ + kk) (hi := sz) hkk1 (Nat.le_refl _)
  rw [t1] at g1
  rw [t2] at g2
  rw [t3] at g3
  rw [t4] at o3
  have HR1 := hide (And.intro g1 (And.intro g2 g3))
  have HR2 := hide (And.intro o1 (And.intro hM o3))
  have HWZ := hide ((HT14.out.trans ((Tch.of_below hb15).mono HT14.out.size fun _ _ h => h)))
  have e13 := HE4.out.1
  clear g1 g2 g3 o1 o3 hM hO hG t1 t2 t3 t4 hol hml hB15 hb15 hp3 HR14 HT14 HB14
  generalize o.take at_ = oa at HR1 HR2
  generalize o.drop (at_ + kk) = ob at HR1 HR2
  clear ho hm
  have q1 : ((G6.cnt 67 : Int) == (G6.cnt 67 : Int)) = true := by simp
  have q2 : ((sz : Int) == (sz : Int)) = true := by simp
  generalize G6.cnt 67 = cn at *
  go_upto_region 20 with (fail)
  refine wp_region_quiet_lit (by kernel_rfl) (by kernel_rfl) ?_
  iterate 20 go_big_quiet_step (fail)
  go_big_quiet_want
  refine quiet_exec (v := .slice A14 at_ c14) (fun W hW => by obtain ⟨nw, rfl⟩ := hW; exact exec_slice_hi 24 5 (.tmp 126) (.tmp 127) rfl A14 sz c14 at_ .i64 rfl rfl Try.underlying24 (by kernel_rfl) (by omega)) ?_
  try simp only [Act.put, List.setIfInBounds_toArray, List.set_cons_zero, List.set_cons_succ]
  go_big_quiet_on
  go_big_quiet_want
  refine quiet_exec (v := .string (str oa)) (fun W hW => by obtain ⟨nw, rfl⟩ := hW; exact exec_str 24 9 5 (.tmp 128) rfl A14 at_ c14 oa _ rfl Try.underlying24 Try.underlying5 Try.underlying9 (rd_drew nw (HR1.out.1))) ?_
  try simp only [Act.put, List.setIfInBounds_toArray, List.set_cons_zero, List.set_cons_succ]
  go_big_quiet_on
  iterate 2 go_big_quiet_step (fail)
  go_big_quiet_want
  refine quiet_exec (v := .slice (some ⟨p3, 0, none⟩) at_ sz) (fun W hW => by obtain ⟨nw, rfl⟩ := hW; exact exec_slice_hi 24 5 (.tmp 130) (.tmp 131) rfl (some ⟨p3, 0, none⟩) sz sz at_ .i64 rfl rfl Try.underlying24 (by kernel_rfl) (by omega)) ?_
  try simp only [Act.put, List.setIfInBounds_toArray, List.set_cons_zero, List.set_cons_succ]
  go_big_quiet_on
  go_big_quiet_want
  refine quiet_exec (v := .string (str oa)) (fun W hW => by obtain ⟨nw, rfl⟩ := hW; exact exec_str 24 9 5 (.tmp 132) rfl (some ⟨p3, 0, none⟩) at_ sz oa _ rfl Try.underlying24 Try.underlying5 Try.underlying9 (rd_drew nw (HR2.out.1))) ?_
  try simp only [Act.put, List.setIfInBounds_toArray, List.set_cons_zero, List.set_cons_succ]
  go_big_quiet_on
  iterate 8 go_big_quiet_step (fail)
  go_big_quiet_want
  refine quiet_exec (v := .slice (slA A14 c14 (at_)) (at_ + kk - (at_)) (c14 - (at_))) (fun W hW => by obtain ⟨nw, rfl⟩ := hW; exact exec_slice_lh 24 5 (.tmp 137) (.tmp 138) (.tmp 141) rfl A14 sz c14 (at_) (at_ + kk) .i64 .i64 rfl rfl rfl Try.underlying24 (by kernel_rfl) (by omega) (by omega)) ?_
  try simp only [Act.put, List.setIfInBounds_toArray, List.set_cons_zero, List.set_cons_succ]
  go_big_quiet_on
  go_big_quiet_want
  refine quiet_exec (v := .string (str m)) (fun W hW => by obtain ⟨nw, rfl⟩ := hW; exact exec_str 24 9 5 (.tmp 142) rfl (slA A14 c14 (at_)) (at_ + kk - (at_)) (c14 - (at_)) m _ rfl Try.underlying24 Try.underlying5 Try.underlying9 (rd_drew nw (HR1.out.2.1))) ?_
  try simp only [Act.put, List.setIfInBounds_toArray, List.set_cons_zero, List.set_cons_succ]
  go_big_quiet_on
  iterate 1 go_big_quiet_step (fail)
  go_big_quiet_want
  refine quiet_exec (v := .string (str m)) (fun W hW => by obtain ⟨nw, rfl⟩ := hW; exact exec_str 24 9 5 (.tmp 144) rfl (some ⟨p2, 0, none⟩) kk kk m _ rfl Try.underlying24 Try.underlying5 Try.underlying9 (rd_drew nw (HR2.out.2.1))) ?_
  try simp only [Act.put, List.setIfInBounds_toArray, List.set_cons_zero, List.set_cons_succ]
  go_big_quiet_on
  iterate 7 go_big_quiet_step (fail)
  go_big_quiet_want
  refine quiet_exec (v := .slice (slA A14 c14 (at_ + kk)) (sz - (at_ + kk)) (c14 - (at_ + kk))) (fun W hW => by obtain ⟨nw, rfl⟩ := hW; exact exec_slice_from 24 5 (.tmp 149) (.tmp 152) rfl A14 sz c14 (at_ + kk) .i64 rfl rfl Try.underlying24 (by kernel_rfl) (by omega)) ?_
  try simp only [Act.put, List.setIfInBounds_toArray, List.set_cons_zero, List.set_cons_succ]
  go_big_quiet_on
  go_big_quiet_want
  refine quiet_exec (v := .string (str ob)) (fun W hW => by obtain ⟨nw, rfl⟩ := hW; exact exec_str 24 9 5 (.tmp 153) rfl (slA A14 c14 (at_ + kk)) (sz - (at_ + kk)) (c14 - (at_ + kk)) ob _ rfl Try.underlying24 Try.underlying5 Try.underlying9 (rd_drew nw (HR1.out.2.2))) ?_
  try simp only [Act.put, List.setIfInBounds_toArray, List.set_cons_zero, List.set_cons_succ]
  go_big_quiet_on
  iterate 4 go_big_quiet_step (fail)
  go_big_quiet_want
  refine quiet_exec (v := .slice (slA (some ⟨p3, 0, none⟩) sz (at_ + kk)) (sz - (at_ + kk)) (sz - (at_ + kk))) (fun W hW => by obtain ⟨nw, rfl⟩ := hW; exact exec_slice_from 24 5 (.tmp 155) (.tmp 158) rfl (some ⟨p3, 0, none⟩) sz sz (at_ + kk) .i64 rfl rfl Try.underlying24 (by kernel_rfl) (by omega)) ?_
  try simp only [Act.put, List.setIfInBounds_toArray, List.set_cons_zero, List.set_cons_succ]
  go_big_quiet_on
  go_big_quiet_want
  refine quiet_exec (v := .string (str ob)) (fun W hW => by obtain ⟨nw, rfl⟩ := hW; exact exec_str 24 9 5 (.tmp 159) rfl (slA (some ⟨p3, 0, none⟩) sz (at_ + kk)) (sz - (at_ + kk)) (sz - (at_ + kk)) ob _ rfl Try.underlying24 Try.underlying5 Try.underlying9 (rd_drew nw (HR2.out.2.2))) ?_
  try simp only [Act.put, List.setIfInBounds_toArray, List.set_cons_zero, List.set_cons_succ]
  go_big_quiet_on
  iterate 3 go_big_quiet_step (fail)
  refine wpQuiet_nil ?_
  intro _ hw'
  obtain ⟨nq, hw''⟩ := hw'
  subst hw''
  go_wp2
  go_returns
  have hbz := (HWZ.out.mono (Nat.le_refl _) (S' := fun _ => False) (fun k hk h => by have := HOW.out k h; omega)).below fun _ _ h => h
  exact ⟨rfl, below_drewN (HC.out.2.2.2.2.trans (hbz.mono HC.out.2.2.2.2.size)) _⟩
end Go.Proofs.Ytoeejeieplhifaa
namespace Go.Proofs.Ytoeejeieplhifaa.lawFileMiddle
open Go.ChangeShapes Go.WideShapes Go.ChangeAt Go.RowKit Go.Joins
open Go.ChangeMaps (open_string shut_string)
set_option linter.unusedVariables false

theorem own : ownKnob Try.prog.godebug = none := by kernel_rfl
theorem laidOut : laidOutB Try.prog = true := by kernel_rfl

set_option maxRecDepth 100000 in
theorem lifted (os : Os) (started : os.Started) (H0 : Type) (enc : TypeId × Value → H0) :
    ReturnsInHanded {} Try.checked os 8 .any (Rows.fileMiddleSpec.pre6 enc Try.prog Try.f8 Rows.fileMiddleRow.domain false) (Rows.fileMiddleSpec.post enc Try.prog Try.f8 false true false false) := by
  refine returnsInHanded_of_change (C := Try.checked) own started (by kernel_rfl) Try.func8
    (ChangeSpec.witness6 (enc := enc) (C := Try.checked) false ⟨#[], #[.int .u16 0, .int .u16 0, .int .u16 0, .int .u8 0], []⟩ 8 (by kernel_rfl) (by kernel_rfl) (by kernel_rfl) (by kernel_rfl)) ?_
  intro W base args ds gs before hval0 hW hcnd _
  have hval : ∀ (j : Nat) t v, Try.f8.params[j]? = some t → args[j]? = some v → Value.okWide Try.prog W .any base t v := hval0
  have hW' := hW
  obtain ⟨p, q, hA0, hV, rfl, hfz, hnd⟩ := hW
  have hA : DataW.TrodAll enc Try.prog W 0 (fun _ => true) true Try.f8.params.toList args.toList ds p := hA0
  rw [Try.params8] at hA hval
  obtain ⟨v0, vs0, d0, ds0, p0, q0, hargs, rfl, rfl, h0, r0⟩ := trodAll_cons hA
  obtain ⟨v1, vs1, d1, ds1, p1, q1, rfl, rfl, rfl, h1, r1⟩ := trodAll_cons r0
  obtain ⟨v2, vs2, d2, ds2, p2, q2, rfl, rfl, rfl, h2, r2⟩ := trodAll_cons r1
  obtain ⟨v3, vs3, d3, ds3, p3, q3, rfl, rfl, rfl, h3, r3⟩ := trodAll_cons r2
  obtain ⟨rfl, rfl, rfl⟩ := trodAll_nil r3
  obtain rfl : args = #[v0, v1, v2, v3] := by cases args; simp_all
  obtain ⟨rfl, rfl⟩ := trodVars_none hV
  have k0 := h0
  have lt0 : ∀ x ∈ p0, x.block < W.heap.size := by obtain ⟨m, hm⟩ := k0; exact DataW.trod_lt m _ _ _ hm
  have k1 := h1
  have lt1 : ∀ x ∈ p1, x.block < W.heap.size := by obtain ⟨m, hm⟩ := k1; exact DataW.trod_lt m _ _ _ hm
  have k2 := h2
  have lt2 : ∀ x ∈ p2, x.block < W.heap.size := by obtain ⟨m, hm⟩ := k2; exact DataW.trod_lt m _ _ _ hm
  have k3 := h3
  have lt3 : ∀ x ∈ p3, x.block < W.heap.size := by obtain ⟨m, hm⟩ := k3; exact DataW.trod_lt m _ _ _ hm
  obtain ⟨n0, rfl, hn0⟩ := open_u16 Try.underlying39 (hval 0 39 v0 rfl rfl) h0
  obtain ⟨off0, rfl, hoff0⟩ := open_u16 Try.underlying39 (hval 1 39 v1 rfl rfl) h1
  obtain ⟨many0, rfl, hmany0⟩ := open_u16 Try.underlying39 (hval 2 39 v2 rfl rfl) h2
  obtain ⟨b0, rfl, hb0⟩ := open_u8 Try.underlying5 (hval 3 5 v3 rfl rfl) h3
  obtain ⟨b, rfl⟩ := nat_u8 hb0
  clear hA0 hval0
  refine (middle_all _ n0 off0 many0 b hn0 hoff0 hmany0).mono fun e W' ⟨he, bel⟩ => ?_
  subst he
  exact ⟨_, rfl, _, _, _, [], _, [], hW', trodAll_mk1 (shut_bool Try.underlying4 _), (trodAll_cons_mk (Below.trod laidOut (by kernel_rfl) (of_decide_eq_true (by kernel_rfl)) k0 bel lt0) (trodAll_cons_mk (Below.trod laidOut (by kernel_rfl) (of_decide_eq_true (by kernel_rfl)) k1 bel lt1) (trodAll_cons_mk (Below.trod laidOut (by kernel_rfl) (of_decide_eq_true (by kernel_rfl)) k2 bel lt2) (trodAll_cons_mk (Below.trod laidOut (by kernel_rfl) (of_decide_eq_true (by kernel_rfl)) k3 bel lt3) trodAll_mk0)))), rfl, bel.frame _, fun h => by cases h⟩

theorem over : Rows.fileMiddleRow.holds Try.pinned (OpenSpec.ofChange Rows.fileMiddleSpec) :=
  OpenClaim.holds_of_wide 8 Try.f8 rfl rfl rfl rfl rfl rfl rfl ⟨rfl, rfl, rfl, rfl, rfl⟩ rfl rfl rfl rfl rfl (by kernel_rfl) Try.func8 (by kernel_rfl)
    (of_decide_eq_true (by kernel_rfl)) (by unfold Func.isWrapper; first | (rw [if_pos (by decide +kernel)]; kernel_rfl) | (rw [if_neg (by decide +kernel)]; exact ⟨rfl, rfl⟩))
    (fun os started H0 enc _ => lifted os started H0 enc)

theorem proved : Rows.FileMiddleSaid := over
#print axioms proved
end Go.Proofs.Ytoeejeieplhifaa.lawFileMiddle

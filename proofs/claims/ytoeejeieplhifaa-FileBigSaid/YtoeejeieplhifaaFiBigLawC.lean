/- FileBig: a file as long as may be, and one byte more; one block more than there are: for every input the law returns true, and its arguments read as they did. -/
import Derived.Test.YtoeejeieplhifaaMFib
import Derived.Test.YtoeejeieplhifaaRows
import Derived.WalkKit
import Derived.ProofKit
import Derived.OpenShut
import Derived.ShutString
import Derived.ChangeOld
import Derived.Below
import Derived.Lib.SmallJoins
import Derived.Test.YtoeejeieplhifaaMArg
namespace Go.Proofs.Ytoeejeieplhifaa
open Go.RowKit
set_option linter.unusedSimpArgs false
set_option linter.unusedVariables false

/-- one label of many blocks -/
def bigR : List RegV := [⟨[108, 111, 119], 0, 0, 270, 8, 1, 1, 1, 0⟩]
theorem big_ok : newE bigR [] = 0 := by decide +kernel
theorem big_geo {n : Nat} (hF : CfFacts bigR n) : ∃ v u, (geosOf 32 bigR)[0]? = some v ∧ geoN v = u ∧ u.val = .agg v.cells.toArray ∧ u.Ok n ∧ u.blocks = 270 ∧ u.nodes = 8 := by
  obtain ⟨v, r, hv, hr, hgo, hval, hbl, hnd, -⟩ := hF.geo 0 (by decide)
  have hr2 : r = ⟨[108, 111, 119], 0, 0, 270, 8, 1, 1, 1, 0⟩ := (Option.some.inj hr).symm
  subst hr2
  exact ⟨v, _, hv, rfl, hval, hgo, by simp only at hbl; omega, by simp only at hnd; omega⟩
set_option maxRecDepth 100000 in
set_option maxHeartbeats 4000000 in
theorem big_all (w : World) (last : Nat) (more : Bool) (hlast : last < 256) :
    Calls Try.prog 7 #[.int .u8 (last : Int), .bool more] w fun e w' => e = .returned (.bool true) ∧ Below w.heap.size w w' := by
  go_enter Try.func7, Try.ntmps7
  go_wp2_with fail
  refine (awake8_ok w).mono ?_
  rintro e w1 ⟨rfl, hb1⟩
  have HB1 := hide hb1
  clear hb1
  go_wp2_with fail
  have hblk := Blk.new w1 43 (rcellsOf bigR).toArray
  have hrd : Rd (w1.alloc (.cells (rcellsOf bigR).toArray 43)) (w1.alloc (.cells (rcellsOf bigR).toArray 43)).heap.size 9 (some ⟨w1.heap.size, 0, none⟩) bigR.length (rcellsOf bigR) := ⟨rfl, fun _ => ⟨w1.heap.size, 0, rfl, by simp, fun j u hu => by
    have := hblk.cell j
    rw [List.getElem?_toArray, hu] at this
    rw [Nat.zero_add]; exact this⟩⟩
  have hnew := new_ok (R := bigR) (K := []) (w := w1.alloc (.cells (rcellsOf bigR).toArray 43)) (A := some ⟨w1.heap.size, 0, none⟩) (cA := 1) (A' := none) (cA' := 0) hrd (Rd.nil _ _ _ _) (by decide) (by decide)
  have HNEW := hide hnew
  clear hblk hrd hnew
  refine HNEW.out.mono ?_
  rintro e w2 ⟨hb2, h0, -⟩
  obtain ⟨cc, tb, nb, lb, B1, B2, B3, d1, d2, d3, rfl, hin⟩ := h0 big_ok
  have hb12 : Below w.heap.size w w2 := (HB1.out.alloc HB1.out.size _).trans (hb2.mono (by have := HB1.out.size; simp; omega))
  obtain ⟨n, hF⟩ := cf_facts hin.ok (by decide)
  obtain ⟨v, u, hv, hu, hval, hgo, hub, hun⟩ := big_geo hF
  have hfr := fresh_all (w := w2) hin hF (by decide)
  have HC := hide (And.intro hin (And.intro hv (And.intro hu (And.intro hval hb12))))
  have HGO := hide (And.intro hgo (And.intro hub hun))
  have HFR := hide hfr
  have HN := hide (And.intro hF.ge hF.le)
  clear hin hv hu hval hgo hub hun hfr hb12 hF hb2 h0 HNEW HB1
  go_wp2_with fail
  refine HFR.out.mono ?_
  rintro e w3 ⟨i, D, rfl, hx, hDn, hall, hown, hll, hb3⟩
  have his := hall 0 v HC.out.2.1
  rw [HC.out.2.2.1] at his
  have HL3 := hide hx.log
  have HDR := hide (And.intro (hown i.dd (.inr (.inr (.inl rfl)))) (hown i.rr (.inr (.inr (.inr rfl)))))
  have HW23 := hide hb3
  have HIS := hide (And.intro hDn his)
  have hop := fun (W : World) (hW : Below w2.heap.size w2 W) (tt : Nat) => gopen_yes (tt := tt) (HC.out.1.below hW) HC.out.2.1 (by rw [HC.out.2.2.1]; exact HC.out.2.2.2.1)
  rw [HC.out.2.2.1] at hop
  rw [show ((0 : Nat) : Int) = 0 from rfl] at hop
  have HOP := hide hop
  clear hb3 hx hown his hall hll hDn HFR hop
  go_wp2_with fail
  go_loopg [10] 16 (fun gh x10 wr => ∃ (q a : Nat) (Dk : List BlkV) (G : GS) (κ : Nat → Nat) (f : Nat → UInt8), q ≤ 15 ∧ gh = 16 - q ∧ x10 = .int .i64 (a : Int) ∧ Hid (a = 1024 * q) ∧ Hid (Tch w3.heap.size (fun x => x = i.dd ∨ x = i.rr) w3 wr) ∧ Hid (LogAt wr i.ll i.dd i.rr Dk) ∧ Hid (Dk.length = n ∧ Sto.Is ⟨Dk, [], 0⟩ u G ∧ G.Ok ∧ G.cnt 270 = nkeys (16 * q)) ∧ Hid (FileAt G 270 (G.nd 3) (16 * q) κ a f ∧ (G.nd 3).size.toNat = a ∧ (G.nd 3).kind = 1 ∧ (G.nd 3).links ≠ 0))
  case atStart => exact ⟨0, 0, D, GS.fresh, fun _ => 0, fun _ => 0, by omega, rfl, rfl, hide rfl, hide (Tch.refl _ _ _), HL3, hide ⟨HIS.out.1, HIS.out.2, GS.fresh_ok, fresh_cnt _⟩, hide ⟨fresh_file _ _, rfl, rfl, by decide⟩⟩
  case round =>
    obtain ⟨q, a, Dk, G, κ, f, hq, hgh, rfl, HQ, HT, HL, HI, HF⟩ := hrel
    have HGH := hide hgh
    clear hgh
    have HD32 := hide (show 32 ≤ Dk.length from by rw [HI.out.1]; exact HN.out.1)
    have HBr : Hid (Below w2.heap.size w2 wr) := hide (HW23.out.trans ((HT.out.mono HW23.out.size (S' := fun _ => False) (fun k hk h => by
      have := HDR.out
      rcases h with h | h <;> omega)).below fun _ _ h => h))
    rcases Nat.lt_or_ge q 15 with hql | hql
    · have haz : decide ((a : Int) < 15360) = true := by have := HQ.out; simp; omega
      go_wp2_with fail
      refine (begin_ok HL.out HD32.out).mono ?_
      rintro e w7 ⟨tt, mq, rfl, htt, hmq, hx7, hb7⟩
      obtain ⟨ii, hii⟩ : ∃ ii : Ids, Ids.mk tt mq i.ll i.dd i.rr = ii := ⟨_, rfl⟩
      have htt' : tt = ii.tt := by rw [← hii]
      rw [hii] at hx7
      subst htt'
      have HX7 := hide hx7
      have HB7 := hide hb7
      have HII := hide (And.intro hii (And.intro htt hmq))
      clear hii htt hmq hx7 hb7
      go_wp2_with fail
      refine (HOP.out w7 (HBr.out.trans (HB7.out.mono HBr.out.size)) ii.tt).mono ?_
      rintro e w8 ⟨gg, rfl, -, hG8, hb8⟩
      have hug : u.Ok Dk.length := by rw [HI.out.1]; exact HGO.out.1
      have HA8 : Hid (GAt w8 ii ⟨Dk, [], 0⟩ gg u 0 G) := hide ⟨HX7.out.below hb8, hG8, hug, HI.out.2.1, HI.out.2.2.1⟩
      have HB8 := hide (HB7.out.trans (hb8.mono HB7.out.size))
      clear hug hG8 hb8 HX7 HB7
      obtain ⟨bq, hbq⟩ : ∃ b : UInt8, (a : Int) / 1024 % 256 = (b.toNat : Int) := ⟨UInt8.ofNat (a / 1024), by rw [UInt8.toNat_ofNat']; omega⟩
      go_wp2_with fail
      refine (bytes_ok w8 (n := 1024) bq (by omega)).mono ?_
      rintro e w9 ⟨p, rfl, hp, hB9, hb9⟩
      have hq2 := HQ.out
      have hblk : blks (a + (bytesL 1024 bq).length) = 16 * (q + 1) := by rw [bytesL_length, hq2]; unfold blks; omega
      have hc' : max (16 * q) (blks (a + (bytesL 1024 bq).length)) = 16 * (q + 1) := by rw [hblk]; omega
      have ha64 : a / 64 = 16 * q := by omega
      have hwr := write_file (num := 3) (off := a) (cap := 1024) (c := 16 * q) (sz := a) (κ := κ) (f := f) (K0 := []) (data := bytesL 1024 bq) (A := some ⟨p, 0, none⟩) (HA8.out.below hb9) (fun x hx => by simp at hx) (by omega) (by rw [HGO.out.2.2]; omega) (by rw [HGO.out.2.1]; omega)
        (by rw [HF.out.2.2.1]; decide) HF.out.2.1 (by rw [HGO.out.2.1]; exact HF.out.1) (by omega) (by rw [bytesL_length]; omega) (by omega) (by rw [bytesL_length]; omega) (by rw [bytesL_length]; exact Rd.of_bytes hB9 (bytesL_length _ _)) (fun b hb => by cases hb; exact HA8.out.tx.other_new hp)
        (by rw [hblk, ha64]; omega) (by rw [hc', hblk, ha64, List.length_nil]; split <;> omega) (by rw [hq2]; unfold blks; omega)
        (fun n' hs hd => check_grow hs HF.out.2.2.1 HF.out.2.2.2 (by rw [HF.out.2.1, bytesL_length]; omega))
      rw [hc', hblk, ha64, bytesL_length, show ((3 : Nat) : Int) = 3 from rfl, HGO.out.2.1] at hwr
      rw [show max a (a + 1024) = a + 1024 from by omega] at hwr
      have HWR := hide hwr
      have HB9 := hide (HB8.out.trans (hb9.mono HB8.out.size))
      clear hwr hblk hc' ha64 hp hB9 hb9 hbq hq2 HB8
      go_wp2_with fail
      refine HWR.out.mono ?_
      rintro e w10 (⟨rfl, hno, -⟩ | ⟨rfl, s10, G10, κ10, ha10, hf10, hsz10, hk10, hl10, -, -, hcnt10, -, hst10, ht10⟩)
      · exfalso
        rw [HI.out.2.2.2] at hno
        have := nkeys_mono (show 16 * (q + 1) ≤ 256 from by omega)
        have : nkeys 256 = 265 := by decide
        omega
      have HA10 := hide ha10
      have HF10 := hide (And.intro hf10 (And.intro hsz10 (And.intro hk10 (And.intro hl10 hcnt10))))
      have HT10 := hide ((Tch.of_below (S := ii.own) HB9.out).trans (ht10.mono HB9.out.size fun _ _ h => h))
      have HST := hide hst10
      have hcom := commit_ok ha10.tx hst10.bad
      have HCOM := hide hcom
      have e1 : IntKind.i64.wrap ((a : Int) + 1024) = (a : Int) + 1024 := IntWalk.i64_in _ (by have := HQ.out; omega)
      clear ha10 hf10 hsz10 hk10 hl10 hcnt10 hst10 ht10 hcom HWR
      go_wp2_with fail
      refine HCOM.out.mono ?_
      rintro e w11 ⟨l, rfl, hp, hx11, ht11⟩
      have HI11 : Hid ((commitD s10 l).length = n ∧ Sto.Is ⟨commitD s10 l, [], 0⟩ u G10 ∧ G10.Ok ∧ G10.cnt 270 = nkeys (16 * (q + 1))) := hide ⟨by rw [commit_len, HST.out.D]; exact HI.out.1, is_commit HA10.out.is HGO.out.1 HA10.out.tx.ok hp, HA10.out.gok, by have := HF10.out.2.2.2.2; rw [HI.out.2.2.2] at this; omega⟩
      have HT11 := hide (Tch.txn2 HII.out HT.out (HT10.out.trans (ht11.mono HT10.out.size fun _ _ h => h)) HT.out.size)
      have HL11 : Hid (LogAt w11 i.ll i.dd i.rr (commitD s10 l)) := hide (hx11.log.ids HII.out.1)
      have HF11 := hide (And.intro HF10.out.1 (And.intro HF10.out.2.1 (And.intro (HF10.out.2.2.1.trans HF.out.2.2.1) (show (G10.nd 3).links ≠ 0 from by rw [HF10.out.2.2.2.1]; exact HF.out.2.2.2))))
      clear hp hx11 ht11 HCOM
      go_wp2
      go_roundg (16 - (q + 1))
      case rel => exact ⟨q + 1, a + 1024, _, G10, κ10, _, by omega, rfl, by first | rfl | go_num, hide (by have := HQ.out; omega), HT11, HL11, HI11, HF11⟩
      case measure => have := HGH.out; omega
    · have hq15 : q = 15 := by omega
      subst hq15
      have haz : decide ((a : Int) < 15360) = false := by have := HQ.out; simp; omega
      have ha : a = 15360 := HQ.out
      subst ha
      clear HQ HGH hql hq
      go_wp2_with fail
      refine (begin_ok HL.out HD32.out).mono ?_
      rintro e w7 ⟨tt, mq, rfl, htt, hmq, hx7, hb7⟩
      obtain ⟨ii, hii⟩ : ∃ ii : Ids, Ids.mk tt mq i.ll i.dd i.rr = ii := ⟨_, rfl⟩
      have htt' : tt = ii.tt := by rw [← hii]
      rw [hii] at hx7
      subst htt'
      have HX7 := hide hx7
      have HB7 := hide hb7
      have HOW := hide (show ∀ k, ii.own k → w2.heap.size ≤ k from by
        have h0 := HBr.out.size
        have h1 := HDR.out
        rintro k (e | e | e | e)
        · omega
        · rw [← hii] at e; simp only at e; omega
        · rw [← hii] at e; simp only at e; omega
        · rw [← hii] at e; simp only at e; omega)
      clear hii htt hmq hx7 hb7
      go_wp2_with fail
      refine (HOP.out w7 (HBr.out.trans (HB7.out.mono HBr.out.size)) ii.tt).mono ?_
      rintro e w8 ⟨gg, rfl, -, hG8, hb8⟩
      have hug : u.Ok Dk.length := by rw [HI.out.1]; exact HGO.out.1
      have HA8 : Hid (GAt w8 ii ⟨Dk, [], 0⟩ gg u 0 G) := hide ⟨HX7.out.below hb8, hG8, hug, HI.out.2.1, HI.out.2.2.1⟩
      have HB8 := hide (HBr.out.trans ((HB7.out.trans (hb8.mono HB7.out.size)).mono HBr.out.size))
      have HF' := hide HF.out
      clear hug hG8 hb8 HX7 HB7
      cases more with
      | true =>
        have e2 : (last : Int).tmod 64 = ((last % 64 : Nat) : Int) := by rw [Int.tmod_eq_emod_of_nonneg (by omega)]; omega
        have e3 : IntKind.i64.wrap (1024 - ((last % 64 : Nat) : Int)) = 1024 - ((last % 64 : Nat) : Int) := IntWalk.i64_in _ (by omega)
        have e4 : IntKind.i64.wrap (1025 + (last : Int)) = ((1025 + last : Nat) : Int) := by rw [IntWalk.i64_in _ (by omega)]; omega
        obtain ⟨nl, hnl⟩ : ∃ nl, 1025 + last = nl := ⟨_, rfl⟩
        rw [hnl] at e4
        have hnb : 1025 ≤ nl ∧ nl ≤ 1280 := by omega
        generalize last % 64 = lm at *
        clear hnl
        go_wp2_with fail
        refine (bytes_ok w8 (n := nl) 1 (by omega)).mono ?_
        rintro e w9 ⟨p, rfl, hp, hB9, hb9⟩
        have hwr := write_big (num := 3) (off := 15360) (len := nl) (c := nl) (A := some ⟨p, 0, none⟩) (HA8.out.below hb9) (by omega) (by rw [HGO.out.2.2]; omega) (by rw [HF'.out.2.2.1]; decide) (by rw [HF'.out.2.1]; omega) (by rw [HF'.out.2.1]; omega) (by omega)
        rw [show ((3 : Nat) : Int) = 3 from rfl, show ((15360 : Nat) : Int) = 15360 from rfl] at hwr
        have HWR := hide hwr
        have HB9 := hide (HB8.out.trans (hb9.mono HB8.out.size))
        clear hwr hp hB9 hb9 e2 e3 e4
        go_wp2_with fail
        refine HWR.out.mono ?_
        rintro e w10 ⟨rfl, ha10, ht10⟩
        have hb10 := HB9.out.trans ((ht10.mono HB9.out.size (S' := fun _ => False) (fun k hk h => by have := HOW.out k h; omega)).below fun _ _ h => h)
        have HF10 := hide (HC.out.2.2.2.2.trans (hb10.mono HC.out.2.2.2.2.size))
        clear ha10 ht10 hb10 HWR
        go_wp2
        go_returns
        exact ⟨rfl, HF10.out⟩
      | false =>
        have e2 : (last : Int).tmod 64 = ((last % 64 : Nat) : Int) := by rw [Int.tmod_eq_emod_of_nonneg (by omega)]; omega
        have e3 : IntKind.i64.wrap (1024 - ((last % 64 : Nat) : Int)) = ((1024 - last % 64 : Nat) : Int) := by rw [IntWalk.i64_in _ (by omega)]; omega
        have hnb : 961 ≤ 1024 - last % 64 ∧ 1024 - last % 64 ≤ 1024 := by omega
        have e5 : IntKind.u8.wrap ((last % 64 : Nat) : Int) = ((last % 64 : Nat) : Int) := by rw [IntKind.wrap_u8]; omega
        have e6 : IntKind.i64.wrap ((last % 64 : Nat) : Int) = ((last % 64 : Nat) : Int) := IntWalk.i64_in _ (by omega)
        generalize 1024 - last % 64 = nl at *
        generalize last % 64 = lm at *
        go_wp2_with fail
        refine (bytes_ok w8 (n := nl) 1 (by omega)).mono ?_
        rintro e w9 ⟨p, rfl, hp, hB9, hb9⟩
        have hblk : blks (15360 + (bytesL nl 1).length) = 256 := by rw [bytesL_length]; unfold blks; omega
        have hwr := write_file (num := 3) (off := 15360) (cap := nl) (c := 16 * 15) (sz := 15360) (κ := κ) (f := f) (K0 := []) (data := bytesL nl 1) (A := some ⟨p, 0, none⟩) (HA8.out.below hb9) (fun x hx => by simp at hx) (by omega) (by rw [HGO.out.2.2]; omega) (by rw [HGO.out.2.1]; omega)
          (by rw [HF'.out.2.2.1]; decide) HF'.out.2.1 (by rw [HGO.out.2.1]; exact HF'.out.1) (by omega) (by rw [bytesL_length]; omega) (by omega) (by rw [bytesL_length]; omega) (by rw [bytesL_length]; exact Rd.of_bytes hB9 (bytesL_length _ _)) (fun b hb => by cases hb; exact HA8.out.tx.other_new hp)
          (by rw [hblk]; decide) (by rw [hblk]; decide) (by decide)
          (fun n' hs hd => check_grow hs HF'.out.2.2.1 HF'.out.2.2.2 (by rw [HF'.out.2.1, bytesL_length]; omega))
        rw [hblk, bytesL_length, show ((3 : Nat) : Int) = 3 from rfl, HGO.out.2.1, show ((15360 : Nat) : Int) = 15360 from rfl] at hwr
        rw [show max 15360 (15360 + nl) = 15360 + nl from by omega, show max (16 * 15) 256 = 256 from rfl] at hwr
        have HWR := hide hwr
        have HB9 := hide (HB8.out.trans (hb9.mono HB8.out.size))
        clear hwr hblk hp hB9 hb9 HB8 e2 e3 e5 e6
        go_wp2_with fail
        refine HWR.out.mono ?_
        rintro e w10 (⟨rfl, hno, -⟩ | ⟨rfl, s10, G10, κ10, ha10, hf10, hsz10, hk10, hl10, -, -, hcnt10, -, hst10, ht10⟩)
        · exfalso
          rw [HI.out.2.2.2] at hno
          revert hno
          decide
        have hcnt : G10.cnt 270 = 265 := by rw [HI.out.2.2.2] at hcnt10; have h1 : nkeys (16 * 15) = 249 := by decide
                                            have h2 : nkeys 256 = 265 := by decide
                                            omega
        have hus := gs_usage ha10
        rw [HGO.out.2.1, hcnt] at hus
        have HUS := hide hus
        have HF10 := hide (And.intro hf10 (And.intro hsz10 (show (G10.nd 3).kind ≠ 0 from by rw [hk10, HF'.out.2.2.1]; decide)))
        have HT10 := hide ((Tch.of_below (S := ii.own) HB9.out).trans (ht10.mono HB9.out.size fun _ _ h => h))
        have HOK := hide (show u.Ok s10.D.length from by rw [hst10.D]; exact HA8.out.ok)
        clear ha10 hf10 hsz10 hk10 hl10 hcnt10 hst10 ht10 hcnt hus HWR HB9
        go_wp2_with fail
        refine HUS.out.mono ?_
        rintro e w11 ⟨rfl, s11, ha11, -, ht11⟩
        have hrd := read_file (num := 3) (off := 15359) (many := 2000) (en := 15360 + nl) ha11 (by omega) (by rw [HGO.out.2.2]; omega) HF10.out.2.2 HF10.out.2.1 (by rw [HGO.out.2.1]; exact HF10.out.1) (by omega) (by omega) (by omega) (by omega)
        rw [show 15360 + nl - 15359 = nl + 1 from by omega, show ((3 : Nat) : Int) = 3 from rfl, show ((15359 : Nat) : Int) = 15359 from rfl, show ((2000 : Nat) : Int) = 2000 from rfl] at hrd
        have HRD := hide hrd
        have HT11 := hide (HT10.out.trans (ht11.mono HT10.out.size fun _ _ h => h))
        clear ha11 ht11 hrd HUS HT10
        go_wp2_with fail
        refine HRD.out.mono ?_
        rintro e w12 ⟨A12, c12, rfl, -, ha12, ht12, -⟩
        have HT12 := hide (HT11.out.trans (ht12.mono HT11.out.size fun _ _ h => h))
        clear ha12 ht12 HRD HT11
        go_wp2_with (first | ((with_reducible refine at_build 52 #[] ?_); refine wpList_zero_as rfl 52 rfl _ (build_node _) ?_) | fail)
        refine (block_no w12 (gg := gg) rfl (.inr (by omega))).mono ?_
        rintro e w13 ⟨rfl, hb13⟩
        have ht13 := HT12.out.trans ((Tch.of_below hb13).mono HT12.out.size fun _ _ h => h)
        have hb14 := (ht13.mono (Nat.le_refl _) (S' := fun _ => False) (fun k hk h => by have := HOW.out k h; omega)).below fun _ _ h => h
        have HF14 := hide (HC.out.2.2.2.2.trans (hb14.mono HC.out.2.2.2.2.size))
        have e7 : IntKind.i64.wrap ((nl : Int) + 1) = (nl : Int) + 1 := IntWalk.i64_in _ (by omega)
        clear hb13 ht13 hb14
        go_wp2
        go_returns
        exact ⟨by simp, HF14.out⟩
end Go.Proofs.Ytoeejeieplhifaa
namespace Go.Proofs.Ytoeejeieplhifaa.lawFileBig
open Go.ChangeShapes Go.WideShapes Go.ChangeAt Go.RowKit Go.Joins
open Go.ChangeMaps (open_string shut_string)
set_option linter.unusedVariables false

theorem own : ownKnob Try.prog.godebug = none := by kernel_rfl
theorem laidOut : laidOutB Try.prog = true := by kernel_rfl

set_option maxRecDepth 100000 in
theorem lifted (os : Os) (started : os.Started) (H0 : Type) (enc : TypeId × Value → H0) :
    ReturnsInHanded {} Try.checked os 7 .any (Rows.fileBigSpec.pre6 enc Try.prog Try.f7 Rows.fileBigRow.domain false) (Rows.fileBigSpec.post enc Try.prog Try.f7 false true false false) := by
  refine returnsInHanded_of_change (C := Try.checked) own started (by kernel_rfl) Try.func7
    (ChangeSpec.witness6 (enc := enc) (C := Try.checked) false ⟨#[], #[.int .u8 0, .bool false], []⟩ 8 (by kernel_rfl) (by kernel_rfl) (by kernel_rfl) (by kernel_rfl)) ?_
  intro W base args ds gs before hval0 hW hcnd _
  have hval : ∀ (j : Nat) t v, Try.f7.params[j]? = some t → args[j]? = some v → Value.okWide Try.prog W .any base t v := hval0
  have hW' := hW
  obtain ⟨p, q, hA0, hV, rfl, hfz, hnd⟩ := hW
  have hA : DataW.TrodAll enc Try.prog W 0 (fun _ => true) true Try.f7.params.toList args.toList ds p := hA0
  rw [Try.params7] at hA hval
  obtain ⟨v0, vs0, d0, ds0, p0, q0, hargs, rfl, rfl, h0, r0⟩ := trodAll_cons hA
  obtain ⟨v1, vs1, d1, ds1, p1, q1, rfl, rfl, rfl, h1, r1⟩ := trodAll_cons r0
  obtain ⟨rfl, rfl, rfl⟩ := trodAll_nil r1
  obtain rfl : args = #[v0, v1] := by cases args; simp_all
  obtain ⟨rfl, rfl⟩ := trodVars_none hV
  have k0 := h0
  have lt0 : ∀ x ∈ p0, x.block < W.heap.size := by obtain ⟨m, hm⟩ := k0; exact DataW.trod_lt m _ _ _ hm
  have k1 := h1
  have lt1 : ∀ x ∈ p1, x.block < W.heap.size := by obtain ⟨m, hm⟩ := k1; exact DataW.trod_lt m _ _ _ hm
  obtain ⟨last, rfl, hlast⟩ := open_u8 Try.underlying5 (hval 0 5 v0 rfl rfl) h0
  obtain ⟨more, rfl⟩ := open_yes Try.underlying4 (hval 1 4 v1 rfl rfl) h1
  clear hA0 hval0
  refine (big_all _ last more hlast).mono fun e W' ⟨he, bel⟩ => ?_
  subst he
  exact ⟨_, rfl, _, _, _, [], _, [], hW', trodAll_mk1 (shut_bool Try.underlying4 _), (trodAll_cons_mk (Below.trod laidOut (by kernel_rfl) (of_decide_eq_true (by kernel_rfl)) k0 bel lt0) (trodAll_cons_mk (Below.trod laidOut (by kernel_rfl) (of_decide_eq_true (by kernel_rfl)) k1 bel lt1) trodAll_mk0)), rfl, bel.frame _, fun h => by cases h⟩

theorem over : Rows.fileBigRow.holds Try.pinned (OpenSpec.ofChange Rows.fileBigSpec) :=
  OpenClaim.holds_of_wide 7 Try.f7 rfl rfl rfl rfl rfl rfl rfl ⟨rfl, rfl, rfl, rfl, rfl⟩ rfl rfl rfl rfl rfl (by kernel_rfl) Try.func7 (by kernel_rfl)
    (of_decide_eq_true (by kernel_rfl)) (by unfold Func.isWrapper; first | (rw [if_pos (by decide +kernel)]; kernel_rfl) | (rw [if_neg (by decide +kernel)]; exact ⟨rfl, rfl⟩))
    (fun os started H0 enc _ => lifted os started H0 enc)

theorem proved : Rows.FileBigSaid := over
#print axioms proved
end Go.Proofs.Ytoeejeieplhifaa.lawFileBig

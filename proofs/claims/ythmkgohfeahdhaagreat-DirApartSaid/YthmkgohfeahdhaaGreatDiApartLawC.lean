/- DirApart: what is done in one directory changes nothing in another one: for every input the law returns true, and its arguments read as they did. -/
import Derived.Test.YthmkgohfeahdhaaGreatMD1
import Derived.Test.YthmkgohfeahdhaaGreatMD2
import Derived.Test.YthmkgohfeahdhaaGreatMD3
import Derived.Test.YthmkgohfeahdhaaGreatMD4
import Derived.Test.YthmkgohfeahdhaaGreatMD5
import Derived.Test.YthmkgohfeahdhaaGreatMD6
import Derived.Test.YthmkgohfeahdhaaGreatMD7
import Derived.Test.YthmkgohfeahdhaaGreatMD8
import Derived.Test.YthmkgohfeahdhaaGreatMD9
import Derived.Test.YthmkgohfeahdhaaGreatMD10
import Derived.Test.YthmkgohfeahdhaaGreatRows
import Derived.WalkKit
import Derived.ProofKit
import Derived.OpenShut
import Derived.ShutString
import Derived.ChangeOld
import Derived.Below
import Derived.Lib.SmallJoins
namespace Go.Proofs.YthmkgohfeahdhaaGreat
open Go.RowKit
set_option linter.unusedSimpArgs false
set_option linter.unusedVariables false

theorem zero_ent1 (w : World) : (zeroValue 125).run Tryz.prog w = .ok (.agg EntV.zero.cells.toArray) w := by kernel_rfl
def G4 : GS := GS.fresh.set 4 (freshN 2)
theorem fresh_make4 {g : GeoN} (h : 4 ≤ g.nodes) : GS.fresh.makeR g.nodes = (4, 0) ∧ GS.fresh.makeS g.nodes (newN 2) = G4 ∧ GS.fresh.makeL g = [g.base + g.bitmap + (4 - 1) / 2] := by
  have h0 : GS.fresh.freeN g.nodes = some 4 := by
    unfold GS.freeN
    obtain ⟨k, hk⟩ : ∃ k, g.nodes = k + 4 := ⟨g.nodes - 4, by omega⟩
    rw [hk]
    rfl
  refine ⟨?_, ?_, ?_⟩
  · unfold GS.makeR; rw [h0]; rfl
  · unfold GS.makeS; rw [h0]; rfl
  · unfold GS.makeL; rw [h0]
theorem g4_one (g : GeoN) (κ : Nat → Nat) : DirN G4 g 1 [] κ :=
  ⟨rfl, by decide, rfl, file_empty κ _ rfl (fresh_slot 2), by decide, fun e he => absurd he (by simp)⟩
theorem g4_four (g : GeoN) (κ : Nat → Nat) : DirN G4 g 4 [] κ :=
  ⟨rfl, by decide, rfl, file_empty κ _ rfl (fresh_slot 2), by decide, fun e he => absurd he (by simp)⟩
theorem g4_cnt (m : Nat) : G4.cnt m = 0 := fresh_cnt m
def entO : EntV := ⟨⟨#[111, 116, 104, 101, 114]⟩, 7⟩
def abo : List EntV := [⟨⟨#[97]⟩, 7⟩, ⟨⟨#[98]⟩, 7⟩, entO]
theorem abo_name : ∀ (k : Nat) (e : EntV), abo[k]? = some e → nameErr e.name.data.toList = 0 ∧ e.num = 7
  | 0, e, h => by cases h; exact ⟨rfl, rfl⟩
  | 1, e, h => by cases h; exact ⟨rfl, rfl⟩
  | 2, e, h => by cases h; exact ⟨rfl, rfl⟩
  | k + 3, e, h => by simp [abo] at h
theorem abo_add : ∀ (k : Nat) (e : EntV), abo[k]? = some e → (∀ x ∈ abo.take k, named e.name x = false) ∧ addL (abo.take k) e = abo.take (k + 1) ∧ addAt (abo.take k) < 1024
  | 0, e, h => by cases h; exact ⟨by simp, rfl, by decide⟩
  | 1, e, h => by cases h; exact ⟨by decide +kernel, rfl, by decide +kernel⟩
  | 2, e, h => by cases h; exact ⟨by decide +kernel, rfl, by decide +kernel⟩
  | k + 3, e, h => by simp [abo] at h
theorem abo_len (k : Nat) (hk : k ≤ 3) : (abo.take k).length = k := by
  rw [List.length_take]; exact Nat.min_eq_left hk
theorem no_blocks (κ : Nat → Nat) (p : Nat → Bool) (κ' : Nat → Nat) : Apart (prOf (blks (16 * ([] : List EntV).length))) κ p κ' := fun c c' h _ => by
  have := prOf_true.1 h
  simp [blks] at this
theorem no_blocks' (κ : Nat → Nat) (p : Nat → Bool) (κ' : Nat → Nat) : Apart p κ (prOf (blks (16 * ([] : List EntV).length))) κ' := fun c c' _ h => by
  have := prOf_true.1 h
  simp [blks] at this
theorem Rd.of_ents {w : World} {p n : Nat} {t : TypeId} {l : List EntV} (h : Blk w p t (flat2 l).toArray) (hn : l.length = n := by rfl) : Rd w w.heap.size 2 (some ⟨p, 0, none⟩) n (flat2 l) :=
  ⟨by rw [flat2_length, hn], fun _ => ⟨p, 0, rfl, h.lt, fun j u hu => by
    have := h.cell j
    rw [List.getElem?_toArray, hu] at this
    rw [Nat.zero_add]; exact this⟩⟩
set_option maxRecDepth 100000 in
set_option maxHeartbeats 8000000 in
theorem dapart_all {w : World} {A : Option Addr} {n c : Nat} {L : List DAct} (hR : Rd w w.heap.size 5 A n (L.flatMap DAct.cells)) (hL : L.length = n) (hn : n ≤ maxLen) (hok : ∀ a ∈ L, a.Ok) :
    Calls Tryz.prog 11 #[.slice A n c] w fun e w' => e = .returned (.bool true) ∧ Below w.heap.size w w' := by
  have HRA := hide hR
  have HLO := hide (And.intro hL hok)
  have hn63 : n ≤ 9223372036854775807 := by unfold maxLen at hn; omega
  have HN63 := hide hn63
  have hbt := build_two w 40
  rw [show (((40 : UInt8).toNat : Nat) : Int) = 40 from rfl] at hbt
  have hbt' := fun W => build_two W 40
  have HBT := hide (show ∀ W, (Instr.build 26 #[(1, .agg #[.int .u8 40, .int .u8 0, .int .u8 0, .int .u8 0, .int .u8 0, .int .u8 10, .int .u8 0, .int .u8 0, .int .u8 0, .int .u8 0, .int .u8 0, .int .u8 0, .int .u8 0, .int .u8 0, .int .u8 0, .int .u8 0, .int .u8 0, .int .u8 0, .int .u8 0, .int .u8 0, .int .u8 0, .int .u8 0, .int .u8 0, .int .u8 0, .int .u8 0])]).run Tryz.prog W = .ok (.agg (szCells 0 (twoH 40) none 0 0)) W from fun W => build_two W 40)
  clear hbt hbt' hR hL hok hn
  go_enter Tryz.func11, Tryz.ntmps11
  go_wp2_with fail
  refine (awake9_ok w).mono ?_
  rintro e w1 ⟨rfl, hb1⟩
  have HB1 := hide hb1
  clear hb1
  go_wp2_with (first | ((with_reducible refine at_build 22 #[(0, .const (.int .u8 40))] ?_); refine wpList_run rfl _ (exec_build 22 #[(0, .const (.int .u8 40))] rfl #[(0, .int .u8 40)] (by simp only [List.map_toArray, List.map_cons, List.map_nil]; rfl) _ (build_five _ _)) ?_) | ((with_reducible refine at_build 22 #[(0, .const (.int .u8 10))] ?_); refine wpList_run rfl _ (exec_build 22 #[(0, .const (.int .u8 10))] rfl #[(0, .int .u8 10)] (by simp only [List.map_toArray, List.map_cons, List.map_nil]; rfl) _ (build_five _ _)) ?_) | ((with_reducible refine at_build 23 #[(0, .tmp 24), (1, .tmp 25)] ?_); refine wpList_run rfl _ (exec_build 23 #[(0, .tmp 24), (1, .tmp 25)] rfl #[(0, .agg #[.int .u8 40, .int .u8 0, .int .u8 0, .int .u8 0, .int .u8 0]), (1, .agg #[.int .u8 10, .int .u8 0, .int .u8 0, .int .u8 0, .int .u8 0])] (by simp only [List.map_toArray, List.map_cons, List.map_nil]; rfl) _ (build_fives _ _ _)) ?_) | ((with_reducible refine at_build 26 #[(1, .tmp 26)] ?_); refine wpList_run rfl _ (exec_build 26 #[(1, .tmp 26)] rfl #[(1, .agg #[.int .u8 40, .int .u8 0, .int .u8 0, .int .u8 0, .int .u8 0, .int .u8 10, .int .u8 0, .int .u8 0, .int .u8 0, .int .u8 0, .int .u8 0, .int .u8 0, .int .u8 0, .int .u8 0, .int .u8 0, .int .u8 0, .int .u8 0, .int .u8 0, .int .u8 0, .int .u8 0, .int .u8 0, .int .u8 0, .int .u8 0, .int .u8 0, .int .u8 0])] (by simp only [List.map_toArray, List.map_cons, List.map_nil]; rfl) _ (HBT.out _)) ?_) | fail)
  refine (two_conf w1 40).mono ?_
  rintro e w2 ⟨cc, K, tb, nb, lb, B1, B2, B3, d1, d2, d3, rfl, hb2, hin⟩
  have hb12 : Below w.heap.size w w2 := HB1.out.trans (hb2.mono HB1.out.size)
  obtain ⟨n0, hF⟩ := cf_facts hin.ok (by rw [two_len]; omega)
  obtain ⟨v, u, hv, hu, hval, hgo, hub, hun⟩ := two_geo hF two40
  have hfr := fresh_all (w := w2) hin hF (by rw [two_len]; omega)
  have HC := hide (And.intro hin (And.intro hv (And.intro hu (And.intro hval hb12))))
  have HGO := hide (And.intro hgo (And.intro hub hun))
  have HFR := hide hfr
  have HN := hide (And.intro hF.ge hF.le)
  clear hin hv hu hval hgo hub hun hfr hb12 hF hb2 HBT HB1
  go_wp2_with fail
  refine HFR.out.mono ?_
  rintro e w3 ⟨i, D, rfl, hx, hDn, hall, hown, hll, hb3⟩
  have his := hall 0 v HC.out.2.1
  rw [HC.out.2.2.1] at his
  have HX3 := hide hx
  have HOWN := hide (show ∀ k, i.own k → w2.heap.size ≤ k from hown)
  have HB23 := hide hb3
  have HIS := hide (And.intro hDn (And.intro his (show u.Ok D.length by rw [hDn]; exact HGO.out.1)))
  have hop := fun (W : World) (hW : Below w2.heap.size w2 W) (tt : Nat) => gopen_yes (tt := tt) (HC.out.1.below hW) HC.out.2.1 (by rw [HC.out.2.2.1]; exact HC.out.2.2.2.1)
  rw [HC.out.2.2.1, show ((0 : Nat) : Int) = 0 from rfl] at hop
  have HOP := hide hop
  clear hb3 hx hown his hall hll hDn HFR hop
  go_wp2_with fail
  refine (HOP.out w3 HB23.out i.tt).mono ?_
  rintro e w4 ⟨gg, rfl, -, hG, hb4⟩
  have HA4 : Hid (GAt w4 i ⟨D, [], 0⟩ gg u 0 GS.fresh) := hide ⟨HX3.out.below hb4, hG, HIS.out.2.2, HIS.out.2.1, GS.fresh_ok⟩
  have HB24 := hide (HB23.out.trans (hb4.mono HB23.out.size))
  clear hG hb4 HX3
  have hmk := gs_make (k := 2) HA4.out (by simp) rfl
  obtain ⟨m1, m2, m3⟩ := fresh_make4 (g := u) (by rw [HGO.out.2.2]; omega)
  rw [m1, m2, m3, show (((2 : UInt8).toNat : Nat) : Int) = 2 from rfl] at hmk
  have HMK := hide hmk
  clear hmk m1 m2 m3
  go_wp2_with fail
  refine HMK.out.mono ?_
  rintro e w5 ⟨rfl, s5, ha5, hs5, ht5⟩
  have HA5 := hide ha5
  have HB25 := hide (HB24.out.trans ((ht5.mono HB24.out.size (S' := fun _ => False) (fun k hk h => by have := HOWN.out k h; omega)).below fun _ _ h => h))
  have HI5 : Hid (s5.In (dk u 4 (blks (16 * 0)) fun _ => 0) ∧ G4.cnt 48 = nkeys (blks (16 * 0)) ∧ s5.D = D ∧ s5.bad = 0) := hide ⟨(hs5.in_ (K := []) (fun x hx => absurd hx (by simp))).mono (fun x hx => by
    rw [List.nil_append, List.mem_singleton] at hx
    rw [hx]
    exact List.mem_cons_of_mem _ List.mem_cons_self), by rw [g4_cnt]; rfl, hs5.D, hs5.bad⟩
  clear ha5 hs5 ht5 HMK HA4 HB24
  go_upto_region 8 with (fail)
  refine at_world (fun W => ∃ sb, sb = w5.heap.size ∧ Below w5.heap.size w5 W ∧ Blk W sb 9 #[.string ⟨#[97]⟩, .string ⟨#[98]⟩, .string ⟨#[111, 116, 104, 101, 114]⟩]) ⟨_, rfl, (Below.refl _ _).alloc (Nat.le_refl _) _, Blk.new _ _ _⟩ (fun w6 h6 => ?_)
  obtain ⟨sb, hsb, hb6, hS6⟩ := h6
  rw [← hsb]
  have HA6 := hide (HA5.out.below hb6)
  have HB26 := hide (HB25.out.trans (hb6.mono HB25.out.size))
  have HS6 := hide hS6
  have HSO := hide (show ¬ i.own sb from HA5.out.tx.other_new (Nat.le_of_eq hsb.symm))
  have HD6 := hide (And.intro (g4_four u fun _ => 0) (g4_one u fun _ => 0))
  clear hsb hb6 hS6 HA5 HB25
  go_loopg [12, 48] 3 (fun gh x12 x48 wr => ∃ (k : Nat) (s : Sto) (G : GS) (κ : Nat → Nat), k ≤ 3 ∧ gh = 3 - k ∧ x48 = .int .i64 (k : Int) ∧ Hid (GAt wr i s gg u 0 G) ∧ Hid (DirN G u 4 (abo.take k) κ ∧ DirN G u 1 [] fun _ => 0) ∧ Hid (s.In (dk u 4 (blks (16 * k)) κ) ∧ G.cnt 48 = nkeys (blks (16 * k)) ∧ s.D = D ∧ s.bad = 0) ∧ Hid (Below w2.heap.size w2 wr) ∧ Hid (Blk wr sb 9 #[.string ⟨#[97]⟩, .string ⟨#[98]⟩, .string ⟨#[111, 116, 104, 101, 114]⟩]))
  case atStart => exact ⟨0, _, G4, fun _ => 0, Nat.zero_le _, rfl, rfl, HA6, HD6, HI5, HB26, HS6⟩
  case round =>
    clear HA6 HD6 HI5 HS6 HB26
    obtain ⟨k, s, G, κ, hk, hgh, rfl, HA, HD, HI, HB, HS⟩ := hrel
    have HGH := hide hgh
    clear hgh
    rcases Nat.lt_or_ge k 3 with hkl | hkl
    · obtain ⟨e, he⟩ : ∃ e, abo[k]? = some e := ⟨_, List.getElem?_eq_getElem (by show k < 3; exact hkl)⟩
      have hc : wr.cell? ⟨sb, k, none⟩ = some (.string e.name) := by
        have h0 := HS.out.cell k
        rw [h0]
        have : k = 0 ∨ k = 1 ∨ k = 2 := by omega
        rcases this with rfl | rfl | rfl <;> cases he <;> rfl
      have sl := HS.out.lt
      obtain ⟨hn0, hn7⟩ := abo_name k e he
      obtain ⟨hno, hadd, hat⟩ := abo_add k e he
      have hev : (⟨e.name, 7⟩ : EntV) = e := by rw [← hn7]
      have hda := dadd_ok (num := 4) (nm := e.name) (v := 7) HA.out HI.out.1 (Nat.le_trans (dk_length _ _ _ _) (by omega)) (by omega) (by rw [HGO.out.2.2]; omega) (by rw [HGO.out.2.1]; omega) HD.out.1 hn0 (by decide) hno hat
      rw [hev, hadd, show ((4 : Nat) : Int) = 4 from rfl, show (((7 : UInt16).toNat : Nat) : Int) = 7 from rfl] at hda
      have HDA := hide hda
      have t1 : decide ((k : Int) < 3) = true := by simp; omega
      have t1' : (k : Int) < 3 := by omega
      have e64 : IntKind.i64.wrap ((k : Int) + 1) = (k : Int) + 1 := IntWalk.i64_in _ (by omega)
      clear he hn0 hn7 hno hadd hat hev hda
      go_wp2_with fail
      refine HDA.out.mono ?_
      rintro e_ w7 (⟨rfl, hful⟩ | ⟨rfl, s7, G7, κ7, T7, ha7, hst7, ht7⟩)
      · exfalso
        have h1 := hful.1
        rw [HGO.out.2.1, HI.out.2.1] at h1
        rw [abo_len k (by omega), abo_len (k + 1) (by omega)] at h1
        have q1 := blks_small (n := k + 1) (by omega)
        have q2 := nkeys_small q1
        omega
      · have hi7 : s7.In (dk u 4 (blks (16 * (k + 1))) κ7) ∧ G7.cnt 48 = nkeys (blks (16 * (k + 1))) ∧ s7.D = D ∧ s7.bad = 0 := by
          have h1 := hst7
          have h2 := h1.cnt
          have e1 := abo_len k (by omega)
          have e2 := abo_len (k + 1) (by omega)
          rw [e1, e2, HGO.out.2.1, HI.out.2.1] at h2
          have h3 : DStep s s7 u G G7 4 (abo.take k) (abo.take (k + 1)) κ κ7 (dk u 4 (blks (16 * (abo.take k).length)) κ) T7 := by rw [e1]; exact h1
          have h4 := h3.inn' (by omega) (by rw [e2]; have := blks_small (n := k + 1) (by omega); omega)
          rw [e2] at h4
          exact ⟨h4, by omega, h1.stay.D.trans HI.out.2.2.1, h1.stay.bad.trans HI.out.2.2.2⟩
        have HA7 := hide ha7
        have HD7 := hide (And.intro hst7.dir (HD.out.2.mov hst7.mov (by omega) (no_blocks' _ _ _)))
        have HI7 := hide hi7
        have HB7 := hide (HB.out.trans ((ht7.mono HB.out.size (S' := fun _ => False) (fun k hk h => by have := HOWN.out k h; omega)).below fun _ _ h => h))
        have HS7 := hide (HS.out.tch ht7 HS.out.lt HSO.out)
        clear ha7 hst7 hi7 ht7 HDA hc sl HA HD HI HB HS
        go_wp2_with fail
        go_roundg (3 - (k + 1))
        case rel => exact ⟨k + 1, s7, G7, κ7, by omega, rfl, by first | rfl | go_num, HA7, HD7, HI7, HB7, HS7⟩
        case measure => have := HGH.out; omega
    · have hk3 : k = 3 := by omega
      have t1 : decide ((k : Int) < 3) = false := by simp; omega
      have t1' : ¬ (k : Int) < 3 := by omega
      have HD3 : Hid (DirN G u 4 abo κ ∧ DirN G u 1 [] fun _ => 0) := hide (by have h0 := HD.out; rw [hk3] at h0; exact h0)
      have hcom := commit_ok HA.out.tx HI.out.2.2.2
      have HCOM := hide hcom
      have HSD := hide HI.out.2.2.1
      clear hk hkl hk3 hcom HD HI HS HSO
      go_wp2_with fail
      refine HCOM.out.mono ?_
      rintro e_ w9 ⟨lp, rfl, hp, hx9, ht9⟩
      have HT9 := hide (HB.out.trans ((ht9.mono HB.out.size (S' := fun _ => False) (fun k hk h => by have := HOWN.out k h; omega)).below fun _ _ h => h))
      have hu9 : u.Ok n0 := HGO.out.1
      have HI9 : Hid ((commitD s lp).length = n0 ∧ Sto.Is ⟨commitD s lp, [], 0⟩ u G ∧ G.Ok) := hide ⟨by rw [commit_len, HSD.out]; exact HIS.out.1, is_commit HA.out.is hu9 HA.out.tx.ok hp, HA.out.gok⟩
      have HL9 := hide hx9.log
      have HDR := hide (show i.dd < w9.heap.size ∧ i.rr < w9.heap.size ∧ w2.heap.size ≤ i.dd ∧ w2.heap.size ≤ i.rr from ⟨hx9.log.disk.dlt, hx9.log.disk.row.lt, HOWN.out _ (.inr (.inr (.inl rfl))), HOWN.out _ (.inr (.inr (.inr rfl)))⟩)
      have HDD := hide (And.intro HD3.out.2 (And.intro HD3.out.1 (no_blocks (fun _ => 0) (prOf (blks (16 * abo.length))) κ)))
      clear hp hx9 ht9 hu9 HCOM HA HSD HB HIS HD3
      generalize commitD s lp = D9 at *
      go_upto_block 2 with (fail)
      go_cut [13, 14, 15, 16, 17, 18, 19] from 67 to 119 (fun x13 x14 x15 x16 x17 x18 x19 wc => ∃ (Dk : List BlkV) (G : GS) (κ1 κ4 : Nat → Nat) (l : List EntV), Hid (Tch w9.heap.size (fun x => x = i.dd ∨ x = i.rr) w9 wc) ∧ Hid (LogAt wc i.ll i.dd i.rr Dk) ∧ Hid (Dk.length = n0 ∧ Sto.Is ⟨Dk, [], 0⟩ u G ∧ G.Ok) ∧ Hid (DirN G u 1 l κ1 ∧ DirN G u 4 abo κ4 ∧ Apart (prOf (blks (16 * l.length))) κ1 (prOf (blks (16 * abo.length))) κ4))
      case first =>
        go_wp2_with fail
        go_loopg [13, 14, 15, 16, 17, 18, 19, 67] n (fun gh x13 x14 x15 x16 x17 x18 x19 x67 wr => ∃ (k : Nat) (Dk : List BlkV) (G : GS) (κ1 κ4 : Nat → Nat) (l : List EntV), k ≤ n ∧ gh = n - k ∧ x67 = .int .i64 (k : Int) ∧ Hid (l.length ≤ k ∧ k ≤ 41) ∧ Hid (Tch w9.heap.size (fun x => x = i.dd ∨ x = i.rr) w9 wr) ∧ Hid (LogAt wr i.ll i.dd i.rr Dk) ∧ Hid (Dk.length = n0 ∧ Sto.Is ⟨Dk, [], 0⟩ u G ∧ G.Ok) ∧ Hid (DirN G u 1 l κ1 ∧ DirN G u 4 abo κ4 ∧ Apart (prOf (blks (16 * l.length))) κ1 (prOf (blks (16 * abo.length))) κ4))
        case atStart => exact ⟨0, D9, G, fun _ => 0, κ, [], Nat.zero_le _, rfl, rfl, hide ⟨Nat.le_refl _, by omega⟩, hide (Tch.refl _ _ _), HL9, HI9, HDD⟩
        case round =>
          clear HI9 HL9 HDD G κ D9
          obtain ⟨k, Dk, G, κ1, κ4, l, hk, hgh, rfl, HK, HT, HL, HI, HD⟩ := hrel
          have HGH := hide hgh
          clear hgh
          have HD32 := hide (show 32 ≤ Dk.length from by rw [HI.out.1]; exact HN.out.1)
          have HBr : Hid (Below w2.heap.size w2 wr) := hide (HT9.out.trans ((HT.out.mono HT9.out.size (S' := fun _ => False) (fun k hk h => by
            have := HDR.out
            rcases h with h | h <;> omega)).below fun _ _ h => h))
          have HBW := hide (HC.out.2.2.2.2.trans (HBr.out.mono HC.out.2.2.2.2.size))
          rcases Nat.lt_or_ge k n with hkl | hkl
          rotate_left
          · have t1 : decide ((k : Int) < (n : Int)) = false := by simp; omega
            have t1' : ¬ (k : Int) < (n : Int) := by omega
            clear hkl hk HK
            go_wp2
            go_meet
            case rel => exact ⟨Dk, G, κ1, κ4, l, HT, HL, HI, HD⟩
          · obtain ⟨a, ha⟩ : ∃ a, L[k]? = some a := ⟨_, List.getElem?_eq_getElem (by have := HLO.out.1; omega)⟩
            obtain ⟨ba, oa, rfl, hba, hra⟩ := (HRA.out.below HBW.out).dact (by omega)
            have hra' := hra k a ha
            have hname := actname_ok a
            obtain ⟨hk8, hn8, hm16⟩ := HLO.out.2 a (List.mem_of_getElem? ha)
            obtain ⟨nm, hnm⟩ : ∃ nm, a.nm = nm := ⟨_, rfl⟩
            rw [hnm] at hname
            obtain ⟨ak, an, am, tx, raw⟩ := a
            simp only at hk8 hm16
            have hac : DAct.cells ⟨ak, an, am, tx, raw⟩ = [.int .u8 (ak : Int), .int .u8 (an : Int), .int .u16 (am : Int), .string tx, .bool raw] := rfl
            rw [hac] at hra' hname
            have hsz : (Tryz.prog.info? 136).map (·.size) = some ([.int .u8 (ak : Int), .int .u8 (an : Int), .int .u16 (am : Int), .string tx, .bool raw] : List Value).length := by
              have : (Tryz.prog.info? 136).map (·.size) = some 5 := by kernel_rfl
              rw [this]; rfl
            have HRG := hide hra'
            have HNAME := hide hname
            have HSZ := hide hsz
            have HAK := hide (And.intro hk8 hm16)
            have t1 : decide ((k : Int) < (n : Int)) = true := by simp; omega
            have t1' : (k : Int) < (n : Int) := by omega
            have e64 : IntKind.i64.wrap ((k : Int) + 1) = (k : Int) + 1 := IntWalk.i64_in _ (by have := HN63.out; omega)
            clear ha hra hra' hname hsz hba hn8 hk8 hm16 hnm hac
            go_upto_region 17 with (first | ((with_reducible refine at_load 136 (.tmp 70) ?_); refine wpList_load_mid rfl 136 (.tmp 70) rfl ba (oa + k * 5) (by rfl) [.int .u8 (ak : Int), .int .u8 (an : Int), .int .u16 (am : Int), .string tx, .bool raw] _ HRG.out Tryz.underlying136 rfl HSZ.out ?_) | fail)
            refine at_world (fun W => ∃ z, z = wr.heap.size ∧ Below wr.heap.size wr W ∧ Blk W z 136 #[.int .u8 (ak : Int), .int .u8 (an : Int), .int .u16 (am : Int), .string tx, .bool raw]) ⟨_, rfl, (Below.refl _ _).alloc (Nat.le_refl _) _, Blk.new _ _ _⟩ (fun w10 h10 => ?_)
            obtain ⟨z, hz, hb10, hZ10⟩ := h10
            rw [← hz]
            have HB10 := hide hb10
            have HL10 := hide (HL.out.below hb10)
            have HZ10 := hide hZ10
            have HZN := hide hz
            have z3 := hZ10.cell 3
            have zl := hZ10.lt
            clear hz hZ10 HRG HSZ
            have HT10 := hide (HT.out.trans ((Tch.of_below hb10).mono HT.out.size fun _ _ h => h))
            clear hb10
            by_cases hk40 : 40 < k
            · have t2 : decide ((40 : Int) < (k : Int)) = true := by simp; omega
              have t2' : (40 : Int) < (k : Int) := by omega
              clear hk40 hk hkl
              go_wp2
              go_meet
              case rel => exact ⟨Dk, G, κ1, κ4, l, HT10, HL10, HI, HD⟩
            have t2 : decide ((40 : Int) < (k : Int)) = false := by simp; omega
            have t2' : ¬ (40 : Int) < (k : Int) := by omega
            by_cases htx : 200 < tx.size
            · have t3 : decide ((200 : Int) < (tx.size : Int)) = true := by simp; omega
              have t3' : (200 : Int) < (tx.size : Int) := by omega
              clear hk40 hk hkl htx
              go_wp2
              go_meet
              case rel => exact ⟨Dk, G, κ1, κ4, l, HT10, HL10, HI, HD⟩
            have t3 : decide ((200 : Int) < (tx.size : Int)) = false := by simp; omega
            have t3' : ¬ (200 : Int) < (tx.size : Int) := by omega
            have HK40 := hide (And.intro hk40 hkl)
            clear hk40 htx hk hkl
            have hbeg := begin_ok HL10.out HD32.out
            have HBEG := hide hbeg
            clear hbeg
            go_wp2_with fail
            refine HBEG.out.mono ?_
            rintro e w11 ⟨tt, mq, rfl, htt, hmq, hx11, hb11⟩
            obtain ⟨ii, hii⟩ : ∃ ii : Ids, Ids.mk tt mq i.ll i.dd i.rr = ii := ⟨_, rfl⟩
            have htt' : tt = ii.tt := by rw [← hii]
            rw [hii] at hx11
            subst htt'
            have HX11 := hide hx11
            have HB11 := hide (HB10.out.trans (hb11.mono HB10.out.size))
            have HII := hide (And.intro hii (And.intro htt hmq))
            have HOL := hide (show ∀ k, k < w9.heap.size → ii.own k → k = i.dd ∨ k = i.rr from by
              have h0 := HT.out.size
              have h1 := HB10.out.size
              rintro k hk (e | e | e | e)
              · omega
              · rw [← hii] at e; simp only at e; omega
              · rw [← hii] at e; exact .inl e
              · rw [← hii] at e; exact .inr e)
            have HZ11 := hide (HZ10.out.below hb11 HZ10.out.lt)
            have HZO := hide (show ¬ ii.own z from by
              have h0 := HL10.out.disk.dlt
              have h1 := HT.out.size
              have h2 := HZN.out
              have h3 := HDR.out
              have h4 := HZ10.out.lt
              rintro (e | e | e | e)
              · omega
              · rw [← hii] at e; simp only at e; omega
              · rw [← hii] at e; simp only at e; omega
              · rw [← hii] at e; simp only at e; omega)
            clear hii htt hmq hx11 hb11 z3 zl t1 t1' t2 t2' t3 t3' HBEG HZ10
            go_wp2_with fail
            refine (HOP.out w11 (HBr.out.trans (HB11.out.mono HBr.out.size)) ii.tt).mono ?_
            rintro e w12 ⟨g2, rfl, -, hG12, hb12⟩
            have hug : u.Ok Dk.length := by rw [HI.out.1]; exact HGO.out.1
            have HA12 : Hid (GAt w12 ii ⟨Dk, [], 0⟩ g2 u 0 G) := hide ⟨HX11.out.below hb12, hG12, hug, HI.out.2.1, HI.out.2.2⟩
            have HB12 := hide (HB11.out.trans (hb12.mono HB11.out.size))
            have HZ12 := hide (HZ11.out.below hb12 HZ11.out.lt)
            clear hug hG12 hb12 HX11 HB11 HZ11
            obtain ⟨r, hr, hr2⟩ : ∃ r : Nat, am % 200 = r ∧ r < 200 := ⟨_, rfl, Nat.mod_lt _ (by omega)⟩
            obtain ⟨v, hv⟩ : ∃ v : UInt16, v = UInt16.ofNat (1 + r) := ⟨_, rfl⟩
            have hvn : v.toNat = 1 + r := by rw [hv, UInt16.toNat_ofNat', Nat.mod_eq_of_lt (by omega)]
            have r1 : ((am : Int)).tmod 200 = (r : Int) := by rw [Int.tmod_eq_emod_of_nonneg (by omega)]; omega
            have r2 : IntKind.u16.wrap (1 + (r : Int)) = (v.toNat : Int) := by rw [IntKind.wrap_u16, hvn]; omega
            have HV := hide (show v ≠ 0 from fun h => by rw [h] at hvn; have : (0 : UInt16).toNat = 0 := rfl; omega)
            clear hr hr2 hv hvn
            go_upto_region 20 with (fail)
            go_cut [18] from 88 to 95 (fun x18 wc => ∃ y, x18 = .pointer (some ⟨y, 0, none⟩) ∧ Hid (Below w12.heap.size w12 wc ∧ w12.heap.size ≤ y) ∧ Hid (Blk wc y 125 #[.string nm, .int .u16 (v.toNat : Int)]))
            case first =>
              refine wp_region_tree (.q 0 (.q 2 (.q 3 (.q 4 (.q 5 (.br 1 (.q 6 (.x 7 (.x 8 .nil))) 7 (.x 1 (.q 6 (.x 8 .nil))))))))) (fun W => Below w12.heap.size w12 W) (by kernel_rfl) (by kernel_rfl) (Below.refl _ _).drew ?_
              refine wpT_q (v := .agg #[.int .u8 (ak : Int), .int .u8 (an : Int), .int .u16 (am : Int), .string tx, .bool raw]) (by simp only [List.getElem?_toArray, List.getElem?_cons_succ, List.getElem?_cons_zero]; try rfl) (by rfl) (fun W hW => exec_load_blk 136 (.tmp 14) rfl z _ _ _ rfl (HZ12.out.below hW HZ12.out.lt) Tryz.underlying136 rfl (by kernel_rfl)) ?_
              try simp only [Act.put, List.setIfInBounds_toArray, List.set_cons_zero, List.set_cons_succ]
              iterate 4 (refine wpT_q (v := ?_) (by simp only [List.getElem?_toArray, List.getElem?_cons_succ, List.getElem?_cons_zero]; try rfl) (by rfl) (fun W hW => ?_) ?_; rotate_left; (focus ((have c2 := (HZ12.out.below hW HZ12.out.lt).cell 2; have cl := (HZ12.out.below hW HZ12.out.lt).lt; go_simp); try with_reducible rfl)); try simp only [Act.put, List.setIfInBounds_toArray, List.set_cons_zero, List.set_cons_succ])
              refine wpT_br ?_ ?_
              · refine wpT_x (by simp only [List.getElem?_toArray, List.getElem?_cons_succ, List.getElem?_cons_zero]; try rfl) (by rfl) (fun K hK => ?_)
                go_simp
                refine (HNAME.out _).mono ?_
                rintro e w7 ⟨rfl, hb7⟩
                have hb7 : Below w12.heap.size w12 w7 := (Below.refl _ _).drew.trans hb7
                refine hK _ _ _ (fun _ h => h) hb7 ?_
                clear hK K
                try simp only [Act.put, List.setIfInBounds_toArray, List.set_cons_zero, List.set_cons_succ]
                iterate 1 (refine wpT_q (v := ?_) (by simp only [List.getElem?_toArray, List.getElem?_cons_succ, List.getElem?_cons_zero]; try rfl) (by rfl) (fun W hW => ?_) ?_; rotate_left; (focus ((go_simp); try with_reducible rfl)); try simp only [Act.put, List.setIfInBounds_toArray, List.set_cons_zero, List.set_cons_succ])
                refine wpT_x (by simp only [List.getElem?_toArray, List.getElem?_cons_succ, List.getElem?_cons_zero]; try rfl) (by rfl) (fun K hK => ?_)
                refine wp_alloc_as 125 rfl _ (zero_ent1 _) ?_
                have hb8 : Below w12.heap.size w12 (w7.alloc (.cells EntV.zero.cells.toArray 125)) := hb7.alloc hb7.size _
                refine hK _ _ _ (fun _ h => h) hb8 ?_
                clear hK K
                try simp only [Act.put, List.setIfInBounds_toArray, List.set_cons_zero, List.set_cons_succ]
                refine wpT_x (by simp only [List.getElem?_toArray, List.getElem?_cons_succ, List.getElem?_cons_zero]; try rfl) (by rfl) (fun K hK => ?_)
                refine wp_store_blk 125 (.tmp 18) (.tmp 94) rfl w7.heap.size 125 _ _ (by rfl) (by rfl) (Blk.new _ _ _) (by exact size_ent) (by simp [EntV.cells]) (by simp [Value.oneCell']) (fun hG => ?_)
                have hb9 : Below w12.heap.size w12 ((w7.alloc (.cells EntV.zero.cells.toArray 125)).setRow w7.heap.size #[.string nm, .int .u16 (v.toNat : Int)]) := below_setRow hb8 hb7.size _
                refine hK _ _ _ (fun _ h => h) hb9 ?_
                have HF := hide (And.intro hb9 hb7.size)
                have HG9 := hide hG
                clear hK K hb7 hb8 hb9 hG
                try simp only [Act.put, List.setIfInBounds_toArray, List.set_cons_zero, List.set_cons_succ]
                refine wpT_nil ?_
                go_wp2
                go_meet
                case rel => exact ⟨_, rfl, HF, HG9⟩
              · refine wpT_x (by simp only [List.getElem?_toArray, List.getElem?_cons_succ, List.getElem?_cons_zero]; try rfl) (by rfl) (fun K hK => ?_)
                refine wp_alloc_as 125 rfl _ (zero_ent1 _) ?_
                have hb7 : Below w12.heap.size w12 (w12.drew.alloc (.cells EntV.zero.cells.toArray 125)) := (Below.refl _ _).drew.alloc (Nat.le_refl _) _
                have hG1 := Blk.new w12.drew 125 EntV.zero.cells.toArray
                refine hK _ _ _ (fun _ h => h) hb7 ?_
                clear hK K
                try simp only [Act.put, List.setIfInBounds_toArray, List.set_cons_zero, List.set_cons_succ]
                refine wpT_x (by simp only [List.getElem?_toArray, List.getElem?_cons_succ, List.getElem?_cons_zero]; try rfl) (by rfl) (fun K hK => ?_)
                go_simp
                refine (HNAME.out _).mono ?_
                rintro e w7 ⟨rfl, hb8⟩
                have hG2 := hG1.below hb8 hG1.lt
                have hb8 : Below w12.heap.size w12 w7 := hb7.trans (hb8.mono hb7.size)
                refine hK _ _ _ (fun _ h => h) hb8 ?_
                clear hK K
                try simp only [Act.put, List.setIfInBounds_toArray, List.set_cons_zero, List.set_cons_succ]
                iterate 1 (refine wpT_q (v := ?_) (by simp only [List.getElem?_toArray, List.getElem?_cons_succ, List.getElem?_cons_zero]; try rfl) (by rfl) (fun W hW => ?_) ?_; rotate_left; (focus ((go_simp); try with_reducible rfl)); try simp only [Act.put, List.setIfInBounds_toArray, List.set_cons_zero, List.set_cons_succ])
                refine wpT_x (by simp only [List.getElem?_toArray, List.getElem?_cons_succ, List.getElem?_cons_zero]; try rfl) (by rfl) (fun K hK => ?_)
                refine wp_store_blk 125 (.tmp 18) (.tmp 94) rfl w12.heap.size 125 _ _ (by rfl) (by rfl) hG2 (by exact size_ent) (by simp [EntV.zero, EntV.cells]) (by simp [Value.oneCell']) (fun hG => ?_)
                have hb9 : Below w12.heap.size w12 (w7.setRow w12.heap.size #[.string nm, .int .u16 (v.toNat : Int)]) := below_setRow hb8 (Nat.le_refl _) _
                refine hK _ _ _ (fun _ h => h) hb9 ?_
                have HF := hide (And.intro hb9 (Nat.le_refl w12.heap.size))
                have HG9 := hide hG
                clear hK K hb7 hb8 hb9 hG hG1 hG2
                try simp only [Act.put, List.setIfInBounds_toArray, List.set_cons_zero, List.set_cons_succ]
                refine wpT_nil ?_
                go_wp2
                go_meet
                case rel => exact ⟨_, rfl, HF, HG9⟩
            case rest =>
              clear r1 r2
              obtain ⟨y, rfl, HBC, HE⟩ := hcut
              have HA13 := hide (HA12.out.below HBC.out.1)
              have HT13 : Hid (Tch w9.heap.size (fun x => x = i.dd ∨ x = i.rr) w9 wc) := hide (HT.out.trans ((Tch.of_below (HB12.out.trans (HBC.out.1.mono HB12.out.size))).mono HT.out.size fun _ _ h => h))
              have HE13 := HE
              have hz13 := HZ12.out.below HBC.out.1 HZ12.out.lt
              have z0 := hz13.cell 0
              have zl := hz13.lt
              have y0 := HE13.out.cell 0
              have y1 := HE13.out.cell 1
              have yl := HE13.out.lt
              obtain ⟨q, hq, hq4⟩ : ∃ q : Nat, ak % 4 = q ∧ q < 4 := ⟨_, rfl, Nat.mod_lt _ (by omega)⟩
              have km : ((ak : Int)).tmod 4 = (q : Int) := by rw [Int.tmod_eq_emod_of_nonneg (by omega)]; omega
              clear hz13 hq HA12 HZ12 HE
              obtain rfl | rfl | hq : q = 0 ∨ q = 1 ∨ (q = 2 ∨ q = 3) := by omega
              · clear hq4
                have hcall := drop_out (num := 1) (nm := nm) HA13.out (by omega) (by rw [HGO.out.2.2]; omega) (by rw [HGO.out.2.1]; omega) HD.out.1
                rw [show ((1 : Nat) : Int) = 1 from rfl] at hcall
                have HCALL := hide hcall
                clear hcall
                go_wp2_with fail
                refine HCALL.out.mono ?_
                rintro e w14 ⟨cd, rfl, ⟨hc, s', G', ha, hsD, ht⟩ | ⟨rfl, l', hl', s', G', κ', T, ha, hst, ht⟩⟩
                · have tc : (cd == 0) = false := by rw [beq_eq_false_iff_ne]; exact hc
                  have HT14 := hide (HT13.out.trans (ht.mono HT13.out.size HOL.out))
                  have HL14 : Hid (LogAt w14 i.ll i.dd i.rr Dk) := hide (by
                    have h0 := ha.tx.log
                    rw [hsD] at h0
                    exact h0.ids HII.out.1)
                  clear hc ha hsD ht HCALL y0 y1 yl z0 zl km HA13 HE13 HT13
                  go_wp2_with fail
                  go_roundg (n - (k + 1))
                  case rel => exact ⟨k + 1, Dk, G, κ1, κ4, l, by have := HK40.out; omega, rfl, by first | rfl | go_num, hide (by have := HK.out; have := HK40.out; omega), HT14, HL14, HI, HD⟩
                  case measure => have := HGH.out; have := HK40.out; omega
                · have hcom := commit_ok ha.tx hst.stay.bad
                  have HCOM := hide hcom
                  have HA14 := hide ha
                  have HST := hide hst
                  have HLL := hide hl'
                  have HT14 := hide (HT13.out.trans (ht.mono HT13.out.size HOL.out))
                  clear hcom ha hst ht hl' HCALL y0 y1 yl z0 zl km HA13 HE13 HT13
                  go_wp2_with fail
                  refine HCOM.out.mono ?_
                  rintro e w15 ⟨lp, rfl, hp, hx15, ht15⟩
                  have HT15 := hide (HT14.out.trans (ht15.mono HT14.out.size HOL.out))
                  have HL15 : Hid (LogAt w15 i.ll i.dd i.rr (commitD s' lp)) := hide (hx15.log.ids HII.out.1)
                  have hun : u.Ok n0 := HGO.out.1
                  have HI15 : Hid ((commitD s' lp).length = n0 ∧ Sto.Is ⟨commitD s' lp, [], 0⟩ u G' ∧ G'.Ok) := hide ⟨by rw [commit_len, HST.out.stay.D]; exact HI.out.1, is_commit HA14.out.is hun HA14.out.tx.ok hp, HA14.out.gok⟩
                  have HD15 := hide (And.intro HST.out.dir (And.intro (HD.out.2.1.mov HST.out.mov (by omega) HD.out.2.2) (Apart.mov HD.out.2.1.file.tree HST.out.mov HD.out.2.2)))
                  clear hp hx15 ht15 hun HCOM HA14 HT14
                  go_wp2_with fail
                  go_roundg (n - (k + 1))
                  case rel => exact ⟨k + 1, _, G', κ', κ4, l', by have := HK40.out; omega, rfl, by first | rfl | go_num, hide (by have := HK.out; have := HK40.out; have := HLL.out; omega), HT15, HL15, HI15, HD15⟩
                  case measure => have := HGH.out; have := HK40.out; omega
              · clear hq4
                have hcall := turn_out (num := 1) (nm := nm) (v := v) HA13.out (by omega) (by rw [HGO.out.2.2]; omega) (by rw [HGO.out.2.1]; omega) HD.out.1 HV.out
                rw [show ((1 : Nat) : Int) = 1 from rfl] at hcall
                have HCALL := hide hcall
                clear hcall
                go_wp2_with (first | ((with_reducible refine at_load 125 (.tmp 18) ?_); refine wpList_load_blk rfl 125 (.tmp 18) rfl y _ _ _ (by rfl) HE13.out Tryz.underlying125 rfl (by exact size_ent) ?_) | fail)
                refine HCALL.out.mono ?_
                rintro e w14 ⟨cd, rfl, ⟨hc, s', G', ha, hsD, ht⟩ | ⟨rfl, l', hl', s', G', κ', T, ha, hst, ht⟩⟩
                · have tc : (cd == 0) = false := by rw [beq_eq_false_iff_ne]; exact hc
                  have HT14 := hide (HT13.out.trans (ht.mono HT13.out.size HOL.out))
                  have HL14 : Hid (LogAt w14 i.ll i.dd i.rr Dk) := hide (by
                    have h0 := ha.tx.log
                    rw [hsD] at h0
                    exact h0.ids HII.out.1)
                  clear hc ha hsD ht HCALL y0 y1 yl z0 zl km HA13 HE13 HT13
                  go_wp2_with fail
                  go_roundg (n - (k + 1))
                  case rel => exact ⟨k + 1, Dk, G, κ1, κ4, l, by have := HK40.out; omega, rfl, by first | rfl | go_num, hide (by have := HK.out; have := HK40.out; omega), HT14, HL14, HI, HD⟩
                  case measure => have := HGH.out; have := HK40.out; omega
                · have hcom := commit_ok ha.tx hst.stay.bad
                  have HCOM := hide hcom
                  have HA14 := hide ha
                  have HST := hide hst
                  have HLL := hide hl'
                  have HT14 := hide (HT13.out.trans (ht.mono HT13.out.size HOL.out))
                  clear hcom ha hst ht hl' HCALL y0 y1 yl z0 zl km HA13 HE13 HT13
                  go_wp2_with fail
                  refine HCOM.out.mono ?_
                  rintro e w15 ⟨lp, rfl, hp, hx15, ht15⟩
                  have HT15 := hide (HT14.out.trans (ht15.mono HT14.out.size HOL.out))
                  have HL15 : Hid (LogAt w15 i.ll i.dd i.rr (commitD s' lp)) := hide (hx15.log.ids HII.out.1)
                  have hun : u.Ok n0 := HGO.out.1
                  have HI15 : Hid ((commitD s' lp).length = n0 ∧ Sto.Is ⟨commitD s' lp, [], 0⟩ u G' ∧ G'.Ok) := hide ⟨by rw [commit_len, HST.out.stay.D]; exact HI.out.1, is_commit HA14.out.is hun HA14.out.tx.ok hp, HA14.out.gok⟩
                  have HD15 := hide (And.intro HST.out.dir (And.intro (HD.out.2.1.mov HST.out.mov (by omega) HD.out.2.2) (Apart.mov HD.out.2.1.file.tree HST.out.mov HD.out.2.2)))
                  clear hp hx15 ht15 hun HCOM HA14 HT14
                  go_wp2_with fail
                  go_roundg (n - (k + 1))
                  case rel => exact ⟨k + 1, _, G', κ', κ4, l', by have := HK40.out; omega, rfl, by first | rfl | go_num, hide (by have := HK.out; have := HK40.out; have := HLL.out; omega), HT15, HL15, HI15, HD15⟩
                  case measure => have := HGH.out; have := HK40.out; omega
              · clear hq4
                rcases hq with rfl | rfl
                · have hcall := add_out (num := 1) (nm := nm) (v := v) HA13.out (by omega) (by rw [HGO.out.2.2]; omega) (by rw [HGO.out.2.1]; omega) HD.out.1 (by have := HK.out; omega)
                  rw [show ((1 : Nat) : Int) = 1 from rfl] at hcall
                  have HCALL := hide hcall
                  clear hcall
                  go_wp2_with (first | ((with_reducible refine at_load 125 (.tmp 18) ?_); refine wpList_load_blk rfl 125 (.tmp 18) rfl y _ _ _ (by rfl) HE13.out Tryz.underlying125 rfl (by exact size_ent) ?_) | fail)
                  refine HCALL.out.mono ?_
                  rintro e w14 ⟨cd, rfl, ⟨hc, s', G', ha, hsD, ht⟩ | ⟨rfl, l', hl', s', G', κ', T, ha, hst, ht⟩⟩
                  · have tc : (cd == 0) = false := by rw [beq_eq_false_iff_ne]; exact hc
                    have HT14 := hide (HT13.out.trans (ht.mono HT13.out.size HOL.out))
                    have HL14 : Hid (LogAt w14 i.ll i.dd i.rr Dk) := hide (by
                      have h0 := ha.tx.log
                      rw [hsD] at h0
                      exact h0.ids HII.out.1)
                    clear hc ha hsD ht HCALL y0 y1 yl z0 zl km HA13 HE13 HT13
                    go_wp2_with fail
                    go_roundg (n - (k + 1))
                    case rel => exact ⟨k + 1, Dk, G, κ1, κ4, l, by have := HK40.out; omega, rfl, by first | rfl | go_num, hide (by have := HK.out; have := HK40.out; omega), HT14, HL14, HI, HD⟩
                    case measure => have := HGH.out; have := HK40.out; omega
                  · have hcom := commit_ok ha.tx hst.stay.bad
                    have HCOM := hide hcom
                    have HA14 := hide ha
                    have HST := hide hst
                    have HLL := hide hl'
                    have HT14 := hide (HT13.out.trans (ht.mono HT13.out.size HOL.out))
                    clear hcom ha hst ht hl' HCALL y0 y1 yl z0 zl km HA13 HE13 HT13
                    go_wp2_with fail
                    refine HCOM.out.mono ?_
                    rintro e w15 ⟨lp, rfl, hp, hx15, ht15⟩
                    have HT15 := hide (HT14.out.trans (ht15.mono HT14.out.size HOL.out))
                    have HL15 : Hid (LogAt w15 i.ll i.dd i.rr (commitD s' lp)) := hide (hx15.log.ids HII.out.1)
                    have hun : u.Ok n0 := HGO.out.1
                    have HI15 : Hid ((commitD s' lp).length = n0 ∧ Sto.Is ⟨commitD s' lp, [], 0⟩ u G' ∧ G'.Ok) := hide ⟨by rw [commit_len, HST.out.stay.D]; exact HI.out.1, is_commit HA14.out.is hun HA14.out.tx.ok hp, HA14.out.gok⟩
                    have HD15 := hide (And.intro HST.out.dir (And.intro (HD.out.2.1.mov HST.out.mov (by omega) HD.out.2.2) (Apart.mov HD.out.2.1.file.tree HST.out.mov HD.out.2.2)))
                    clear hp hx15 ht15 hun HCOM HA14 HT14
                    go_wp2_with fail
                    go_roundg (n - (k + 1))
                    case rel => exact ⟨k + 1, _, G', κ', κ4, l', by have := HK40.out; omega, rfl, by first | rfl | go_num, hide (by have := HK.out; have := HK40.out; have := HLL.out; omega), HT15, HL15, HI15, HD15⟩
                    case measure => have := HGH.out; have := HK40.out; omega
                · have hcall := add_out (num := 1) (nm := nm) (v := v) HA13.out (by omega) (by rw [HGO.out.2.2]; omega) (by rw [HGO.out.2.1]; omega) HD.out.1 (by have := HK.out; omega)
                  rw [show ((1 : Nat) : Int) = 1 from rfl] at hcall
                  have HCALL := hide hcall
                  clear hcall
                  go_wp2_with (first | ((with_reducible refine at_load 125 (.tmp 18) ?_); refine wpList_load_blk rfl 125 (.tmp 18) rfl y _ _ _ (by rfl) HE13.out Tryz.underlying125 rfl (by exact size_ent) ?_) | fail)
                  refine HCALL.out.mono ?_
                  rintro e w14 ⟨cd, rfl, ⟨hc, s', G', ha, hsD, ht⟩ | ⟨rfl, l', hl', s', G', κ', T, ha, hst, ht⟩⟩
                  · have tc : (cd == 0) = false := by rw [beq_eq_false_iff_ne]; exact hc
                    have HT14 := hide (HT13.out.trans (ht.mono HT13.out.size HOL.out))
                    have HL14 : Hid (LogAt w14 i.ll i.dd i.rr Dk) := hide (by
                      have h0 := ha.tx.log
                      rw [hsD] at h0
                      exact h0.ids HII.out.1)
                    clear hc ha hsD ht HCALL y0 y1 yl z0 zl km HA13 HE13 HT13
                    go_wp2_with fail
                    go_roundg (n - (k + 1))
                    case rel => exact ⟨k + 1, Dk, G, κ1, κ4, l, by have := HK40.out; omega, rfl, by first | rfl | go_num, hide (by have := HK.out; have := HK40.out; omega), HT14, HL14, HI, HD⟩
                    case measure => have := HGH.out; have := HK40.out; omega
                  · have hcom := commit_ok ha.tx hst.stay.bad
                    have HCOM := hide hcom
                    have HA14 := hide ha
                    have HST := hide hst
                    have HLL := hide hl'
                    have HT14 := hide (HT13.out.trans (ht.mono HT13.out.size HOL.out))
                    clear hcom ha hst ht hl' HCALL y0 y1 yl z0 zl km HA13 HE13 HT13
                    go_wp2_with fail
                    refine HCOM.out.mono ?_
                    rintro e w15 ⟨lp, rfl, hp, hx15, ht15⟩
                    have HT15 := hide (HT14.out.trans (ht15.mono HT14.out.size HOL.out))
                    have HL15 : Hid (LogAt w15 i.ll i.dd i.rr (commitD s' lp)) := hide (hx15.log.ids HII.out.1)
                    have hun : u.Ok n0 := HGO.out.1
                    have HI15 : Hid ((commitD s' lp).length = n0 ∧ Sto.Is ⟨commitD s' lp, [], 0⟩ u G' ∧ G'.Ok) := hide ⟨by rw [commit_len, HST.out.stay.D]; exact HI.out.1, is_commit HA14.out.is hun HA14.out.tx.ok hp, HA14.out.gok⟩
                    have HD15 := hide (And.intro HST.out.dir (And.intro (HD.out.2.1.mov HST.out.mov (by omega) HD.out.2.2) (Apart.mov HD.out.2.1.file.tree HST.out.mov HD.out.2.2)))
                    clear hp hx15 ht15 hun HCOM HA14 HT14
                    go_wp2_with fail
                    go_roundg (n - (k + 1))
                    case rel => exact ⟨k + 1, _, G', κ', κ4, l', by have := HK40.out; omega, rfl, by first | rfl | go_num, hide (by have := HK.out; have := HK40.out; have := HLL.out; omega), HT15, HL15, HI15, HD15⟩
                    case measure => have := HGH.out; have := HK40.out; omega
      case rest =>
        clear HI9 HL9 HDD G κ D9
        obtain ⟨Dk, G, κ1, κ4, l, HT, HL, HI, HD⟩ := hcut
        have HBr : Hid (Below w2.heap.size w2 wc) := hide (HT9.out.trans ((HT.out.mono HT9.out.size (S' := fun _ => False) (fun k hk h => by
          have := HDR.out
          rcases h with h | h <;> omega)).below fun _ _ h => h))
        have hbeg := begin_ok HL.out (show 32 ≤ Dk.length by rw [HI.out.1]; exact HN.out.1)
        have HBEG := hide hbeg
        clear hbeg t1 t1'
        go_wp2_with fail
        refine HBEG.out.mono ?_
        rintro e w11 ⟨tt, mq, rfl, htt, hmq, hx11, hb11⟩
        obtain ⟨ii, hii⟩ : ∃ ii : Ids, Ids.mk tt mq i.ll i.dd i.rr = ii := ⟨_, rfl⟩
        have htt' : tt = ii.tt := by rw [← hii]
        rw [hii] at hx11
        subst htt'
        have HX11 := hide hx11
        have HB11 := hide (HBr.out.trans (hb11.mono HBr.out.size))
        have HOL := hide (show ∀ k, ii.own k → w2.heap.size ≤ k from by
          have h0 := HBr.out.size
          have h1 := HDR.out
          rintro k (e | e | e | e)
          · omega
          · rw [← hii] at e; simp only at e; omega
          · rw [← hii] at e; simp only at e; omega
          · rw [← hii] at e; simp only at e; omega)
        clear hii htt hmq hx11 hb11 HBEG
        go_wp2_with fail
        refine (HOP.out w11 HB11.out ii.tt).mono ?_
        rintro e w12 ⟨g2, rfl, -, hG12, hb12⟩
        have hug : u.Ok Dk.length := by rw [HI.out.1]; exact HGO.out.1
        have HA12 : Hid (GAt w12 ii ⟨Dk, [], 0⟩ g2 u 0 G) := hide ⟨HX11.out.below hb12, hG12, hug, HI.out.2.1, HI.out.2.2⟩
        have HB12 := hide (HB11.out.trans (hb12.mono HB11.out.size))
        have hls := dlists (i := ii) (s := ⟨Dk, [], 0⟩) (gg := g2) (lab := 0) HD.out.2.1 (by omega) (by rw [HGO.out.2.2]; omega) w12 HA12.out
        rw [show live abo = abo from rfl, show abo.length = 3 from rfl, show ((4 : Nat) : Int) = 4 from rfl] at hls
        have HLS := hide hls
        clear hug hG12 hb12 HX11 HB11 hls
        go_wp2_with fail
        refine HLS.out.mono ?_
        rintro e w13 ⟨A13, c13, rfl, hown13, ha13, ht13⟩
        have HB13 := hide (HB12.out.trans ((ht13.mono HB12.out.size (S' := fun _ => False) (fun k hk h => by have := HOL.out k h; omega)).below fun _ _ h => h))
        have HR13 := hide (Rd.of_own hown13)
        clear hown13 ha13 ht13 HLS HA12
        have hsm := same_ents (w := w13.alloc (.cells (flat2 abo).toArray 125)) (c1 := c13) (c2 := 3) (A1 := A13) (A2 := some ⟨w13.heap.size, 0, none⟩) (l := abo) (n := 3) ((HR13.out.alloc (Nat.le_refl _) _).more (by simp)) (Rd.of_ents (Blk.new w13 125 (flat2 abo).toArray)) rfl (by omega) (by decide +kernel)
        rw [show (flat2 abo).toArray = #[.string ⟨#[97]⟩, .int .u16 7, .string ⟨#[98]⟩, .int .u16 7, .string ⟨#[111, 116, 104, 101, 114]⟩, .int .u16 7] from rfl] at hsm
        have HSM := hide hsm
        clear hsm
        go_wp2_with fail
        refine HSM.out.mono ?_
        rintro e w14 ⟨rfl, hb14⟩
        have HB14 := hide ((HB13.out.alloc HB13.out.size _).trans (hb14.mono (by have := HB13.out.size; simp; omega)))
        clear hb14 HSM
        go_wp2_with fail
        go_returns
        exact ⟨rfl, HC.out.2.2.2.2.trans (HB14.out.mono HC.out.2.2.2.2.size)⟩
end Go.Proofs.YthmkgohfeahdhaaGreat
namespace Go.Proofs.YthmkgohfeahdhaaGreat.lawDirApart
open Go.ChangeShapes Go.WideShapes Go.ChangeAt Go.RowKit Go.Joins
open Go.ChangeMaps (open_string shut_string)
set_option linter.unusedVariables false

theorem own : ownKnob Tryz.prog.godebug = none := by kernel_rfl
theorem laidOut : laidOutB Tryz.prog = true := by kernel_rfl

set_option maxRecDepth 100000 in
theorem lifted (os : Os) (started : os.Started) (H0 : Type) (enc : TypeId × Value → H0) :
    ReturnsInHanded {} Tryz.checked os 11 .any (Rows.dirApartSpec.pre6 enc Tryz.prog Tryz.f11 Rows.dirApartRow.domain false) (Rows.dirApartSpec.post enc Tryz.prog Tryz.f11 false true false false) := by
  refine returnsInHanded_of_change (C := Tryz.checked) own started (by kernel_rfl) Tryz.func11
    (ChangeSpec.witness6 (enc := enc) (C := Tryz.checked) false ⟨#[], #[.slice none 0 0], []⟩ 8 (by kernel_rfl) (by kernel_rfl) (by kernel_rfl) (by kernel_rfl)) ?_
  intro W base args ds gs before hval0 hW hcnd _
  have hval : ∀ (j : Nat) t v, Tryz.f11.params[j]? = some t → args[j]? = some v → Value.okWide Tryz.prog W .any base t v := hval0
  have hW' := hW
  obtain ⟨p, q, hA0, hV, rfl, hfz, hnd⟩ := hW
  have hA : DataW.TrodAll enc Tryz.prog W 0 (fun _ => true) true Tryz.f11.params.toList args.toList ds p := hA0
  rw [Tryz.params11] at hA hval
  obtain ⟨v0, vs0, d0, ds0, p0, q0, hargs, rfl, rfl, h0, r0⟩ := trodAll_cons hA
  obtain ⟨rfl, rfl, rfl⟩ := trodAll_nil r0
  obtain rfl : args = #[v0] := by cases args; simp_all
  obtain ⟨rfl, rfl⟩ := trodVars_none hV
  have k0 := h0
  have lt0 : ∀ x ∈ p0, x.block < W.heap.size := by obtain ⟨m, hm⟩ := k0; exact DataW.trod_lt m _ _ _ hm
  obtain ⟨A0, n0, c0, L0, rfl, hr0, hl0, hn0, hok0⟩ := open_dacts Tryz.underlying134 (by kernel_rfl) Tryz.underlying136 (by kernel_rfl) Tryz.underlying5 Tryz.underlying5 Tryz.underlying37 Tryz.underlying9 Tryz.underlying4 (hval 0 134 v0 rfl rfl) h0
  clear hA0 hval0
  refine (dapart_all hr0 hl0 hn0 hok0).mono fun e W' ⟨he, bel⟩ => ?_
  subst he
  exact ⟨_, rfl, _, _, _, [], _, [], hW', trodAll_mk1 (shut_bool Tryz.underlying4 _), (trodAll_cons_mk (Below.trod laidOut (by kernel_rfl) (of_decide_eq_true (by kernel_rfl)) k0 bel lt0) trodAll_mk0), rfl, bel.frame _, fun h => by cases h⟩

theorem over : Rows.dirApartRow.holds Tryz.pinned (OpenSpec.ofChange Rows.dirApartSpec) :=
  OpenClaim.holds_of_wide 11 Tryz.f11 rfl rfl rfl rfl rfl rfl rfl ⟨rfl, rfl, rfl, rfl, rfl⟩ rfl rfl rfl rfl rfl (by kernel_rfl) Tryz.func11 (by kernel_rfl)
    (of_decide_eq_true (by kernel_rfl)) (by unfold Func.isWrapper; first | (rw [if_pos (by decide +kernel)]; kernel_rfl) | (rw [if_neg (by decide +kernel)]; exact ⟨rfl, rfl⟩))
    (fun os started H0 enc _ => lifted os started H0 enc)

theorem proved : Rows.DirApartSaid := over
#print axioms proved
end Go.Proofs.YthmkgohfeahdhaaGreat.lawDirApart

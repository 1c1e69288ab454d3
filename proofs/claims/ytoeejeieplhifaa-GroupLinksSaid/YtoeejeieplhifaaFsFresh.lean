/- A fresh disk of a configuration: walked. -/
import Derived.Test.YtoeejeieplhifaaFsGS
import Derived.Test.YtoeejeieplhifaaFsAwake
namespace Go.Proofs.Ytoeejeieplhifaa
open Go.RowKit
set_option linter.unusedSimpArgs false
set_option linter.unusedVariables false

/-- a node that is there from the beginning -/
def freshN (k : UInt8) : NodeV := { NodeV.zero with kind := k, links := 1, gen := 1 }
def GS.freshTo : Nat → GS
  | 0 => GS.none
  | 1 => GS.none.set 1 (freshN 2)
  | 2 => (GS.none.set 1 (freshN 2)).set 2 (freshN 1)
  | _ => ((GS.none.set 1 (freshN 2)).set 2 (freshN 1)).set 3 (freshN 1)
/-- a group with its own nodes -/
def GS.fresh : GS := GS.freshTo 3
theorem GS.freshTo_ok : ∀ q, (GS.freshTo q).Ok
  | 0 => none_ok
  | 1 => none_ok.set 1 rfl rfl
  | 2 => (none_ok.set 1 rfl rfl).set 2 rfl rfl
  | _ + 3 => ((none_ok.set 1 rfl rfl).set 2 rfl rfl).set 3 rfl rfl
theorem GS.fresh_ok : GS.fresh.Ok := GS.freshTo_ok 3
theorem build_fresh (w : World) (k : UInt8) : (Instr.build 52 #[(0, .int .u8 (k.toNat : Int)), (1, .int .u8 1), (2, .int .u16 1)]).run Try.prog w = .ok (freshN k).val w := by kernel_rfl

/-- a configuration: what the laws need of it -/
structure CfFacts (R : List RegV) (n : Nat) : Prop where
  tot : totalOf 32 R = (n : Int)
  ge : 32 ≤ n
  le : n ≤ 65536
  geo : ∀ (k : Nat), k < R.length → ∃ (v : GeoV) (r : RegV), (geosOf 32 R)[k]? = some v ∧ R[k]? = some r ∧ (geoN v).Ok n ∧ (geoN v).val = .agg v.cells.toArray ∧ ((geoN v).blocks : Int) = r.blocks ∧ ((geoN v).nodes : Int) = r.nodes ∧ 4 ≤ (geoN v).blocks ∧ (geoN v).blocks ≤ 512 ∧ 4 ≤ (geoN v).nodes ∧ (geoN v).nodes ≤ 128
  apart : ∀ (j k : Nat) (v v' : GeoV), (geosOf 32 R)[j]? = some v → (geosOf 32 R)[k]? = some v' → j < k → (geoN v).data + (geoN v).blocks ≤ (geoN v').base
theorem geos_from {R : List RegV} (hok : ∀ r ∈ R, okReg r) : ∀ (a : Int) (k : Nat) (v : GeoV), (geosOf a R)[k]? = some v → a ≤ v.base := by
  induction R with
  | nil => intro a k v h; simp [geosOf] at h
  | cons r R ih =>
    intro a k v h
    cases k with
    | zero => simp only [geosOf, List.getElem?_cons_zero, Option.some.injEq] at h; subst h; exact Int.le_refl _
    | succ k =>
      simp only [geosOf, List.getElem?_cons_succ] at h
      have h1 := ih (fun x hx => hok x (by simp [hx])) _ k v h
      obtain ⟨_, k1, k2, k3, k4⟩ := hok r (by simp)
      have h2 : a ≤ (geoOf a r).end_ := by simp only [geoOf, GeoV.end_]; omega
      omega
theorem geos_apart {R : List RegV} (hok : ∀ r ∈ R, okReg r) : ∀ (a : Int) (j k : Nat) (v v' : GeoV), 0 ≤ a → (geosOf a R)[j]? = some v → (geosOf a R)[k]? = some v' → j < k → (geoN v).data + (geoN v).blocks ≤ (geoN v').base := by
  induction R with
  | nil => intro a j k v v' _ h; simp [geosOf] at h
  | cons r R ih =>
    intro a j k v v' ha h h' hjk
    obtain ⟨_, k1, k2, k3, k4⟩ := hok r (by simp)
    have h2 : a ≤ (geoOf a r).end_ := by simp only [geoOf, GeoV.end_]; omega
    obtain ⟨k, rfl⟩ : ∃ m, k = m + 1 := ⟨k - 1, by omega⟩
    simp only [geosOf, List.getElem?_cons_succ] at h'
    cases j with
    | zero =>
      simp only [geosOf, List.getElem?_cons_zero, Option.some.injEq] at h
      subst h
      have h3 := geos_from (fun x hx => hok x (by simp [hx])) _ k v' h'
      simp only [geoN, geoOf, GeoV.end_] at h3 ⊢
      omega
    | succ j =>
      simp only [geosOf, List.getElem?_cons_succ] at h
      exact ih (fun x hx => hok x (by simp [hx])) _ j k v v' (by omega) h h' (by omega)
theorem cf_facts {R : List RegV} (hok : ∀ r ∈ R, okReg r) (hl : R.length ≤ 5) : ∃ n, CfFacts R n := by
  have htb := total_bounds hok 32 (by omega)
  have hge := tot_ge hok 32
  refine ⟨(totalOf 32 R).toNat, by omega, by omega, by omega, fun k hk => ?_, fun j k v v' h h' hjk => geos_apart hok 32 j k v v' (by omega) h h' hjk⟩
  have hv : (geosOf 32 R)[k]? = some ((geosOf 32 R)[k]'(by rw [geosOf_length]; exact hk)) := List.getElem?_eq_getElem _
  obtain ⟨h1, h2, r, hr, h3, h4⟩ := geos_ok hok 32 k _ (by omega) (by omega) hv
  obtain ⟨_, b1, b2, b3, b4⟩ := hok r (List.mem_of_getElem? hr)
  exact ⟨_, r, hv, hr, h1, h2, h3, h4, by omega, by omega, by omega, by omega⟩
theorem SzFacts.cf {R : List RegV} {n : Nat} (h : SzFacts R n) (hok : ∀ r ∈ R, okReg r) : CfFacts R n :=
  ⟨h.tot, h.ge, h.le, h.geo, fun j k v v' h h' hjk => geos_apart hok 32 j k v v' (by omega) h h' hjk⟩
/-- the groups of a disk are what is said of each -/
def AllIs (R : List RegV) (D : List BlkV) (F : Nat → GS) : Prop := ∀ (k : Nat) (v : GeoV), (geosOf 32 R)[k]? = some v → Sto.Is ⟨D, [], 0⟩ (geoN v) (F k)
theorem CfFacts.sep {R : List RegV} {n : Nat} (h : CfFacts R n) {j k : Nat} {v v' : GeoV} (hv : (geosOf 32 R)[j]? = some v) (hv' : (geosOf 32 R)[k]? = some v') (hjk : j ≠ k) :
    (geoN v').data + (geoN v').blocks ≤ (geoN v).base ∨ (geoN v).data + (geoN v).blocks ≤ (geoN v').base := by
  rcases Nat.lt_or_gt_of_ne hjk with h1 | h1
  · exact .inr (h.apart j k v v' hv hv' h1)
  · exact .inl (h.apart k j v' v hv' hv h1)
theorem CfFacts.geo_ok {R : List RegV} {n : Nat} (h : CfFacts R n) {k : Nat} {v : GeoV} (hv : (geosOf 32 R)[k]? = some v) : (geoN v).Ok n := by
  have hk : k < R.length := by have := (List.getElem?_eq_some_iff.1 hv).1; rwa [geosOf_length] at this
  obtain ⟨v', r, hv', _, h1, _⟩ := h.geo k hk
  rw [hv] at hv'
  cases hv'
  exact h1
/-- a transaction in one group is written: the others are what they were -/
theorem AllIs.commit {R : List RegV} {n : Nat} {D : List BlkV} {F : Nat → GS} {s : Sto} {j : Nat} {v : GeoV} {G : GS} {L : List Nat} {l : List Nat} (h : AllIs R D F) (hc : CfFacts R n) (hs : s.Ok) (hv : (geosOf 32 R)[j]? = some v)
    (hst : Sto.Step ⟨D, [], 0⟩ s (geoN v) L) (hi : s.Is (geoN v) G) (hp : l.Perm (s.M.map (·.1))) : AllIs R (commitD s l) (upd F j G) := by
  intro k v' hv'
  have hu := hc.geo_ok hv'
  by_cases hjk : k = j
  · subst hjk
    rw [hv] at hv'
    cases hv'
    rw [upd_same]
    exact hi.commit hu hs hp
  · rw [upd_other _ _ hjk]
    exact ((h k v' hv').far hu hst (hc.sep hv hv' (fun e => hjk e.symm))).commit hu hs hp
theorem Tch.txn {B : Nat} {w0 w w' : World} {i : Ids} (h : Tch B (fun x => x = i.dd ∨ x = i.rr) w0 w) (ht : Tch w.heap.size i.own w w') (h1 : w.heap.size ≤ i.tt) (h2 : w.heap.size ≤ i.mm) (hB : B ≤ w.heap.size) : Tch B (fun x => x = i.dd ∨ x = i.rr) w0 w' :=
  h.trans (ht.mono hB fun k hk hs => by
    rcases hs with e | e | e | e
    · omega
    · omega
    · exact .inl e
    · exact .inr e)

def GeoN.zero : GeoN := ⟨0, 0, 0, 0, 0, 0⟩
theorem zero_geo (w : World) : (zeroValue 112).run Try.prog w = .ok (.agg GeoN.zero.cells.toArray) w := by kernel_rfl
/-- the kinds of a group's own nodes -/
def freshK (q : Nat) : UInt8 := if q = 0 then 2 else 1
theorem freshTo_succ : ∀ q, q < 3 → GS.freshTo (q + 1) = (GS.freshTo q).set (q + 1) (freshN (freshK q)) ∧ checkN (freshN (freshK q)) = true
  | 0, _ => ⟨rfl, rfl⟩
  | 1, _ => ⟨rfl, rfl⟩
  | 2, _ => ⟨rfl, rfl⟩
section
variable {B : Nat} {w w' : World} {c : Nat} {R : List RegV} {K : List MarkV} {tb nb lb : Nat} {A1 A2 A3 : Option Addr} {c1 c2 c3 : Nat}
set_option maxRecDepth 100000 in
set_option maxHeartbeats 3200000 in
theorem fresh_all {n : Nat} (hin : ConfIn B w c R K tb nb lb A1 A2 A3 c1 c2 c3) (hF : CfFacts R n) (hR5 : R.length ≤ 5) :
    Calls Try.prog 12 #[.pointer (some ⟨c, 0, none⟩)] w fun e w' => ∃ (i : Ids) (D : List BlkV), e = .returned (.tuple #[.pointer (some ⟨i.dd, 0, none⟩), .pointer (some ⟨i.ll, 0, none⟩), .pointer (some ⟨i.tt, 0, none⟩)]) ∧ TxAt w' i ⟨D, [], 0⟩ ∧ D.length = n ∧ AllIs R D (fun _ => GS.fresh) ∧ (∀ k, i.own k → w.heap.size ≤ k) ∧ w.heap.size ≤ i.ll ∧ Below w.heap.size w w' := by
  have hbeg := begun_ok (w := w) hin hF.tot hF.ge hF.le
  have HIN := hide hin
  have HF := hide hF
  clear hin hF
  go_enter Try.func12, Try.ntmps12
  go_wp2_with fail
  refine hbeg.mono ?_
  rintro e w1 ⟨i, rfl, hx, hown, hll, hb1⟩
  have HIN1 := hide (HIN.out.below hb1)
  have HL1 := hide hx.log
  have HB1 := hide hb1
  have HOWN := hide (And.intro hown hll)
  clear hx hown hll hb1 hbeg
  go_wp2_with fail
  refine (len_ok HIN1.out).mono ?_
  rintro e w_ ⟨rfl, hw_⟩
  have hw_ := hw_.symm
  subst hw_
  go_wp2_with fail
  go_loopg [22] R.length (fun gh x22 wr => ∃ (j : Nat) (Dk : List BlkV), j ≤ R.length ∧ gh = R.length - j ∧ x22 = .int .i64 (j : Int) ∧ Hid (Tch w1.heap.size (fun x => x = i.dd ∨ x = i.rr) w1 wr) ∧ Hid (LogAt wr i.ll i.dd i.rr Dk) ∧ Hid (Dk.length = n ∧ AllIs R Dk (fun k => if k < j then GS.fresh else GS.none)))
  case atStart =>
    exact ⟨0, begD n, Nat.zero_le _, rfl, rfl, hide (Tch.refl _ _ _), HL1, hide ⟨begD_length _, fun k v hv => begun_is (HF.out.geo_ok hv)⟩⟩
  case round =>
    obtain ⟨j, Dk, hj, hgh, rfl, HT, HL, HI⟩ := hrel
    have HGH := hide hgh
    clear hgh
    have HD32 := hide (show 32 ≤ Dk.length from by rw [HI.out.1]; exact HF.out.ge)
    have HBr : Hid (Below w.heap.size w wr) := hide (HB1.out.trans ((HT.out.mono HB1.out.size (S' := fun _ => False) (fun k hk h => by
      rcases h with h | h
      · have := HOWN.out.1 k (.inr (.inr (.inl h))); omega
      · have := HOWN.out.1 k (.inr (.inr (.inr h))); omega)).below fun _ _ h => h))
    rcases Nat.lt_or_ge j R.length with hjl | hjl
    · have hjz : (j : Int) < (R.length : Int) := by omega
      obtain ⟨v, r, hv, hr, hgo, hval, -, -, g4, g512, n4, n128⟩ := HF.out.geo j hjl
      go_wp2_with fail
      refine (begin_ok HL.out HD32.out).mono ?_
      rintro e w7 ⟨tt, mm, rfl, htt, hmm, hx7, hb7⟩
      obtain ⟨ii, hii⟩ : ∃ ii : Ids, Ids.mk tt mm i.ll i.dd i.rr = ii := ⟨_, rfl⟩
      have htt' : tt = ii.tt := by rw [← hii]
      rw [hii] at hx7
      subst htt'
      have hgeo := geo_ok (HIN.out.below (HBr.out.trans (hb7.mono HBr.out.size))) hv
      obtain ⟨u, hu⟩ : ∃ u, geoN v = u := ⟨_, rfl⟩
      have hval2 : (Value.agg #[.int .i64 v.base, .int .i64 v.bitmap, .int .i64 v.table, .int .i64 v.data, .int .i64 v.blocks, .int .i64 v.nodes]) = .agg u.cells.toArray := by rw [← hu]; exact hval.symm
      rw [hval2] at hgeo
      rw [hu] at hgo n4
      have HX7 := hide hx7
      have HB7 := hide hb7
      have HII := hide (And.intro hii (And.intro htt hmm))
      have HGE := hide hgeo
      have HV := hide (And.intro hv hu)
      have HGO := hide (And.intro hgo n4)
      clear hii htt hmm hx7 hb7 hgeo hu hval2 hval hv hr hgo g4 g512 n4 n128
      go_wp2_with fail
      refine HGE.out.mono ?_
      rintro e w8 ⟨rfl, hb8⟩
      have HX8 := hide (HX7.out.below hb8)
      have HB8 := hide (HB7.out.trans (hb8.mono HB7.out.size))
      clear hb8 HX7 HB7 HGE
      go_upto_region 7 with (first | ((with_reducible refine at_alloc 112 ?_); refine wpList_alloc_as rfl 112 rfl _ (zero_geo _) ?_) | ((with_reducible refine at_store 112 (.tmp 10) (.tmp 31) ?_); refine wpList_store_blk rfl 112 (.tmp 10) (.tmp 31) rfl w8.heap.size _ _ _ (by rfl) (by rfl) (Blk.new _ _ _) (size_geo u) rfl (geo_one u) (fun _ => ?_)) | fail)
      refine at_world (fun W => ∃ p, p = w8.heap.size ∧ Below w8.heap.size w8 W ∧ Blk W p 112 u.cells.toArray) ⟨_, rfl, below_setRow ((Below.refl _ _).alloc (Nat.le_refl _) _) (Nat.le_refl _) _, (Blk.new _ _ _).setRow_same _⟩ (fun w9 h9 => ?_)
      obtain ⟨p, hp, hb9, hP⟩ := h9
      rw [← hp]
      have HX9 := hide (HX8.out.below hb9)
      have HB9 := hide (HB8.out.trans (hb9.mono HB8.out.size))
      have HP9 := hide hP
      clear hp hb9 hP HX8 HB8
      go_wp2_with fail
      refine at_world (fun W => ∃ kb, kb = w9.heap.size ∧ kb < W.heap.size ∧ Below w9.heap.size w9 W ∧ ∀ q, q < 3 → W.cell? ⟨kb, q, none⟩ = some (.int .u8 ((freshK q).toNat : Int))) ⟨_, rfl, by simp, (Below.refl _ _).alloc (Nat.le_refl _) _, fun q hq => by
        obtain rfl | rfl | rfl : q = 0 ∨ q = 1 ∨ q = 2 := by omega
        · exact (Blk.new w9 _ _).cell 0
        · exact (Blk.new w9 _ _).cell 1
        · exact (Blk.new w9 _ _).cell 2⟩ (fun w10 h10 => ?_)
      obtain ⟨kb, hkb, kbl, hb10, hK10⟩ := h10
      rw [← hkb]
      have HX10 := hide (HX9.out.below hb10)
      have HB10 := hide (HB9.out.trans (hb10.mono HB9.out.size))
      have HP10 := hide (HP9.out.below hb10 HP9.out.lt)
      have HK10 := hide hK10
      have HKO := hide (show ¬ ii.own kb from fun hk => HX9.out.other_new (Nat.le_of_eq hkb.symm) hk)
      have HPO := hide (show ¬ ii.own p from HX10.out.other HP10.out (by decide) (by decide) (by decide))
      clear hkb hb10 hK10 HX9 HB9 HP9
      go_loopg [35] 3 (fun gh x35 wq => ∃ (q : Nat) (s : Sto) (L : List Nat), q ≤ 3 ∧ gh = 3 - q ∧ x35 = .int .i64 (q : Int) ∧ Hid (TxAt wq ii s) ∧ Hid (Tch w10.heap.size ii.own w10 wq) ∧ Hid (Sto.Step ⟨Dk, [], 0⟩ s u L ∧ s.Is u (GS.freshTo q) ∧ s.M.length ≤ q))
      case atStart =>
        refine ⟨0, _, [], by omega, rfl, rfl, HX10, hide (Tch.refl _ _ _), hide ⟨Sto.Step.refl _ _ _, ?_, Nat.le_refl _⟩⟩
        have := HI.out.2 j v HV.out.1
        rw [HV.out.2] at this
        have e : (if j < j then GS.fresh else GS.none) = GS.freshTo 0 := if_neg (by omega)
        simp only [e] at this
        exact this
      case round =>
        obtain ⟨q, s, L, hq, hgq, rfl, HXq, HTq, HSq⟩ := hrel
        have HGQ := hide hgq
        clear hgq
        have kbl' : kb < _ := Nat.lt_of_lt_of_le kbl HTq.out.size
        rcases Nat.lt_or_ge q 3 with hq3 | hq3
        · have hqz : (q : Int) < 3 := by omega
          have y := (World.cell?_of_block (w := w10) (a := ⟨kb, q, none⟩) (HTq.out.block kb kbl HKO.out)).trans (HK10.out q hq3)
          have HPq := hide (HP10.out.tch HTq.out HP10.out.lt HPO.out)
          have hD : s.D.length = n := by rw [HSq.out.1.D]; exact HI.out.1
          have hug : u.Ok s.D.length := by rw [hD]; exact HGO.out.1
          have hn4 := HGO.out.2
          obtain ⟨hfs, hck⟩ := freshTo_succ q hq3
          have hwr := write_node (num := q + 1) (n := freshN (freshK q)) HXq.out hug (by omega) (by omega) rfl hck (node_can hug (by have := HSq.out.2.2; omega) (by omega) (by omega))
          have hst := is_set (v := freshN (freshK q)) HXq.out.ok hug (by omega) (by omega) rfl HSq.out.2.1 (num := q + 1)
          have hbf := fun W => build_fresh W (freshK q)
          rw [← hfs] at hst
          rw [show ((q + 1 : Nat) : Int) = (q : Int) + 1 from by omega] at hwr
          have hml : (s.setNode u (q + 1) (freshN (freshK q))).M.length ≤ q + 1 := by
            unfold Sto.setNode
            have := Sto.put_len s (u.base + u.bitmap + (q + 1 - 1) / 2) (wrB (s.at_ (u.base + u.bitmap + (q + 1 - 1) / 2)) ((q + 1 - 1) % 2 * 32) (encN (freshN (freshK q))))
            have := HSq.out.2.2
            omega
          have HST := hide (And.intro (HSq.out.1.trans hst.2) (And.intro hst.1 hml))
          have e1 : IntKind.i64.wrap ((q : Int) + 1) = (q : Int) + 1 := IntWalk.i64_in _ (by omega)
          generalize s.setNode u (q + 1) (freshN (freshK q)) = s2 at hwr HST
          generalize freshK q = kk at y hwr hbf
          have HWR := hide hwr
          have HBF := hide hbf
          clear hfs hck hwr hst hbf hml hD hug hn4 HSq
          go_wp2_with (first | ((with_reducible refine at_load 112 (.tmp 10) ?_); refine wpList_load_blk rfl 112 (.tmp 10) rfl p _ _ _ (by rfl) HPq.out Try.underlying112 rfl (size_geo u) ?_) | ((with_reducible refine at_build 52 #[(0, .tmp 44), (1, .const (.int .u8 1)), (2, .const (.int .u16 1))] ?_); refine wpList_run rfl _ (exec_build 52 #[(0, .tmp 44), (1, .const (.int .u8 1)), (2, .const (.int .u16 1))] rfl #[(0, .int .u8 (kk.toNat : Int)), (1, .int .u8 1), (2, .int .u16 1)] (by simp only [List.map_toArray, List.map_cons, List.map_nil]; rfl) _ (HBF.out _)) ?_) | fail)
          refine HWR.out.mono ?_
          rintro e w11 ⟨rfl, hx11, ht11⟩
          have HX11 := hide hx11
          have HT11 := hide (HTq.out.trans (ht11.mono HTq.out.size fun _ _ h => h))
          clear hx11 ht11 HWR y kbl' HPq
          go_wp2
          go_roundg (3 - (q + 1))
          case rel => exact ⟨q + 1, s2, _, by omega, rfl, by first | rfl | go_num, HX11, HT11, HST⟩
          case measure => have := HGQ.out; omega
        · have hqe : q = 3 := by omega
          subst hqe
          clear kbl'
          have hcom := commit_ok HXq.out HSq.out.1.bad
          have HCOM := hide hcom
          clear hcom
          go_wp2_with fail
          refine HCOM.out.mono ?_
          rintro e w12 ⟨l, rfl, hp, hx12, ht12⟩
          have hDl : (commitD s l).length = n := by rw [commit_len, HSq.out.1.D]; exact HI.out.1
          have hall := AllIs.commit HI.out.2 HF.out HXq.out.ok HV.out.1 (by rw [HV.out.2]; exact HSq.out.1) (by rw [HV.out.2]; exact HSq.out.2.1) hp
          have hall2 : AllIs R (commitD s l) (fun k => if k < j + 1 then GS.fresh else GS.none) := fun k v hv => by
            have := hall k v hv
            have e : upd (fun k => if k < j then GS.fresh else GS.none) j (GS.freshTo 3) k = if k < j + 1 then GS.fresh else GS.none := by
              unfold upd
              by_cases h1 : k = j
              · rw [if_pos h1, if_pos (by omega)]; rfl
              · rw [if_neg h1]
                by_cases h2 : k < j
                · simp only [if_pos h2, if_pos (show k < j + 1 by omega)]
                · simp only [if_neg h2, if_neg (show ¬ k < j + 1 by omega)]
            rwa [e] at this
          have e := HII.out.1
          have HL12 : Hid (LogAt w12 i.ll i.dd i.rr (commitD s l)) := hide (by
            have h := hx12.log
            rw [← congrArg Ids.ll e, ← congrArg Ids.dd e, ← congrArg Ids.rr e] at h
            exact h)
          have hT := (Tch.of_below (S := ii.own) HB10.out).trans ((HTq.out.trans (ht12.mono HTq.out.size fun _ _ h => h)).mono HB10.out.size fun _ _ h => h)
          have HT12 : Hid (Tch w1.heap.size (fun x => x = i.dd ∨ x = i.rr) w1 w12) := hide (HT.out.trans (hT.mono HT.out.size (fun k hk h => by
            have h1 := HII.out.2.1
            have h2 := HII.out.2.2
            have h3 := HT.out.size
            rcases h with h | h | h | h
            · omega
            · rw [← e] at h; simp only at h; omega
            · rw [← e] at h; exact .inl h
            · rw [← e] at h; exact .inr h)))
          have HI12 := hide (And.intro hDl hall2)
          clear hp hx12 ht12 hDl hall hall2 e hT HCOM HSq
          go_wp2
          go_roundg (R.length - (j + 1))
          case rel => exact ⟨j + 1, _, by omega, rfl, by first | rfl | go_num, HT12, HL12, HI12⟩
          case measure => have := HGH.out; omega
    · have hje : decide ((j : Int) < R.length) = false := by simp; omega
      have hjR : R.length = j := by omega
      go_wp2_with fail
      refine (begin_ok HL.out HD32.out).mono ?_
      rintro e w7 ⟨tt, mm, rfl, htt, hmm, hx7, hb7⟩
      have HF7 := hide (And.intro hx7 (And.intro (HBr.out.trans (hb7.mono HBr.out.size)) (show (∀ k, Ids.own ⟨tt, mm, i.ll, i.dd, i.rr⟩ k → w.heap.size ≤ k) from by
        have := HBr.out.size
        have h1 := HOWN.out.1 i.dd (.inr (.inr (.inl rfl)))
        have h2 := HOWN.out.1 i.rr (.inr (.inr (.inr rfl)))
        rintro k (e | e | e | e) <;> simp only at e <;> omega)))
      have HJ := hide hjR
      clear htt hmm hx7 hb7 hjR
      go_wp2
      go_returns
      refine ⟨⟨tt, mm, i.ll, i.dd, i.rr⟩, Dk, rfl, HF7.out.1, HI.out.1, fun k v hv => ?_, HF7.out.2.2, HOWN.out.2, HF7.out.2.1⟩
      have hk : k < R.length := by have := (List.getElem?_eq_some_iff.1 hv).1; rwa [geosOf_length] at this
      have := HI.out.2 k v hv
      have e : (if k < j then GS.fresh else GS.none) = GS.fresh := if_pos (by have := HJ.out; omega)
      simp only [e] at this
      exact this
end
end Go.Proofs.Ytoeejeieplhifaa

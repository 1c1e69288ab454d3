/- FileLong: one file that grows as long as may be, in pieces, and is cut again: its bytes, its blocks, at each length: for every input the law returns true, and its arguments read as they did. -/
import Derived.Test.YthmkgohfeahdhaaGreatMRfa
import Derived.Test.YthmkgohfeahdhaaGreatMFib
import Derived.Test.YthmkgohfeahdhaaGreatMArg
import Derived.Test.YthmkgohfeahdhaaGreatRows
import Derived.WalkKit
import Derived.ProofKit
import Derived.OpenShut
import Derived.ShutString
import Derived.ChangeOld
import Derived.Below
import Derived.Lib.SmallJoins
namespace Go.Proofs.YthmkgohfeahdhaaGreat
open Go.RowKit
set_option linter.unusedSimpArgs false
set_option linter.unusedVariables false

/-- one label of many blocks -/
def longR : List RegV := [⟨[108, 111, 119], 0, 0, 300, 8, 1, 1, 1, 0⟩]
theorem long_ok : newE longR [] = 0 := by decide +kernel
theorem long_geo {n : Nat} (hF : CfFacts longR n) : ∃ v u, (geosOf 32 longR)[0]? = some v ∧ geoN v = u ∧ u.val = .agg v.cells.toArray ∧ u.Ok n ∧ u.blocks = 300 ∧ u.nodes = 8 := by
  obtain ⟨v, r, hv, hr, hgo, hval, hbl, hnd, -⟩ := hF.geo 0 (by decide)
  have hr2 : r = ⟨[108, 111, 119], 0, 0, 300, 8, 1, 1, 1, 0⟩ := (Option.some.inj hr).symm
  subst hr2
  exact ⟨v, _, hv, rfl, hval, hgo, by simp only at hbl; omega, by simp only at hnd; omega⟩
def wordsV (l : List UInt16) : List Value := l.map fun x => .int .u16 (x.toNat : Int)
/-- the document's nodes, the third one's bytes known -/
def LL (A : Option Addr) (l : List UInt8) (c : Nat) : List RNd := (rnewL 8).set 3 ((RNd.own 1).with A l c)
theorem LL_three (A : Option Addr) (l : List UInt8) (c : Nat) : (LL A l c)[3]? = some ((RNd.own 1).with A l c) := rfl
theorem LL_set (A A' : Option Addr) (l l' : List UInt8) (c c' : Nat) : (LL A l c).set 3 (((RNd.own 1).with A l c).with A' l' c') = LL A' l' c' := rfl
theorem with_l (n : RNd) (A : Option Addr) (l : List UInt8) (c : Nat) : (n.with A l c).l = l := rfl
theorem LL_len (A : Option Addr) (l : List UInt8) (c : Nat) : (LL A l c).length = 9 := rfl
theorem LL_small {A : Option Addr} {l : List UInt8} {c : Nat} (h : l.length ≤ 60000) : Small (LL A l c) := by
  refine ⟨by rw [LL_len]; omega, fun n hn => ?_⟩
  rcases List.mem_or_eq_of_mem_set hn with hn | rfl
  · have : ∀ n ∈ rnewL 8, n.l.length = 0 ∧ n.ps.length = 0 := by decide
    have := this n hn
    omega
  · exact ⟨h, Nat.zero_le _⟩
theorem LL_used (A : Option Addr) (l : List UInt8) (c : Nat) : usedTo 0 (LL A l c) 9 = need2 l.length := by
  have h := usedTo_set (tn := 0) (L := rnewL 8) (j := 3) (n := RNd.own 1) (n' := (RNd.own 1).with A l c) (by omega) rfl 9
  have h1 : usedTo 0 (rnewL 8) 9 = 0 := by decide
  have h2 : useN 0 3 (RNd.own 1) = 0 := by decide
  rw [h1, h2] at h
  simp only [show (3 : Nat) < 9 from by omega, if_true] at h
  have h3 : useN 0 3 ((RNd.own 1).with A l c) = need2 l.length := by
    unfold useN
    rw [if_neg (show ¬ ((RNd.own 1).with A l c).kind = 0 from (by decide : ¬ (1 : UInt8) = 0)), if_neg (by omega)]
    rfl
  rw [h3] at h
  unfold LL
  omega
theorem LL_start : rnewL 8 = LL none [] 0 := rfl
theorem need2_le {n : Nat} (h : n ≤ 16384) : need2 n ≤ 265 := by
  unfold need2
  exact nkeys_mono (b := 256) (by unfold blks; omega)
theorem FileAt.congr {G : GS} {m c len : Nat} {n : NodeV} {κ : Nat → Nat} {f f' : Nat → UInt8} (h : FileAt G m n c κ len f) (hf : ∀ j, j < len → f j = f' j) : FileAt G m n c κ len f' :=
  ⟨h.tree, h.cle, h.fit, fun j hj => (h.byte j hj).trans (hf j hj)⟩
theorem over_end {l d : List UInt8} {j : Nat} (hj : j < l.length + d.length) : over (fun j => l.getD j 0) l.length d d.length j = (l ++ d).getD j 0 := by
  unfold over
  by_cases h : l.length ≤ j
  · rw [if_pos ⟨h, hj⟩, List.getD_eq_getElem?_getD, List.getD_eq_getElem?_getD, List.getElem?_append_right h]
  · rw [if_neg (by omega)]
    show l.getD j 0 = _
    rw [List.getD_eq_getElem?_getD, List.getD_eq_getElem?_getD, List.getElem?_append_left (by omega)]
theorem check_sized {n n' : NodeV} {x : Nat} (h : n.same n') (hk : n.kind = 1) (hl : n.links ≠ 0) (hs : x ≤ 16384) : checkN (n'.sized x) = true := by
  have h1 : (n'.sized x).kind = 1 := h.1.trans hk
  have h2 : (n'.sized x).links = n.links := h.2.1
  have h3 : (n'.sized x).size.toNat = x := by
    show (UInt32.ofNat x).toNat = x
    rw [UInt32.toNat_ofNat', Nat.mod_eq_of_lt (by omega)]
  unfold checkN
  rw [h1, h2, h3]
  simp [hl]
  omega
theorem Rd.word {w : World} {B n : Nat} {A : Option Addr} {l : List UInt16} (h : Rd w B 1 A n (wordsV l)) {i : Nat} (hi : i < n) :
    ∃ b o, A = some ⟨b, o, none⟩ ∧ b < B ∧ ∀ j, j < n → w.cell? ⟨b, o + j, none⟩ = some (.int .u16 ((l.getD j 0).toNat : Int)) := by
  obtain ⟨b, o, rfl, hb, hc⟩ := h.2 (by omega)
  refine ⟨b, o, rfl, hb, fun j hj => ?_⟩
  have hl : l.length = n := by have := h.1; simpa [wordsV] using this
  have := hc j (.int .u16 ((l.getD j 0).toNat : Int)) (by unfold wordsV; rw [List.getElem?_map, List.getElem?_eq_getElem (by omega)]; simp [List.getD_eq_getElem?_getD, List.getElem?_eq_getElem (show j < l.length by omega)])
  exact this
section
variable {w w' : World} {mb nb cN tn tc blocks : Nat} {L : List RNd} {T : Option Addr}
set_option maxRecDepth 100000 in
set_option maxHeartbeats 1000000 in
/-- more bytes than may be -/
theorem rwrite_big {k off dl cap : Nat} {n : RNd} {A : Option Addr} (h : GrAt w mb nb L cN T tn tc blocks) (hL : L.length ≤ 200) (hk : L[k]? = some n) (hk0 : n.kind ≠ 0) (hoff : off ≤ n.l.length) (ho2 : off ≤ 16384) (hl : n.l.length ≤ 60000) (hlen : 16384 < off + dl) :
    Calls Tryz.prog 23 #[.pointer (some ⟨mb, 0, none⟩), .int .i64 (k : Int), .int .i64 (off : Int), .slice A dl cap] w fun e w' => e = .returned (.int .i64 11) ∧ w = w' := by
  have hkl : k < L.length := (List.getElem?_eq_some_iff.1 hk).1
  have c0 : w.cell? ⟨nb, k * 5, none⟩ = some (.int .u8 (n.kind.toNat : Int)) := h.r.cell hk (j := 0) (by omega)
  have c3 : w.cell? ⟨nb, k * 5 + 3, none⟩ = some (.slice n.A n.l.length n.c) := h.r.cell hk (j := 3) (by omega)
  have nbl := h.r.lt
  have m0 := h.m.cell 0
  have ml := h.m.lt
  have kz : ((n.kind.toNat : Int) == 0) = false := by
    rw [beq_eq_false_iff_ne]
    intro e
    exact hk0 (UInt8.toNat_inj.1 (by have : (0 : UInt8).toNat = 0 := rfl; omega))
  generalize L.length = N at *
  generalize n.l.length = nl at *
  have t1 : decide ((off : Int) < 0) = false := by simp
  have t2 : decide (nl < off) = false := by simp; omega
  have e1 : IntKind.i64.wrap (16384 - (off : Int)) = 16384 - (off : Int) := IntWalk.i64_in _ (by omega)
  have t3 : decide (16384 - (off : Int) < (dl : Int)) = true := by simp; omega
  have hkz : (k : Int) < (N : Int) := by omega
  clear h hk hk0
  go_enter Tryz.func23, Tryz.ntmps23
  go_wp2
  go_returns
  exact ⟨rfl, rfl⟩
theorem GrAt.avoid {i : Ids} {s : Sto} {gg : Nat} {g : GeoN} {lab : Int} {G : GS} (h : GrAt w mb nb L cN T tn tc blocks) (ha : GAt w i s gg g lab G) : ∀ k, k = nb → ¬ i.own k ∧ k ≠ i.ll ∧ k ≠ gg := by
  rintro k rfl
  obtain ⟨cur, hB, _⟩ := h.r.blk
  exact ⟨ha.tx.other hB (by decide) (by decide) (by decide), hB.ne ha.tx.log.log (by decide), hB.ne ha.gp (by decide)⟩
end
set_option maxRecDepth 100000 in
set_option maxHeartbeats 4000000 in
theorem long_all (w : World) {A : Option Addr} {n c : Nat} {l1 : List UInt8} {A2 : Option Addr} {n2 c2 : Nat} {l2 : List UInt16} (hr1 : Rd w w.heap.size 1 A n (bvs l1)) (hr2 : Rd w w.heap.size 1 A2 n2 (wordsV l2)) (hn : n ≤ 40) (hn2 : n2 ≤ 10) :
    Calls Tryz.prog 4 #[.slice A n c, .slice A2 n2 c2] w fun e w' => e = .returned (.bool true) ∧ Below w.heap.size w w' := by
  have HRA := hide hr1
  have HRB := hide hr2
  have t1 : decide ((40 : Int) < (n : Int)) = false := by simp; omega
  have t1' : ¬ (40 : Int) < (n : Int) := by omega
  have t2 : decide ((10 : Int) < (n2 : Int)) = false := by simp; omega
  have t2' : ¬ (10 : Int) < (n2 : Int) := by omega
  clear hr1 hr2
  go_enter Tryz.func4, Tryz.ntmps4
  go_wp2_with fail
  refine (awake8_ok w).mono ?_
  rintro e w1 ⟨rfl, hb1⟩
  have HB1 := hide hb1
  clear hb1
  go_wp2_with fail
  have hblk := Blk.new w1 41 (rcellsOf longR).toArray
  have hrd : Rd (w1.alloc (.cells (rcellsOf longR).toArray 41)) (w1.alloc (.cells (rcellsOf longR).toArray 41)).heap.size 9 (some ⟨w1.heap.size, 0, none⟩) longR.length (rcellsOf longR) := ⟨rfl, fun _ => ⟨w1.heap.size, 0, rfl, by simp, fun j u hu => by
    have := hblk.cell j
    rw [List.getElem?_toArray, hu] at this
    rw [Nat.zero_add]; exact this⟩⟩
  have hnew := new_ok (R := longR) (K := []) (w := w1.alloc (.cells (rcellsOf longR).toArray 41)) (A := some ⟨w1.heap.size, 0, none⟩) (cA := 1) (A' := none) (cA' := 0) hrd (Rd.nil _ _ _ _) (by decide) (by decide)
  have HNEW := hide hnew
  clear hblk hrd hnew t1 t1' t2 t2'
  refine HNEW.out.mono ?_
  rintro e w2 ⟨hb2, h0, -⟩
  obtain ⟨cc, tb, nb0, lb, B1, B2, B3, d1, d2, d3, rfl, hin⟩ := h0 long_ok
  have hb12 : Below w.heap.size w w2 := (HB1.out.alloc HB1.out.size _).trans (hb2.mono (by have := HB1.out.size; simp; omega))
  obtain ⟨nn, hF⟩ := cf_facts hin.ok (by decide)
  obtain ⟨v, u, hv, hu, hval, hgo, hub, hun⟩ := long_geo hF
  have hfr := fresh_all (w := w2) hin hF (by decide)
  have HC := hide (And.intro hin (And.intro hv (And.intro hu (And.intro hval hb12))))
  have HGO := hide (And.intro hgo (And.intro hub hun))
  have HFR := hide hfr
  have HN := hide (And.intro hF.ge hF.le)
  clear hin hv hu hval hgo hub hun hfr hb12 hF hb2 h0 HNEW HB1
  go_wp2_with fail
  refine HFR.out.mono ?_
  rintro e w3 ⟨i, D, rfl, hx, hDn, hall, hown, hll, hb3⟩
  have his := hall 0 v HC.out.2.1
  rw [HC.out.2.2.1] at his
  have HL3 := hide hx.log
  have HDR := hide (And.intro (hown i.dd (.inr (.inr (.inl rfl)))) (hown i.rr (.inr (.inr (.inr rfl)))))
  have HW23 := hide hb3
  have HIS := hide (And.intro hDn his)
  have hop := fun (W : World) (hW : Below w2.heap.size w2 W) (tt : Nat) => gopen_yes (tt := tt) (HC.out.1.below hW) HC.out.2.1 (by rw [HC.out.2.2.1]; exact HC.out.2.2.2.1)
  rw [HC.out.2.2.1] at hop
  rw [show ((0 : Nat) : Int) = 0 from rfl] at hop
  have HOP := hide hop
  clear hb3 hx hown his hall hll hDn HFR hop
  have hnw := rnew_ok w3 (nodes := 8) 300 (by omega) (by omega)
  rw [show ((8 : Nat) : Int) = 8 from rfl] at hnw
  have HNW := hide hnw
  clear hnw
  go_wp2_with fail
  refine HNW.out.mono ?_
  rintro e w4 ⟨nb, rfl, hr4, hnb, hb4⟩
  rw [LL_start] at hr4
  have HR4 := hide hr4
  have HNB := hide hnb
  have HB4 := hide hb4
  have hszg := size_rgroup (.slice (some ⟨nb, 0, none⟩) 9 9) (.slice none 0 0) (.int .i64 300)
  clear hr4 hnb hb4 HNW
  go_upto_region 8 with (first | ((with_reducible refine at_alloc 47 ?_); refine wpList_alloc_as rfl 47 rfl _ (zero_group _) ?_) | ((with_reducible refine at_store 47 (.tmp 10) (.tmp 52) ?_); refine wpList_store_blk rfl 47 (.tmp 10) (.tmp 52) rfl w4.heap.size _ _ _ (by rfl) (by rfl) (Blk.new _ _ _) hszg rfl (by simp [Value.oneCell']) (fun _ => ?_)) | fail)
  refine at_world (fun W => ∃ mb, mb = w4.heap.size ∧ Below w3.heap.size w3 W ∧ GrAt W mb nb (LL none [] 0) 9 none 0 0 300) ⟨_, rfl, below_setRow (HB4.out.alloc HB4.out.size _) HB4.out.size _, (Blk.new _ _ _).setRow_same _, ?_⟩ (fun w5 hw5 => ?_)
  · exact (HR4.out.below ((Below.refl _ _).alloc (Nat.le_refl _) _)).tch (Tch.setRow (S := (· = w4.heap.size)) (fun _ => rfl)) (fun g cur hB e => (Blk.new _ _ _).ne hB (by decide) e.symm) (fun g cur hB e => (Blk.new _ _ _).ne hB (by decide) e.symm) (fun g cur hB e => (Blk.new _ _ _).ne hB (by decide) e.symm)
  obtain ⟨mb, hmb, hb5, hgr5⟩ := hw5
  rw [← hmb]
  have HB5 := hide hb5
  have HGR5 := hide hgr5
  clear hmb hb5 hgr5 hszg HR4 HB4
  have HD0 := hide (show FileAt GS.fresh 300 (GS.fresh.nd 3) (blks 0) (fun _ => 0) 0 (fun j => ([] : List UInt8).getD j 0) from fresh_file _ _)
  go_wp2_with fail
  go_loopg [55] n (fun gh x55 wr => ∃ (k : Nat) (Dk : List BlkV) (G : GS) (κ : Nat → Nat) (l : List UInt8) (A3 : Option Addr) (c3 : Nat), k ≤ n ∧ gh = n - k ∧ x55 = .int .i64 (k : Int) ∧ Hid (l.length ≤ 16384) ∧ Hid (Tch w3.heap.size (fun x => x = i.dd ∨ x = i.rr) w3 wr) ∧ Hid (LogAt wr i.ll i.dd i.rr Dk) ∧ Hid (GrAt wr mb nb (LL A3 l c3) 9 none 0 0 300) ∧
      Hid (Dk.length = nn ∧ Sto.Is ⟨Dk, [], 0⟩ u G ∧ G.Ok ∧ G.cnt 300 = need2 l.length) ∧ Hid (FileAt G 300 (G.nd 3) (blks l.length) κ l.length (fun j => l.getD j 0) ∧ (G.nd 3).size.toNat = l.length ∧ (G.nd 3).kind = 1 ∧ (G.nd 3).links ≠ 0))
  case atStart => exact ⟨0, D, GS.fresh, fun _ => 0, [], none, 0, Nat.zero_le _, rfl, rfl, hide (by simp), hide ((Tch.of_below HB5.out)), hide (HL3.out.below HB5.out), HGR5, hide ⟨HIS.out.1, HIS.out.2, GS.fresh_ok, fresh_cnt _⟩, hide ⟨HD0.out, rfl, rfl, by decide⟩⟩
  case round =>
    obtain ⟨k, Dk, G, κ, l, A3, c3, hk, hgh, rfl, HLL, HT, HL, HGR, HI, HF⟩ := hrel
    have HGH := hide hgh
    clear hgh
    have HD32 := hide (show 32 ≤ Dk.length from by rw [HI.out.1]; exact HN.out.1)
    have HBr : Hid (Below w2.heap.size w2 wr) := hide (HW23.out.trans ((HT.out.mono HW23.out.size (S' := fun _ => False) (fun k hk h => by
      have := HDR.out
      rcases h with h | h <;> omega)).below fun _ _ h => h))
    rcases Nat.lt_or_ge k n with hkl | hkl
    · have t1 : decide ((k : Int) < (n : Int)) = true := by simp; omega
      have t1' : (k : Int) < (n : Int) := by omega
      have hRr := HRA.out.below (HC.out.2.2.2.2.trans (HBr.out.mono HC.out.2.2.2.2.size))
      obtain ⟨ba, oa, rfl, hba, hca⟩ := hRr.byte (i := k) hkl
      have ck := hca k hkl
      have bal : ba < wr.heap.size := by have := (HC.out.2.2.2.2.trans (HBr.out.mono HC.out.2.2.2.2.size)).size; omega
      have hp255 := (l1.getD k 0).toNat_lt
      generalize (l1.getD k 0).toNat = pc at *
      obtain ⟨nl, hnl⟩ : ∃ nl, 6 * pc % 700 = nl := ⟨_, rfl⟩
      have e1 : IntKind.i64.wrap (6 * (pc : Int)) = 6 * (pc : Int) := IntWalk.i64_in _ (by omega)
      have e2 : (6 * (pc : Int)).tmod 700 = (nl : Int) := by rw [Int.tmod_eq_emod_of_nonneg (by omega)]; omega
      have e3 : IntKind.i64.wrap (pc : Int) = (pc : Int) := IntWalk.i64_in _ (by omega)
      have e4 : IntKind.i64.wrap (nl : Int) = (nl : Int) := IntWalk.i64_in _ (by omega)
      have hnl7 : nl < 700 := by omega
      obtain ⟨bq, hbq⟩ : ∃ b : UInt8, IntKind.u8.wrap (k : Int) = (b.toNat : Int) := ⟨UInt8.ofNat k, by rw [IntKind.wrap_u8, UInt8.toNat_ofNat']; omega⟩
      have HNL := hide hnl7
      clear hRr hca hnl hnl7
      go_wp2_with fail
      refine (begin_ok HL.out HD32.out).mono ?_
      rintro e w7 ⟨tt, mq, rfl, htt, hmq, hx7, hb7⟩
      obtain ⟨ii, hii⟩ : ∃ ii : Ids, Ids.mk tt mq i.ll i.dd i.rr = ii := ⟨_, rfl⟩
      have htt' : tt = ii.tt := by rw [← hii]
      rw [hii] at hx7
      subst htt'
      have HX7 := hide hx7
      have HB7 := hide hb7
      have HII := hide (And.intro hii (And.intro htt hmq))
      have HOL := hide (show ∀ k, k < w3.heap.size → ii.own k → k = i.dd ∨ k = i.rr from by
        have h0 := HT.out.size
        rintro k hk (e | e | e | e)
        · omega
        · rw [← hii] at e; simp only at e; omega
        · rw [← hii] at e; exact .inl e
        · rw [← hii] at e; exact .inr e)
      clear hii htt hmq hx7 hb7 ck bal
      go_wp2_with fail
      refine (HOP.out w7 (HBr.out.trans (HB7.out.mono HBr.out.size)) ii.tt).mono ?_
      rintro e w8 ⟨gg, rfl, -, hG8, hb8⟩
      have hug : u.Ok Dk.length := by rw [HI.out.1]; exact HGO.out.1
      have HA8 : Hid (GAt w8 ii ⟨Dk, [], 0⟩ gg u 0 G) := hide ⟨HX7.out.below hb8, hG8, hug, HI.out.2.1, HI.out.2.2.1⟩
      have HB8 := hide (HB7.out.trans (hb8.mono HB7.out.size))
      clear hug hG8 hb8 HX7 HB7
      go_wp2_with fail
      refine (bytes_ok w8 (n := nl) bq (by have := HNL.out; omega)).mono ?_
      rintro e w9 ⟨p, rfl, hp, hB9, hb9⟩
      have HA9 := hide (HA8.out.below hb9)
      have HG9 := hide ((HGR.out.below HB8.out).below hb9)
      have HT9 := hide (HT.out.trans ((Tch.of_below (HB8.out.trans (hb9.mono HB8.out.size))).mono HT.out.size fun _ _ h => h))
      have HB9 := hide (HB8.out.trans (hb9.mono HB8.out.size))
      have hrd9 : Rd w9 w9.heap.size 1 (some ⟨p, 0, none⟩) (bytesL nl bq).length (bvs (bytesL nl bq)) := by rw [bytesL_length]; exact Rd.of_bytes hB9 (bytesL_length _ _)
      have hpo : ¬ ii.own p := HA8.out.tx.other_new hp
      have hpn : p ≠ nb := by have := HG9.out.r.blk.choose_spec.1; exact hB9.ne this (by decide)
      have HRD9 := hide (And.intro hrd9 (And.intro hpo (And.intro hpn hB9)))
      clear hp hB9 hb9 hrd9 hpo hpn hbq e1 e2 e3 e4 HA8 HB8 HGR
      -- the cells of the document's group
      have hcell : ∀ W, GrAt W mb nb (LL A3 l c3) 9 none 0 0 300 → W.cell? ⟨mb, 0, none⟩ = some (.slice (some ⟨nb, 0, none⟩) 9 9) ∧ W.cell? ⟨nb, 18, none⟩ = some (.slice A3 l.length c3) ∧ mb < W.heap.size ∧ nb < W.heap.size := fun W hW => ⟨hW.m.cell 0, hW.r.cell (LL_three A3 l c3) (j := 3) (by omega), hW.m.lt, hW.r.lt⟩
      have HCE := hide hcell
      clear hcell
      go_upto_region 14 with (fail)
      refine wp_region_ord [0, 1, 2, 3, 4, 5, 6, 7, 9, 10, 11, 12, 13, 14, 15, 8, 16, 17, 18, 19, 20, 21, 22] [0, 0, 0, 0, 0, 0, 0, 0, 0, 0, 0, 0, 0, 0, 0, 1, 2, 0, 0, 0, 2, 0, 0] (fun W => GrAt W mb nb (LL A3 l c3) 9 none 0 0 300) (by kernel_rfl) (by kernel_rfl) (HG9.out.below (Below.refl _ _).drew) ?_
      iterate 15 (refine wpOrd_q (v := ?_) (by rfl) (fun W hW => ?_) ?_; rotate_left; (focus ((obtain ⟨q1, q2, q3, q4⟩ := HCE.out W hW; go_simp); try with_reducible rfl)); try simp only [Act.put, List.setIfInBounds_toArray, List.set_cons_zero, List.set_cons_succ])
      by_cases hfit : l.length + nl ≤ 16384
      · have hsz : l.length + (bytesL nl bq).length = l.length + nl := by rw [bytesL_length]
        have hblk : max (blks l.length) (blks (l.length + nl)) = blks (l.length + nl) := by unfold blks; omega
        have hwr := write_file (num := 3) (off := l.length) (cap := nl) (c := blks l.length) (sz := l.length) (κ := κ) (f := fun j => l.getD j 0) (K0 := []) (data := bytesL nl bq) (A := some ⟨p, 0, none⟩) (HA9.out.below (Below.refl _ _).drew) (fun x hx => by simp at hx) (by omega) (by rw [HGO.out.2.2]; omega) (by rw [HGO.out.2.1]; omega)
          (by rw [HF.out.2.2.1]; decide) HF.out.2.1 (by rw [HGO.out.2.1]; exact HF.out.1) (Nat.le_refl _) (by rw [hsz]; exact hfit) HLL.out (by rw [bytesL_length]; omega) HRD9.out.1.drew (fun b hb => by cases hb; exact HRD9.out.2.1)
          (by rw [hsz]; unfold blks; have := HNL.out; omega) (by rw [hsz, hblk, List.length_nil]; unfold blks; have := HNL.out; split <;> omega) (Nat.le_refl _)
          (fun n' hs hd => check_grow hs HF.out.2.2.1 HF.out.2.2.2 (by rw [HF.out.2.1, hsz]; omega))
        rw [hsz, hblk, show max l.length (l.length + nl) = l.length + nl from by omega, bytesL_length, HGO.out.2.1, show ((3 : Nat) : Int) = 3 from rfl] at hwr
        have HWR := hide hwr
        have HFIT := hide hfit
        clear hwr hblk hsz hfit
        refine wpOrd_x (by rfl) (fun KK hKK => ?_)
        go_simp
        refine HWR.out.mono ?_
        rintro e w10 (⟨rfl, hno, -⟩ | ⟨rfl, s10, G10, κ10, ha10, hf10, hsz10, hk10, hl10, -, -, hcnt10, -, hst10, ht10⟩)
        · exfalso
          rw [HI.out.2.2.2] at hno
          have := need2_le HFIT.out
          unfold need2 at hno this
          omega
        have HG10 := hide ((HG9.out.below (Below.refl _ _).drew).own (HA9.out.below (Below.refl _ _).drew).tx ht10)
        refine hKK _ _ _ (fun _ h => h) HG10.out ?_
        have HA10 := hide ha10
        have HF10 : Hid (FileAt G10 300 (G10.nd 3) (blks (l.length + nl)) κ10 (l.length + nl) (fun j => (l ++ bytesL nl bq).getD j 0) ∧ (G10.nd 3).size.toNat = l.length + nl ∧ (G10.nd 3).kind = 1 ∧ (G10.nd 3).links ≠ 0) :=
          hide ⟨hf10.congr (fun j hj => by
            have := over_end (l := l) (d := bytesL nl bq) (j := j) (by rw [bytesL_length]; exact hj)
            rw [bytesL_length] at this
            exact this), hsz10, hk10.trans HF.out.2.2.1, by rw [hl10]; exact HF.out.2.2.2⟩
        have HCN : Hid (G10.cnt 300 = need2 (l ++ bytesL nl bq).length) := hide (by
          have h1 := HI.out.2.2.2
          rw [List.length_append, bytesL_length]
          unfold need2 at h1 ⊢
          omega)
        have HST := hide hst10
        have HT10 := hide (HT9.out.trans ((Tch.drew (Tch.refl _ _ w9)).trans (ht10.mono HT9.out.size HOL.out)))
        have hbp := HRD9.out.2.2.2.drew.tch ht10 HRD9.out.2.2.2.lt HRD9.out.2.1
        have hrw := rwrite_ok (k := 3) (off := l.length) (cap := nl) (data := bytesL nl bq) (A := some ⟨p, 0, none⟩) HG10.out (LL_small (by have := HLL.out; omega)) (by omega) (LL_three A3 l c3) (show (1 : UInt8) ≠ 0 by decide) (Nat.le_refl _) (show l.length ≤ l.length + _ from Nat.le_add_right _ _) (by rw [bytesL_length]; exact HFIT.out) (by rw [bytesL_length]; exact Rd.of_bytes hbp (bytesL_length _ _))
        simp only [with_l, LL_set, LL_len, List.take_length, bytesL_length, show ((3 : Nat) : Int) = 3 from rfl] at hrw
        have HRW := hide hrw
        clear ha10 hf10 hsz10 hk10 hl10 hcnt10 hst10 ht10 hbp hrw HWR hKK
        try simp only [Act.put, List.setIfInBounds_toArray, List.set_cons_zero, List.set_cons_succ]
        refine wpOrd_b (by rfl) (fun KK hKK => ?_)
        go_simp
        refine HRW.out.mono ?_
        rintro e w11 ⟨A4, c4, rfl, hg11, ht11⟩
        have hu : usedTo 0 (LL A4 (l ++ bytesL nl bq) c4) 9 ≤ 300 := by
          rw [LL_used]
          have := need2_le (n := (l ++ bytesL nl bq).length) (by rw [List.length_append, bytesL_length]; exact HFIT.out)
          omega
        rw [if_neg (by omega)]
        refine hKK (fun _ => True) _ _ trivial ?_
        have HG11 := hide hg11
        have HA11 := hide (HA10.out.apart ht11 (HG10.out.avoid HA10.out))
        have HT11 := hide (HT10.out.trans (ht11.mono HT10.out.size fun k hk1 hk2 => by have := HNB.out; omega))
        have hcom := commit_ok HA11.out.tx HST.out.bad
        have HCOM := hide hcom
        clear hg11 ht11 hu hcom HRW hKK
        try simp only [Act.put, List.setIfInBounds_toArray, List.set_cons_zero, List.set_cons_succ]
        iterate 3 (refine wpOrd_q (v := ?_) (by rfl) (fun W hW => ?_) ?_; rotate_left; (focus (go_simp; try with_reducible rfl)); try simp only [Act.put, List.setIfInBounds_toArray, List.set_cons_zero, List.set_cons_succ])
        refine wpOrd_b (by rfl) (fun KK hKK => ?_)
        go_simp
        refine HCOM.out.mono ?_
        rintro e w12 ⟨lp, rfl, hp, hx12, ht12⟩
        refine hKK (fun _ => True) _ _ trivial ?_
        have HG12 := hide (HG11.out.own HA11.out.tx ht12)
        have HT12 := hide (HT11.out.trans (ht12.mono HT11.out.size HOL.out))
        have HL12 : Hid (LogAt w12 i.ll i.dd i.rr (commitD s10 lp)) := hide (hx12.log.ids HII.out.1)
        have HI12 : Hid ((commitD s10 lp).length = nn ∧ Sto.Is ⟨commitD s10 lp, [], 0⟩ u G10 ∧ G10.Ok ∧ G10.cnt 300 = need2 (l ++ bytesL nl bq).length) := hide ⟨by rw [commit_len, HST.out.D]; exact HI.out.1, is_commit HA11.out.is HGO.out.1 HA11.out.tx.ok hp, HA11.out.gok, HCN.out⟩
        clear hp hx12 ht12 HCOM HG11 HT11 hKK
        try simp only [Act.put, List.setIfInBounds_toArray, List.set_cons_zero, List.set_cons_succ]
        iterate 2 (refine wpOrd_q (v := ?_) (by rfl) (fun W hW => ?_) ?_; rotate_left; (focus (go_simp; try with_reducible rfl)); try simp only [Act.put, List.setIfInBounds_toArray, List.set_cons_zero, List.set_cons_succ])
        refine wpOrd_nil ?_
        go_wp2
        go_roundg (n - (k + 1))
        case rel => exact ⟨k + 1, _, G10, κ10, l ++ bytesL nl bq, A4, c4, by omega, rfl, by first | rfl | go_num, hide (by rw [List.length_append, bytesL_length]; exact HFIT.out), HT12, HL12, HG12, HI12, hide (by rw [List.length_append, bytesL_length]; exact HF10.out)⟩
        case measure => have := HGH.out; omega
      · have hbig : 16384 < l.length + nl := by omega
        have hwr := write_big (num := 3) (off := l.length) (len := nl) (c := nl) (A := some ⟨p, 0, none⟩) (HA9.out.below (Below.refl _ _).drew) (by omega) (by rw [HGO.out.2.2]; omega) (by rw [HF.out.2.2.1]; decide) (by rw [HF.out.2.1]; omega) (by rw [HF.out.2.1]; exact HLL.out) hbig
        rw [show ((3 : Nat) : Int) = 3 from rfl] at hwr
        have HWR := hide hwr
        have HBIG := hide hbig
        clear hwr hbig hfit
        refine wpOrd_x (by rfl) (fun KK hKK => ?_)
        go_simp
        refine HWR.out.mono ?_
        rintro e w10 ⟨rfl, ha10, ht10⟩
        have HG10 := hide ((HG9.out.below (Below.refl _ _).drew).own (HA9.out.below (Below.refl _ _).drew).tx ht10)
        refine hKK _ _ _ (fun _ h => h) HG10.out ?_
        have HA10 := hide ha10
        have HT10 := hide (HT9.out.trans ((Tch.drew (Tch.refl _ _ w9)).trans (ht10.mono HT9.out.size HOL.out)))
        have hrw := rwrite_big (k := 3) (off := l.length) (dl := nl) (cap := nl) (A := some ⟨p, 0, none⟩) HG10.out (by rw [LL_len]; omega) (LL_three A3 l c3) (show (1 : UInt8) ≠ 0 by decide) (Nat.le_refl _) HLL.out (show l.length ≤ 60000 by have := HLL.out; omega) HBIG.out
        rw [show ((3 : Nat) : Int) = 3 from rfl] at hrw
        have HRW := hide hrw
        have hcom := commit_ok HA10.out.tx rfl
        have HCOM := hide hcom
        clear ha10 ht10 hrw hcom HWR hKK
        try simp only [Act.put, List.setIfInBounds_toArray, List.set_cons_zero, List.set_cons_succ]
        refine wpOrd_b (by rfl) (fun KK hKK => ?_)
        go_simp
        refine HRW.out.mono ?_
        rintro e w_ ⟨rfl, hw_⟩
        subst hw_
        refine hKK (fun _ => True) _ _ trivial ?_
        clear HRW hKK
        try simp only [Act.put, List.setIfInBounds_toArray, List.set_cons_zero, List.set_cons_succ]
        iterate 3 (refine wpOrd_q (v := ?_) (by rfl) (fun W hW => ?_) ?_; rotate_left; (focus (go_simp; try with_reducible rfl)); try simp only [Act.put, List.setIfInBounds_toArray, List.set_cons_zero, List.set_cons_succ])
        refine wpOrd_b (by rfl) (fun KK hKK => ?_)
        go_simp
        refine HCOM.out.mono ?_
        rintro e w12 ⟨lp, rfl, hp, hx12, ht12⟩
        refine hKK (fun _ => True) _ _ trivial ?_
        have HG12 := hide (HG10.out.own HA10.out.tx ht12)
        have HT12 := hide (HT10.out.trans (ht12.mono HT10.out.size HOL.out))
        have HL12 : Hid (LogAt w12 i.ll i.dd i.rr (commitD ⟨Dk, [], 0⟩ lp)) := hide (hx12.log.ids HII.out.1)
        have HI12 : Hid ((commitD ⟨Dk, [], 0⟩ lp).length = nn ∧ Sto.Is ⟨commitD ⟨Dk, [], 0⟩ lp, [], 0⟩ u G ∧ G.Ok ∧ G.cnt 300 = need2 l.length) := hide ⟨by rw [commit_len]; exact HI.out.1, is_commit HA10.out.is HGO.out.1 HA10.out.tx.ok hp, HA10.out.gok, HI.out.2.2.2⟩
        clear hp hx12 ht12 HCOM HG10 HT10 hKK
        try simp only [Act.put, List.setIfInBounds_toArray, List.set_cons_zero, List.set_cons_succ]
        iterate 2 (refine wpOrd_q (v := ?_) (by rfl) (fun W hW => ?_) ?_; rotate_left; (focus (go_simp; try with_reducible rfl)); try simp only [Act.put, List.setIfInBounds_toArray, List.set_cons_zero, List.set_cons_succ])
        refine wpOrd_nil ?_
        go_wp2
        go_roundg (n - (k + 1))
        case rel => exact ⟨k + 1, _, G, κ, l, A3, c3, by omega, rfl, by first | rfl | go_num, HLL, HT12, HL12, HG12, HI12, HF⟩
        case measure => have := HGH.out; omega
    · have hkn : k = n := by omega
      have t1 : decide ((k : Int) < (n : Int)) = false := by simp; omega
      have t1' : ¬ (k : Int) < (n : Int) := by omega
      clear hkl hk hkn HD32
      go_wp2_with fail
      clear t1 t1'
      have HT1 := HT
      have HL1 := HL
      have HG1 := HGR
      have HI1 := HI
      have HF1 := HF
      have HLL1 := HLL
      clear HT HL HGR HI HF HLL HBr HGH
      go_loopg [101] n2 (fun gh x101 wq => ∃ (k : Nat) (Dk : List BlkV) (G : GS) (κ : Nat → Nat) (l : List UInt8) (A3 : Option Addr) (c3 : Nat), k ≤ n2 ∧ gh = n2 - k ∧ x101 = .int .i64 (k : Int) ∧ Hid (l.length ≤ 16384) ∧ Hid (Tch w3.heap.size (fun x => x = i.dd ∨ x = i.rr) w3 wq) ∧ Hid (LogAt wq i.ll i.dd i.rr Dk) ∧ Hid (GrAt wq mb nb (LL A3 l c3) 9 none 0 0 300) ∧
          Hid (Dk.length = nn ∧ Sto.Is ⟨Dk, [], 0⟩ u G ∧ G.Ok ∧ G.cnt 300 = need2 l.length) ∧ Hid (FileAt G 300 (G.nd 3) (blks l.length) κ l.length (fun j => l.getD j 0) ∧ (G.nd 3).size.toNat = l.length ∧ (G.nd 3).kind = 1 ∧ (G.nd 3).links ≠ 0))
      case atStart => exact ⟨0, Dk, G, κ, l, A3, c3, Nat.zero_le _, rfl, rfl, HLL1, HT1, HL1, HG1, HI1, HF1⟩
      case round =>
        clear HT1 HL1 HG1 HI1 HF1 HLL1 Dk G κ l A3 c3
        obtain ⟨j, Dk, G, κ, l, A3, c3, hj, hgh, rfl, HLL, HT, HL, HGR, HI, HF⟩ := hrel
        have HGH := hide hgh
        clear hgh
        have HD32 := hide (show 32 ≤ Dk.length from by rw [HI.out.1]; exact HN.out.1)
        have HBr : Hid (Below w2.heap.size w2 wr) := hide (HW23.out.trans ((HT.out.mono HW23.out.size (S' := fun _ => False) (fun k hk h => by
          have := HDR.out
          rcases h with h | h <;> omega)).below fun _ _ h => h))
        rcases Nat.lt_or_ge j n2 with hjl | hjl
        rotate_left
        · have t1 : decide ((j : Int) < (n2 : Int)) = false := by simp; omega
          have t1' : ¬ (j : Int) < (n2 : Int) := by omega
          clear hjl hj
          go_wp2
          go_returns
          exact ⟨rfl, HC.out.2.2.2.2.trans (HBr.out.mono HC.out.2.2.2.2.size)⟩
        · have t1 : decide ((j : Int) < (n2 : Int)) = true := by simp; omega
          have t1' : (j : Int) < (n2 : Int) := by omega
          have hRr := HRB.out.below (HC.out.2.2.2.2.trans (HBr.out.mono HC.out.2.2.2.2.size))
          obtain ⟨ba, oa, rfl, hba, hca⟩ := hRr.word (i := j) hjl
          have ck := hca j hjl
          have bal : ba < wr.heap.size := by have := (HC.out.2.2.2.2.trans (HBr.out.mono HC.out.2.2.2.2.size)).size; omega
          have hxl := (l2.getD j 0).toNat_lt
          generalize (l2.getD j 0).toNat = xc at *
          obtain ⟨sz, hsz⟩ : ∃ sz, l.length = sz := ⟨_, rfl⟩
          obtain ⟨size, hsize⟩ : ∃ size, xc % (sz + 1) = size := ⟨_, rfl⟩
          have hle : size ≤ sz := by have := Nat.mod_lt xc (show 0 < sz + 1 by omega); omega
          have hs16 : sz ≤ 16384 := by have := HLL.out; omega
          have e1 : IntKind.i64.wrap (xc : Int) = (xc : Int) := IntWalk.i64_in _ (by omega)
          have e2 : IntKind.i64.wrap ((sz : Int) + 1) = (sz : Int) + 1 := IntWalk.i64_in _ (by omega)
          have e3 : (xc : Int).tmod ((sz : Int) + 1) = (size : Int) := by rw [Int.tmod_eq_emod_of_nonneg (by omega), ← hsize]; exact (Int.natCast_emod _ _).symm
          have e4 : IntKind.i64.wrap (size : Int) = (size : Int) := IntWalk.i64_in _ (by omega)
          have HSZ := hide (And.intro hsz (And.intro hle hs16))
          clear hRr hca hsize
          go_wp2_with fail
          refine (begin_ok HL.out HD32.out).mono ?_
          rintro e w7 ⟨tt, mq, rfl, htt, hmq, hx7, hb7⟩
          obtain ⟨ii, hii⟩ : ∃ ii : Ids, Ids.mk tt mq i.ll i.dd i.rr = ii := ⟨_, rfl⟩
          have htt' : tt = ii.tt := by rw [← hii]
          rw [hii] at hx7
          subst htt'
          have HX7 := hide hx7
          have HB7 := hide hb7
          have HII := hide (And.intro hii (And.intro htt hmq))
          have HOL := hide (show ∀ k, k < w3.heap.size → ii.own k → k = i.dd ∨ k = i.rr from by
            have h0 := HT.out.size
            rintro k hk (e | e | e | e)
            · omega
            · rw [← hii] at e; simp only at e; omega
            · rw [← hii] at e; exact .inl e
            · rw [← hii] at e; exact .inr e)
          clear hii htt hmq hx7 hb7 ck bal hsz hle
          go_wp2_with fail
          refine (HOP.out w7 (HBr.out.trans (HB7.out.mono HBr.out.size)) ii.tt).mono ?_
          rintro e w8 ⟨gg, rfl, -, hG8, hb8⟩
          have hug : u.Ok Dk.length := by rw [HI.out.1]; exact HGO.out.1
          have HA8 : Hid (GAt w8 ii ⟨Dk, [], 0⟩ gg u 0 G) := hide ⟨HX7.out.below hb8, hG8, hug, HI.out.2.1, HI.out.2.2.1⟩
          have HB8 := hide (HB7.out.trans (hb8.mono HB7.out.size))
          have HG8 := hide (HGR.out.below HB8.out)
          have HT8 := hide (HT.out.trans ((Tch.of_below HB8.out).mono HT.out.size fun _ _ h => h))
          have q1 : w8.cell? ⟨mb, 0, none⟩ = some (.slice (some ⟨nb, 0, none⟩) 9 9) := HG8.out.m.cell 0
          have q2 : w8.cell? ⟨nb, 18, none⟩ = some (.slice A3 l.length c3) := HG8.out.r.cell (LL_three A3 l c3) (j := 3) (by omega)
          rw [HSZ.out.1] at q2
          have q3 := HG8.out.m.lt
          have q4 := HG8.out.r.lt
          have hcf := cut_file (num := 3) (size := size) (sz := sz) (K0 := []) (κ := κ) (f := fun j => l.getD j 0) HA8.out (fun x hx => by simp at hx) (by rw [List.length_nil]; split <;> first | omega | (split <;> omega)) (by omega) (by rw [HGO.out.2.2]; omega) (by rw [HGO.out.2.1]; omega) (by rw [HF.out.2.2.1]; decide) (by rw [HF.out.2.1]; exact HSZ.out.1) HSZ.out.2.2
            (by rw [HGO.out.2.1, ← HSZ.out.1]; exact HF.out.1) HSZ.out.2.1 (fun n' hs hd => check_sized hs HF.out.2.2.1 HF.out.2.2.2 (by have := HSZ.out; omega))
          rw [show ((3 : Nat) : Int) = 3 from rfl, HGO.out.2.1] at hcf
          have HCF := hide hcf
          clear hug hG8 hb8 HX7 HB7 hcf
          go_wp2_with fail
          refine HCF.out.mono ?_
          rintro e w10 ⟨rfl, s10, G10, ha10, hf10, hsz10, hk10, hl10, -, -, hcnt10, -, hst10, ht10⟩
          have HA10 := hide ha10
          have HG10 := hide (HG8.out.own HA8.out.tx ht10)
          have HT10 := hide (HT8.out.trans (ht10.mono HT8.out.size HOL.out))
          have hl' : (l.take size).length = size := by rw [List.length_take]; have := HSZ.out; omega
          have HLT := hide hl'
          have HF10 : Hid (FileAt G10 300 (G10.nd 3) (blks size) κ size (fun j => (l.take size).getD j 0) ∧ (G10.nd 3).size.toNat = size ∧ (G10.nd 3).kind = 1 ∧ (G10.nd 3).links ≠ 0) :=
            hide ⟨hf10.congr (fun j hj => by simp only [List.getD_eq_getElem?_getD, List.getElem?_take, if_pos hj]), hsz10, hk10.trans HF.out.2.2.1, by rw [hl10]; exact HF.out.2.2.2⟩
          have HCN : Hid (G10.cnt 300 = need2 size) := hide (by
            have h1 := HI.out.2.2.2
            rw [HSZ.out.1] at h1
            unfold need2 at h1 ⊢
            omega)
          have HST := hide hst10
          have hrc := rcut_ok (k := 3) (size := size) HG10.out (by rw [LL_len]; omega) (LL_three A3 l c3) (show (1 : UInt8) ≠ 0 by decide) (show size ≤ l.length by have := HSZ.out; omega) (show l.length ≤ 60000 by have := HSZ.out; omega)
          simp only [with_l, LL_set, show ((3 : Nat) : Int) = 3 from rfl] at hrc
          have HRC := hide hrc
          clear ha10 hf10 hsz10 hk10 hl10 hcnt10 hst10 ht10 hrc HCF q1 q2 q3 q4 hl'
          go_wp2_with fail
          refine HRC.out.mono ?_
          rintro e w11 ⟨A4, c4, rfl, hg11, ht11⟩
          have HG11 := hide hg11
          have HA11 := hide (HA10.out.apart ht11 (HG10.out.avoid HA10.out))
          have HT11 := hide (HT10.out.trans (ht11.mono HT10.out.size fun k hk1 hk2 => by have := HNB.out; omega))
          have hcom := commit_ok HA11.out.tx HST.out.bad
          have HCOM := hide hcom
          clear hg11 ht11 hcom HRC
          go_wp2_with (first | (refine wpList_take (by kernel_rfl) ?_) | fail)
          refine HCOM.out.mono ?_
          rintro e w12 ⟨lp, rfl, hp, hx12, ht12⟩
          have HG12 := hide (HG11.out.own HA11.out.tx ht12)
          have HT12 := hide (HT11.out.trans (ht12.mono HT11.out.size HOL.out))
          have HL12 : Hid (LogAt w12 i.ll i.dd i.rr (commitD s10 lp)) := hide (hx12.log.ids HII.out.1)
          have HI12 : Hid ((commitD s10 lp).length = nn ∧ Sto.Is ⟨commitD s10 lp, [], 0⟩ u G10 ∧ G10.Ok ∧ G10.cnt 300 = need2 size) := hide ⟨by rw [commit_len, HST.out.D]; exact HI.out.1, is_commit HA11.out.is HGO.out.1 HA11.out.tx.ok hp, HA11.out.gok, HCN.out⟩
          obtain ⟨Dz, hDz⟩ : ∃ Dz, commitD s10 lp = Dz := ⟨_, rfl⟩
          rw [hDz] at HL12 HI12
          have HBq : Hid (Below w2.heap.size w2 w12) := hide (HW23.out.trans ((HT12.out.mono HW23.out.size (S' := fun _ => False) (fun k hk h => by
            have := HDR.out
            rcases h with h | h <;> omega)).below fun _ _ h => h))
          have HDz := hide (show 32 ≤ Dz.length from by rw [HI12.out.1]; exact HN.out.1)
          clear hp hx12 ht12 hDz HCOM HG11 HA11 HT11 HST HCN HA10 HG10 HT10 HA8 HB8 HG8 HT8 HII HOL
          go_wp2_with fail
          refine (begin_ok HL12.out HDz.out).mono ?_
          rintro e w13 ⟨tt, mq, rfl, htt, hmq, hx13, hb13⟩
          obtain ⟨ij, hij⟩ : ∃ ij : Ids, Ids.mk tt mq i.ll i.dd i.rr = ij := ⟨_, rfl⟩
          have htt' : tt = ij.tt := by rw [← hij]
          rw [hij] at hx13
          subst htt'
          have HX13 := hide hx13
          have HB13 := hide hb13
          have HOL := hide (show ∀ k, k < w3.heap.size → ij.own k → k = i.dd ∨ k = i.rr from by
            have h0 := HT12.out.size
            rintro k hk (e | e | e | e)
            · omega
            · rw [← hij] at e; simp only at e; omega
            · rw [← hij] at e; exact .inl e
            · rw [← hij] at e; exact .inr e)
          have HIJ := hide (And.intro hij (And.intro htt hmq))
          clear hij htt hmq hx13 hb13
          go_wp2_with fail
          refine (HOP.out w13 (HBq.out.trans (HB13.out.mono HBq.out.size)) ij.tt).mono ?_
          rintro e w14 ⟨g2, rfl, -, hG14, hb14⟩
          have hug : u.Ok Dz.length := by rw [HI12.out.1]; exact HGO.out.1
          have HA14 : Hid (GAt w14 ij ⟨Dz, [], 0⟩ g2 u 0 G10) := hide ⟨HX13.out.below hb14, hG14, hug, HI12.out.2.1, HI12.out.2.2.1⟩
          have HB14 := hide (HB13.out.trans (hb14.mono HB13.out.size))
          have HG14 := hide (HG12.out.below HB14.out)
          have HT14 := hide (HT12.out.trans ((Tch.of_below HB14.out).mono HT12.out.size fun _ _ h => h))
          have hrd := read_file (num := 3) (off := 0) (many := 1048576) (en := size) (c := blks size) (sz := size) (κ := κ) (f := fun j => (l.take size).getD j 0) HA14.out (by omega) (by rw [HGO.out.2.2]; omega) (by rw [HF10.out.2.2.1]; decide) HF10.out.2.1 (by rw [HGO.out.2.1]; exact HF10.out.1) (by omega) (by omega) (by have := HSZ.out; omega) (by have := HSZ.out; omega)
          have hmap : (List.range size).map (fun k => (l.take size).getD (0 + k) 0) = l.take size := by
            apply List.ext_getElem?
            intro q
            rw [List.getElem?_map]
            by_cases hq : q < size
            · rw [List.getElem?_range hq, List.getElem?_eq_getElem (by rw [HLT.out]; exact hq), Option.map_some, List.getD_eq_getElem?_getD, Nat.zero_add, List.getElem?_eq_getElem (by rw [HLT.out]; exact hq)]
              rfl
            · rw [List.getElem?_eq_none (by simpa using hq), List.getElem?_eq_none (by rw [HLT.out]; omega)]
              rfl
          rw [Nat.sub_zero, hmap, show ((3 : Nat) : Int) = 3 from rfl, show ((0 : Nat) : Int) = 0 from rfl, show ((1048576 : Nat) : Int) = 1048576 from rfl] at hrd
          have HRD := hide hrd
          clear hug hG14 hb14 HX13 hmap hrd
          go_wp2_with fail
          refine HRD.out.mono ?_
          rintro e w15 ⟨A15, c15, rfl, hr15, ha15, ht15, hA15, -, hown15⟩
          have HA15 := hide ha15
          have HG15 := hide (HG14.out.own HA14.out.tx ht15)
          have HT15 := hide (HT14.out.trans (ht15.mono HT14.out.size HOL.out))
          have HO15 := hide hown15
          have hus := gs_usage ha15
          rw [HGO.out.2.1, HI12.out.2.2.2] at hus
          have HUS := hide hus
          clear hr15 ha15 ht15 hA15 hown15 hus HRD HA14 HG14 HT14 HB13 HB14
          go_wp2_with fail
          refine HUS.out.mono ?_
          rintro e w16 ⟨rfl, s16, ha16, hst16, ht16⟩
          have HL16 : Hid (LogAt w16 i.ll i.dd i.rr Dz) := hide (by
            have h1 := ha16.tx.log
            rw [hst16.D] at h1
            exact h1.ids HIJ.out.1)
          have HG16 := hide (HG15.out.own HA15.out.tx ht16)
          have HT16 := hide (HT15.out.trans (ht16.mono HT15.out.size HOL.out))
          have HO16 := hide (own_from (own_mono HO15.out (Nat.zero_le _)) ht16 (fun g cur hB => HA15.out.tx.other hB (by decide) (by decide) (by decide)))
          clear ha16 hst16 ht16 HUS HG15 HT15 HO15
          go_wp2_with fail
          refine (rspread_ok w16 (n := size) (by have := HSZ.out; omega)).mono ?_
          rintro e w_ ⟨rfl, hw_⟩
          subst hw_
          have q1 : w16.cell? ⟨mb, 0, none⟩ = some (.slice (some ⟨nb, 0, none⟩) 9 9) := HG16.out.m.cell 0
          have q2 : w16.cell? ⟨nb, 18, none⟩ = some (.slice A4 (l.take size).length c4) := HG16.out.r.cell (LL_three A4 (l.take size) c4) (j := 3) (by omega)
          rw [HLT.out] at q2
          have q3 := HG16.out.m.lt
          have q4 := HG16.out.r.lt
          have hrb : Rd w16 w16.heap.size 1 A15 size (bvs (l.take size)) := Rd.of_own HO16.out
          have hrm : Rd w16 w16.heap.size 1 A4 size (bvs (l.take size)) := by
            have := (HG16.out.r.all _ (List.mem_of_getElem? (LL_three A4 (l.take size) c4))).b
            have := Rd.of_own this
            rw [show ((RNd.own 1).with A4 (l.take size) c4).l = l.take size from rfl, HLT.out] at this
            exact this
          have HRB := hide hrb
          have HRM := hide hrm
          have hb1 : blks size ≤ 256 := by unfold blks; have := HSZ.out; omega
          have hb2 : blks size ≤ nkeys (blks size) ∧ nkeys (blks size) ≤ 265 := by
            have := nkeys_mono hb1
            have h265 : nkeys 256 = 265 := by decide
            exact ⟨by unfold nkeys; omega, by omega⟩
          have e5 : IntKind.i64.wrap ((blks size : Int) + ((nkeys (blks size) - blks size : Nat) : Int)) = (need2 size : Int) := by
            rw [IntWalk.i64_in _ (by omega)]; unfold need2; omega
          obtain ⟨bs, hbs⟩ : ∃ bs, blks size = bs := ⟨_, rfl⟩
          obtain ⟨ns, hns⟩ : ∃ ns, need2 size = ns := ⟨_, rfl⟩
          have e6 : ((need2 size : Int) != (need2 size : Int)) = false := by simp
          rw [hbs, hns] at e5
          rw [hns] at e6
          rw [hbs]
          have HNB2 := hide (And.intro hbs hns)
          rw [hns]
          clear hb1 hb2 hrb hrm hbs hns
          obtain ⟨ls, hls⟩ : ∃ ls, l.take size = ls := ⟨_, rfl⟩
          rw [hls] at HRB HRM
          have HLS := hide hls
          clear hls
          go_upto_region 29 with (fail)
          refine wp_region_quiet_lit (by kernel_rfl) (by kernel_rfl) ?_
          iterate 8 go_big_quiet_step (fail)
          go_big_quiet_want
          refine quiet_exec (v := .string (str ls)) (fun W hW => by obtain ⟨nw, rfl⟩ := hW; exact exec_str 24 9 5 (.tmp 164) rfl A15 size c15 ls _ rfl Tryz.underlying24 Tryz.underlying5 Tryz.underlying9 (HRB.out.drewN nw)) ?_
          try simp only [Act.put, List.setIfInBounds_toArray, List.set_cons_zero, List.set_cons_succ]
          go_big_quiet_on
          iterate 5 go_big_quiet_step (fail)
          go_big_quiet_want
          refine quiet_exec (v := .string (str ls)) (fun W hW => by obtain ⟨nw, rfl⟩ := hW; exact exec_str 24 9 5 (.tmp 170) rfl A4 size c4 ls _ rfl Tryz.underlying24 Tryz.underlying5 Tryz.underlying9 (HRM.out.drewN nw)) ?_
          try simp only [Act.put, List.setIfInBounds_toArray, List.set_cons_zero, List.set_cons_succ]
          go_big_quiet_on
          iterate 9 go_big_quiet_step (fail)
          refine wpQuiet_nil ?_
          intro _ hw'
          obtain ⟨nq, hw''⟩ := hw'
          subst hw''
          go_wp2
          go_roundg (n2 - (j + 1))
          case rel => exact ⟨j + 1, Dz, G10, κ, l.take size, A4, c4, by omega, rfl, by first | rfl | go_num, hide (by rw [HLT.out]; have := HSZ.out; omega), hide (HT16.out.trans ((Tch.of_below (below_drewN (Below.refl _ _) _)).mono HT16.out.size fun _ _ h => h)), hide (HL16.out.below (below_drewN (Below.refl _ _) _)), hide (HG16.out.below (below_drewN (Below.refl _ _) _)), hide (by rw [HLT.out]; exact HI12.out), hide (by rw [HLT.out]; exact HF10.out)⟩
          case measure => have := HGH.out; omega
set_option maxRecDepth 100000 in
theorem long_some (w : World) {A : Option Addr} {n c : Nat} {l1 : List UInt8} {A2 : Option Addr} {n2 c2 : Nat} {l2 : List UInt16} (hr1 : Rd w w.heap.size 1 A n (bvs l1)) (hr2 : Rd w w.heap.size 1 A2 n2 (wordsV l2)) :
    Calls Tryz.prog 4 #[.slice A n c, .slice A2 n2 c2] w fun e w' => e = .returned (.bool true) ∧ Below w.heap.size w w' := by
  by_cases h : n ≤ 40 ∧ n2 ≤ 10
  · exact long_all w hr1 hr2 h.1 h.2
  · clear hr1 hr2
    go_enter Tryz.func4, Tryz.ntmps4
    go_wp2_with fail
    refine (awake8_ok w).mono ?_
    rintro e w1 ⟨rfl, hb1⟩
    have HB1 := hide hb1
    clear hb1
    by_cases h1 : n ≤ 40
    · have t1 : decide ((40 : Int) < (n : Int)) = false := by simp; omega
      have t1' : ¬ (40 : Int) < (n : Int) := by omega
      have t2 : decide ((10 : Int) < (n2 : Int)) = true := by simp; omega
      have t2' : (10 : Int) < (n2 : Int) := by omega
      clear h h1
      go_wp2
      go_returns
      exact ⟨rfl, HB1.out⟩
    · have t1 : decide ((40 : Int) < (n : Int)) = true := by simp; omega
      have t1' : (40 : Int) < (n : Int) := by omega
      clear h h1
      go_wp2
      go_returns
      exact ⟨rfl, HB1.out⟩
end Go.Proofs.YthmkgohfeahdhaaGreat
namespace Go.Proofs.YthmkgohfeahdhaaGreat
open Go.ChangeShapes Go.WideShapes Go.ChangeAt Go.RowKit
set_option linter.unusedSimpArgs false
set_option linter.unusedVariables false
section
variable {H : Type} {enc : TypeId × Value → H} {P : Program} {w : World} {base : Nat} {held : Bool} {t e : TypeId} {v : Value}
variable {r : Reach} {b0 : Nat} {d : DataW H} {ps : List MemPlace}
theorem wf_word {n : Int} (h : (Lit.int .u16 n).wf = true) : ∃ k : Nat, n = (k : Int) ∧ k < 65536 := by
  simp [Lit.wf, IntKind.min, IntKind.max, IntKind.signed, IntKind.bits] at h
  exact ⟨n.toNat, by omega, by omega⟩
theorem open_words (ht : P.underlying t = some (.slice e)) (he : P.underlying e = some (.int .u16)) (hc : P.cellsOf e = 1) (hval : Value.okWide P w r b0 t v) (h : DataW.Trod enc P w base (fun _ => true) held t v d ps) :
    ∃ (A : Option Addr) (n c : Nat) (l : List UInt16), v = .slice A n c ∧ Rd w w.heap.size 1 A n (wordsV l) ∧ n ≤ c := by
  obtain ⟨A, n, c, rfl⟩ := okWide_slice ht hval
  obtain ⟨fuel, hf⟩ := h
  rcases open_ints ht he hc (show DataW.trod enc P w base (fun _ => true) held fuel t [.slice A n c] = some (d, ps) from by simpa [Value.cells] using hf) with ⟨hcs, _⟩ | ⟨x, n, c, zs, hcs, _, hl, _, hz, _, hcell, hwz⟩
  · exact ⟨none, 0, 0, [], by simpa using hcs, Rd.nil _ _ _ _, Nat.le_refl _⟩
  · simp only [if_true] at hz
    refine ⟨some x, n, c, (zs.take n).map fun z => UInt16.ofNat z.toNat, by simpa using hcs, ⟨by simp [wordsV]; omega, fun hn => ?_⟩, hl⟩
    have h0 := hcell 0 (by omega)
    have hspot : x.spot = none := by simpa [Addr.add] using World.cell?_spot h0
    obtain ⟨b, o, spot⟩ := x
    simp only at hspot
    subst hspot
    have hb : b < w.heap.size := by
      have := World.block_lt_of_cell? w _ h0
      simpa [Addr.add] using this
    refine ⟨b, o, rfl, hb, fun j u hu => ?_⟩
    have hj : j < n := by
      rcases Nat.lt_or_ge j n with h | h
      · exact h
      · rw [List.getElem?_eq_none (by simp [wordsV]; omega)] at hu; cases hu
    have hc := hcell j (by omega)
    have hadd : (⟨b, o, none⟩ : Addr).add j = ⟨b, o + j, none⟩ := by unfold Addr.add; split <;> simp_all
    rw [hadd] at hc
    rw [hc, ← hu]
    have hjz : j < zs.length := by omega
    have hw := hwz (zs[j]) (List.getElem_mem hjz)
    obtain ⟨k, hk, hk2⟩ := wf_word hw
    have e1 : zs.getD j 0 = (k : Int) := by simp [List.getD_eq_getElem?_getD, List.getElem?_eq_getElem hjz, hk]
    rw [e1]
    unfold wordsV
    rw [List.getElem?_map, List.getElem?_map, List.getElem?_take, if_pos hj, List.getElem?_eq_getElem hjz, hk]
    simp only [Option.map_some, Int.toNat_natCast]
    rw [UInt16.toNat_ofNat', Nat.mod_eq_of_lt (by omega)]
end
end Go.Proofs.YthmkgohfeahdhaaGreat
namespace Go.Proofs.YthmkgohfeahdhaaGreat.lawFileLong
open Go.ChangeShapes Go.WideShapes Go.ChangeAt Go.RowKit Go.Joins
open Go.ChangeMaps (open_string shut_string)
set_option linter.unusedVariables false

theorem own : ownKnob Tryz.prog.godebug = none := by kernel_rfl
theorem laidOut : laidOutB Tryz.prog = true := by kernel_rfl

set_option maxRecDepth 100000 in
theorem lifted (os : Os) (started : os.Started) (H0 : Type) (enc : TypeId × Value → H0) :
    ReturnsInHanded {} Tryz.checked os 4 .any (Rows.fileLongSpec.pre6 enc Tryz.prog Tryz.f4 Rows.fileLongRow.domain false) (Rows.fileLongSpec.post enc Tryz.prog Tryz.f4 false true false false) := by
  refine returnsInHanded_of_change (C := Tryz.checked) own started (by kernel_rfl) Tryz.func4
    (ChangeSpec.witness6 (enc := enc) (C := Tryz.checked) false ⟨#[], #[.slice none 0 0, .slice none 0 0], []⟩ 8 (by kernel_rfl) (by kernel_rfl) (by kernel_rfl) (by kernel_rfl)) ?_
  intro W base args ds gs before hval0 hW hcnd _
  have hval : ∀ (j : Nat) t v, Tryz.f4.params[j]? = some t → args[j]? = some v → Value.okWide Tryz.prog W .any base t v := hval0
  have hW' := hW
  obtain ⟨p, q, hA0, hV, rfl, hfz, hnd⟩ := hW
  have hA : DataW.TrodAll enc Tryz.prog W 0 (fun _ => true) true Tryz.f4.params.toList args.toList ds p := hA0
  rw [Tryz.params4] at hA hval
  obtain ⟨v0, vs0, d0, ds0, p0, q0, hargs, rfl, rfl, h0, r0⟩ := trodAll_cons hA
  obtain ⟨v1, vs1, d1, ds1, p1, q1, rfl, rfl, rfl, h1, r1⟩ := trodAll_cons r0
  obtain ⟨rfl, rfl, rfl⟩ := trodAll_nil r1
  obtain rfl : args = #[v0, v1] := by cases args; simp_all
  obtain ⟨rfl, rfl⟩ := trodVars_none hV
  have k0 := h0
  have lt0 : ∀ x ∈ p0, x.block < W.heap.size := by obtain ⟨m, hm⟩ := k0; exact DataW.trod_lt m _ _ _ hm
  have k1 := h1
  have lt1 : ∀ x ∈ p1, x.block < W.heap.size := by obtain ⟨m, hm⟩ := k1; exact DataW.trod_lt m _ _ _ hm
  obtain ⟨A, n, c, l, rfl, hr, hnc⟩ := open_bytes Tryz.underlying24 Tryz.underlying5 (by kernel_rfl) (hval 0 24 v0 rfl rfl) h0
  obtain ⟨A2, n2, c2, l2, rfl, hr2, hnc2⟩ := open_words Tryz.underlying72 Tryz.underlying37 (by kernel_rfl) (hval 1 72 v1 rfl rfl) h1
  clear hA0 hval0
  refine (long_some _ hr hr2).mono fun e W' ⟨he, bel⟩ => ?_
  subst he
  exact ⟨_, rfl, _, _, _, [], _, [], hW', trodAll_mk1 (shut_bool Tryz.underlying4 _), (trodAll_cons_mk (Below.trod laidOut (by kernel_rfl) (of_decide_eq_true (by kernel_rfl)) k0 bel lt0) (trodAll_cons_mk (Below.trod laidOut (by kernel_rfl) (of_decide_eq_true (by kernel_rfl)) k1 bel lt1) trodAll_mk0)), rfl, bel.frame _, fun h => by cases h⟩

theorem over : Rows.fileLongRow.holds Tryz.pinned (OpenSpec.ofChange Rows.fileLongSpec) :=
  OpenClaim.holds_of_wide 4 Tryz.f4 rfl rfl rfl rfl rfl rfl rfl ⟨rfl, rfl, rfl, rfl, rfl⟩ rfl rfl rfl rfl rfl (by kernel_rfl) Tryz.func4 (by kernel_rfl)
    (of_decide_eq_true (by kernel_rfl)) (by unfold Func.isWrapper; first | (rw [if_pos (by decide +kernel)]; kernel_rfl) | (rw [if_neg (by decide +kernel)]; exact ⟨rfl, rfl⟩))
    (fun os started H0 enc _ => lifted os started H0 enc)

theorem proved : Rows.FileLongSaid := over
#print axioms proved
end Go.Proofs.YthmkgohfeahdhaaGreat.lawFileLong

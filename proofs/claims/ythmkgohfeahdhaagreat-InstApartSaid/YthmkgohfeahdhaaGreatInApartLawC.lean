/- InstApart: own directories of a label change nothing in the group of the label of which they are own ones: for every input the law returns true, and its arguments read as they did. -/
import Derived.Test.YthmkgohfeahdhaaGreatMJ1
import Derived.Test.YthmkgohfeahdhaaGreatMJ2
import Derived.Test.YthmkgohfeahdhaaGreatMJ3
import Derived.Test.YthmkgohfeahdhaaGreatMJ4
import Derived.Test.YthmkgohfeahdhaaGreatMJ5
import Derived.Test.YthmkgohfeahdhaaGreatMJ6
import Derived.Test.YthmkgohfeahdhaaGreatMJ7
import Derived.Test.YthmkgohfeahdhaaGreatMJ8
import Derived.Test.YthmkgohfeahdhaaGreatMJ9
import Derived.Test.YthmkgohfeahdhaaGreatMJ10
import Derived.Test.YthmkgohfeahdhaaGreatMJ11
import Derived.Deep.LoopGhost
import Derived.BigQuiet
import Derived.Test.YthmkgohfeahdhaaGreatRows
import Derived.WalkKit
import Derived.ProofKit
import Derived.OpenShut
import Derived.ShutString
import Derived.ChangeOld
import Derived.Below
import Derived.Lib.SmallJoins
namespace Go.Proofs.YthmkgohfeahdhaaGreat
open Go.RowKit Go.WideMaps
set_option linter.unusedSimpArgs false
set_option linter.unusedVariables false

theorem geos_get : ∀ (a : Int) (R : List RegV) (i : Nat), (geosOf a R)[i]? = (R[i]?).map (geoOf (totalOf a (R.take i)))
  | _, [], i => by simp [geosOf]
  | a, r :: rest, 0 => by simp [geosOf, totalOf]
  | a, r :: rest, i + 1 => by
    simp only [geosOf, List.getElem?_cons_succ, List.take_succ_cons, totalOf]
    exact geos_get _ rest i
theorem total_take (a : Int) (R : List RegV) {i : Nat} {r : RegV} (h : R[i]? = some r) : totalOf a (R.take (i + 1)) = (geoOf (totalOf a (R.take i)) r).end_ := by
  rw [List.take_add_one, h]
  exact totalOf_snoc a _ r
def grAns (r : Option (Nat × Int)) : Ending :=
  match r with
  | none => .returned (.tuple #[.int .i64 0, .int .i64 0, .bool false])
  | some (j, k) => .returned (.tuple #[.int .i64 (j : Int), .int .i64 k, .bool true])

section
variable {B : Nat} {w w' : World} {c : Nat} {R : List RegV} {K : List MarkV} {tb nb lb : Nat} {A1 A2 A3 : Option Addr} {c1 c2 c3 : Nat}
set_option maxRecDepth 100000 in
set_option maxHeartbeats 1000000 in
theorem group_ok (h : ConfIn B w c R K tb nb lb A1 A2 A3 c1 c2 c3) (hl : R.length ≤ 64) (b : Int) :
    Calls Tryz.prog 76 #[.pointer (some ⟨c, 0, none⟩), .int .i64 b] w fun e w' => e = grAns (grFrom 0 32 R b) ∧ Below w.heap.size w w' := by
  go_enter Tryz.func76, Tryz.ntmps76
  go_wp2_with fail
  refine (len_ok h).mono ?_
  rintro e w1 ⟨rfl, rfl⟩
  have H := hide h
  clear h
  go_wp2_with fail
  go_loopg [11] R.length (fun g x11 wr => ∃ i : Nat, i ≤ R.length ∧ g = R.length - i ∧ x11 = .int .i64 (i : Int) ∧ Below w1.heap.size w1 wr ∧ Hid (grFrom i (totalOf 32 (R.take i)) (R.drop i) b = grFrom 0 32 R b))
  case atStart => exact ⟨0, Nat.zero_le _, rfl, rfl, Below.refl _ _, hide rfl⟩
  case round =>
    obtain ⟨i, hi, hg, rfl, hbr, hG⟩ := hrel
    rcases Nat.lt_or_ge i R.length with hiR | hiR
    · have hiz : (i : Int) < R.length := by omega
      obtain ⟨r, hr⟩ : ∃ r, R[i]? = some r := ⟨_, List.getElem?_eq_getElem hiR⟩
      have hgeo : (geosOf 32 R)[i]? = some (geoOf (totalOf 32 (R.take i)) r) := by rw [geos_get, hr]; rfl
      have h1 := H.out.below hbr
      obtain ⟨g, hA, hgl, hcc⟩ := h1.geoc hgeo
      have kc := h1.blk.cell 5
      have kl := h1.blk.lt
      have hrb := H.out.ok r (List.mem_of_getElem? hr)
      have htb := total_bounds (R := R.take i) (fun x hx => H.out.ok x (List.mem_of_mem_take hx)) 32 (by omega)
      have htl : ((R.take i).length : Int) ≤ 64 := by rw [List.length_take]; omega
      have hstep : grFrom i (totalOf 32 (R.take i)) (R.drop i) b = if totalOf 32 (R.take i) ≤ b ∧ b < (geoOf (totalOf 32 (R.take i)) r).end_ then some (i, if b < (geoOf (totalOf 32 (R.take i)) r).data then 0 else b - (geoOf (totalOf 32 (R.take i)) r).data + 1) else grFrom (i + 1) (totalOf 32 (R.take (i + 1))) (R.drop (i + 1)) b := by
        rw [total_take 32 R hr]
        obtain ⟨hlt, rfl⟩ := List.getElem?_eq_some_iff.1 hr
        rw [List.drop_eq_getElem_cons hlt, grFrom]
      have hG2 := hG.out
      rw [hstep] at hG2
      have HG := hide hG2
      have hend : (geoOf (totalOf 32 (R.take i)) r).end_ = (geoOf (totalOf 32 (R.take i)) r).data + (geoOf (totalOf 32 (R.take i)) r).blocks := rfl
      have hbase : (geoOf (totalOf 32 (R.take i)) r).base = totalOf 32 (R.take i) := rfl
      have hdat : (geoOf (totalOf 32 (R.take i)) r).data = totalOf 32 (R.take i) + (r.blocks + 511) / 512 + (r.nodes * 32 + 63) / 64 := rfl
      have hblk : (geoOf (totalOf 32 (R.take i)) r).blocks = r.blocks := rfl
      obtain ⟨_, q1, q2, q3, q4⟩ := hrb
      have y0 := hcc 0 _ rfl
      have y1 := hcc 1 _ rfl
      have y2 := hcc 2 _ rfl
      have y3 := hcc 3 _ rfl
      have y4 := hcc 4 _ rfl
      have y5 := hcc 5 _ rfl
      simp only [Nat.add_zero, geosOf_length] at y0 kc
      rw [hend] at HG
      generalize hgv : geoOf (totalOf 32 (R.take i)) r = gv at *
      obtain ⟨gb, gm, gt, gd, gn, go⟩ := gv
      simp only at y0 y1 y2 y3 y4 y5 hbase hdat hblk HG
      have hw : IntKind.i64.wrap (gd + gn) = gd + gn := IntWalk.i64_in _ (by omega)
      have HBX := hide (hbr.alloc hbr.size (.cells #[.int .i64 gb, .int .i64 gm, .int .i64 gt, .int .i64 gd, .int .i64 gn, .int .i64 go] 169))
      have HEQ := hide (And.intro hbase (And.intro hdat hblk))
      subst hA
      clear hcc hgeo hstep hG2 hG hend hr hbr h1 hbase hdat hblk
      by_cases b1 : b < gb
      · have t1 : decide (b < gb) = true := by simpa using b1
        have HG2 := HG.out
        obtain ⟨hbase, hdat, hblk⟩ := HEQ.out
        rw [if_neg (by omega)] at HG2
        have HG3 := hide HG2
        clear HG2 hdat htb hbase hblk
        go_wp2
        go_roundg (R.length - (i + 1))
        case measure => omega
        case rel => exact ⟨i + 1, by omega, rfl, by go_num, HBX.out, HG3⟩
      · have t1 : decide (b < gb) = false := by simpa using b1
        by_cases b2 : gd + gn ≤ b
        · have t2 : decide (gd + gn ≤ b) = true := by simpa using b2
          have HG2 := HG.out
          obtain ⟨hbase, hdat, hblk⟩ := HEQ.out
          rw [if_neg (by omega)] at HG2
          have HG3 := hide HG2
          clear HG2 hdat htb hbase hblk
          go_wp2
          go_roundg (R.length - (i + 1))
          case measure => omega
          case rel => exact ⟨i + 1, by omega, rfl, by go_num, HBX.out, HG3⟩
        · have t2 : decide (gd + gn ≤ b) = false := by simpa using b2
          have HG2 := HG.out
          obtain ⟨hbase, hdat, hblk⟩ := HEQ.out
          rw [if_pos (by omega)] at HG2
          by_cases b3 : b < gd
          · have t3 : decide (b < gd) = true := by simpa using b3
            rw [if_pos b3] at HG2
            have HG3 := hide HG2
            clear HG2 hdat htb hbase hblk
            go_wp2
            go_returns
            exact ⟨by rw [← HG3.out]; rfl, HBX.out⟩
          · have t3 : decide (b < gd) = false := by simpa using b3
            rw [if_neg b3] at HG2
            have HG3 := hide HG2
            have e1 : IntKind.i64.wrap (b - gd) = b - gd := IntWalk.i64_in _ (by omega)
            have e2 : IntKind.i64.wrap (b - gd + 1) = b - gd + 1 := IntWalk.i64_in _ (by omega)
            clear HG2 hdat htb hbase hblk
            go_wp2
            go_quiet (fail)
            go_wp2
            go_returns
            exact ⟨by rw [← HG3.out]; rfl, below_drewN HBX.out _⟩
    · obtain rfl : i = R.length := by omega
      have hG2 := hG.out
      rw [List.drop_length] at hG2
      have HG3 := hide hG2
      clear hG2
      go_wp2
      go_returns
      exact ⟨by rw [← HG3.out]; rfl, hbr⟩

end
end Go.Proofs.YthmkgohfeahdhaaGreat
namespace Go.Proofs.YthmkgohfeahdhaaGreat
open Go.RowKit
set_option linter.unusedSimpArgs false
set_option linter.unusedVariables false

/-- the nodes, in their order -/
def flatA (q : Nat) : List Value := (List.range q).flatMap fun k => (ar k).ino
theorem flatA_succ (q : Nat) : flatA (q + 1) = flatA q ++ (ar q).ino := by
  unfold flatA
  rw [List.range_succ, List.flatMap_append]
  simp
theorem ino_ar {G : GS} {j : Nat} (hj : j < 10) : (G.set (4 + j) (freshN 3)).ino 0 (4 + j) = (ar j).ino.toArray ∧ (G.set (4 + j) (freshN 3)).inoE (4 + j) = 0 := by
  have e : (G.set (4 + j) (freshN 3)).nd (4 + j) = freshN 3 := upd_same _ _ _
  unfold GS.ino GS.inoE
  rw [e, if_neg (by decide), if_neg (by decide)]
  refine ⟨?_, rfl⟩
  have e16 : IntKind.u16.wrap ((4 + j : Nat) : Int) = ((4 + j : Nat) : Int) := by rw [IntKind.wrap_u16]; omega
  unfold InR.ino
  rw [(ar_facts j hj).2.2.1, e16]
  rfl
theorem info_ino3 : ∃ i, Tryz.prog.info? 152 = some i ∧ i.zero = some (.agg InR.zero.ino.toArray) ∧ i.size = 3 ∧ i.bytes = 6 := by
  have h : (Tryz.prog.info? 152).map (fun i => (i.zero, i.size, i.bytes)) = some (some (.agg InR.zero.ino.toArray), 3, 6) := by kernel_rfl
  cases hi : Tryz.prog.info? 152 with
  | none => rw [hi] at h; cases h
  | some i =>
    rw [hi] at h
    simp only [Option.map_some, Option.some.injEq, Prod.mk.injEq] at h
    exact ⟨i, rfl, h.1, h.2.1, h.2.2⟩
theorem flat3_get : ∀ {L : List InR} {k j : Nat} {n : InR}, L[k]? = some n → j < 3 → (L.flatMap InR.ino)[k * 3 + j]? = n.ino[j]?
  | [], k, j, n, h, _ => by simp at h
  | a :: r, 0, j, n, h, hj => by
    obtain rfl : a = n := by simpa using h
    rw [List.flatMap_cons, Nat.zero_mul, Nat.zero_add, List.getElem?_append_left (by simpa [InR.ino] using hj)]
  | a :: r, k + 1, j, n, h, hj => by
    have e : (k + 1) * 3 + j = (InR.ino a).length + (k * 3 + j) := by simp [InR.ino]; omega
    rw [List.flatMap_cons, e, List.getElem?_append_right (by omega), Nat.add_sub_cancel_left]
    exact flat3_get (by simpa using h) hj
theorem ar_range {w : World} {B N co : Nat} {Ao : Option Addr} (h : w.ownsRow B 152 3 (.slice Ao N co) N (flatA N)) (hn : 0 < N) : ∃ g, Ao = some ⟨g, 0, none⟩ ∧ B ≤ g ∧ g < w.heap.size ∧ ∀ k, k < N → w.rangeAt g (k * 3) (ar k).ino := by
  obtain ⟨g, hA, hB, hlt, hc⟩ := own_base h hn
  refine ⟨g, hA, hB, hlt, fun k hk j v hj => ?_⟩
  have hj2 : j < 3 := by have := (List.getElem?_eq_some_iff.1 hj).1; simpa [InR.ino] using this
  have e : flatA N = ((List.range N).map ar).flatMap InR.ino := by unfold flatA; rw [List.flatMap_map]
  have := flat3_get (L := (List.range N).map ar) (k := k) (n := ar k) (by simp [hk]) hj2
  rw [← e] at this
  exact hc _ _ (this.trans hj)
theorem alive_ar {G : GS} {j nn : Nat} (hj : j < 10) (h : G.nd (4 + j) = freshN 3) (hn : nn = 28) : aliveB G nn (ar j) = true := by
  unfold aliveB
  rw [(ar_facts j hj).2.2.1, h, decide_eq_true_eq]
  exact ⟨by omega, by omega, rfl, rfl⟩
theorem gr_in0 {R : List RegV} : ∀ (i : Nat) (a b : Int) (j : Nat) (k : Int), grFrom i a R b = some (j, k) → ∃ v, i ≤ j ∧ (geosOf a R)[j - i]? = some v ∧ v.base ≤ b ∧ b < v.data + v.blocks := by
  induction R with
  | nil => intro i a b j k h; simp [grFrom] at h
  | cons r R ih =>
    intro i a b j k h
    rw [grFrom] at h
    split at h
    · rename_i hc
      simp only [Option.some.injEq, Prod.mk.injEq] at h
      obtain ⟨rfl, -⟩ := h
      refine ⟨geoOf a r, Nat.le_refl _, by simp [geosOf], hc.1, hc.2⟩
    · obtain ⟨v, h1, h2, h3, h4⟩ := ih (i + 1) _ b j k h
      refine ⟨v, by omega, ?_, h3, h4⟩
      rw [show j - i = (j - (i + 1)) + 1 from by omega, geosOf, List.getElem?_cons_succ]
      exact h2
/-- the disk, while own directories come and go -/
structure ApD (u0 u1 : GeoN) (n0 : Nat) (D1 Dk : List BlkV) (G0 Gk : GS) : Prop where
  len : Dk.length = n0
  far : ∀ b, 32 ≤ b → (b < u1.base ∨ u1.data + u1.blocks ≤ b) → Dk.getD b zeroB = D1.getD b zeroB
  lo : Sto.Is ⟨Dk, [], 0⟩ u0 G0
  up : Sto.Is ⟨Dk, [], 0⟩ u1 Gk
  gok : Gk.Ok
theorem ApD.commit {u0 u1 : GeoN} {n0 : Nat} {D1 Dk : List BlkV} {G0 Gk G' : GS} {s : Sto} {l : List Nat} (h : ApD u0 u1 n0 D1 Dk G0 Gk) (ho0 : u0.Ok n0) (ho1 : u1.Ok n0) (hap : u0.data + u0.blocks ≤ u1.base) (hs : s.Ok) (hi : s.Is u1 G') (hg : G'.Ok) (hst : Stay ⟨Dk, [], 0⟩ s u1) (hp : l.Perm (s.M.map (·.1))) : ApD u0 u1 n0 D1 (commitD s l) G0 G' where
  len := by rw [commit_len, hst.D]; exact h.len
  far b hb hbu := by
    rw [commit_at hs hp (.inr (by omega)), hst.far b hbu]
    exact h.far b hb hbu
  lo := (h.lo.keep ho0 (fun m m1 m2 => hst.far m (.inl (by omega)))).commit ho0 hs hp
  up := hi.commit ho1 hs hp
  gok := hg
set_option maxRecDepth 100000 in
set_option maxHeartbeats 8000000 in
theorem inapart_all {w : World} {A : Option Addr} {n c : Nat} {T : List UInt8} (hT : Rd w w.heap.size 1 A n (bvs T)) (m : Nat) (hm : m < 256) :
    Calls Tryz.prog 13 #[.int .u8 (m : Int), .slice A n c] w fun e w' => e = .returned (.bool true) ∧ Below w.heap.size w w' := by
  have HDRP := hide hT
  have HM := hide hm
  clear hT
  go_enter Tryz.func13, Tryz.ntmps13
  go_wp2_with fail
  refine (awake10_ok w).mono ?_
  rintro e w1 ⟨rfl, hb1⟩
  have HB1 := hide hb1
  clear hb1
  rcases Nat.lt_or_ge 30 n with hn | hn
  · have t1 : decide ((30 : Int) < (n : Int)) = true := by simp; omega
    clear hm
    go_wp2
    go_returns
    exact ⟨rfl, HB1.out⟩
  have t1 : decide ((30 : Int) < (n : Int)) = false := by simp; omega
  have HN := hide hn
  clear hn hm
  go_wp2_with fail
  clear t1
  refine (ten_ok w1).mono ?_
  rintro e w2 ⟨cc, K, tb, nb, lb, B1, B2, B3, d1, d2, d3, rfl, hb2, hin⟩
  obtain ⟨n0, hF⟩ := cf_facts hin.ok (by rw [ten_len]; omega)
  obtain ⟨v0, u0, hv0, hu0, hval0, hgo0, hub0, hun0, hvn0⟩ := ten_geo hF (k := 0) (by omega) ten_b0.1 ten_b0.2
  obtain ⟨v1, u1, hv1, hu1, hval1, hgo1, hub1, hun1, hvn1⟩ := ten_geo hF (k := 1) (by omega) ten_b1.1 ten_b1.2
  have hap := hF.apart 0 1 v0 v1 hv0 hv1 (by omega)
  rw [hu0, hu1] at hap
  have hfr := fresh_all (w := w2) hin hF (by rw [ten_len]; omega)
  have HC := hide (And.intro hin (And.intro hv0 hv1))
  have HB2 := hide (HB1.out.trans (hb2.mono HB1.out.size))
  have HU := hide (And.intro hu0 (And.intro hu1 (And.intro hval0 (And.intro hval1 (And.intro hvn0 hvn1)))))
  have HGO := hide (And.intro hgo0 (And.intro hgo1 (And.intro hub0 (And.intro hub1 (And.intro hun0 (And.intro hun1 hap))))))
  have HF := hide hF
  have HFR := hide hfr
  clear hin hv0 hu0 hval0 hgo0 hub0 hun0 hvn0 hv1 hu1 hval1 hgo1 hub1 hun1 hvn1 hap hfr hb2 hF
  go_wp2_with fail
  refine HFR.out.mono ?_
  rintro e w3 ⟨i, D, rfl, hx, hDn, hall, hown, hll, hb3⟩
  have his0 := hall 0 v0 HC.out.2.1
  have his1 := hall 1 v1 HC.out.2.2
  rw [HU.out.1] at his0
  rw [HU.out.2.1] at his1
  have HX3 := hide hx
  have HB23 := hide hb3
  have HOWN := hide (show ∀ k, i.own k → w2.heap.size ≤ k from hown)
  have HIS := hide (And.intro his0 (And.intro his1 hDn))
  have hop0 := fun (W : World) (hW : Below w2.heap.size w2 W) (tt : Nat) => gopen_yes (tt := tt) (HC.out.1.below hW) HC.out.2.1 (by rw [HU.out.1]; exact HU.out.2.2.1)
  have hop1 := fun (W : World) (hW : Below w2.heap.size w2 W) (tt : Nat) => gopen_yes (tt := tt) (HC.out.1.below hW) HC.out.2.2 (by rw [HU.out.2.1]; exact HU.out.2.2.2.1)
  rw [HU.out.1, show ((0 : Nat) : Int) = 0 from rfl] at hop0
  rw [HU.out.2.1, show ((1 : Nat) : Int) = 1 from rfl] at hop1
  have HOP0 := hide hop0
  have HOP1 := hide hop1
  clear hb3 hx hown his0 his1 hall hll hDn HFR hop0 hop1
  go_wp2_with fail
  refine (HOP0.out w3 HB23.out i.tt).mono ?_
  rintro e w4 ⟨g0, rfl, -, hG0, hb4⟩
  have HL4 : Hid (GAt w4 i ⟨D, [], 0⟩ g0 u0 0 GS.fresh) := hide ⟨HX3.out.below hb4, hG0, by simp only; rw [HIS.out.2.2]; exact HGO.out.1, HIS.out.1, GS.fresh_ok⟩
  have HB24 := hide (HB23.out.trans (hb4.mono HB23.out.size))
  clear hG0 hb4 HX3 HB23 HOP0
  have HNW := hide (show ∀ k, w4.heap.size ≤ k → ¬ i.own k from fun k hk => HL4.out.tx.other_new hk)
  have HLG := hide (And.intro HL4.out.tx.log.log.lt HL4.out.gp.lt)
  obtain ⟨N, hN⟩ : ∃ N, m % 10 = N := ⟨_, rfl⟩
  have e1 : ((m : Int)).tmod 10 = (N : Int) := by rw [Int.tmod_eq_emod_of_nonneg (by omega)]; omega
  have HN10 := hide (show N < 10 by omega)
  clear hN
  go_wp2_with fail
  clear e1
  go_loopg [11, 12, 13, 14, 15, 54] N (fun gh x11 x12 x13 x14 x15 x54 wr => ∃ (j : Nat) (Ao : Option Addr) (co : Nat) (s : Sto) (G : GS) (L : List Nat), j ≤ N ∧ gh = N - j ∧ x11 = .slice Ao j co ∧ x54 = .int .u8 (j : Int) ∧ Hid (GAt wr i s g0 u0 0 G) ∧ Hid (Tch w4.heap.size i.own w4 wr) ∧ Hid (s.In L ∧ L.length = j ∧ Stay ⟨D, [], 0⟩ s u0) ∧ Hid (Firsts G (4 + j) ∧ ∀ k, k < j → G.nd (4 + k) = freshN 3) ∧ Hid (wr.ownsRow w4.heap.size 152 3 (.slice Ao j co) j (flatA j)))
  case atStart => exact ⟨0, none, 0, ⟨D, [], 0⟩, GS.fresh, [], Nat.zero_le _, rfl, rfl, rfl, HL4, hide (Tch.refl _ _ _), hide ⟨fun x hx => absurd hx (by simp), rfl, rfl, rfl, fun _ _ => rfl⟩, hide ⟨firsts_fresh, fun k hk => absurd hk (Nat.not_lt_zero _)⟩, hide (World.ownsRow_nil _ _ _ _)⟩
  case round =>
    clear HL4
    obtain ⟨j, Ao, co, s, G, L, hj, hgh, rfl, rfl, HL, HT4, HS, HG, HO⟩ := hrel
    have HGH := hide hgh
    clear hgh
    rcases Nat.lt_or_ge j N with hjn | hjn
    · have t1 : decide ((j : Int) < (N : Int)) = true := by simp; omega
      have e1 : IntKind.u8.wrap ((j : Int) + 1) = (j : Int) + 1 := by have := HN10.out; rw [IntKind.wrap_u8]; omega
      have hlen := HS.out.1.len HL.out.tx.ok
      have hmk := gs_make (k := 3) HL.out (by have := HN10.out; have := HS.out.2.1; omega) rfl
      obtain ⟨m1, m2, m3⟩ := HG.out.1.make (g := u0) (k := 3) (by omega) (by have := HN10.out; have := HGO.out.2.2.2.2.1; omega)
      rw [m1, m2, m3, show (((3 : UInt8).toNat : Nat) : Int) = 3 from rfl] at hmk
      have HMK := hide hmk
      clear hmk m1 m2 m3 hlen
      go_wp2_with fail
      refine HMK.out.mono ?_
      rintro e w5 ⟨rfl, s5, hl5, hs5, ht5⟩
      have hino := gs_ino (num := 4 + j) hl5 (by omega) (by have := HN10.out; have := HGO.out.2.2.2.2.1; omega)
      rw [(ino_ar (by have := HN10.out; omega)).1, (ino_ar (by have := HN10.out; omega)).2] at hino
      have HINO := hide hino
      have HL5 := hide hl5
      have HS5 := hide hs5
      have HT5 := hide ht5
      clear hl5 hs5 ht5 hino HMK
      go_wp2_with fail
      refine HINO.out.mono ?_
      rintro e w6 ⟨rfl, s6, hl6, hs6, ht6⟩
      have HL6 := hide hl6
      have HT6 := hide (HT5.out.trans (ht6.mono HT5.out.size fun _ _ h => h))
      have HS6 : Hid (∃ L, s6.In L ∧ L.length = j + 1 ∧ Stay ⟨D, [], 0⟩ s6 u0) := hide ⟨L ++ [u0.base + u0.bitmap + (4 + j - 1) / 2], (hs6.in_ (HS5.out.in_ HS.out.1)).mono (fun x hx => by simpa using hx), by rw [List.length_append, HS.out.2.1]; rfl, HS.out.2.2.trans ⟨hs6.D.trans HS5.out.D, hs6.bad.trans HS5.out.bad, fun m hm => (hs6.far m hm).trans (HS5.out.far m hm)⟩⟩
      clear hl6 hs6 ht6 HINO HL5 HS5 HT5 HS
      go_upto_region 14 with (first | ((with_reducible refine at_alloc 152 ?_); refine wpList_alloc_as rfl 152 rfl _ (zero_ino _) ?_) | ((with_reducible refine at_store 152 (.tmp 14) (.tmp 67) ?_); refine wpList_store_blk rfl 152 (.tmp 14) (.tmp 67) rfl w6.heap.size _ _ _ (by rfl) (by rfl) (Blk.new _ _ _) (size_inoc (ar j)) rfl (by simp [InR.ino, Value.oneCell']) (fun _ => ?_)) | fail)
      refine at_world (fun W => ∃ q, q = w6.heap.size ∧ Below w6.heap.size w6 W ∧ Blk W q 152 (ar j).ino.toArray) ⟨_, rfl, below_setRow ((Below.refl _ _).alloc (Nat.le_refl _) _) (Nat.le_refl _) _, (Blk.new _ _ _).setRow_same _⟩ (fun w7 h7 => ?_)
      obtain ⟨q, hq, hb7, hQ7⟩ := h7
      rw [← hq]
      rw [ino_arr] at hQ7
      have HL7 := hide (HL6.out.below hb7)
      have HT7 := hide (HT6.out.trans ((Tch.of_below hb7).mono HT6.out.size fun _ _ h => h))
      have HQ7 := hide hQ7
      have HO7 := hide (own_tch HO.out HT7.out HNW.out)
      clear hq hb7 hQ7 HL6 HT6 HO
      obtain ⟨j0, hj0, j1, j2, j3⟩ := info_ino3
      have HJ := hide (And.intro hj0 (And.intro j1 (And.intro j2 j3)))
      have hone : ∀ u ∈ ([.int .u8 ((ar j).lab.toNat : Int), .int .u16 ((ar j).num.toNat : Int), .int .u16 ((ar j).gen.toNat : Int)] : List Value), u.oneCell' = true := by simp [Value.oneCell']
      have HONE := hide hone
      have hk6 : j ≤ 1000000 := by have := HN10.out; omega
      have hs7 : w4.heap.size ≤ w7.heap.size := Nat.le_trans HT4.out.size HT7.out.size
      clear hj0 j1 j2 j3 hone
      go_wp2_with (first | ((with_reducible refine at_load 152 (.tmp 14) ?_); refine wpList_load_blk rfl 152 (.tmp 14) rfl q _ _ _ (by rfl) HQ7.out Tryz.underlying152 rfl (size_inoc (ar j)) ?_) | (at_builtin; refine wpList_append_one rfl (.tmp 69) (.tmp 71) 159 rfl w4.heap.size 152 j0 (.agg InR.zero.ino.toArray) 3 6 Tryz.underlying159 HJ.out.1 HJ.out.2.1 HJ.out.2.2.1 HJ.out.2.2.2 rfl (by decide) Ao co j (flatA j) [.int .u8 ((ar j).lab.toNat : Int), .int .u16 ((ar j).num.toNat : Int), .int .u16 ((ar j).gen.toNat : Int)] w7 rfl HO7.out rfl rfl rfl HONE.out hk6 (by decide) hs7 ?_; intro A9 c9 w8 hown9 hg9 hb9 hat9) | fail)
      have htg : Tch w7.heap.size (fun g => (Value.slice Ao j co).ownBlock = some g) w7 w8 := Tch.grown hg9 (Nat.le_refl _) (fun g hg _ => hg)
      have hown_ge : ∀ g, (Value.slice Ao j co).ownBlock = some g → w4.heap.size ≤ g := fun g hg => (own_block_ge HO7.out hg).1
      have HL8 := hide (HL7.out.apart htg (fun g hg => ⟨HNW.out g (hown_ge g hg), by have := hown_ge g hg; have := HLG.out.1; omega, by have := hown_ge g hg; have := HLG.out.2; omega⟩))
      have HT8 := hide ((HT4.out.trans (HT7.out.mono HT4.out.size fun _ _ h => h)).trans (htg.mono hs7 (fun g hk hg => by have := hown_ge g hg; omega)))
      have hfl : flatA j ++ [.int .u8 ((ar j).lab.toNat : Int), .int .u16 ((ar j).num.toNat : Int), .int .u16 ((ar j).gen.toNat : Int)] = flatA (j + 1) := (flatA_succ j).symm
      rw [hfl] at hown9
      have HO8 := hide hown9
      have HG8 : Hid (Firsts (G.set (4 + j) (freshN 3)) (4 + (j + 1)) ∧ ∀ k, k < j + 1 → (G.set (4 + j) (freshN 3)).nd (4 + k) = freshN 3) := hide ⟨HG.out.1.next (by decide), fun k hk => by
        simp only [GS.set, upd]
        by_cases e : 4 + k = 4 + j
        · rw [if_pos e]
        · rw [if_neg e]; exact HG.out.2 k (by omega)⟩
      clear hown9 hg9 hb9 hat9 htg hown_ge hfl HL7 HT7 HO7 HG HT4
      obtain ⟨L8, hL8⟩ := HS6.out
      go_roundg (N - (j + 1))
      case rel => exact ⟨j + 1, A9, c9, s6, _, L8, by omega, rfl, rfl, by first | rfl | go_num, HL8, HT8, hide hL8, HG8, HO8⟩
      case measure => have := HGH.out; omega
    · have hjN : j = N := by omega
      subst hjN
      have t1 : decide ((j : Int) < (j : Int)) = false := by simp
      have hcom := commit_ok HL.out.tx HS.out.2.2.bad
      have HCOM := hide hcom
      clear hcom hjn hj HGH
      go_wp2_with fail
      refine HCOM.out.mono ?_
      rintro e w5 ⟨l5, rfl, hp5, hx5, ht5⟩
      have HD5 : Hid (ApD u0 u1 n0 (commitD s l5) (commitD s l5) G GS.fresh) := hide ⟨by rw [commit_len, HS.out.2.2.D]; exact HIS.out.2.2, fun _ _ _ => rfl, HL.out.is.commit HGO.out.1 HL.out.tx.ok hp5, (HIS.out.2.1.keep HGO.out.2.1 (fun m m1 m2 => HS.out.2.2.far m (.inr (by have := HGO.out.2.2.2.2.2.2; omega)))).commit HGO.out.2.1 HL.out.tx.ok hp5, GS.fresh_ok⟩
      have HG5 := hide (And.intro HL.out.gok HG.out.2)
      have HT5 := hide (HT4.out.trans (ht5.mono HT4.out.size fun _ _ h => h))
      have HO5 := hide (own_tch HO.out ht5 HNW.out)
      have HX5 := hide hx5
      obtain ⟨D1, hD1⟩ : ∃ D1, commitD s l5 = D1 := ⟨_, rfl⟩
      rw [hD1] at HD5 HX5
      clear hD1 hp5 hx5 ht5 HCOM HL HS HG HT4 HO
      go_wp2_with fail
      refine (image_ok HX5.out.log.disk).mono ?_
      rintro e w6 ⟨A1, ca1, rfl, hR1, hb6, hA1⟩
      have HL6 := hide (HX5.out.log.below hb6)
      have HL6D := hide HX5.out.log.disk.len
      have HD5L := hide HD5.out.len
      have HW45 := hide HT5.out.size
      have HT6 := hide (HT5.out.trans ((Tch.of_below hb6).mono HT5.out.size fun _ _ h => h))
      have HO6 := hide (own_below HO5.out hb6)
      have HR1 := hide hR1
      have HA1 := hide hA1
      clear hb6 hR1 hA1 HX5 HT5 HO5
      go_wp2_with fail
      have HB26 : Hid (Below w2.heap.size w2 w6) := hide (HB24.out.trans ((HT6.out.mono HB24.out.size (S' := fun _ => False) (fun k hk h => by have := HOWN.out k h; omega)).below fun _ _ h => h))
      have HDR := hide (show (w2.heap.size ≤ i.dd ∧ i.dd < w4.heap.size) ∧ (w2.heap.size ≤ i.rr ∧ i.rr < w4.heap.size) from ⟨⟨HOWN.out _ (.inr (.inr (.inl rfl))), Nat.lt_of_not_le fun h => HNW.out _ h (.inr (.inr (.inl rfl)))⟩, ⟨HOWN.out _ (.inr (.inr (.inr rfl))), Nat.lt_of_not_le fun h => HNW.out _ h (.inr (.inr (.inr rfl)))⟩⟩)
      have HT26 := hide HT6.out.size
      clear HB24 HT6 HLG
      go_loopg [18, 19, 20, 21, 22, 23, 80] j (fun gh x18 x19 x20 x21 x22 x23 x80 wr => ∃ (q : Nat) (Dk : List BlkV) (Gk : GS) (κ : Nat → Nat), q ≤ j ∧ gh = j - q ∧ x80 = .int .i64 (q : Int) ∧ Hid (Tch w6.heap.size (fun x => x = i.dd ∨ x = i.rr) w6 wr) ∧ Hid (LogAt wr i.ll i.dd i.rr Dk) ∧ Hid (ApD u0 u1 n0 D1 Dk G Gk ∧ UpN Gk u1 q κ))
      case atStart => exact ⟨0, D1, GS.fresh, fun _ => 0, Nat.zero_le _, rfl, rfl, hide (Tch.refl _ _ _), HL6, hide ⟨HD5.out, upn_fresh _ _⟩⟩
      case round =>
        clear HL6 HD5
        obtain ⟨q, Dk, Gk, κ, hq, hgh, rfl, HT, HL, HI⟩ := hrel
        have HGH := hide hgh
        clear hgh
        have HBr : Hid (Below w2.heap.size w2 wr) := hide (HB26.out.trans ((HT.out.mono HB26.out.size (S' := fun _ => False) (fun k hk h => by
          have := HDR.out
          rcases h with h | h <;> omega)).below fun _ _ h => h))
        rcases Nat.lt_or_ge q j with hql | hql
        · have t1 : decide ((q : Int) < (j : Int)) = true := by simp; omega
          have t1' : (q : Int) < (j : Int) := by omega
          have e64 : IntKind.i64.wrap ((q : Int) + 1) = (q : Int) + 1 := IntWalk.i64_in _ (by have := HN10.out; omega)
          have HOr := own_tch HO6.out HT.out (fun k hk h => by have := HDR.out; rcases h with h | h <;> omega)
          obtain ⟨ga, rfl, -, hga, hrg⟩ := ar_range HOr (by omega)
          have hrq := hrg q hql
          have HRG := hide hrq
          have HSZ := hide (show (Tryz.prog.info? 152).map (·.size) = some (ar q).ino.length from size_inoc (ar q))
          have HD32 := hide (show 32 ≤ Dk.length from by rw [HI.out.1.len]; exact HF.out.ge)
          clear hrg hrq HOr
          go_upto_region 21 with (first | ((with_reducible refine at_load 152 (.tmp 82) ?_); refine wpList_load_mid rfl 152 (.tmp 82) rfl ga (q * 3) (by rfl) (ar q).ino _ HRG.out Tryz.underlying152 rfl HSZ.out ?_) | ((with_reducible refine at_alloc 152 ?_); refine wpList_alloc_as rfl 152 rfl _ (zero_ino _) ?_) | ((with_reducible refine at_store 152 (.tmp 18) (.tmp 83) ?_); refine wpList_store_blk rfl 152 (.tmp 18) (.tmp 83) rfl wr.heap.size _ _ _ (by rfl) (by rfl) (Blk.new _ _ _) (size_inoc (ar q)) rfl (by simp [InR.ino, Value.oneCell']) (fun _ => ?_)) | fail)
          refine at_world (fun W => ∃ z, z = wr.heap.size ∧ Below wr.heap.size wr W ∧ Blk W z 152 (ar q).ino.toArray) ⟨_, rfl, below_setRow ((Below.refl _ _).alloc (Nat.le_refl _) _) (Nat.le_refl _) _, (Blk.new _ _ _).setRow_same _⟩ (fun w7 h7 => ?_)
          obtain ⟨z, hz, hb7, hZ7⟩ := h7
          rw [← hz]
          have HL7 := hide (HL.out.below hb7)
          have HT7 := hide (HT.out.trans ((Tch.of_below hb7).mono HT.out.size fun _ _ h => h))
          have HB7 := hide (HBr.out.trans (hb7.mono HBr.out.size))
          have HZ7 := hide hZ7
          clear hz hb7 hZ7 HRG HSZ HL HBr
          go_wp2_with fail
          refine (begin_ok HL7.out HD32.out).mono ?_
          rintro e w8 ⟨tt, mq, rfl, htt, hmq, hx8, hb8⟩
          obtain ⟨ii, hii⟩ : ∃ ii : Ids, Ids.mk tt mq i.ll i.dd i.rr = ii := ⟨_, rfl⟩
          have htt' : tt = ii.tt := by rw [← hii]
          rw [hii] at hx8
          subst htt'
          have HX8 := hide hx8
          have HT78 := hide (Tch.of_below (S := ii.own) hb8)
          have HB8 := hide (HB7.out.trans (hb8.mono HB7.out.size))
          have HII := hide (And.intro hii (And.intro htt hmq))
          have HZ8 := hide (HZ7.out.below hb8 HZ7.out.lt)
          have HI2 : Hid (∀ k, ii.own k → w2.heap.size ≤ k) := hide (fun k hk => by
            have h1 := HII.out.1
            have h2 := HII.out.2.1
            have h3 := HII.out.2.2
            have h4 := HDR.out
            have h5 := HB7.out.size
            rcases hk with e | e | e | e
            · omega
            · rw [← h1] at e; simp only at e; omega
            · rw [← h1] at e; simp only at e; omega
            · rw [← h1] at e; simp only at e; omega)
          clear hii htt hmq hx8 hb8 HL7 HZ7 HB7
          go_wp2_with fail
          refine (HOP1.out w8 HB8.out ii.tt).mono ?_
          rintro e w9 ⟨g1, rfl, -, hG9, hb9⟩
          have ha9 : GAt w9 ii ⟨Dk, [], 0⟩ g1 u1 1 Gk := ⟨HX8.out.below hb9, hG9, by simp only; rw [HI.out.1.len]; exact HGO.out.2.1, HI.out.1.up, HI.out.1.gok⟩
          have HB9 := hide (HB8.out.trans (hb9.mono HB8.out.size))
          have HZ9 := hide (HZ8.out.below hb9 HZ8.out.lt)
          have HT79 := hide (HT78.out.trans ((Tch.of_below (S := ii.own) hb9).mono HT78.out.size fun _ _ h => h))
          have hneed := need_ap (cc := cc) ha9 HI.out.2 (by have := HN10.out; omega) HGO.out.2.2.2.2.2.1 HGO.out.2.2.2.1 (fun k hk W hW hT => by
            have hBW : Below w2.heap.size w2 W := HB9.out.trans ((hT.mono HB9.out.size (S' := fun _ => False) (fun x hx h => by have := HI2.out x h; omega)).below fun _ _ h => h)
            have hal := alive_ok (o := ar k) (HC.out.1.below hBW) HC.out.2.1 HU.out.1 (by exact HU.out.2.2.1) (by exact HU.out.2.2.2.2.1) hW.tx (by simp only; rw [HI.out.1.len]; exact HGO.out.1) HI.out.1.lo HG5.out.1
            rw [alive_ar (by have := HN10.out; omega) (HG5.out.2 k (by omega)) HGO.out.2.2.2.2.1] at hal
            exact hal.mono fun e w' ⟨he, hx, ht⟩ => ⟨he, ⟨hx, hW.gp.tch hW.tx ht, hW.ok, hW.is, hW.gok⟩, ht⟩)
          have HNEED := hide hneed
          clear ha9 hG9 hb9 hneed HX8 HZ8 HT78 HB8
          go_wp2_with (first | ((with_reducible refine at_load 152 (.tmp 18) ?_); refine wpList_load_blk rfl 152 (.tmp 18) rfl z _ _ _ (by rfl) HZ9.out Tryz.underlying152 rfl (size_inoc (ar q)) ?_) | fail)
          refine HNEED.out.mono ?_
          rintro e w10 ⟨rfl, s10, G10, κ10, ha10, hup10, hst10, ht10⟩
          have HA10 := hide (And.intro ha10 (And.intro hup10 hst10))
          have HT10 := hide (HT79.out.trans (ht10.mono HT79.out.size fun _ _ h => h))
          have hcom := commit_ok ha10.tx hst10.bad
          have HCOM := hide hcom
          clear ha10 hup10 hst10 ht10 hcom HNEED HZ9 HT79 HB9
          go_wp2_with fail
          refine HCOM.out.mono ?_
          rintro e w11 ⟨l, rfl, hp, hx11, ht11⟩
          have HT11 := hide (Tch.txn2 HII.out HT7.out (HT10.out.trans (ht11.mono HT10.out.size fun _ _ h => h)) HT7.out.size)
          have HL11 := hide (hx11.log.ids HII.out.1)
          have HI11 := hide (And.intro (HI.out.1.commit HGO.out.1 HGO.out.2.1 HGO.out.2.2.2.2.2.2 HA10.out.1.tx.ok HA10.out.1.is HA10.out.1.gok HA10.out.2.2 hp) HA10.out.2.1)
          clear hp hx11 ht11 HCOM
          go_wp2
          go_roundg (j - (q + 1))
          case rel => exact ⟨q + 1, _, G10, κ10, by omega, rfl, by first | rfl | go_num, HT11, HL11, HI11⟩
          case measure => have := HGH.out; omega
        · have hqj : q = j := by omega
          subst hqj
          have t1 : decide ((q : Int) < (q : Int)) = false := by simp
          have HI3 := hide (And.intro HI.out.1 HI.out.2.up)
          clear HI hql hq HGH
          go_wp2_with fail
          go_loopg [25, 26, 27, 28, 107] n (fun gh x25 x26 x27 x28 x107 wr => ∃ (r : Nat) (Dr : List BlkV) (Gr : GS) (κr : Nat → Nat) (S : Nat → Bool), r ≤ n ∧ gh = n - r ∧ x107 = .int .i64 (r : Int) ∧ Hid (Tch w6.heap.size (fun x => x = i.dd ∨ x = i.rr) w6 wr) ∧ Hid (LogAt wr i.ll i.dd i.rr Dr) ∧ Hid (ApD u0 u1 n0 D1 Dr G Gr ∧ UpS Gr u1 S q κr))
          case atStart => exact ⟨0, Dk, Gk, κ, fun _ => true, Nat.zero_le _, rfl, rfl, HT, HL, HI3⟩
          case round =>
            clear HT HL HI3 HBr
            obtain ⟨r, Dr, Gr, κr, S, hr, hgh, rfl, HT, HL, HI⟩ := hrel
            have HGH := hide hgh
            clear hgh
            have HBr : Hid (Below w2.heap.size w2 wr) := hide (HB26.out.trans ((HT.out.mono HB26.out.size (S' := fun _ => False) (fun k hk h => by
              have := HDR.out
              rcases h with h | h <;> omega)).below fun _ _ h => h))
            rcases Nat.lt_or_ge r n with hrn | hrn
            · have t1 : decide ((r : Int) < (n : Int)) = true := by simp; omega
              have t1' : (r : Int) < (n : Int) := by omega
              have e64 : IntKind.i64.wrap ((r : Int) + 1) = (r : Int) + 1 := IntWalk.i64_in _ (by have := HN.out; omega)
              have hrd := HDRP.out.below (HB2.out.trans (HBr.out.mono HB2.out.size))
              obtain ⟨gd, od, rfl, hgd, hcd⟩ := hrd.2 (by omega)
              have hTl : T.length = n := by have := hrd.1; rw [bvs_length] at this; omega
              obtain ⟨b, hb⟩ : ∃ b, T[r]? = some b := ⟨_, List.getElem?_eq_getElem (by omega)⟩
              have hcell := hcd r (bv b) (by rw [bvs_get, hb]; rfl)
              obtain ⟨y, hy⟩ : ∃ y, b.toNat = y := ⟨_, rfl⟩
              have hy8 : y < 256 := by rw [← hy]; exact b.toNat_lt
              unfold bv at hcell
              rw [hy] at hcell
              have ey : IntKind.i64.wrap (y : Int) = (y : Int) := IntWalk.i64_in _ (by omega)
              have HD32 := hide (show 32 ≤ Dr.length from by rw [HI.out.1.len]; exact HF.out.ge)
              clear hrd hcd hTl hb hy hgd
              by_cases hq0 : q = 0
              · subst hq0
                go_wp2
                go_roundg (n - (r + 1))
                case rel => exact ⟨r + 1, Dr, Gr, κr, S, by omega, rfl, by first | rfl | go_num, HT, HL, HI⟩
                case measure => have := HGH.out; omega
              have tq : decide ((0 : Int) < (q : Int)) = true := by simp; omega
              have tz : ((q : Int) == 0) = false := by rw [beq_eq_false_iff_ne]; omega
              obtain ⟨kk, hkk⟩ : ∃ kk, y % q = kk := ⟨_, rfl⟩
              have hkq : kk < q := by rw [← hkk]; exact Nat.mod_lt _ (by omega)
              have e1 : (y : Int).tmod (q : Int) = (kk : Int) := by rw [Int.tmod_eq_emod_of_nonneg (by omega)]; omega
              have e2 : IntKind.i64.wrap (kk : Int) = (kk : Int) := IntWalk.i64_in _ (by have := HN10.out; omega)
              have t2 : (kk : Int) < (q : Int) := by omega
              have HKK := hide hkq
              have HCL := hide hcell
              have HOr := own_tch HO6.out HT.out (fun k hk h => by have := HDR.out; rcases h with h | h <;> omega)
              have HORR := hide HOr
              have HSZ := hide (show (Tryz.prog.info? 152).map (·.size) = some (ar kk).ino.length from size_inoc (ar kk))
              have HQ0 := hide (show 0 < q by omega)
              clear HOr hkk hkq hy8
              go_wp2_with fail
              clear hcell
              refine (begin_ok HL.out HD32.out).mono ?_
              rintro e w8 ⟨tt, mq, rfl, htt, hmq, hx8, hb8⟩
              obtain ⟨ii, hii⟩ : ∃ ii : Ids, Ids.mk tt mq i.ll i.dd i.rr = ii := ⟨_, rfl⟩
              have htt' : tt = ii.tt := by rw [← hii]
              rw [hii] at hx8
              subst htt'
              have HX8 := hide hx8
              have HT78 := hide (Tch.of_below (S := ii.own) hb8)
              have HB8 := hide (HBr.out.trans (hb8.mono HBr.out.size))
              have HII := hide (And.intro hii (And.intro htt hmq))
              clear hii htt hmq hx8 hb8 HL HBr
              go_wp2_with fail
              refine (HOP1.out w8 HB8.out ii.tt).mono ?_
              rintro e w9 ⟨g1, rfl, -, hG9, hb9⟩
              have ha9 : GAt w9 ii ⟨Dr, [], 0⟩ g1 u1 1 Gr := ⟨HX8.out.below hb9, hG9, by simp only; rw [HI.out.1.len]; exact HGO.out.2.1, HI.out.1.up, HI.out.1.gok⟩
              have HT79 := hide (HT78.out.trans ((Tch.of_below (S := ii.own) hb9).mono HT78.out.size fun _ _ h => h))
              have hdrop := drop_ap (k := kk) ha9 HI.out.2 (by have := HN10.out; omega) HKK.out HGO.out.2.2.2.2.2.1 HGO.out.2.2.2.1
              have HDROP := hide hdrop
              have HO9 := own_keep HORR.out (fun g hg => HT79.out.block g (own_block_ge HORR.out hg).2 (fun ho => by
                have h1 := HII.out.1
                have h2 := HII.out.2.1
                have h3 := HII.out.2.2
                have h4 := HDR.out
                have h5 := own_block_ge HORR.out hg
                rcases ho with e | e | e | e
                · omega
                · rw [← h1] at e; simp only at e; omega
                · rw [← h1] at e; simp only at e; omega
                · rw [← h1] at e; simp only at e; omega))
              obtain ⟨ga, rfl, -, hga, hrg⟩ := ar_range HO9 HQ0.out
              have hrq := hrg kk HKK.out
              have HRG9 := hide hrq
              clear HO9 hrg hrq
              clear ha9 hG9 hb9 hdrop HX8 HT78 HB8
              go_wp2_with (first | ((with_reducible refine at_load 152 (.tmp 129) ?_); refine wpList_load_mid rfl 152 (.tmp 129) rfl ga (kk * 3) (by rfl) (ar kk).ino _ HRG9.out Tryz.underlying152 rfl HSZ.out ?_) | fail)
              refine HDROP.out.mono ?_
              rintro e w10 ⟨x10, rfl, s10, G10, κ10, ha10, hup10, hst10, ht10⟩
              have HA10 := hide (And.intro ha10 (And.intro hup10 hst10))
              have HT10 := hide (HT79.out.trans (ht10.mono HT79.out.size fun _ _ h => h))
              have hcom := commit_ok ha10.tx hst10.bad
              have HCOM := hide hcom
              clear ha10 hup10 hst10 ht10 hcom HDROP HT79
              go_wp2_with fail
              refine HCOM.out.mono ?_
              rintro e w11 ⟨l, rfl, hp, hx11, ht11⟩
              have HT11 := hide (Tch.txn2 HII.out HT.out (HT10.out.trans (ht11.mono HT10.out.size fun _ _ h => h)) HT.out.size)
              have HL11 := hide (hx11.log.ids HII.out.1)
              have HI11 := hide (And.intro (HI.out.1.commit HGO.out.1 HGO.out.2.1 HGO.out.2.2.2.2.2.2 HA10.out.1.tx.ok HA10.out.1.is HA10.out.1.gok HA10.out.2.2 hp) HA10.out.2.1)
              clear hp hx11 ht11 HCOM
              go_wp2
              go_roundg (n - (r + 1))
              case rel => exact ⟨r + 1, _, G10, κ10, _, by omega, rfl, by first | rfl | go_num, HT11, HL11, HI11⟩
              case measure => have := HGH.out; omega
            · have t1 : decide ((r : Int) < (n : Int)) = false := by simp; omega
              have t1' : ¬ (r : Int) < (n : Int) := by omega
              have HI4 := hide HI.out.1
              clear HI hr hrn HGH
              go_wp2_with fail
              clear t1 t1'
              refine (image_ok HL.out.disk).mono ?_
              rintro e w12 ⟨A2, ca2, rfl, hR2, hb12, hA2⟩
              have HB12 := hide (HBr.out.trans (hb12.mono HBr.out.size))
              have HT12 := hide (HT.out.trans ((Tch.of_below hb12).mono HT.out.size fun _ _ h => h))
              have HR1' := hide (HR1.out.tch HT12.out (fun b hb h => by
                have h1 := HA1.out b hb
                have h2 := HDR.out
                have h3 := HW45.out
                rcases h with h | h <;> omega))
              have HB12x := hide (show Below w12.heap.size w12 w12 from Below.refl _ _)
              have HR2 := hide hR2
              have HKL := hide HL.out.disk.len
              have HDL := hide HL6D.out
              have HND := hide (show D1.length = Dr.length from by rw [HI4.out.len]; exact HD5L.out)
              have HLE := hide (show Dr.length ≤ 65536 from by rw [HI4.out.len]; exact HF.out.le)
              clear hb12 hR2 hA2 HL HT HT12 HBr
              go_wp2_with fail
              go_loopg [29, 30, 31, 32, 33, 138] Dr.length (fun gh x29 x30 x31 x32 x33 x138 wq => ∃ j : Nat, j ≤ Dr.length ∧ gh = Dr.length - j ∧ x138 = .int .i64 (j : Int) ∧ Hid (Below w12.heap.size w12 wq))
              case atStart => exact ⟨0, Nat.zero_le _, rfl, rfl, hide (Below.refl _ _)⟩
              case round =>
                obtain ⟨j, hj, hgj, rfl, HBq⟩ := hrel
                have HGJ := hide hgj
                clear hgj
                rcases Nat.lt_or_ge j Dr.length with hjl | hjl
                · have t1 : decide ((j : Int) < (Dr.length : Int)) = true := by simp; omega
                  have t1' : (j : Int) < (Dr.length : Int) := by omega
                  have e64 : IntKind.i64.wrap ((j : Int) + 1) = (j : Int) + 1 := IntWalk.i64_in _ (by have := HLE.out; omega)
                  have hx2 : Dr[j]? = some (Dr[j]'hjl) := List.getElem?_eq_getElem hjl
                  have hl1 : (Dr[j]'hjl).length = 64 := HKL.out _ (List.getElem_mem hjl)
                  have hx3 : Dr.getD j zeroB = Dr[j]'hjl := by rw [List.getD_eq_getElem?_getD, hx2]; rfl
                  generalize Dr[j]'hjl = x at hx2 hl1 hx3
                  obtain ⟨g2, o2, hA2, hg2, hr2⟩ := (HR2.out.below HBq.out).block HKL.out hx2
                  subst hA2
                  have HX3 := hide (And.intro hx3 hl1)
                  have HR4 := hide hr2
                  have HSZ := hide (show (Tryz.prog.info? 106).map (·.size) = some (bvs x).length from by rw [size_block, bvs_length, hl1])
                  clear hx2 hl1 hx3 hg2 hr2
                  go_upto_region 39 with (first | ((with_reducible refine at_load 106 (.tmp 141) ?_); refine wpList_load_mid rfl 106 (.tmp 141) rfl g2 _ (by rfl) (bvs x) _ HR4.out Tryz.underlying106 rfl HSZ.out ?_) | ((with_reducible refine at_alloc 106 ?_); refine wpList_alloc_as rfl 106 rfl _ (zero_block _) ?_) | ((with_reducible refine at_store 106 (.tmp 30) (.tmp 142) ?_); refine wpList_store_blk rfl 106 (.tmp 30) (.tmp 142) rfl wr.heap.size 106 _ _ (by rfl) (by rfl) (Blk.new _ _ _) (size_blockOf HX3.out.2) ((bvs_size zeroB_length).trans (bvs_size HX3.out.2).symm) (bvs_oneCell _) (fun _ => ?_)) | fail)
                  refine at_world (fun W => ∃ z, z = wr.heap.size ∧ Below wr.heap.size wr W ∧ Blk W z 106 (bvs x).toArray) ⟨_, rfl, below_setRow ((Below.refl _ _).alloc (Nat.le_refl _) _) (Nat.le_refl _) _, (Blk.new _ _ _).setRow_same _⟩ (fun w7 h7 => ?_)
                  obtain ⟨z, hz, hb7, hZ7⟩ := h7
                  rw [← hz]
                  have HBq7 := hide (HBq.out.trans (hb7.mono HBq.out.size))
                  have HZ7 := hide hZ7
                  have hgr := group_ok (HC.out.1.below (HB12.out.trans (HBq7.out.mono HB12.out.size))) (by rw [ten_len]; omega) (j : Int)
                  have HGR := hide hgr
                  clear hgr hz hb7 hZ7 HBq HR4
                  go_wp2_with fail
                  refine HGR.out.mono ?_
                  cases hgf : grFrom 0 32 tenR (j : Int) with
                  | none =>
                    rintro e w13 ⟨rfl, hb13⟩
                    have HB13 := hide (HBq7.out.trans (hb13.mono HBq7.out.size))
                    clear hb13 hgf
                    simp only [grAns]
                    go_upto_region 40 with (fail)
                    go_quiet (fail)
                    go_wp2
                    go_roundg (Dr.length - (j + 1))
                    case rel => exact ⟨j + 1, by omega, rfl, by first | rfl | go_num, hide (below_drewN HB13.out _)⟩
                    case measure => have := HGJ.out; omega
                  | some p =>
                    obtain ⟨jj, kk⟩ := p
                    rintro e w13 ⟨rfl, hb13⟩
                    obtain ⟨v', hle, hv', hb1, hb2⟩ := gr_in0 0 32 (j : Int) jj kk hgf
                    simp only [grAns]
                    have HB13 := hide (HBq7.out.trans (hb13.mono HBq7.out.size))
                    by_cases hjk : jj = 0
                    · subst hjk
                      rw [Nat.sub_zero, HC.out.2.1, Option.some.injEq] at hv'
                      subst hv'
                      have hu := HU.out.1
                      have hvb := geos_from HC.out.1.ok 32 0 v0 HC.out.2.1
                      have hx1 : D1[j]? = some (D1[j]'(by rw [HND.out]; exact hjl)) := List.getElem?_eq_getElem _
                      have hee : D1[j]'(by rw [HND.out]; exact hjl) = x := by
                        have h1 : 32 ≤ j := by omega
                        have h4 : j < u0.data + u0.blocks := by
                          rw [← hu]
                          show j < v0.data.toNat + v0.blocks.toNat
                          omega
                        have h5 := HGO.out.2.2.2.2.2.2
                        have := HI4.out.far j h1 (.inl (by omega))
                        rw [HX3.out.1, List.getD_eq_getElem?_getD, hx1] at this
                        exact this.symm
                      rw [hee] at hx1
                      obtain ⟨g1, o1, hA1', hg1, hr1⟩ := (HR1'.out.below (HB12x.out.trans (HB13.out.mono HB12x.out.size))).block HDL.out hx1
                      subst hA1'
                      have HR3 := hide hr1
                      have HZR := hide (show w13.rangeAt z 0 (bvs x) from fun k v h => by
                        have h9 := (HZ7.out.below hb13 HZ7.out.lt).cell k
                        rw [List.getElem?_toArray, h] at h9
                        rw [Nat.zero_add]; exact h9)
                      have t1 : (((0 : Nat) : Int) == 0) = true := by decide
                      have hjd : (j : Int) < (D1.length : Int) := by rw [HND.out]; omega
                      clear hb13 hgf hle hb1 hb2 hx1 hr1 hvb hee hg1 hu
                      go_upto_region 40 with (fail)
                      refine wp_region_quiet_lit (by kernel_rfl) (by kernel_rfl) ?_
                      iterate 6 go_big_quiet_step (fail)
                      go_big_quiet_want
                      refine quiet_exec (v := bval x) (fun W hW => by obtain ⟨nw, rfl⟩ := hW; exact exec_load_mid 106 (.tmp 30) rfl z _ rfl (bvs x) _ (fun j v h => HZR.out j v h) Tryz.underlying106 rfl (by rw [size_block, bvs_length, HX3.out.2])) ?_
                      try simp only [Act.put, List.setIfInBounds_toArray, List.set_cons_zero, List.set_cons_succ]
                      go_big_quiet_on
                      iterate 3 go_big_quiet_step (fail)
                      go_big_quiet_want
                      refine quiet_exec (v := bval x) (fun W hW => by obtain ⟨nw, rfl⟩ := hW; exact exec_load_mid 106 (.tmp 159) rfl g1 _ rfl (bvs x) _ (fun j v h => HR3.out j v h) Tryz.underlying106 rfl (by rw [size_block, bvs_length, HX3.out.2])) ?_
                      try simp only [Act.put, List.setIfInBounds_toArray, List.set_cons_zero, List.set_cons_succ]
                      go_big_quiet_on
                      go_big_quiet_want
                      refine quiet_exec (v := .bool (!decide (x = x))) (fun W hW => by obtain ⟨nw, rfl⟩ := hW; exact exec_neq_agg 106 (.tmp 156) (.tmp 160) 106 rfl _ _ rfl rfl (by kernel_rfl) _ (block_eq _ HX3.out.2 HX3.out.2)) ?_
                      try simp only [Act.put, List.setIfInBounds_toArray, List.set_cons_zero, List.set_cons_succ]
                      go_big_quiet_on
                      iterate 1 go_big_quiet_step (fail)
                      refine wpQuiet_nil ?_
                      intro _ hw'
                      obtain ⟨nq, hw''⟩ := hw'
                      subst hw''
                      go_wp2
                      go_roundg (Dr.length - (j + 1))
                      case rel => exact ⟨j + 1, by omega, rfl, by first | rfl | go_num, hide (below_drewN HB13.out _)⟩
                      case measure => have := HGJ.out; omega
                    · have t1 : ((jj : Int) == (0 : Int)) = false := by rw [beq_eq_false_iff_ne]; omega
                      clear hb13 hgf hle hv' hb1 hb2
                      go_upto_region 40 with (fail)
                      go_quiet (fail)
                      go_wp2
                      go_roundg (Dr.length - (j + 1))
                      case rel => exact ⟨j + 1, by omega, rfl, by first | rfl | go_num, hide (below_drewN HB13.out _)⟩
                      case measure => have := HGJ.out; omega
                · have t1 : decide ((j : Int) < (Dr.length : Int)) = false := by simp; omega
                  have t1' : ¬ (j : Int) < (Dr.length : Int) := by omega
                  have HBz := hide (HB2.out.trans (((HB12.out.trans (HBq.out.mono HB12.out.size))).mono HB2.out.size))
                  go_wp2
                  go_returns
                  exact ⟨rfl, HBz.out⟩
end Go.Proofs.YthmkgohfeahdhaaGreat
namespace Go.Proofs.YthmkgohfeahdhaaGreat.lawInstApart
open Go.ChangeShapes Go.WideShapes Go.ChangeAt Go.RowKit Go.Joins
open Go.ChangeMaps (open_string shut_string)
set_option linter.unusedVariables false

theorem own : ownKnob Tryz.prog.godebug = none := by kernel_rfl
theorem laidOut : laidOutB Tryz.prog = true := by kernel_rfl

set_option maxRecDepth 100000 in
theorem lifted (os : Os) (started : os.Started) (H0 : Type) (enc : TypeId × Value → H0) :
    ReturnsInHanded {} Tryz.checked os 13 .any (Rows.instApartSpec.pre6 enc Tryz.prog Tryz.f13 Rows.instApartRow.domain false) (Rows.instApartSpec.post enc Tryz.prog Tryz.f13 false true false false) := by
  refine returnsInHanded_of_change (C := Tryz.checked) own started (by kernel_rfl) Tryz.func13
    (ChangeSpec.witness6 (enc := enc) (C := Tryz.checked) false ⟨#[], #[.int .u8 0, .slice none 0 0], []⟩ 8 (by kernel_rfl) (by kernel_rfl) (by kernel_rfl) (by kernel_rfl)) ?_
  intro W base args ds gs before hval0 hW hcnd _
  have hval : ∀ (j : Nat) t v, Tryz.f13.params[j]? = some t → args[j]? = some v → Value.okWide Tryz.prog W .any base t v := hval0
  have hW' := hW
  obtain ⟨p, q, hA0, hV, rfl, hfz, hnd⟩ := hW
  have hA : DataW.TrodAll enc Tryz.prog W 0 (fun _ => true) true Tryz.f13.params.toList args.toList ds p := hA0
  rw [Tryz.params13] at hA hval
  obtain ⟨v0, vs0, d0, ds0, p0, q0, hargs, rfl, rfl, h0, r0⟩ := trodAll_cons hA
  obtain ⟨v1, vs1, d1, ds1, p1, q1, rfl, rfl, rfl, h1, r1⟩ := trodAll_cons r0
  obtain ⟨rfl, rfl, rfl⟩ := trodAll_nil r1
  obtain rfl : args = #[v0, v1] := by cases args; simp_all
  obtain ⟨rfl, rfl⟩ := trodVars_none hV
  have k0 := h0
  have lt0 : ∀ x ∈ p0, x.block < W.heap.size := by obtain ⟨m, hm⟩ := k0; exact DataW.trod_lt m _ _ _ hm
  have k1 := h1
  have lt1 : ∀ x ∈ p1, x.block < W.heap.size := by obtain ⟨m, hm⟩ := k1; exact DataW.trod_lt m _ _ _ hm
  obtain ⟨m, rfl, hm⟩ := open_u8 Tryz.underlying5 (hval 0 5 v0 rfl rfl) h0
  obtain ⟨A, n, c, l, rfl, hr, hnc⟩ := open_bytes Tryz.underlying24 Tryz.underlying5 (by kernel_rfl) (hval 1 24 v1 rfl rfl) h1
  clear hA0 hval0
  refine (inapart_all hr m hm).mono fun e W' ⟨he, bel⟩ => ?_
  subst he
  exact ⟨_, rfl, _, _, _, [], _, [], hW', trodAll_mk1 (shut_bool Tryz.underlying4 _), (trodAll_cons_mk (Below.trod laidOut (by kernel_rfl) (of_decide_eq_true (by kernel_rfl)) k0 bel lt0) (trodAll_cons_mk (Below.trod laidOut (by kernel_rfl) (of_decide_eq_true (by kernel_rfl)) k1 bel lt1) trodAll_mk0)), rfl, bel.frame _, fun h => by cases h⟩

theorem over : Rows.instApartRow.holds Tryz.pinned (OpenSpec.ofChange Rows.instApartSpec) :=
  OpenClaim.holds_of_wide 13 Tryz.f13 rfl rfl rfl rfl rfl rfl rfl ⟨rfl, rfl, rfl, rfl, rfl⟩ rfl rfl rfl rfl rfl (by kernel_rfl) Tryz.func13 (by kernel_rfl)
    (of_decide_eq_true (by kernel_rfl)) (by unfold Func.isWrapper; first | (rw [if_pos (by decide +kernel)]; kernel_rfl) | (rw [if_neg (by decide +kernel)]; exact ⟨rfl, rfl⟩))
    (fun os started H0 enc _ => lifted os started H0 enc)

theorem proved : Rows.InstApartSaid := over
#print axioms proved
end Go.Proofs.YthmkgohfeahdhaaGreat.lawInstApart

/- Configurations in small numbers: made. A group is opened; a disk is begun: walked. Bits, blocks and groups: plain laws of what the calls come to. Groups, walked: Node, Set. Groups, walked: Make, MakeLink, Wipe, Ino, Usage. A transaction is written: Blocks, Drop, install, Commit. A transaction is written: what comes of it, plain; install, walked. A transaction is written: install, Commit: walked. A transaction is written: Commit, walked. A group as it is meant: which blocks are taken, their bytes, nodes. Plain: what the calls come to. A group's calls, over a group as it is meant. A disk's image: walked. Files: where a file's block is; pointers in blocks: walked. Files: which block a file's block is: walked. -/
import Derived.Test.YthmkgohfeahdhaaGreatDiPlaysLawP5
import Derived.Laws.Rows
import Derived.Sort.OwnSortedInts
import Derived.BigQuiet
namespace Go.Proofs.YthmkgohfeahdhaaGreat
open Go.RowKit Go.WideMaps
set_option linter.unusedSimpArgs false
set_option linter.unusedVariables false

section
variable {m : UInt8} {H : List UInt8} {A : Option Addr} {n c : Nat} {T : List UInt8} {w : World}
set_option maxRecDepth 100000 in
set_option maxHeartbeats 1000000 in
theorem size_conf (hH : H.length = 25) (hT : Rd w w.heap.size 1 A n (bvs T)) (hnm : n ≤ 9223372036854775807) :
    Calls Tryz.prog 15 #[.agg (szCells m H A n c)] w fun e w' => ∃ (cc : Nat) (K : List MarkV) (tb nb lb : Nat) (A1 A2 A3 : Option Addr) (c1 c2 c3 : Nat), e = .returned (.pointer (some ⟨cc, 0, none⟩)) ∧ Below w.heap.size w w' ∧
      ConfIn w.heap.size w' cc (szRegs m H) K tb nb lb A1 A2 A3 c1 c2 c3 ∧ MarksOk (szMany m) K := by
  have hsz : (szCells m H A n c).size = 27 := szCells_size hH
  go_enter Tryz.func15, Tryz.ntmps15
  go_upto_region 1 with (fail)
  refine at_world (fun W => ∃ bx, bx = w.heap.size ∧ Below w.heap.size w W ∧ Blk W bx 26 (szCells m H A n c)) ⟨_, rfl, (Below.refl _ _).alloc (Nat.le_refl _) _, Blk.new _ _ _⟩ (fun w1 h1 => ?_)
  obtain ⟨bx, hbx, hb1, hX1⟩ := h1
  rw [← hbx]
  have hT1 := (hT.below hb1).more hb1.size
  have HX := hide hX1
  clear hbx hX1
  have hS : ((Tryz.prog.info? 26).map (·.size)) = some (szCells m H A n c).size := by rw [hsz]; kernel_rfl
  have HS := hide hS
  have HSZ := hide hsz
  clear hS hsz
  go_wp2_with (first | (refine wpList_load_row rfl 26 (.tmp 1) (by rfl) bx (by rfl) 26 (szCells m H A n c) (0, 0) _ HX.out Tryz.underlying26 rfl HS.out ?_) | fail)
  refine (size_regs (w := w1) hH hT1 hnm).mono ?_
  rintro e w2 ⟨K, A1, A2, c1, c2, rfl, hb2, o1, o2, hK⟩
  have hM := szMany_le m
  have hnew := new_ok (R := szRegs m H) (K := K) (w := w2) (A := A1) (cA := c1) (A' := A2) (cA' := c2) (by rw [szRegs_length]; exact Rd.of_own o1) (Rd.of_own o2) (by rw [szRegs_length]; omega) (by have := hK.2.2; omega)
  rw [szRegs_length] at hnew
  have hb12 := hb1.trans (hb2.mono hb1.size)
  have hne := sz_ok m H K hK.1 hK.2.1
  go_wp2_with fail
  refine hnew.mono ?_
  rintro e w3 ⟨hb3, h0, _⟩
  obtain ⟨cc, tb, nb, lb, B1, B2, B3, d1, d2, d3, rfl, hin⟩ := h0 hne
  clear hnew h0
  have HB := hide (hb12.trans (hb3.mono hb12.size))
  have HIN := hide (hin.base hb12.size)
  clear hin hb3 o1 o2
  go_wp2
  go_returns
  exact ⟨cc, K, tb, nb, lb, B1, B2, B3, d1, d2, d3, rfl, HB.out, HIN.out, hK⟩
end
end Go.Proofs.YthmkgohfeahdhaaGreat
namespace Go.Proofs.YthmkgohfeahdhaaGreat
open Go.RowKit
set_option linter.unusedSimpArgs false
set_option linter.unusedVariables false

/-- a place in natural numbers -/
def geoN (v : GeoV) : GeoN := ⟨v.base.toNat, v.bitmap.toNat, v.table.toNat, v.data.toNat, v.blocks.toNat, v.nodes.toNat⟩
theorem geoOf_nat {a : Int} {r : RegV} (ha : 0 ≤ a) (hr : okReg r) : (geoN (geoOf a r)).val = .agg (geoOf a r).cells.toArray := by
  obtain ⟨_, h1, h2, h3, h4⟩ := hr
  unfold GeoN.val GeoN.cells GeoV.cells geoN geoOf
  simp only
  congr 1
  congr 1
  have e1 : ((a.toNat : Nat) : Int) = a := by omega
  have e2 : ((((r.blocks + 511) / 512).toNat : Nat) : Int) = (r.blocks + 511) / 512 := by omega
  have e3 : ((((r.nodes * 32 + 63) / 64).toNat : Nat) : Int) = (r.nodes * 32 + 63) / 64 := by omega
  have e4 : (((a + (r.blocks + 511) / 512 + (r.nodes * 32 + 63) / 64).toNat : Nat) : Int) = a + (r.blocks + 511) / 512 + (r.nodes * 32 + 63) / 64 := by omega
  have e5 : ((r.blocks.toNat : Nat) : Int) = r.blocks := by omega
  have e6 : ((r.nodes.toNat : Nat) : Int) = r.nodes := by omega
  rw [e1, e2, e3, e4, e5, e6]
theorem tot_ge {R : List RegV} (h : ∀ r ∈ R, okReg r) : ∀ (a : Int), a ≤ totalOf a R := by
  induction R with
  | nil => intro a; exact Int.le_refl _
  | cons r R ih =>
    intro a
    have h1 := ih (fun x hx => h x (by simp [hx])) (geoOf a r).end_
    obtain ⟨_, k1, k2, k3, k4⟩ := h r (by simp)
    have h2 : a ≤ (geoOf a r).end_ := by simp only [geoOf, GeoV.end_]; omega
    rw [totalOf]
    omega
/-- the groups of a configuration lie well -/
theorem geos_ok {R : List RegV} (h : ∀ r ∈ R, okReg r) : ∀ (a : Int) (k : Nat) (v : GeoV), 32 ≤ a → totalOf a R ≤ 65536 → (geosOf a R)[k]? = some v →
    (geoN v).Ok (totalOf a R).toNat ∧ (geoN v).val = .agg v.cells.toArray ∧ ∃ r, R[k]? = some r ∧ ((geoN v).blocks : Int) = r.blocks ∧ ((geoN v).nodes : Int) = r.nodes := by
  induction R with
  | nil => intro a k v _ _ hv; simp [geosOf] at hv
  | cons r R ih =>
    intro a k v ha ht hv
    have hr := h r (by simp)
    have hge := tot_ge (fun x hx => h x (List.mem_cons_of_mem r hx)) (geoOf a r).end_
    rw [totalOf] at ht
    cases k with
    | zero =>
      simp only [geosOf, List.getElem?_cons_zero, Option.some.injEq] at hv
      subst hv
      obtain ⟨_, k1, k2, k3, k4⟩ := id hr
      refine ⟨?_, geoOf_nat (by omega) hr, r, rfl, ?_, ?_⟩
      · rw [totalOf]
        generalize totalOf (geoOf a r).end_ R = T at ht hge
        simp only [geoOf, GeoV.end_] at hge
        constructor <;> (try simp only [geoN, geoOf]) <;> omega
      · simp only [geoN, geoOf]; omega
      · simp only [geoN, geoOf]; omega
    | succ k =>
      simp only [geosOf, List.getElem?_cons_succ] at hv
      have h2 : 32 ≤ (geoOf a r).end_ := by obtain ⟨_, k1, k2, k3, k4⟩ := id hr; simp only [geoOf, GeoV.end_]; omega
      obtain ⟨i1, i2, r', i3, i4⟩ := ih (fun x hx => h x (by simp [hx])) _ k v h2 ht hv
      exact ⟨by rw [totalOf]; exact i1, i2, r', by simpa using i3, i4⟩

section
variable {B : Nat} {w w' : World} {c : Nat} {R : List RegV} {K : List MarkV} {tb nb lb : Nat} {A1 A2 A3 : Option Addr} {c1 c2 c3 : Nat}
/-- the shape of a group's opening -/
theorem gopen_yes (h : ConfIn B w c R K tb nb lb A1 A2 A3 c1 c2 c3) {tt k : Nat} {v : GeoV} (hv : (geosOf 32 R)[k]? = some v) (hn : (geoN v).val = .agg v.cells.toArray) :
    Calls Tryz.prog 21 #[.pointer (some ⟨tt, 0, none⟩), .pointer (some ⟨c, 0, none⟩), .int .i64 (k : Int)] w fun e w' => ∃ gg, e = .returned (.tuple #[.pointer (some ⟨gg, 0, none⟩), .int .i64 0]) ∧ w.heap.size ≤ gg ∧ GroupAt w' gg tt (geoN v) (k : Int) ∧ Below w.heap.size w w' := by
  have hgo := geo_ok h hv
  obtain ⟨u, hu⟩ : ∃ u, geoN v = u := ⟨_, rfl⟩
  have hval : (Value.agg #[.int .i64 v.base, .int .i64 v.bitmap, .int .i64 v.table, .int .i64 v.data, .int .i64 v.blocks, .int .i64 v.nodes]) = .agg u.cells.toArray := by rw [← hu]; exact hn.symm
  rw [hval] at hgo
  rw [hu]
  have HGO := hide hgo
  clear hgo hu hval hn
  go_enter Tryz.func21, Tryz.ntmps21
  go_wp2_with fail
  refine HGO.out.mono ?_
  rintro e w1 ⟨rfl, hb1⟩
  have HB := hide hb1
  clear hb1 HGO
  unfold GeoN.cells
  go_wp2
  have hgp := Blk.new (w1.alloc (.cells u.cells.toArray 169)) 185 (gpcells tt u (k : Int))
  rw [World.size_alloc] at hgp
  have hbe : Below w.heap.size w ((w1.alloc (.cells u.cells.toArray 169)).alloc (.cells (gpcells tt u (k : Int)) 185)) := (HB.out.alloc HB.out.size _).alloc (by have := HB.out.size; simp; omega) _
  go_returns
  exact ⟨w1.heap.size + 1, rfl, by have := HB.out.size; omega, hgp, hbe⟩




/-- an empty disk of so many blocks, its log formatted -/
def begD (n : Nat) : List BlkV := (List.replicate n zeroB).set 1 (headB [])
theorem begun_ok (h : ConfIn B w c R K tb nb lb A1 A2 A3 c1 c2 c3) {n : Nat} (hn : totalOf 32 R = (n : Int)) (h1 : 32 ≤ n) (h2 : n ≤ 65536) :
    Calls Tryz.prog 78 #[.pointer (some ⟨c, 0, none⟩)] w fun e w' => ∃ i : Ids, e = .returned (.tuple #[.pointer (some ⟨i.dd, 0, none⟩), .pointer (some ⟨i.ll, 0, none⟩), .pointer (some ⟨i.tt, 0, none⟩)]) ∧ TxAt w' i ⟨begD n, [], 0⟩ ∧ (∀ k, i.own k → w.heap.size ≤ k) ∧ w.heap.size ≤ i.ll ∧ Below w.heap.size w w' := by
  have htot := total_ok h
  rw [hn] at htot
  have HT := hide htot
  have HN := hide (And.intro h1 h2)
  clear htot hn h1 h2
  go_enter Tryz.func78, Tryz.ntmps78
  go_wp2_with fail
  refine HT.out.mono ?_
  rintro e w1 ⟨rfl, hw1⟩
  have hw1 := hw1.symm
  subst hw1
  go_wp2_with fail
  refine (disk_new w HN.out.2).mono ?_
  rintro e w2 ⟨dd, rr, rfl, hdd, hrr, hD, hb2⟩
  have HD := hide (And.intro hD (And.intro hb2 (And.intro hdd hrr)))
  clear hD hb2 hdd hrr
  have hl32 : 32 ≤ (List.replicate n zeroB).length := by rw [List.length_replicate]; exact HN.out.1
  have HL := hide hl32
  clear hl32
  go_wp2_with fail
  refine (open_ok HD.out.1 HL.out).mono ?_
  rintro e w3 ⟨ll, rfl, hll, hL, hb3⟩
  have HL3 := hide (And.intro hL (And.intro hb3 hll))
  clear hL hb3 hll
  go_wp2_with fail
  refine (format_ok HL3.out.1 HL.out).mono ?_
  rintro e w4 ⟨rfl, hL4, ht4⟩
  have HL4 := hide (And.intro hL4 ht4)
  clear hL4 ht4
  go_wp2_with fail
  refine (begin_ok HL4.out.1 (by rw [List.length_set]; exact HL.out)).mono ?_
  rintro e w5 ⟨tt, mm, rfl, htt, hmm, hx, hb5⟩
  have s3 := HL3.out.2.1.size
  have s2 := HD.out.2.1.size
  have s4 := HL4.out.2.size
  have hb23 : Below w.heap.size w w3 := HD.out.2.1.trans (HL3.out.2.1.mono s2)
  have hb4 : Below w.heap.size w w4 := hb23.trans ((HL4.out.2.mono (by omega) (S' := fun _ => False) (fun k hk h => by have := HD.out.2.2; omega)).below fun _ _ h => h)
  have hb5' : Below w.heap.size w w5 := hb4.trans (hb5.mono hb4.size)
  have HF := hide (And.intro hx (And.intro hb5' (And.intro (show (∀ k, Ids.own ⟨tt, mm, ll, dd, rr⟩ k → w.heap.size ≤ k) from by
    have := HD.out.2.2
    rintro k (e | e | e | e) <;> simp only at e <;> omega) (show w.heap.size ≤ ll from by have := HL3.out.2.2; omega))))
  clear htt hmm hx hb5 s3 s2 s4 hb23 hb4 hb5' HL4 HL3 HD
  go_wp2
  go_returns
  exact ⟨⟨tt, mm, ll, dd, rr⟩, rfl, HF.out.1, HF.out.2.2.1, HF.out.2.2.2, HF.out.2.1⟩
end
end Go.Proofs.YthmkgohfeahdhaaGreat
namespace Go.Proofs.YthmkgohfeahdhaaGreat
open Go.RowKit
set_option linter.unusedSimpArgs false
set_option linter.unusedVariables false

section
variable {s : Sto} {f k j n : Nat} {b : BlkV} {on : Bool} {g : GeoN}
theorem bit_put_far (h : n ≠ f + k / 512) : (s.put n b).bit f k = s.bit f k := by
  unfold Sto.bit
  rw [Sto.at_put, if_neg h]
theorem bit_setBit (h : s.Ok) : (s.setBit f k on).bit f j = if j = k then on else s.bit f j := by
  by_cases hon : s.bit f k = on
  · rw [show s.setBit f k on = s from by unfold Sto.setBit; rw [if_pos hon]]
    by_cases hj : j = k
    · subst hj; rw [if_pos rfl]; exact hon
    · rw [if_neg hj]
  · rw [show s.setBit f k on = s.put (f + k / 512) (flipB (s.at_ (f + k / 512)) (k % 512)) from by unfold Sto.setBit; rw [if_neg hon]]
    by_cases h5 : j / 512 = k / 512
    · unfold Sto.bit
      rw [h5, Sto.at_put, if_pos rfl, bitB_flip (Sto.at_length h _) (Nat.mod_lt _ (by decide))]
      by_cases hj : j = k
      · subst hj
        rw [if_pos rfl, if_pos rfl]
        unfold Sto.bit at hon
        revert hon
        generalize bitB (s.at_ (f + j / 512)) (j % 512) = x
        cases x <;> cases on <;> simp
      · rw [if_neg hj, if_neg (by omega)]
    · rw [bit_put_far (by omega), if_neg (by rintro rfl; exact h5 rfl)]
theorem at_setBit_far (h : f + k / 512 ≠ n) : (s.setBit f k on).at_ n = s.at_ n := by
  unfold Sto.setBit
  split
  · rfl
  · rw [Sto.at_put, if_neg h]
theorem take_D (g : GeoN) (k : Nat) : (s.take g k).D = s.D := setBit_D _ _ _ _
theorem bit_take (h : s.Ok) (hg : g.Ok s.D.length) (hj : j < g.blocks) : (s.take g k).bit g.base j = if j = k then true else s.bit g.base j := by
  unfold Sto.take
  rw [bit_put_far (by have := hg.data; have := hg.map; omega), bit_setBit h]
theorem at_take (hg : g.Ok s.D.length) (hk : k < g.blocks) (h1 : n < g.base ∨ g.base + g.bitmap ≤ n) : (s.take g k).at_ n = if n = g.data + k then zeroB else s.at_ n := by
  unfold Sto.take
  have := hg.map
  rw [Sto.at_put, at_setBit_far (by omega)]
  by_cases h : n = g.data + k
  · rw [if_pos h.symm, if_pos h]
  · rw [if_neg (fun e => h e.symm), if_neg h]
theorem bitB_zero (k : Nat) : bitB zeroB k = false := by
  unfold bitB zeroB
  rw [List.getD_eq_getElem?_getD, List.getElem?_replicate]
  split <;> simp
theorem begD_length (n : Nat) : (begD n).length = n := by simp [begD]
theorem begD_at {m : Nat} (h : m ≠ 1) : Sto.at_ ⟨begD n, [], 0⟩ m = zeroB := by
  unfold Sto.at_ begD
  simp only [mget, Option.getD_none, List.getD_eq_getElem?_getD]
  rw [List.getElem?_set, if_neg (fun e => h e.symm), List.getElem?_replicate]
  split <;> rfl
theorem begD_bit (hf : 2 ≤ f) : Sto.bit ⟨begD n, [], 0⟩ f k = false := by
  unfold Sto.bit
  rw [begD_at (by omega)]
  exact bitB_zero _
end
end Go.Proofs.YthmkgohfeahdhaaGreat
namespace Go.Proofs.YthmkgohfeahdhaaGreat
open Go.RowKit
set_option linter.unusedSimpArgs false
set_option linter.unusedVariables false

theorem GroupAt.geo_range {w : World} {gg tt : Nat} {g : GeoN} {lab : Int} (hG : GroupAt w gg tt g lab) : w.rangeAt gg 1 g.cells := Blk.range hG fun j v hj => by
  rw [gpcells, List.getElem?_toArray, Nat.add_comm 1 j, List.getElem?_cons_succ]
  have : (g.cells ++ [Value.int .i64 lab])[j]? = some v := by
    rw [List.getElem?_append_left (List.getElem?_eq_some_iff.1 hj).1]; exact hj
  simpa [GeoN.cells] using this
theorem size_geoL (g : GeoN) : (Tryz.prog.info? 169).map (·.size) = some g.cells.length := by
  rw [size_geo g]; rfl
section
variable {w w' : World} {i : Ids} {s : Sto} {gg : Nat} {g : GeoN} {lab : Int}
set_option maxRecDepth 100000 in
set_option maxHeartbeats 800000 in
theorem gnode_any {v : NodeV} {r num : Int} (h : TxAt w i s) (hG : GroupAt w gg i.tt g lab) (hv : v.dir.length = 6)
    (hrd : ∀ W, TxAt W i s → Calls Tryz.prog 122 #[.pointer (some ⟨i.tt, 0, none⟩), g.val, .int .i64 num] W fun e w' => e = .returned (.tuple #[v.val, .int .i64 r]) ∧ TxAt w' i s ∧ Tch W.heap.size (· = i.dd) W w') :
    Calls Tryz.prog 56 #[.pointer (some ⟨gg, 0, none⟩), .int .i64 num] w fun e w' => e = .returned (.tuple #[v.val, .int .i64 r]) ∧ TxAt w' i s ∧ Tch w.heap.size i.own w w' := by
  have H := hide h
  have HG := hide hG
  have HV := hide hv
  have HRD := hide hrd
  clear h hG hv hrd
  go_enter Tryz.func56, Tryz.ntmps56
  go_upto_region 1 with (first | ((with_reducible refine at_alloc 130 ?_); refine wpList_alloc_as rfl 130 rfl _ (zero_node _) ?_) | fail)
  refine at_world (fun W => ∃ p, p = w.heap.size ∧ Below w.heap.size w W ∧ Blk W p 130 NodeV.zero.cells.toArray) ⟨_, rfl, (Below.refl _ _).alloc (Nat.le_refl _) _, Blk.new _ _ _⟩ (fun w1 hw1 => ?_)
  obtain ⟨p, hp, hb1, hP⟩ := hw1
  rw [← hp]
  have hwp : w.heap.size ≤ p := Nat.le_of_eq hp.symm
  have HP := hide (And.intro hP hb1)
  have HG1 := hide (HG.out.below hb1)
  clear hp hb1 hP
  go_upto_region 3 with (fail)
  have c0 := HG1.out.cell 0
  have cl := HG1.out.lt
  refine wp_region_text [0, 0, 0, 0, 0, 0, 0, 0, 0, 2, 0, 0, 2, 0] (· = w1.drew) (by kernel_rfl) (by kernel_rfl) rfl ?_
  iterate 7 (refine wpOrd_q (v := ?_) (by rfl) (fun W hW => ?_) ?_; rotate_left; (focus ((cases hW; go_simp); try with_reducible rfl)); try simp only [Act.put, List.setIfInBounds_toArray, List.set_cons_zero, List.set_cons_succ])
  refine wpOrd_q (v := .agg (g.cells).toArray) (by rfl) (fun W hW => by cases hW; exact exec_load_mid 169 (.tmp 15) rfl gg 1 rfl (g.cells) _ (GroupAt.geo_range (w := w1.drew) HG1.out) Tryz.underlying169 rfl (size_geoL g)) ?_
  try simp only [Act.put, List.setIfInBounds_toArray, List.set_cons_zero, List.set_cons_succ]
  iterate 1 (refine wpOrd_q (v := ?_) (by rfl) (fun W hW => ?_) ?_; rotate_left; (focus ((cases hW; go_simp); try with_reducible rfl)); try simp only [Act.put, List.setIfInBounds_toArray, List.set_cons_zero, List.set_cons_succ])
  refine wpOrd_b (by rfl) (fun K hK => ?_)
  go_simp
  refine (HRD.out _ (H.out.below HP.out.2.drew)).mono ?_
  rintro e w5 ⟨rfl, hx5, ht5⟩
  refine hK (fun _ => True) _ _ trivial ?_
  have HF5 := hide (And.intro hx5 (And.intro ((Tch.of_below (S := i.own) HP.out.2).drew.trans (ht5.own_dd.mono HP.out.2.size fun _ _ h => h)) (HP.out.1.drew.tch ht5 HP.out.1.lt (fun e => by have := H.out.log.disk.dlt; omega))))
  clear hK K c0 cl hx5 ht5
  try simp only [Act.put, List.setIfInBounds_toArray, List.set_cons_zero, List.set_cons_succ]
  iterate 2 (refine wpOrd_q (v := ?_) (by rfl) (fun W hW => ?_) ?_; rotate_left; (focus (go_simp; try with_reducible rfl)); try simp only [Act.put, List.setIfInBounds_toArray, List.set_cons_zero, List.set_cons_succ])
  refine wpOrd_b (by rfl) (fun K hK => ?_)
  refine wp_store_blk 130 (.tmp 4) (.tmp 19) rfl p 130 _ _ (by rfl) (by rfl) HF5.out.2.2 (size_nodeOf HV.out) (by rw [List.size_toArray, List.size_toArray, NodeV.cells_length HV.out]; rfl) (NodeV.cells_one _) (fun hB3 => ?_)
  refine hK (fun _ => True) _ _ trivial ?_
  clear hK K
  try simp only [Act.put, List.setIfInBounds_toArray, List.set_cons_zero, List.set_cons_succ]
  iterate 1 (refine wpOrd_q (v := ?_) (by rfl) (fun W hW => ?_) ?_; rotate_left; (focus (go_simp; try with_reducible rfl)); try simp only [Act.put, List.setIfInBounds_toArray, List.set_cons_zero, List.set_cons_succ])
  refine wpOrd_nil ?_
  have HB3 := hide hB3
  clear hB3
  go_wp2_with (first | ((with_reducible refine at_end ?_); refine bodyPost_ret (v := .tuple #[v.val, .int .i64 r]) (results_run2 rfl (ResV.row rfl HB3.out Tryz.underlying130 rfl (size_nodeOf HV.out)) rfl) rfl ⟨rfl, ?_, ?_⟩) | fail)
  · exact H.out.setRow_new hwp HF5.out.1 _
  · exact HF5.out.2.1.trans (Tch.setRow fun hp => absurd hp (by omega))
theorem gnode_ok {num : Nat} (h : TxAt w i s) (hG : GroupAt w gg i.tt g lab) (hg : g.Ok s.D.length) (h1 : 1 ≤ num) (h2 : num ≤ g.nodes) :
    Calls Tryz.prog 56 #[.pointer (some ⟨gg, 0, none⟩), .int .i64 (num : Int)] w fun e w' => e = .returned (.tuple #[(s.nodeV g num).val, .int .i64 (s.nodeE g num)]) ∧ TxAt w' i s ∧ Tch w.heap.size i.own w w' :=
  gnode_any h hG (nodeV_dir s g num) fun W hW => read_node hW hg h1 h2

set_option maxRecDepth 100000 in
set_option maxHeartbeats 800000 in
theorem gset_any {v : NodeV} {r num : Int} {s' : Sto} (h : TxAt w i s) (hG : GroupAt w gg i.tt g lab) (hv : v.dir.length = 6)
    (hwr : ∀ W, TxAt W i s → Calls Tryz.prog 80 #[.pointer (some ⟨i.tt, 0, none⟩), g.val, .int .i64 num, v.val] W fun e w' => e = .returned (.int .i64 r) ∧ TxAt w' i s' ∧ Tch W.heap.size i.own W w') :
    Calls Tryz.prog 95 #[.pointer (some ⟨gg, 0, none⟩), .int .i64 num, v.val] w fun e w' => e = .returned (.int .i64 r) ∧ TxAt w' i s' ∧ Tch w.heap.size i.own w w' := by
  have H := hide h
  have HG := hide hG
  have HV := hide hv
  have HWR := hide hwr
  clear h hG hv hwr
  go_enter Tryz.func95, Tryz.ntmps95
  go_upto_region 1 with (fail)
  refine at_world (fun W => ∃ p, p = w.heap.size ∧ Below w.heap.size w W ∧ Blk W p 130 v.cells.toArray) ⟨_, rfl, (Below.refl _ _).alloc (Nat.le_refl _) _, Blk.new _ _ _⟩ (fun w1 hw1 => ?_)
  obtain ⟨p, hp, hb1, hP⟩ := hw1
  rw [← hp]
  have HP := hide (And.intro hP hb1)
  have HG1 := hide (HG.out.below hb1)
  clear hp hb1 hP
  go_upto_region 3 with (fail)
  have c0 := HG1.out.cell 0
  have cl := HG1.out.lt
  refine wp_region_text [0, 0, 0, 0, 0, 0, 0, 0, 0, 0, 2, 0] (· = w1.drew) (by kernel_rfl) (by kernel_rfl) rfl ?_
  iterate 7 (refine wpOrd_q (v := ?_) (by rfl) (fun W hW => ?_) ?_; rotate_left; (focus ((cases hW; go_simp); try with_reducible rfl)); try simp only [Act.put, List.setIfInBounds_toArray, List.set_cons_zero, List.set_cons_succ])
  refine wpOrd_q (v := .agg (g.cells).toArray) (by rfl) (fun W hW => by cases hW; exact exec_load_mid 169 (.tmp 15) rfl gg 1 rfl (g.cells) _ (GroupAt.geo_range (w := w1.drew) HG1.out) Tryz.underlying169 rfl (size_geoL g)) ?_
  try simp only [Act.put, List.setIfInBounds_toArray, List.set_cons_zero, List.set_cons_succ]
  iterate 1 (refine wpOrd_q (v := ?_) (by rfl) (fun W hW => ?_) ?_; rotate_left; (focus ((cases hW; go_simp); try with_reducible rfl)); try simp only [Act.put, List.setIfInBounds_toArray, List.set_cons_zero, List.set_cons_succ])
  refine wpOrd_q (v := .agg v.cells.toArray) (by rfl) (fun W hW => by cases hW; exact exec_load_blk 130 (.tmp 5) rfl p _ v.cells.toArray _ rfl HP.out.1.drew Tryz.underlying130 rfl (size_nodeOf HV.out)) ?_
  try simp only [Act.put, List.setIfInBounds_toArray, List.set_cons_zero, List.set_cons_succ]
  refine wpOrd_b (by rfl) (fun K hK => ?_)
  go_simp
  refine (HWR.out _ (H.out.below HP.out.2.drew)).mono ?_
  rintro e w5 ⟨rfl, hx5, ht5⟩
  refine hK (fun _ => True) _ _ trivial ?_
  have HF5 := hide (And.intro hx5 ((Tch.of_below (S := i.own) HP.out.2).drew.trans (ht5.mono HP.out.2.size fun _ _ h => h)))
  clear hK K c0 cl hx5 ht5
  try simp only [Act.put, List.setIfInBounds_toArray, List.set_cons_zero, List.set_cons_succ]
  iterate 1 (refine wpOrd_q (v := ?_) (by rfl) (fun W hW => ?_) ?_; rotate_left; (focus (go_simp; try with_reducible rfl)); try simp only [Act.put, List.setIfInBounds_toArray, List.set_cons_zero, List.set_cons_succ])
  refine wpOrd_nil ?_
  go_wp2
  go_returns
  exact ⟨rfl, HF5.out.1, HF5.out.2⟩
theorem gset_ok {num : Nat} {n : NodeV} (h : TxAt w i s) (hG : GroupAt w gg i.tt g lab) (hg : g.Ok s.D.length) (h1 : 1 ≤ num) (h2 : num ≤ g.nodes) (hnd : n.dir.length = 6) (hck : checkN n = true) (hc : s.Can (g.base + g.bitmap + (num - 1) / 2)) :
    Calls Tryz.prog 95 #[.pointer (some ⟨gg, 0, none⟩), .int .i64 (num : Int), n.val] w fun e w' => e = .returned (.int .i64 0) ∧ TxAt w' i (s.setNode g num n) ∧ Tch w.heap.size i.own w w' :=
  gset_any h hG hnd fun W hW => write_node hW hg h1 h2 hnd hck hc
end
end Go.Proofs.YthmkgohfeahdhaaGreat
namespace Go.Proofs.YthmkgohfeahdhaaGreat
open Go.RowKit
set_option linter.unusedSimpArgs false
set_option linter.unusedVariables false

theorem node_can {s : Sto} {g : GeoN} {num : Nat} (hg : g.Ok s.D.length) (hr : s.M.length ≤ 29) (h1 : 1 ≤ num) (h2 : num ≤ g.nodes) : s.Can (g.base + g.bitmap + (num - 1) / 2) := by
  have := hg.fits; have := hg.data; have := hg.tab; have := hg.base
  exact can_of (by omega) (by omega) (by omega)
section
variable {w w' : World} {i : Ids} {s : Sto} {gg : Nat} {g : GeoN} {lab : Int}






end
end Go.Proofs.YthmkgohfeahdhaaGreat
namespace Go.Proofs.YthmkgohfeahdhaaGreat
open Go.RowKit
set_option linter.unusedSimpArgs false
set_option linter.unusedVariables false

theorem info_int : ∃ i, Tryz.prog.info? 3 = some i ∧ i.zero = some (.int .i64 0) ∧ i.size = 1 ∧ i.bytes = 8 := by
  have h : (Tryz.prog.info? 3).map (fun i => (i.zero, i.size, i.bytes)) = some (some (.int .i64 0), 1, 8) := by kernel_rfl
  cases hi : Tryz.prog.info? 3 with
  | none => rw [hi] at h; cases h
  | some i =>
    rw [hi] at h
    simp only [Option.map_some, Option.some.injEq, Prod.mk.injEq] at h
    exact ⟨i, rfl, h.1, h.2.1, h.2.2⟩
theorem keys_vals {M : List (Nat × BlkV)} (hM : ∀ x ∈ M, x.1 < 65536) {done : List NKey} (h : done.Perm ((dm M).map (·.1))) : (done.map (·.val)).Perm (M.map (·.1)) := by
  have := h.map (fun k : NKey => k.val)
  rw [List.map_map] at this
  rw [← dm_keys hM]
  exact this

theorem wpList_next_nkv {P : Program} {ops : Array Oper} {rest : List Oper} {o : Oper} {a : Act} {w : World} {Q : Exit → Act → World → Prop} {m r : Nat} {L : List (NKey × Value)} {done : List NKey} (hg : o.guard = none) (it : Operand) (hop : o.op = Op.next it false)
    (hit : a.eval it = .pointer (some ⟨r, 0, none⟩)) (h : Iter nkv w m r L done) (hk : ∀ a b, nkv a = nkv b → a = b)
    (hDone : (∀ k ∈ L.map (·.1), k ∈ done) → wpList P ops Q rest (a.put o.dst (.tuple #[.bool false])) w)
    (hMore : ∀ (k : NKey) (v : Value) (w' : World), (k, v) ∈ L → k ∉ done → Iter nkv w' m r L (done ++ [k]) → w.grownBy w' (some r) →
      (Instr.entry (.pointer (some ⟨r, 0, none⟩))).run P w' = .ok (.tuple #[.int .i64 (k.val : Int), v]) w' → wpList P ops Q rest (a.put o.dst (.tuple #[.bool true, .int .i64 (k.val : Int), v])) w') :
    wpList P ops Q (o :: rest) a w := wpList_next_map hg it hop hit h hk hDone fun k v w' h1 h2 h3 h4 _ h5 => hMore k v w' h1 h2 h3 h4 h5

section
variable {w w' : World} {i : Ids} {s : Sto}
set_option maxRecDepth 100000 in
set_option maxHeartbeats 1600000 in
theorem blocks_ok (h : TxAt w i s) :
    Calls Tryz.prog 83 #[.pointer (some ⟨i.tt, 0, none⟩)] w fun e w' => ∃ (A : Option Addr) (c : Nat) (l : List Nat), e = .returned (.slice A l.length c) ∧ Rd w' w'.heap.size 1 A l.length (nvs l) ∧ l.Perm (s.M.map (·.1)) ∧ Below w.heap.size w w' ∧ (∀ b, A = some b → w.heap.size ≤ b.block) := by
  obtain ⟨i0, hi0, i1, i2, i3⟩ := info_int
  have c1 := h.txn.cell 1
  have cl := h.txn.lt
  have HI := hide (And.intro hi0 (And.intro i1 (And.intro i2 i3)))
  have H := hide h
  clear hi0 i1 i2 i3 h
  go_enter Tryz.func83, Tryz.ntmps83
  go_wp2_with (first | (at_range; refine wpList_range_map rfl (.tmp 10) 181 rfl Tryz.underlying181 (by rfl) H.out.map (fun w1 hit hb1 hs1 => ?_)) | fail)
  go_frame
  have hr1 : w.heap.size < w1.heap.size := by omega
  have HIT := hide (And.intro hit hb1)
  clear hs1 hit hb1
  go_loopg [3] (s.M.length + 1) (fun gh x3 wr => ∃ (A : Option Addr) (c : Nat) (done : List NKey), gh = s.M.length + 1 - done.length ∧ x3 = .slice A done.length c ∧ Hid (Iter nkv wr i.mm w.heap.size (dm s.M) done) ∧ Hid (wr.ownsRow (w.heap.size + 1) 3 1 (.slice A done.length c) done.length (nvs (done.map (·.val)))) ∧ Hid (Below w.heap.size w wr))
  case atStart => exact ⟨none, 0, [], rfl, rfl, hide HIT.out.1, hide ⟨by simp [nvs], .inl ⟨rfl, rfl⟩⟩, hide HIT.out.2⟩
  case round =>
    obtain ⟨A, c, done, hg, rfl, HIR, HO, HBR⟩ := hrel
    have HG := hide hg
    clear hg HIT
    have hsub := HIR.out.sub
    rw [dm_length] at hsub
    have hfew := H.out.ok.few
    have hrl := HIR.out.lt
    go_wp2_with (first | (at_next; refine wpList_next_nkv rfl (.tmp 11) rfl (by rfl) HIR.out nEnc.inj (fun hdone => ?_) (fun k v w2 hkv hknd hit2 hg2 hen => ?_)) | (at_builtin; have ho2 := own_keep HO.out (fun g hv => hg2.block g (own_block_ge HO.out hv).2 (fun e => by have := (own_block_ge HO.out hv).1; cases e; omega)); have hs2' : w.heap.size + 1 ≤ w2.heap.size := (by have := hg2.size; omega); refine wpList_append_one rfl (.tmp 16) (.tmp 18) 187 rfl (w.heap.size + 1) 3 i0 (.int .i64 0) 1 8 Tryz.underlying187 HI.out.1 HI.out.2.1 HI.out.2.2.1 HI.out.2.2.2 rfl (by decide) A c done.length (nvs (done.map (·.val))) (nvs [k.val]) w2 rfl ho2 rfl rfl rfl (by simp [nvs, Value.oneCell']) (by omega) (by decide) hs2' ?_; intro A' c' w5 hown5 hg5 hb5 hat5) | fail)
    · have hperm := keys_vals H.out.ok.small (HIR.out.perm hdone)
      have hlen : (done.map (·.val)).length = done.length := List.length_map _
      have HP := hide hperm
      have HL := hide hlen
      clear hdone hperm hlen
      rcases HO.out.2 with ⟨hnil, h0⟩ | ⟨q, cap, cur, hv, hq, hh, hnc, hcm, hcs, htk⟩
      · have hA : A = none ∧ done.length = 0 ∧ c = 0 := by simpa using hnil
        obtain ⟨rfl, h1, rfl⟩ := hA
        have hd : done = [] := List.eq_nil_of_length_eq_zero h1
        subst hd
        refine (Tryz.slices_Sort_int_none none 0 wr).mono ?_
        rintro e w3 ⟨rfl, rfl⟩
        have HPP := HP.out
        clear hnil h0 h1
        go_wp2
        go_returns
        exact ⟨none, 0, [], rfl, Rd.nil _ _ _ _, HPP, HBR.out, fun b hb => by cases hb⟩
      · simp only [Value.slice.injEq] at hv
        obtain ⟨rfl, hdl, rfl⟩ := hv
        obtain ⟨zs, hzs⟩ : ∃ zs : List Int, (done.map (·.val)).map (fun n : Nat => (n : Int)) = zs := ⟨_, rfl⟩
        have hzl : zs.length = done.length := by rw [← hzs]; simp
        have hzv : zs.map (Value.int .i64) = nvs (done.map (·.val)) := by rw [← hzs]; simp [nvs, Function.comp_def]
        have hH := holds_of_blockI (ss := zs) hh (by rw [hzv, hzl]; simpa using htk)
        have hsort := Tryz.slices_Sort_int q 0 c zs wr hH (Array.getElem?_eq_some_iff.1 hh).1 (by omega)
        rw [hzl] at hsort
        have HSO := hide hsort
        have HZ := hide (And.intro hzs (And.intro hzl hzv))
        have HH := hide (And.intro hq (And.intro hh (And.intro hnc (And.intro hcm hcs))))
        clear hzs hzl hzv hH hsort hq hh hnc hcm hcs htk
        refine HSO.out.mono ?_
        rintro e w3 ⟨rfl, n3, os, hw3⟩
        have hsl : (zs.mergeSort fun x y => decide (x ≤ y)).length = zs.length := List.length_mergeSort _
        have hown := ownsRow_sortedI (w := wr) (base := w.heap.size + 1) (g := q) (cap := c) (n := n3) (os := os) (ss := zs) (ts := zs.mergeSort fun x y => decide (x ≤ y)) hsl HH.out.1 HH.out.2.1 (by rw [HZ.out.2.1]; exact HH.out.2.2.1) HH.out.2.2.2.1 HH.out.2.2.2.2
        have hgb := grownBy_sortedI (w := wr) (g := q) (n := n3) (os := os) (zs.mergeSort fun x y => decide (x ≤ y)).toArray
        rw [← hw3] at hown hgb
        have hb3 : Below w.heap.size w w3 := HBR.out.trans ((Tch.grown (S := fun _ => False) hgb HBR.out.size (fun k hk hlt => by cases hk; have := HH.out.1; omega)).below fun _ _ h => h)
        -- the sorted numbers as natural ones
        have hpz : (zs.mergeSort fun x y => decide (x ≤ y)).Perm zs := List.mergeSort_perm _ _
        obtain ⟨l, hl⟩ : ∃ l : List Nat, (zs.mergeSort fun x y => decide (x ≤ y)).map Int.toNat = l := ⟨_, rfl⟩
        have hnn : ∀ z ∈ zs.mergeSort fun x y => decide (x ≤ y), 0 ≤ z := fun z hz => by
          have := hpz.mem_iff.1 hz
          rw [← HZ.out.1] at this
          obtain ⟨m, _, rfl⟩ := List.mem_map.1 this
          omega
        have hlv : (zs.mergeSort fun x y => decide (x ≤ y)).map (Value.int .i64) = nvs l := by
          rw [← hl, nvs, List.map_map]
          apply List.map_congr_left
          intro z hz
          have := hnn z hz
          simp only [Function.comp, Value.int.injEq, true_and]
          omega
        have hlp : l.Perm (s.M.map (·.1)) := by
          rw [← hl]
          refine (hpz.map Int.toNat).trans ?_
          rw [← HZ.out.1, List.map_map]
          refine List.Perm.trans (List.Perm.of_eq ?_) HP.out
          conv => rhs; rw [← List.map_id (done.map (·.val))]
          apply List.map_congr_left
          intro m _
          simp
        have hll : l.length = done.length := by rw [← hl, List.length_map, hsl]; exact HZ.out.2.1
        rw [hlv] at hown
        rw [HZ.out.2.1, ← hll] at hown
        have HF := hide (And.intro (Rd.of_own hown) (And.intro hlp (And.intro hb3 hll)))
        clear hw3 hsl hown hgb hb3 hpz hl hnn hlv hlp hll HSO
        go_wp2
        go_returns
        exact ⟨_, c, l, by rw [HF.out.2.2.2]; rfl, HF.out.1, HF.out.2.1, HF.out.2.2.1, fun b hb => by cases hb; have := HH.out.1; simp only; omega⟩
    · have hbr5 : Below w.heap.size w w5 := HBR.out.trans ((Tch.grown (S := fun _ => False) hg2 HBR.out.size (fun k hk hlt => by cases hk; omega)).below (fun _ _ h => h) |>.trans (hb5.mono (by omega)))
      have hit5 : Iter nkv w5 i.mm w.heap.size (dm s.M) (done ++ [k]) := hit2.kept hg5 (fun e => hit2.map.is.not_own ho2 e.symm) (fun e => by have := (own_block_ge ho2 e.symm).1; omega)
      have hown6 : w5.ownsRow (w.heap.size + 1) 3 1 (.slice A' (done.length + 1) c') (done.length + 1) (nvs ((done ++ [k]).map (·.val))) := by
        have : nvs ((done ++ [k]).map (·.val)) = nvs (done.map (·.val)) ++ nvs [k.val] := by simp [nvs]
        rw [this]; exact hown5
      go_roundg (s.M.length + 1 - (done ++ [k]).length)
      case rel => exact ⟨A', c', done ++ [k], rfl, by rw [List.length_append]; rfl, hide hit5, hide (by rw [List.length_append]; exact hown6), hide hbr5⟩
      case measure => have := HG.out; rw [List.length_append]; simp; omega

theorem at_call1 {P : Program} {ops : Array Oper} {rest : List Oper} {a : Act} {w : World} {Q : Exit → Act → World → Prop} (b : Builtin) (x : Operand) (t : TypeId) {d : Option Tmp} {k : TypeId} {p : String} {f : Array Edge} {g : Option (Nat × Bool)} (h : wpList P ops Q (⟨d, .call { callee := .builtin b, args := #[x], argTypes := #[t] }, k, p, f, g⟩ :: rest) a w) : wpList P ops Q (⟨d, .call { callee := .builtin b, args := #[x], argTypes := #[t] }, k, p, f, g⟩ :: rest) a w := h
theorem wpList_clear_map {P : Program} {ops : Array Oper} {rest : List Oper} {o : Oper} {a : Act} {w : World} {Q : Exit → Act → World → Prop} {κ : Type} {kv : κ → Value} {K E : TypeId} {m : Nat} {L : List (κ × Value)} (hgd : o.guard = none) (x : Operand) (t : TypeId)
    (ho : o.op = .call { callee := .builtin .clear, args := #[x], argTypes := #[t] }) (hm : a.eval x = .map (some m)) (h : MapR kv w m L) (ht : P.underlying t = some (.map K E))
    (hK : ∀ w', MapR kv w' m ([] : List (κ × Value)) → OnlyMap w w' m → wpList P ops Q rest (a.put o.dst (.tuple #[])) w') : wpList P ops Q (o :: rest) a w := by
  obtain ⟨w', hrun, h1, h2⟩ := h.clear (P := P) (t := t) (ty := o.type) ht
  refine wpList_plain hgd fun K' hK' => ?_
  unfold Oper.wp execOp
  simp only [ho, resolve, invoke, builtin, Sem.run_bind, Sem.run_pure, Result.andThen_ok, List.map_toArray, List.map_cons, List.map_nil, hm, hrun]
  exact hK' _ _ (hK w' h1 h2)

set_option maxRecDepth 100000 in
theorem drop_ok (h : TxAt w i s) :
    Calls Tryz.prog 86 #[.pointer (some ⟨i.tt, 0, none⟩)] w fun e w' => e = .returned (.tuple #[]) ∧ TxAt w' i ⟨s.D, [], 0⟩ ∧ Tch w.heap.size i.own w w' := by
  have c1 := h.txn.cell 1
  have cl := h.txn.lt
  have H := hide h
  clear h
  go_enter Tryz.func86, Tryz.ntmps86
  go_upto_region 2 with (first | ((with_reducible refine at_call1 .clear (.tmp 7) 181 ?_); refine wpList_clear_map rfl (.tmp 7) 181 rfl (by rfl) H.out.map Tryz.underlying181 (fun w1 hm1 ho1 => ?_)) | fail)
  have hx := H.out
  have hg1 := ho1.1
  have a1 := hx.txn.lt
  have a2 := hx.log.log.lt
  have a3 := hx.log.disk.dlt
  have a4 := hx.log.disk.row.lt
  have ht1 : Blk w1 i.tt 183 #[.pointer (some ⟨i.ll, 0, none⟩), .map (some i.mm), .int .i64 s.bad] := (hg1.block _ a1 (fun e => hx.ntm (Option.some.inj e))).trans hx.txn
  have hl1 : LogAt w1 i.ll i.dd i.rr s.D := ⟨(hg1.block _ a2 (fun e => hx.nml (Option.some.inj e).symm)).trans hx.log.log, hx.log.disk.keep (hg1.block _ a3 (fun e => hx.nmd (Option.some.inj e).symm)) (hg1.block _ a4 (fun e => hx.nmr (Option.some.inj e).symm))⟩
  have htc : Tch w.heap.size i.own w w1 := (Tch.of_only ho1 (Nat.le_refl _)).sub fun _ h => Ids.own_mm h
  have HT := hide (And.intro ht1 (And.intro hl1 (And.intro hm1 htc)))
  clear hx hg1 a1 a2 a3 a4 ht1 hl1 htc hm1 ho1 c1 cl
  have c2 := HT.out.1.cell 2
  have f2 := HT.out.1.frozen 2
  have cl := HT.out.1.lt
  go_wp2
  go_returns
  obtain ⟨ht1, hl1, hm1, htc⟩ := HT.out
  have hx := H.out
  refine ⟨rfl, ⟨ht1.set_ 2 _, hm1.keep (heap_setCell_other _ _ _ _ hx.ntm.symm), ⟨hl1.log.far hx.ntl.symm _, hl1.disk.keep (heap_setCell_other _ _ _ _ hx.ntd.symm) (heap_setCell_other _ _ _ _ hx.ntr.symm)⟩, ⟨hx.ok.dlen, by simp, by simp, hx.ok.many, hx.ok.most, by simp, by simp, by simp⟩⟩, htc.trans (Tch.setCell (p := ⟨i.tt, 2, none⟩) fun _ => Ids.own_tt rfl)⟩
end
end Go.Proofs.YthmkgohfeahdhaaGreat
namespace Go.Proofs.YthmkgohfeahdhaaGreat
open Go.RowKit
set_option linter.unusedSimpArgs false
set_option linter.unusedVariables false

/-- the log's blocks go to their places -/
def instD : List BlkV → Nat → List Nat → List BlkV
  | D, _, [] => D
  | D, j, n :: r => instD (D.set n (D.getD (2 + j) zeroB)) (j + 1) r
/-- blocks are written into the log -/
def logD (M : List (Nat × BlkV)) : List BlkV → Nat → List Nat → List BlkV
  | D, _, [] => D
  | D, j, n :: r => logD M (D.set (2 + j) ((mget M n).getD zeroB)) (j + 1) r
theorem getD_set {D : List BlkV} {n m : Nat} {b : BlkV} (hn : n < D.length) : (D.set n b).getD m zeroB = if n = m then b else D.getD m zeroB := by
  simp only [List.getD_eq_getElem?_getD, List.getElem?_set]
  by_cases h : n = m
  · subst h; simp [hn]
  · simp [h]
theorem getD_len {D : List BlkV} (h : ∀ b ∈ D, b.length = 64) (n : Nat) : (D.getD n zeroB).length = 64 := by
  rw [List.getD_eq_getElem?_getD]
  cases hd : D[n]? with
  | none => exact zeroB_length
  | some b => exact h b (List.mem_of_getElem? hd)
theorem instD_length : ∀ (l : List Nat) (D : List BlkV) (j : Nat), (instD D j l).length = D.length
  | [], _, _ => rfl
  | n :: r, D, j => by rw [instD, instD_length r, List.length_set]
theorem logD_length (M : List (Nat × BlkV)) : ∀ (l : List Nat) (D : List BlkV) (j : Nat), (logD M D j l).length = D.length
  | [], _, _ => rfl
  | n :: r, D, j => by rw [logD, logD_length M r, List.length_set]
theorem mget_lens {M : List (Nat × BlkV)} (hM : ∀ x ∈ M, x.2.length = 64) (n : Nat) : ((mget M n).getD zeroB).length = 64 := by
  cases h : mget M n with
  | none => exact zeroB_length
  | some b => exact hM _ (mget_mem h)
/-- the log's writing leaves what is ahead of it, and behind it -/
theorem logD_out (M : List (Nat × BlkV)) : ∀ (l : List Nat) (D : List BlkV) (j m : Nat), 2 + j + l.length ≤ D.length → (m < 2 + j ∨ 2 + j + l.length ≤ m) → (logD M D j l).getD m zeroB = D.getD m zeroB
  | [], _, _, _, _, _ => rfl
  | n :: r, D, j, m, hl, hm => by
    simp only [List.length_cons] at hl hm
    rw [logD, logD_out M r _ _ _ (by rw [List.length_set]; omega) (by omega), getD_set (by omega), if_neg (by omega)]
theorem logD_at (M : List (Nat × BlkV)) : ∀ (l : List Nat) (D : List BlkV) (j k : Nat) (n : Nat), 2 + j + l.length ≤ D.length → l[k]? = some n → (logD M D j l).getD (2 + j + k) zeroB = (mget M n).getD zeroB
  | [], _, _, _, _, _, h => by simp at h
  | n :: r, D, j, 0, n', hl, h => by
    simp at h
    subst h
    simp only [List.length_cons] at hl
    rw [logD, logD_out M r _ _ _ (by rw [List.length_set]; omega) (by omega), getD_set (by omega), if_pos (by omega)]
  | n :: r, D, j, k + 1, n', hl, h => by
    simp at h
    simp only [List.length_cons] at hl
    rw [logD, show 2 + j + (k + 1) = 2 + (j + 1) + k from by omega]
    exact logD_at M r _ _ k n' (by rw [List.length_set]; omega) h
theorem instD_out : ∀ (l : List Nat) (D : List BlkV) (j m : Nat), (∀ n ∈ l, n < D.length) → m ∉ l → (instD D j l).getD m zeroB = D.getD m zeroB
  | [], _, _, _, _, _ => rfl
  | n :: r, D, j, m, hl, hm => by
    have h1 : n ≠ m := fun e => hm (by simp [e])
    rw [instD, instD_out r _ _ _ (fun x hx => by rw [List.length_set]; exact hl x (by simp [hx])) (fun h => hm (by simp [h])), getD_set (hl n (by simp)), if_neg h1]
theorem instD_at : ∀ (l : List Nat) (D : List BlkV) (j k n : Nat), (∀ n ∈ l, n < D.length ∧ Sto.free n) → l.Nodup → 2 + j + l.length ≤ 32 → l[k]? = some n → (instD D j l).getD n zeroB = D.getD (2 + j + k) zeroB
  | [], _, _, _, _, _, _, _, h => by simp at h
  | n :: r, D, j, 0, n', hl, hnd, hj, h => by
    simp at h
    subst h
    rw [List.nodup_cons] at hnd
    rw [instD, instD_out r _ _ _ (fun x hx => by rw [List.length_set]; exact (hl x (by simp [hx])).1) hnd.1, getD_set (hl n (by simp)).1, if_pos rfl]
    rfl
  | n :: r, D, j, k + 1, n', hl, hnd, hj, h => by
    simp at h
    rw [List.nodup_cons] at hnd
    simp only [List.length_cons] at hj
    have hk : k < r.length := (List.getElem?_eq_some_iff.1 h).1
    rw [instD, instD_at r _ _ k n' (fun x hx => by rw [List.length_set]; exact hl x (by simp [hx])) hnd.2 (by omega) h, getD_set (hl n (by simp)).1, if_neg (by
      have := (hl n (by simp)).2
      rcases this with h0 | h0 <;> omega)]
    congr 1
    omega

/-- what a commit leaves on the disk -/
def commitD (s : Sto) (l : List Nat) : List BlkV := if l = [] then s.D else (instD ((logD s.M s.D 0 l).set 1 (headB l)) 0 l).set 1 (headB [])
theorem commit_len (s : Sto) (l : List Nat) : (commitD s l).length = s.D.length := by
  unfold commitD
  split
  · rfl
  · rw [List.length_set, instD_length, List.length_set, logD_length]
theorem commit_at {s : Sto} (h : s.Ok) {l : List Nat} (hp : l.Perm (s.M.map (·.1))) {m : Nat} (hm : Sto.free m) : (commitD s l).getD m zeroB = s.at_ m := by
  have hl30 : l.length ≤ 30 := by rw [hp.length_eq, List.length_map]; exact h.few
  have hmem : ∀ n ∈ l, n < s.D.length ∧ Sto.free n := fun n hn => by
    obtain ⟨x, hx, rfl⟩ := List.mem_map.1 (hp.mem_iff.1 hn)
    exact ⟨h.keys x hx, h.off x hx⟩
  have hnd : l.Nodup := hp.nodup_iff.2 h.nodup
  have h32 := h.many
  have hm1 : 1 ≠ m := by rcases hm with h0 | h0 <;> omega
  unfold commitD
  by_cases hl : l = []
  · rw [if_pos hl]
    subst hl
    have hM : s.M = [] := by
      have := hp.length_eq
      simp at this
      exact List.eq_nil_of_length_eq_zero this.symm
    unfold Sto.at_
    rw [hM]
    rfl
  · rw [if_neg hl, getD_set (by rw [instD_length, List.length_set, logD_length]; omega), if_neg hm1]
    by_cases hml : m ∈ l
    · obtain ⟨k, hk, rfl⟩ := List.mem_iff_getElem.1 hml
      rw [instD_at l _ 0 k _ (fun n hn => by rw [List.length_set, logD_length]; exact hmem n hn) hnd (by omega) (List.getElem?_eq_getElem hk), getD_set (by rw [logD_length]; omega), if_neg (by omega),
        logD_at s.M l s.D 0 k _ (by omega) (List.getElem?_eq_getElem hk)]
      unfold Sto.at_
      have hs : (mget s.M l[k]).isSome = true := by
        cases hg : mget s.M l[k] with
        | some _ => rfl
        | none => exact absurd (hp.mem_iff.1 (List.getElem_mem hk)) (mget_none_iff.1 hg)
      obtain ⟨b, hb⟩ := Option.isSome_iff_exists.1 hs
      rw [hb]
      rfl
    · rw [instD_out l _ 0 m (fun n hn => by rw [List.length_set, logD_length]; exact (hmem n hn).1) hml, getD_set (by rw [logD_length]; omega), if_neg hm1,
        logD_out s.M l s.D 0 m (by omega) (by rcases hm with h0 | h0 <;> omega)]
      unfold Sto.at_
      have hg : mget s.M m = none := mget_none_iff.2 fun hc => hml (hp.mem_iff.2 hc)
      rw [hg]
      rfl
end Go.Proofs.YthmkgohfeahdhaaGreat
namespace Go.Proofs.YthmkgohfeahdhaaGreat
open Go.RowKit
set_option linter.unusedSimpArgs false
set_option linter.unusedVariables false

section
variable {w w' : World} {ll dd rr : Nat} {D : List BlkV}
theorem LogAt.two (h : LogAt w ll dd rr D) {D' : List BlkV} (hd : DiskAt w' dd rr D') (ht : Tch w.heap.size (fun x => x = dd ∨ x = rr) w w') : LogAt w' ll dd rr D' := ⟨h.log.tch ht h.log.lt (by rintro (e | e); exact h.nd e; exact h.nr e), hd⟩
/-- what the log's install comes to -/
def instAll (D : List BlkV) (l : List Nat) : List BlkV := if l = [] then D else (instD D 0 l).set 1 (headB [])
set_option maxRecDepth 100000 in
set_option maxHeartbeats 1600000 in
theorem install_ok {A : Option Addr} {n c : Nat} {l : List Nat} (h : LogAt w ll dd rr D) (hR : Rd w w.heap.size 1 A n (nvs l)) (hA : ∀ b, A = some b → ¬ (b.block = dd ∨ b.block = rr)) (hD : ∀ x ∈ l, x < D.length) (hl : 2 + l.length ≤ D.length) (h30 : l.length ≤ 30) (hm : 32 ≤ D.length) :
    Calls Tryz.prog 87 #[.pointer (some ⟨ll, 0, none⟩), .slice A n c] w fun e w' => e = .returned (.int .i64 0) ∧ LogAt w' ll dd rr (instAll D l) ∧ Tch w.heap.size (fun x => x = dd ∨ x = rr) w w' := by
  have hln : n = l.length := by have := hR.len; simp [nvs] at this; omega
  subst hln
  have hmost := h.disk.most
  have H := hide h
  have HR := hide hR
  have HA := hide hA
  have HD := hide hD
  have h11 : IntKind.i64.wrap 2 = 2 := rfl
  clear h hR hA hD
  go_enter Tryz.func87, Tryz.ntmps87
  go_wp2_with fail
  go_loopg [12] l.length (fun gh x12 wr => ∃ (k : Nat) (Dk : List BlkV), k ≤ l.length ∧ gh = l.length - k ∧ x12 = .int .i64 (k : Int) ∧ Hid (LogAt wr ll dd rr Dk) ∧ Hid (Tch w.heap.size (fun x => x = dd ∨ x = rr) w wr) ∧ Hid (instD Dk k (l.drop k) = instD D 0 l ∧ Dk.length = D.length))
  case atStart => exact ⟨0, D, Nat.zero_le _, rfl, rfl, H, hide (Tch.refl _ _ _), hide ⟨by simp, rfl⟩⟩
  case round =>
    obtain ⟨k, Dk, hk, hg, rfl, HL, HT, HI⟩ := hrel
    have HGH := hide hg
    clear hg
    rcases Nat.lt_or_ge k l.length with hkl | hkl
    · have hkz : (k : Int) < l.length := by omega
      obtain ⟨bA, o, hAe, hbA, hc⟩ := HR.out.2 (by omega)
      subst hAe
      have hnb := HA.out _ rfl
      have y0 := hc k _ (nvs_get (List.getElem?_eq_getElem hkl))
      have y : wr.cell? ⟨bA, o + k, none⟩ = some (.int .i64 ((l[k] : Nat) : Int)) := by
        rw [← y0]
        exact World.cell?_of_block (w := w) (HT.out.block bA hbA hnb)
      have hx := HD.out _ (List.getElem_mem hkl)
      have HX : Hid (instD (Dk.set l[k] (Dk.getD (2 + k) zeroB)) (k + 1) (l.drop (k + 1)) = instD D 0 l) := hide (by
        have := HI.out.1
        rw [List.drop_eq_getElem_cons hkl, instD] at this
        exact this)
      have hb : Dk[2 + k]? = some (Dk.getD (2 + k) zeroB) := by
        have : 2 + k < Dk.length := by rw [HI.out.2]; omega
        rw [List.getD_eq_getElem?_getD, List.getElem?_eq_getElem this]; rfl
      have hb64 : (Dk.getD (2 + k) zeroB).length = 64 := getD_len HL.out.disk.len _
      generalize Dk.getD (2 + k) zeroB = b at hb hb64 HX
      generalize l[k] = x at y hx HX y0
      have bl : bA < wr.heap.size := Nat.lt_of_lt_of_le hbA HT.out.size
      have e2 : IntKind.i64.wrap (2 + (k : Int)) = ((2 + k : Nat) : Int) := by rw [IntWalk.i64_in _ (by omega)]; omega
      have hxk : x < Dk.length := by rw [HI.out.2]; exact hx
      have HLN := hide HI.out.2
      have HB := hide hb
      have HB64 := hide hb64
      clear hc y0 hnb hb hb64 hx HI
      generalize 2 + k = j at e2 HB
      go_upto_region 4 with (fail)
      have c0 := HL.out.log.cell 0
      have c1 := HL.out.log.cell 1
      have cl := HL.out.log.lt
      go_cut [7, 8] from 13 to 45 (fun x7 x8 wc => ∃ g, x7 = .pointer (some ⟨g, 0, none⟩) ∧ x8 = .int .i64 0 ∧ Hid (LogAt wc ll dd rr Dk) ∧ Hid (Tch w.heap.size (fun x => x = dd ∨ x = rr) w wc) ∧ Hid (Blk wc g 106 (bvs b).toArray ∧ w.heap.size ≤ g))
      case first =>
        refine wp_region_tree (.q 0 (.q 1 (.q 2 (.q 3 (.q 4 (.q 5 (.q 6 (.q 7 (.q 8 (.q 9 (.q 10 (.br 11 (.q 12 (.q 13 (.q 14 (.x 15 (.x 16 (.q 17 .nil)))))) 15 (.x 11 (.q 12 (.q 13 (.q 14 (.x 16 (.q 17 .nil)))))))))))))))))) (fun W => LogAt W ll dd rr Dk ∧ Tch w.heap.size (fun x => x = dd ∨ x = rr) w W) (by kernel_rfl) (by kernel_rfl) ⟨HL.out.below (Below.refl _ _).drew, HT.out.drew⟩ ?_
        iterate 11 (refine wpT_q (v := ?_) (by simp only [List.getElem?_toArray, List.getElem?_cons_succ, List.getElem?_cons_zero]; try rfl) (by rfl) (fun W hW => ?_) ?_; rotate_left; (focus ((have hc0 := hW.1.log.cell 0; have hc1 := hW.1.log.cell 1; have hcl := hW.1.log.lt; go_simp); try with_reducible rfl)); try simp only [Act.put, List.setIfInBounds_toArray, List.set_cons_zero, List.set_cons_succ])
        refine wpT_br ?_ ?_
        · refine wpT_x (by simp only [List.getElem?_toArray, List.getElem?_cons_succ, List.getElem?_cons_zero]; try rfl) (by rfl) (fun K hK => ?_)
          go_simp
          refine (disk_read (HL.out.disk.below (Below.refl _ _).drew) HB.out).mono ?_
          rintro e w2 ⟨rfl, hd2, ht2⟩
          have hL2 : LogAt w2 ll dd rr Dk := LogAt.two (w := wr) HL.out hd2 ((Tch.refl _ _ _).drew.trans (ht2.sub fun _ h => .inl h))
          have hT2 := HT.out.drew.trans ((ht2.sub (S' := fun x => x = dd ∨ x = rr) fun _ h => .inl h).mono (by have := HT.out.size; exact this) fun _ _ h => h)
          refine hK _ _ _ (fun _ h => h) ⟨hL2, hT2⟩ ?_
          clear hK K
          try simp only [Act.put, List.setIfInBounds_toArray, List.set_cons_zero, List.set_cons_succ]
          iterate 3 (refine wpT_q (v := ?_) (by simp only [List.getElem?_toArray, List.getElem?_cons_succ, List.getElem?_cons_zero]; try rfl) (by rfl) (fun W hW => ?_) ?_; rotate_left; (focus ((go_simp); try with_reducible rfl)); try simp only [Act.put, List.setIfInBounds_toArray, List.set_cons_zero, List.set_cons_succ])
          refine wpT_x (by simp only [List.getElem?_toArray, List.getElem?_cons_succ, List.getElem?_cons_zero]; try rfl) (by rfl) (fun K hK => ?_)
          refine wp_alloc_as 106 rfl _ (zero_block _) ?_
          have hbl : Below w2.heap.size w2 (w2.alloc (.cells (bvs zeroB).toArray 106)) := (Below.refl _ _).alloc (Nat.le_refl _) _
          refine hK _ _ _ (fun _ h => h) ⟨hL2.below hbl, hT2.alloc (Nat.le_refl _) _⟩ ?_
          clear hK K
          try simp only [Act.put, List.setIfInBounds_toArray, List.set_cons_zero, List.set_cons_succ]
          refine wpT_x (by simp only [List.getElem?_toArray, List.getElem?_cons_succ, List.getElem?_cons_zero]; try rfl) (by rfl) (fun K hK => ?_)
          refine wp_store_blk 106 (.tmp 7) (.tmp 30) rfl w2.heap.size 106 _ _ (by rfl) (by rfl) (Blk.new _ _ _) (size_blockOf HB64.out) ((bvs_size zeroB_length).trans (bvs_size HB64.out).symm) (bvs_oneCell _) (fun hG => ?_)
          have hfin : LogAt ((w2.alloc (.cells (bvs zeroB).toArray 106)).setRow w2.heap.size (bvs b).toArray) ll dd rr Dk ∧ Tch w.heap.size (fun x => x = dd ∨ x = rr) w ((w2.alloc (.cells (bvs zeroB).toArray 106)).setRow w2.heap.size (bvs b).toArray) :=
            ⟨hL2.below (below_setRow hbl (Nat.le_refl _) _), hT2.trans ((Tch.of_below (below_setRow hbl (Nat.le_refl _) _)).mono hT2.size fun _ _ h => h)⟩
          refine hK _ _ _ (fun _ h => h) hfin ?_
          have HF := hide hfin
          have HG2 := hide (And.intro hG hT2.size)
          clear hK K hfin hG hL2 hd2 hT2 ht2 hbl
          try simp only [Act.put, List.setIfInBounds_toArray, List.set_cons_zero, List.set_cons_succ]
          iterate 1 (refine wpT_q (v := ?_) (by simp only [List.getElem?_toArray, List.getElem?_cons_succ, List.getElem?_cons_zero]; try rfl) (by rfl) (fun W hW => ?_) ?_; rotate_left; (focus ((go_simp); try with_reducible rfl)); try simp only [Act.put, List.setIfInBounds_toArray, List.set_cons_zero, List.set_cons_succ])
          refine wpT_nil ?_
          go_wp2
          go_meet
          case rel => exact ⟨_, rfl, rfl, hide HF.out.1, hide HF.out.2, HG2⟩
        · refine wpT_x (by simp only [List.getElem?_toArray, List.getElem?_cons_succ, List.getElem?_cons_zero]; try rfl) (by rfl) (fun K hK => ?_)
          refine wp_alloc_as 106 rfl _ (zero_block _) ?_
          have hbl : Below wr.heap.size wr (wr.drew.alloc (.cells (bvs zeroB).toArray 106)) := (Below.refl _ _).drew.alloc (Nat.le_refl _) _
          have hL1 := HL.out.below hbl
          have hT1 : Tch w.heap.size (fun x => x = dd ∨ x = rr) w (wr.drew.alloc (.cells (bvs zeroB).toArray 106)) := HT.out.trans ((Tch.of_below hbl).mono HT.out.size fun _ _ h => h)
          have hG1 := Blk.new wr.drew 106 (bvs zeroB).toArray
          refine hK _ _ _ (fun _ h => h) ⟨hL1, hT1⟩ ?_
          clear hK K
          try simp only [Act.put, List.setIfInBounds_toArray, List.set_cons_zero, List.set_cons_succ]
          refine wpT_x (by simp only [List.getElem?_toArray, List.getElem?_cons_succ, List.getElem?_cons_zero]; try rfl) (by rfl) (fun K hK => ?_)
          go_simp
          refine (disk_read hL1.disk HB.out).mono ?_
          rintro e w2 ⟨rfl, hd2, ht2⟩
          have hL2 : LogAt w2 ll dd rr Dk := hL1.two hd2 (ht2.sub fun _ h => .inl h)
          have hT2 := hT1.trans ((ht2.sub (S' := fun x => x = dd ∨ x = rr) fun _ h => .inl h).mono hT1.size fun _ _ h => h)
          have hgd : wr.heap.size ≠ dd := by have := HL.out.disk.dlt; omega
          have hgr : wr.heap.size ≠ rr := by have := HL.out.disk.row.lt; omega
          have hgl : wr.heap.size ≠ ll := by have := HL.out.log.lt; omega
          have hG2 := hG1.tch ht2 hG1.lt hgd
          refine hK _ _ _ (fun _ h => h) ⟨hL2, hT2⟩ ?_
          clear hK K
          try simp only [Act.put, List.setIfInBounds_toArray, List.set_cons_zero, List.set_cons_succ]
          iterate 3 (refine wpT_q (v := ?_) (by simp only [List.getElem?_toArray, List.getElem?_cons_succ, List.getElem?_cons_zero]; try rfl) (by rfl) (fun W hW => ?_) ?_; rotate_left; (focus ((go_simp); try with_reducible rfl)); try simp only [Act.put, List.setIfInBounds_toArray, List.set_cons_zero, List.set_cons_succ])
          refine wpT_x (by simp only [List.getElem?_toArray, List.getElem?_cons_succ, List.getElem?_cons_zero]; try rfl) (by rfl) (fun K hK => ?_)
          refine wp_store_blk 106 (.tmp 7) (.tmp 30) rfl wr.heap.size 106 _ _ (by rfl) (by rfl) hG2 (size_blockOf HB64.out) ((bvs_size zeroB_length).trans (bvs_size HB64.out).symm) (bvs_oneCell _) (fun hG => ?_)
          have hfin : LogAt (w2.setRow wr.heap.size (bvs b).toArray) ll dd rr Dk ∧ Tch w.heap.size (fun x => x = dd ∨ x = rr) w (w2.setRow wr.heap.size (bvs b).toArray) :=
            ⟨⟨hL2.log.setRow_far hgl.symm _, hL2.disk.keep (setRow_other _ _ _ _ hgd.symm) (setRow_other _ _ _ _ hgr.symm)⟩, hT2.trans (Tch.setRow fun hp => absurd hp (by have := HT.out.size; omega))⟩
          refine hK _ _ _ (fun _ h => h) hfin ?_
          have HF := hide hfin
          have HG2 := hide (And.intro hG HT.out.size)
          clear hK K hfin hG hL2 hd2 hT2 ht2 hbl hG2 hG1 hL1 hT1 hgd hgr hgl
          try simp only [Act.put, List.setIfInBounds_toArray, List.set_cons_zero, List.set_cons_succ]
          iterate 1 (refine wpT_q (v := ?_) (by simp only [List.getElem?_toArray, List.getElem?_cons_succ, List.getElem?_cons_zero]; try rfl) (by rfl) (fun W hW => ?_) ?_; rotate_left; (focus ((go_simp); try with_reducible rfl)); try simp only [Act.put, List.setIfInBounds_toArray, List.set_cons_zero, List.set_cons_succ])
          refine wpT_nil ?_
          go_wp2
          go_meet
          case rel => exact ⟨_, rfl, rfl, hide HF.out.1, hide HF.out.2, HG2⟩
      case rest =>
        obtain ⟨g, rfl, rfl, HL2, HT2, HG2⟩ := hcut
        clear c0 c1 cl
        have c0 := HL2.out.log.cell 0
        have cl := HL2.out.log.lt
        go_upto_region 7 with (fail)
        refine wp_region_text [0, 0, 0, 0, 0, 0, 2, 0] (· = wc.drew) (by kernel_rfl) (by kernel_rfl) rfl ?_
        iterate 5 (refine wpOrd_q (v := ?_) (by rfl) (fun W hW => ?_) ?_; rotate_left; (focus ((cases hW; go_simp); try with_reducible rfl)); try simp only [Act.put, List.setIfInBounds_toArray, List.set_cons_zero, List.set_cons_succ])
        refine wpOrd_q (v := .agg (bvs b).toArray) (by rfl) (fun W hW => by cases hW; exact exec_load_blk 106 (.tmp 7) rfl g _ (bvs b).toArray _ rfl HG2.out.1.drew Tryz.underlying106 rfl (size_blockOf HB64.out)) ?_
        try simp only [Act.put, List.setIfInBounds_toArray, List.set_cons_zero, List.set_cons_succ]
        refine wpOrd_b (by rfl) (fun K hK => ?_)
        go_simp
        refine (disk_write (HL2.out.disk.below (Below.refl _ _).drew) hxk HB64.out).mono ?_
        rintro e w3 ⟨rfl, hd3, ht3⟩
        refine hK (fun _ => True) _ _ trivial ?_
        clear hK K
        try simp only [Act.put, List.setIfInBounds_toArray, List.set_cons_zero, List.set_cons_succ]
        iterate 1 (refine wpOrd_q (v := ?_) (by rfl) (fun W hW => ?_) ?_; rotate_left; (focus (go_simp; try with_reducible rfl)); try simp only [Act.put, List.setIfInBounds_toArray, List.set_cons_zero, List.set_cons_succ])
        refine wpOrd_nil ?_
        have hL3 : LogAt w3 ll dd rr (Dk.set x b) := LogAt.two (w := wc) HL2.out hd3 ((Tch.refl _ _ _).drew.trans ht3)
        have hT3 := HT2.out.drew.trans (ht3.mono (by have := HT2.out.size; exact this) fun _ _ h => h)
        have HL3 := hide hL3
        have HT3 := hide hT3
        clear hL3 hT3 hd3 ht3 c0 cl
        go_wp2
        go_roundg (l.length - (k + 1))
        case rel => exact ⟨k + 1, Dk.set x b, by omega, rfl, by go_num, HL3, HT3, hide ⟨HX.out, by rw [List.length_set]; exact HLN.out⟩⟩
        case measure => have := HGH.out; omega
    · have hD2 : instD D 0 l = Dk := by rw [← HI.out.1, List.drop_of_length_le hkl]; rfl
      have HE := hide (And.intro hD2 HI.out.2)
      have hkf : decide ((k : Int) < l.length) = false := by simp; omega
      clear hD2 HI
      by_cases hl0 : l = []
      · have hz : ((l.length : Int) == 0) = true := by rw [hl0]; rfl
        have HL0 := hide hl0
        clear hl0
        go_wp2
        go_returns
        refine ⟨rfl, ?_, HT.out⟩
        unfold instAll
        rw [if_pos HL0.out]
        have h1 := HE.out.1
        rw [HL0.out, instD] at h1
        rw [h1]
        exact HL.out
      · have hz : ((l.length : Int) == 0) = false := by
          have : 0 < l.length := List.length_pos_iff.2 hl0
          simp; omega
        have HL0 := hide hl0
        have hfo := format_ok HL.out (by rw [HE.out.2]; exact hm)
        have HFO := hide hfo
        clear hl0 hfo
        go_wp2_with fail
        refine HFO.out.mono ?_
        rintro e w3 ⟨rfl, hL3, ht3⟩
        have HF := hide (And.intro hL3 (HT.out.trans (ht3.mono HT.out.size fun _ _ h => h)))
        clear hL3 ht3 HFO
        go_wp2
        go_returns
        refine ⟨rfl, ?_, HF.out.2⟩
        unfold instAll
        rw [if_neg HL0.out, HE.out.1]
        exact HF.out.1
end
end Go.Proofs.YthmkgohfeahdhaaGreat
namespace Go.Proofs.YthmkgohfeahdhaaGreat
open Go.RowKit
set_option linter.unusedSimpArgs false
set_option linter.unusedVariables false

theorem Rd.tch {w w' : World} {S : Nat → Prop} {A : Option Addr} {n sz : Nat} {xs : List Value} (h : Rd w w.heap.size sz A n xs) (ht : Tch w.heap.size S w w') (hA : ∀ b, A = some b → ¬ S b.block) : Rd w' w'.heap.size sz A n xs :=
  ⟨h.1, fun hn => by
    obtain ⟨b, o, e, hb, hc⟩ := h.2 hn
    exact ⟨b, o, e, Nat.lt_of_lt_of_le hb ht.size, fun j u hu => (World.cell?_of_block (w := w) (ht.block b hb (hA _ e))).trans (hc j u hu)⟩⟩
section
variable {w w' : World} {i : Ids} {s : Sto}
theorem TxAt.write (h : TxAt w i s) {D' : List BlkV} (hl : LogAt w' i.ll i.dd i.rr D') (ht : Tch w.heap.size (fun x => x = i.dd ∨ x = i.rr) w w') (hn : D'.length = s.D.length) : TxAt w' i { s with D := D' } :=
  ⟨h.txn.tch ht h.txn.lt (by rintro (e | e); exact h.ntd e; exact h.ntr e), h.map.keep (ht.block _ h.map.lt (by rintro (e | e); exact h.nmd e; exact h.nmr e)), hl,
    ⟨hl.disk.len, h.ok.mlen, fun x hx => by rw [hn]; exact h.ok.keys x hx, by rw [hn]; exact h.ok.many, by rw [hn]; exact h.ok.most, h.ok.few, h.ok.nodup, h.ok.off⟩⟩

set_option maxRecDepth 100000 in
set_option maxHeartbeats 1600000 in
theorem commit_ok (h : TxAt w i s) (hb : s.bad = 0) :
    Calls Tryz.prog 26 #[.pointer (some ⟨i.tt, 0, none⟩)] w fun e w' => ∃ l, e = .returned (.int .i64 0) ∧ l.Perm (s.M.map (·.1)) ∧ TxAt w' i ⟨commitD s l, [], 0⟩ ∧ Tch w.heap.size i.own w w' := by
  have c2 := h.txn.cell 2
  simp only [hb] at c2
  have cl := h.txn.lt
  have H := hide h
  have HB := hide hb
  have h11 : IntKind.i64.wrap 2 = 2 := rfl
  clear h hb
  go_enter Tryz.func26, Tryz.ntmps26
  go_wp2_with fail
  refine (blocks_ok H.out).mono ?_
  rintro e w1 ⟨A, c, l, rfl, hR, hp, hb1, hAn⟩
  have hx1 := H.out.below hb1
  have hlen : l.length ≤ 30 := by rw [hp.length_eq, List.length_map]; exact H.out.ok.few
  have hmem : ∀ n ∈ l, n < s.D.length ∧ Sto.free n := fun n hn => by
    obtain ⟨x, hx, rfl⟩ := List.mem_map.1 (hp.mem_iff.1 hn)
    exact ⟨H.out.ok.keys x hx, H.out.ok.off x hx⟩
  have hmost := H.out.ok.most
  have h32 := H.out.ok.many
  have HX1 := hide hx1
  have HR := hide hR
  have HP := hide hp
  have HB1 := hide hb1
  have HA := hide (show ∀ b, A = some b → ¬ i.own b.block from fun b e hk => H.out.other_new (hAn b e) hk)
  have HM := hide hmem
  clear hR hp hb1 hx1 hmem hAn c2 cl
  by_cases hl0 : l = []
  · have hz : ((l.length : Int) == 0) = true := by rw [hl0]; rfl
    have HL0 := hide hl0
    clear hl0
    go_wp2
    go_returns
    refine ⟨l, rfl, HP.out, ?_, Tch.of_below HB1.out⟩
    have hM : s.M = [] := by
      have := HP.out.length_eq
      rw [HL0.out] at this
      simp at this
      exact List.eq_nil_of_length_eq_zero this.symm
    have he : (⟨commitD s l, [], 0⟩ : Sto) = s := by
      unfold commitD
      rw [if_pos HL0.out]
      obtain ⟨D, M, bad⟩ := s
      simp only at hM ⊢
      rw [hM, ← HB.out]
    rw [he]
    exact HX1.out
  · have hz : ((l.length : Int) == 0) = false := by
      have : 0 < l.length := List.length_pos_iff.2 hl0
      simp; omega
    have HL0 := hide hl0
    clear hl0
    go_upto_region 8 with (fail)
    have c0 := HX1.out.txn.cell 0
    have c1 := HX1.out.txn.cell 1
    have cl := HX1.out.txn.lt
    have e0 := HX1.out.log.log.cell 0
    have e1 := HX1.out.log.log.cell 1
    have el := HX1.out.log.log.lt
    go_quiet (fail)
    refine at_world (fun W => TxAt W i s ∧ Rd W W.heap.size 1 A l.length (nvs l) ∧ Tch w.heap.size i.own w W) ⟨HX1.out.below (by first | exact below_drewN (Below.refl _ _) _ | exact (Below.refl _ _).drew), by exact HR.out, (Tch.of_below HB1.out).trans ((Tch.of_below (by first | exact below_drewN (Below.refl _ _) _ | exact (Below.refl _ _).drew)))⟩ (fun w2 h2 => ?_)
    obtain ⟨hx2, hR2, hT2⟩ := h2
    have HX2 := hide hx2
    have HR2 := hide hR2
    have HT2 := hide hT2
    clear c0 c1 cl e0 e1 el hx2 hR2 hT2 HX1 HR HB1
    go_wp2_with fail
    go_loopg [44] l.length (fun gh x44 wr => ∃ (k : Nat) (Dk : List BlkV), k ≤ l.length ∧ gh = l.length - k ∧ x44 = .int .i64 (k : Int) ∧ Hid (TxAt wr i { s with D := Dk }) ∧ Hid (Tch w2.heap.size (fun x => x = i.dd ∨ x = i.rr) w2 wr) ∧ Hid (logD s.M Dk k (l.drop k) = logD s.M s.D 0 l ∧ Dk.length = s.D.length))
    case atStart => exact ⟨0, s.D, Nat.zero_le _, rfl, rfl, HX2, hide (Tch.refl _ _ _), hide ⟨by simp, rfl⟩⟩
    case round =>
      obtain ⟨k, Dk, hk, hg, rfl, HX, HT, HI⟩ := hrel
      have HGH := hide hg
      clear hg
      have HRr := hide (HR2.out.tch HT.out (fun b e hs => HA.out b e (by rcases hs with h | h; exact .inr (.inr (.inl h)); exact .inr (.inr (.inr h)))))
      rcases Nat.lt_or_ge k l.length with hkl | hkl
      · have hkz : (k : Int) < l.length := by omega
        obtain ⟨bA, o, hAe, hbA, hc⟩ := HRr.out.2 (by omega)
        subst hAe
        have y := hc k _ (nvs_get (List.getElem?_eq_getElem hkl))
        have hx := HM.out _ (List.getElem_mem hkl)
        have hin : l[k] ∈ s.M.map (·.1) := HP.out.mem_iff.1 (List.getElem_mem hkl)
        have HX3 : Hid (logD s.M (Dk.set (2 + k) ((mget s.M l[k]).getD zeroB)) (k + 1) (l.drop (k + 1)) = logD s.M s.D 0 l) := hide (by
          have := HI.out.1
          rw [List.drop_eq_getElem_cons hkl, logD] at this
          exact this)
        have hb64 := mget_lens H.out.ok.mlen l[k]
        generalize l[k] = x at y hx HX3 hin hb64
        have hx16 : x < 65536 := Nat.lt_of_lt_of_le hx.1 hmost
        have hkv : (.int .i64 (x : Int) : Value) = nkv (nk x) := (nkv_nk hx16).symm
        have hv : (if false = true then .tuple #[(mget (dm s.M) (nk x)).getD (.agg (bvs zeroB).toArray), .bool (mget (dm s.M) (nk x)).isSome] else (mget (dm s.M) (nk x)).getD (.agg (bvs zeroB).toArray)) = bval ((mget s.M x).getD zeroB) := by
          rw [dm_get H.out.ok.small hx16]
          cases mget s.M x <;> rfl
        generalize (mget s.M x).getD zeroB = b at hv HX3 hb64
        have e2 : IntKind.i64.wrap (2 + (k : Int)) = ((2 + k : Nat) : Int) := by rw [IntWalk.i64_in _ (by omega)]; omega
        have hjk : 2 + k < Dk.length := by rw [HI.out.2]; omega
        have HLN := hide HI.out.2
        have HKV := hide hkv
        have HV := hide hv
        have HB64 := hide hb64
        have HMP := hide HX.out.map.is
        clear hc hx hin hkv hv hb64 HI
        have c1 := HX.out.txn.cell 1
        have cl := HX.out.txn.lt
        generalize hj : 2 + k = j at e2 hjk HX3
        have HJ := hide hj
        clear hj
        go_wp2_with (first | ((with_reducible refine at_look 181 (.tmp 57) (.tmp 58) false ?_); refine wpList_lookup_map rfl 181 (.tmp 57) (.tmp 58) false rfl (nk x) (by rfl) HKV.out HMP.out nEnc Tryz.underlying181 (zero_block _) _ HV.out ?_) | fail)
        refine (disk_write HX.out.log.disk hjk HB64.out).mono ?_
        rintro e w3 ⟨rfl, hd3, ht3⟩
        have hL3 := HX.out.log.two hd3 ht3
        have hx3 := HX.out.write hL3 ht3 (by rw [List.length_set])
        have HX4 := hide hx3
        have HT4 := hide (HT.out.trans (ht3.mono HT.out.size fun _ _ h => h))
        clear hd3 ht3 hL3 hx3 c1 cl
        go_wp2
        go_roundg (l.length - (k + 1))
        case rel => exact ⟨k + 1, Dk.set j b, by omega, rfl, by go_num, HX4, HT4, hide ⟨HX3.out, by rw [List.length_set]; exact HLN.out⟩⟩
        case measure => have := HGH.out; omega
      · have hD2 : logD s.M s.D 0 l = Dk := by rw [← HI.out.1, List.drop_of_length_le hkl]; rfl
        have HE := hide (And.intro hD2 HI.out.2)
        have hkf : decide ((k : Int) < l.length) = false := by simp; omega
        have hDl : 1 < Dk.length := by rw [HI.out.2]; omega
        clear hD2 HI
        go_wp2_with fail
        refine (head_ok wr HRr.out hlen (fun x hx => Nat.lt_of_lt_of_le (HM.out x hx).1 hmost)).mono ?_
        rintro e w3 ⟨rfl, hb3⟩
        have hx3 := HX.out.below hb3
        have HX3 := hide hx3
        have HT3 := hide (HT.out.trans ((Tch.of_below hb3).mono HT.out.size fun _ _ h => h))
        clear hb3 hx3
        go_wp2_with fail
        refine (disk_write HX3.out.log.disk (k := 1) hDl (headB_length l)).mono ?_
        rintro e w4 ⟨rfl, hd4, ht4⟩
        have hx4 := HX3.out.write (HX3.out.log.two hd4 ht4) ht4 (by rw [List.length_set])
        have HX4 := hide hx4
        have HT4 := hide (HT3.out.trans (ht4.mono HT3.out.size fun _ _ h => h))
        clear hd4 ht4 hx4 HX3 HT3
        go_wp2_with fail
        refine (drop_ok HX4.out).mono ?_
        rintro e w5 ⟨rfl, hx5, ht5⟩
        have hsub : ∀ k, (k = i.dd ∨ k = i.rr) → i.own k := fun k h => by rcases h with h | h; exact .inr (.inr (.inl h)); exact .inr (.inr (.inr h))
        have HT5 := hide ((HT4.out.sub hsub).trans (ht5.mono HT4.out.size fun _ _ h => h))
        have hR5 := HR2.out.tch HT5.out (fun b e hs => HA.out b e hs)
        have HX5 := hide hx5
        have hins := install_ok (c := c) HX5.out.log hR5 (fun b e hs => HA.out b e (hsub _ hs)) (fun x hx => by simp only [List.length_set]; rw [HE.out.2]; exact (HM.out x hx).1) (by simp only [List.length_set]; rw [HE.out.2]; omega) hlen (by simp only [List.length_set]; rw [HE.out.2]; exact h32)
        have HINS := hide hins
        have c0 := HX5.out.txn.cell 0
        have cl := HX5.out.txn.lt
        clear hx5 ht5 hR5 hins HT4 HX4
        go_wp2_with fail
        refine HINS.out.mono ?_
        rintro e w6 ⟨rfl, hL6, ht6⟩
        have hx6 := HX5.out.write hL6 ht6 (by simp only [instAll]; split; rfl; rw [List.length_set, instD_length])
        have hT6 := HT2.out.trans ((HT5.out.trans ((ht6.sub hsub).mono HT5.out.size fun _ _ h => h)).mono HT2.out.size fun _ _ h => h)
        have HF := hide (And.intro hx6 hT6)
        clear hL6 ht6 hx6 hT6 HINS c0 cl
        go_wp2
        go_returns
        refine ⟨l, rfl, HP.out, ?_, HF.out.2⟩
        have he : instAll (Dk.set 1 (headB l)) l = commitD s l := by
          unfold instAll commitD
          rw [if_neg HL0.out, if_neg HL0.out, HE.out.1]
        rw [← he]
        exact HF.out.1
end
end Go.Proofs.YthmkgohfeahdhaaGreat
namespace Go.Proofs.YthmkgohfeahdhaaGreat
open Go.RowKit
set_option linter.unusedSimpArgs false
set_option linter.unusedVariables false


def upd {α : Type} (f : Nat → α) (k : Nat) (v : α) : Nat → α := fun j => if j = k then v else f j
theorem upd_same {α : Type} (f : Nat → α) (k : Nat) (v : α) : upd f k v k = v := by simp [upd]
theorem upd_other {α : Type} (f : Nat → α) {k j : Nat} (v : α) (h : j ≠ k) : upd f k v j = f j := by simp [upd, h]
/-- a group: which blocks are taken, their bytes, its nodes -/
structure GS where
  tk : Nat → Bool
  by_ : Nat → BlkV
  nd : Nat → NodeV
structure GS.Ok (G : GS) : Prop where
  dir : ∀ num, (G.nd num).dir.length = 6
  chk : ∀ num, checkN (G.nd num) = true
  len : ∀ k, (G.by_ k).length = 64
/-- a group lies in a transaction's blocks -/
structure Sto.Is (s : Sto) (g : GeoN) (G : GS) : Prop where
  bit : ∀ k, k < g.blocks → s.bit g.base k = G.tk k
  byt : ∀ k, k < g.blocks → s.at_ (g.data + k) = G.by_ k
  nod : ∀ num, 1 ≤ num → num ≤ g.nodes → s.nodeX g num = encN (G.nd num)
namespace GS
def none : GS := ⟨fun _ => false, fun _ => zeroB, fun _ => NodeV.zero⟩
def take (G : GS) (k : Nat) : GS := ⟨upd G.tk k true, upd G.by_ k zeroB, G.nd⟩
def give (G : GS) (k : Nat) : GS := ⟨upd G.tk k false, G.by_, G.nd⟩
def put (G : GS) (k : Nat) (b : BlkV) : GS := ⟨G.tk, upd G.by_ k b, G.nd⟩
def set (G : GS) (num : Nat) (n : NodeV) : GS := ⟨G.tk, G.by_, upd G.nd num n⟩
theorem none_ok : none.Ok := ⟨fun _ => rfl, fun _ => rfl, fun _ => zeroB_length⟩
theorem Ok.take {G : GS} (h : G.Ok) (k : Nat) : (G.take k).Ok := ⟨h.dir, h.chk, fun j => by simp only [GS.take, upd]; split; exact zeroB_length; exact h.len j⟩
theorem Ok.give {G : GS} (h : G.Ok) (k : Nat) : (G.give k).Ok := ⟨h.dir, h.chk, h.len⟩
theorem Ok.put {G : GS} (h : G.Ok) (k : Nat) {b : BlkV} (hb : b.length = 64) : (G.put k b).Ok := ⟨h.dir, h.chk, fun j => by simp only [GS.put, upd]; split; exact hb; exact h.len j⟩
theorem Ok.set {G : GS} (h : G.Ok) (num : Nat) {n : NodeV} (hd : n.dir.length = 6) (hc : checkN n = true) : (G.set num n).Ok :=
  ⟨fun j => by simp only [GS.set, upd]; split; exact hd; exact h.dir j, fun j => by simp only [GS.set, upd]; split; exact hc; exact h.chk j, h.len⟩
/-- the first block that isn't taken -/
def free (G : GS) (m : Nat) : Option Nat := (List.range m).find? fun k => !G.tk k
def cnt (G : GS) (m : Nat) : Nat := ((List.range m).filter G.tk).length
end GS
theorem find_congr {α : Type} {p q : α → Bool} : ∀ {l : List α}, (∀ x ∈ l, p x = q x) → l.find? p = l.find? q
  | [], _ => rfl
  | a :: r, h => by
    simp only [List.find?_cons, h a (by simp), find_congr (l := r) fun x hx => h x (by simp [hx])]
/-- only these blocks are to be written -/
def Sto.In (s : Sto) (L : List Nat) : Prop := ∀ x ∈ s.M, x.1 ∈ L
theorem nodup_le : ∀ {l L : List Nat}, l.Nodup → (∀ x ∈ l, x ∈ L) → l.length ≤ L.length
  | [], _, _, _ => Nat.zero_le _
  | a :: r, L, hn, h => by
    rw [List.nodup_cons] at hn
    have ha : a ∈ L := h a (by simp)
    have := nodup_le (l := r) (L := L.erase a) hn.2 (fun x hx => (List.mem_erase_of_ne (by rintro rfl; exact hn.1 hx)).2 (h x (by simp [hx])))
    rw [List.length_erase_of_mem ha] at this
    have : 0 < L.length := List.length_pos_of_mem ha
    simp only [List.length_cons]
    omega
theorem Sto.In.len {s : Sto} {L : List Nat} (h : s.In L) (hk : s.Ok) : s.M.length ≤ L.length := by
  have := nodup_le hk.nodup (L := L) (fun x hx => by obtain ⟨y, hy, rfl⟩ := List.mem_map.1 hx; exact h y hy)
  rwa [List.length_map] at this
/-- what a call in a group leaves: the disk, the fault, what is outside; which blocks are to be written now -/
structure Sto.Step (s s' : Sto) (g : GeoN) (L : List Nat) : Prop where
  D : s'.D = s.D
  bad : s'.bad = s.bad
  far : ∀ n, (n < g.base ∨ g.data + g.blocks ≤ n) → s'.at_ n = s.at_ n
  key : ∀ x ∈ s'.M, (∃ y ∈ s.M, y.1 = x.1) ∨ x.1 ∈ L
theorem Sto.Step.refl (s : Sto) (g : GeoN) (L : List Nat) : s.Step s g L := ⟨rfl, rfl, fun _ _ => rfl, fun x hx => .inl ⟨x, hx, rfl⟩⟩
theorem Sto.Step.trans {s1 s2 s3 : Sto} {g : GeoN} {L L' : List Nat} (h : s1.Step s2 g L) (h' : s2.Step s3 g L') : s1.Step s3 g (L ++ L') :=
  ⟨h'.D.trans h.D, h'.bad.trans h.bad, fun n hn => (h'.far n hn).trans (h.far n hn), fun x hx => by
    rcases h'.key x hx with ⟨y, hy, e⟩ | hx
    · rcases h.key y hy with ⟨z, hz, e'⟩ | hy
      · exact .inl ⟨z, hz, e'.trans e⟩
      · exact .inr (by rw [← e]; simp [hy])
    · exact .inr (by simp [hx])⟩
theorem Sto.Step.mono {s1 s2 : Sto} {g : GeoN} {L L' : List Nat} (h : s1.Step s2 g L) (hL : ∀ x ∈ L, x ∈ L') : s1.Step s2 g L' :=
  ⟨h.D, h.bad, h.far, fun x hx => (h.key x hx).imp id (hL _)⟩
theorem Sto.Step.in_ {s1 s2 : Sto} {g : GeoN} {L K : List Nat} (h : s1.Step s2 g L) (hK : s1.In K) : s2.In (K ++ L) := fun x hx => by
  rcases h.key x hx with ⟨y, hy, e⟩ | hx
  · rw [← e]; exact List.mem_append_left _ (hK y hy)
  · exact List.mem_append_right _ hx
theorem Sto.In.mono {s : Sto} {L L' : List Nat} (h : s.In L) (hL : ∀ x ∈ L, x ∈ L') : s.In L' := fun x hx => hL _ (h x hx)

section
variable {s s' : Sto} {f k j n num : Nat} {b : BlkV} {on : Bool} {g u : GeoN} {G : GS}
theorem nodeX_of (h : s'.at_ (g.base + g.bitmap + (num - 1) / 2) = s.at_ (g.base + g.bitmap + (num - 1) / 2)) : s'.nodeX g num = s.nodeX g num := by
  unfold Sto.nodeX; rw [h]
theorem bit_of (h : s'.at_ (f + k / 512) = s.at_ (f + k / 512)) : s'.bit f k = s.bit f k := by
  unfold Sto.bit; rw [h]
/-- another group is what it was -/
theorem Sto.Is.keep (h : s.Is u G) (hu : u.Ok n) (ha : ∀ m, u.base ≤ m → m < u.data + u.blocks → s'.at_ m = s.at_ m) : s'.Is u G := by
  have h1 := hu.data; have h2 := hu.map; have h3 := hu.tab
  exact ⟨fun k hk => (bit_of (ha _ (by omega) (by omega))).trans (h.bit k hk), fun k hk => (ha _ (by omega) (by omega)).trans (h.byt k hk),
    fun num k1 k2 => (nodeX_of (ha _ (by omega) (by omega))).trans (h.nod num k1 k2)⟩
theorem Sto.Is.far {L : List Nat} (h : s.Is u G) (hu : u.Ok n) (hs : s.Step s' g L) (ha : u.data + u.blocks ≤ g.base ∨ g.data + g.blocks ≤ u.base) : s'.Is u G :=
  h.keep hu fun m h1 h2 => hs.far m (by omega)
theorem Sto.Is.commit (h : s.Is u G) (hu : u.Ok n) (hs : s.Ok) {l : List Nat} (hp : l.Perm (s.M.map (·.1))) : Sto.Is ⟨commitD s l, [], 0⟩ u G :=
  h.keep hu fun m h1 h2 => commit_at hs hp (.inr (by have := hu.base; omega))
theorem Sto.Is.nodeV (h : s.Is g G) (hG : G.Ok) (h1 : 1 ≤ num) (h2 : num ≤ g.nodes) : s.nodeV g num = G.nd num := by
  unfold Sto.nodeV
  rw [h.nod num h1 h2, isN_enc (hG.dir num), dec_enc (hG.dir num), if_pos (hG.chk num)]
theorem Sto.Is.nodeE (h : s.Is g G) (hG : G.Ok) (h1 : 1 ≤ num) (h2 : num ≤ g.nodes) : s.nodeE g num = 0 := by
  unfold Sto.nodeE
  rw [h.nod num h1 h2, isN_enc (hG.dir num), if_pos (hG.chk num)]
theorem Sto.Is.free (h : s.Is g G) : s.freeBit g.base g.blocks = G.free g.blocks :=
  find_congr fun x hx => by rw [h.bit x (List.mem_range.1 hx)]
theorem Sto.Is.cnt (h : s.Is g G) : s.cntBit g.base g.blocks = G.cnt g.blocks := by
  unfold Sto.cntBit GS.cnt
  rw [List.filter_congr fun x hx => h.bit x (List.mem_range.1 hx)]

theorem zero_enc : encN NodeV.zero = List.replicate 32 0 := by decide +kernel
theorem begun_is (hu : u.Ok n) : Sto.Is ⟨begD n, [], 0⟩ u GS.none := by
  have h1 := hu.base
  refine ⟨fun k hk => begD_bit (by omega), fun k hk => begD_at (by have := hu.data; omega), fun num h1 h2 => ?_⟩
  unfold Sto.nodeX GS.none
  rw [begD_at (by omega), zero_enc, zeroB, List.drop_replicate, List.take_replicate]
  congr 1
  omega

theorem setBit_at (s : Sto) (f k : Nat) (on : Bool) (n : Nat) (h : n ≠ f + k / 512) : (s.setBit f k on).at_ n = s.at_ n := at_setBit_far (fun e => h e.symm)
theorem put_mem {x : Nat × BlkV} (h : x ∈ (s.put n b).M) : x ∈ s.M ∨ x.1 = n := by
  rcases mput_mem (L := s.M) h with h | rfl
  · exact .inl h
  · exact .inr rfl
theorem setBit_mem {x : Nat × BlkV} (h : x ∈ (s.setBit f k on).M) : x ∈ s.M ∨ x.1 = f + k / 512 := by
  unfold Sto.setBit at h
  split at h
  · exact .inl h
  · exact put_mem h
theorem setBit_bad (s : Sto) (f k : Nat) (on : Bool) : (s.setBit f k on).bad = s.bad := by
  unfold Sto.setBit; split <;> rfl

/-- Take -/
theorem is_take (hs : s.Ok) (hg : g.Ok s.D.length) (hk : k < g.blocks) (h : s.Is g G) : (s.take g k).Is g (G.take k) ∧ s.Step (s.take g k) g [g.base + k / 512, g.data + k] := by
  have h1 := hg.data; have h2 := hg.map; have h3 := hg.tab
  refine ⟨⟨fun j hj => ?_, fun j hj => ?_, fun num n1 n2 => ?_⟩, ⟨take_D g k, ?_, fun n hn => ?_, fun x hx => ?_⟩⟩
  · rw [bit_take hs hg hj, h.bit j hj]; rfl
  · rw [at_take hg hk (.inr (by omega)), h.byt j hj]
    simp only [GS.take, upd]
    by_cases e : j = k
    · rw [if_pos (by omega), if_pos e]
    · rw [if_neg (by omega), if_neg e]
  · rw [nodeX_of (s := s)]
    · exact h.nod num n1 n2
    · rw [at_take hg hk (.inr (by omega)), if_neg (by omega)]
  · unfold Sto.take; exact setBit_bad _ _ _ _
  · rw [at_take hg hk (by omega), if_neg (by omega)]
  · unfold Sto.take at hx
    rcases put_mem hx with hx | hx
    · rcases setBit_mem hx with hx | hx
      · exact .inl ⟨x, hx, rfl⟩
      · exact .inr (by simp [hx])
    · exact .inr (by simp [hx])
/-- Give -/
theorem is_give (hs : s.Ok) (hg : g.Ok s.D.length) (hk : k < g.blocks) (h : s.Is g G) : (s.setBit g.base k false).Is g (G.give k) ∧ s.Step (s.setBit g.base k false) g [g.base + k / 512] := by
  have h1 := hg.data; have h2 := hg.map; have h3 := hg.tab
  refine ⟨⟨fun j hj => ?_, fun j hj => ?_, fun num n1 n2 => ?_⟩, ⟨setBit_D _ _ _ _, setBit_bad _ _ _ _, fun n hn => ?_, fun x hx => ?_⟩⟩
  · rw [bit_setBit hs, h.bit j hj]; rfl
  · rw [setBit_at _ _ _ _ _ (by omega)]; exact h.byt j hj
  · rw [nodeX_of (s := s)]
    · exact h.nod num n1 n2
    · rw [setBit_at _ _ _ _ _ (by omega)]
  · rw [setBit_at _ _ _ _ _ (by omega)]
  · rcases setBit_mem hx with hx | hx
    · exact .inl ⟨x, hx, rfl⟩
    · exact .inr (by simp [hx])
/-- Put -/
theorem is_put (hg : g.Ok s.D.length) (hk : k < g.blocks) (h : s.Is g G) : (s.put (g.data + k) b).Is g (G.put k b) ∧ s.Step (s.put (g.data + k) b) g [g.data + k] := by
  have h1 := hg.data; have h2 := hg.map; have h3 := hg.tab
  refine ⟨⟨fun j hj => ?_, fun j hj => ?_, fun num n1 n2 => ?_⟩, ⟨rfl, rfl, fun n hn => ?_, fun x hx => ?_⟩⟩
  · rw [bit_put_far (by omega)]; exact h.bit j hj
  · rw [Sto.at_put, h.byt j hj]
    simp only [GS.put, upd]
    by_cases e : j = k
    · rw [if_pos (by omega), if_pos e]
    · rw [if_neg (by omega), if_neg e]
  · rw [nodeX_of (s := s)]
    · exact h.nod num n1 n2
    · rw [Sto.at_put, if_neg (by omega)]
  · rw [Sto.at_put, if_neg (by omega)]
  · rcases put_mem hx with hx | hx
    · exact .inl ⟨x, hx, rfl⟩
    · exact .inr (by simp [hx])
theorem wrB_same {bs l : List UInt8} {a : Nat} (h : a + l.length ≤ bs.length) : ((wrB bs a l).drop a).take l.length = l := by
  unfold wrB
  rw [List.append_assoc, List.drop_append, List.drop_of_length_le (by rw [List.length_take]; omega), List.length_take, Nat.min_eq_left (by omega), Nat.sub_self, List.drop_zero, List.nil_append, List.take_left']
  rfl
theorem wrB_other {bs l : List UInt8} {a c m : Nat} (h : a + l.length ≤ bs.length) (hd : c + m ≤ a ∨ a + l.length ≤ c) : ((wrB bs a l).drop c).take m = (bs.drop c).take m := by
  have ht : (bs.take a).length = a := by rw [List.length_take]; omega
  apply List.ext_getElem?
  intro j
  simp only [List.getElem?_take, List.getElem?_drop]
  split
  · unfold wrB
    rcases hd with hd | hd
    · rw [List.append_assoc, List.getElem?_append_left (by omega), List.getElem?_take, if_pos (by omega)]
    · rw [List.getElem?_append_right (by simp only [List.length_append]; omega), List.getElem?_drop]
      congr 1
      simp only [List.length_append]
      omega
  · rfl
/-- Set -/
theorem is_set {v : NodeV} (hs : s.Ok) (hg : g.Ok s.D.length) (h1' : 1 ≤ num) (h2' : num ≤ g.nodes) (hv : v.dir.length = 6) (h : s.Is g G) : (s.setNode g num v).Is g (G.set num v) ∧ s.Step (s.setNode g num v) g [g.base + g.bitmap + (num - 1) / 2] := by
  have h1 := hg.data; have h2 := hg.map; have h3 := hg.tab
  have hl := Sto.at_length hs (g.base + g.bitmap + (num - 1) / 2)
  have he := encN_length hv
  refine ⟨⟨fun j hj => ?_, fun j hj => ?_, fun m n1 n2 => ?_⟩, ⟨rfl, rfl, fun n hn => ?_, fun x hx => ?_⟩⟩
  · unfold Sto.setNode; rw [bit_put_far (by omega)]; exact h.bit j hj
  · unfold Sto.setNode; rw [Sto.at_put, if_neg (by omega)]; exact h.byt j hj
  · simp only [GS.set, upd]
    by_cases e : m = num
    · subst e
      rw [if_pos rfl]
      unfold Sto.nodeX Sto.setNode
      rw [Sto.at_put, if_pos rfl]
      have := wrB_same (bs := s.at_ (g.base + g.bitmap + (m - 1) / 2)) (a := (m - 1) % 2 * 32) (l := encN v) (by omega)
      rwa [he] at this
    · rw [if_neg e, ← h.nod m n1 n2]
      by_cases e2 : (m - 1) / 2 = (num - 1) / 2
      · unfold Sto.nodeX Sto.setNode
        rw [Sto.at_put, if_pos (by omega), e2, wrB_other (by omega) (by omega)]
      · refine nodeX_of ?_
        unfold Sto.setNode
        rw [Sto.at_put, if_neg (by omega)]
  · unfold Sto.setNode; rw [Sto.at_put, if_neg (by omega)]
  · unfold Sto.setNode at hx
    rcases put_mem hx with hx | hx
    · exact .inl ⟨x, hx, rfl⟩
    · exact .inr (by simp [hx])
end
end Go.Proofs.YthmkgohfeahdhaaGreat
namespace Go.Proofs.YthmkgohfeahdhaaGreat
open Go.RowKit
set_option linter.unusedSimpArgs false
set_option linter.unusedVariables false

/-- a group lies open, over a transaction -/
structure GAt (w : World) (i : Ids) (s : Sto) (gg : Nat) (g : GeoN) (lab : Int) (G : GS) : Prop where
  tx : TxAt w i s
  gp : GroupAt w gg i.tt g lab
  ok : g.Ok s.D.length
  is : s.Is g G
  gok : G.Ok
/-- what a call on it leaves -/
def GRes (w w' : World) (i : Ids) (s : Sto) (gg : Nat) (g : GeoN) (lab : Int) (G' : GS) (L : List Nat) : Prop :=
  ∃ s', GAt w' i s' gg g lab G' ∧ s.Step s' g L ∧ Tch w.heap.size i.own w w'
section
variable {w w' : World} {i : Ids} {s : Sto} {gg : Nat} {g : GeoN} {lab : Int} {G G' : GS} {L : List Nat}
theorem GAt.below (h : GAt w i s gg g lab G) (hb : Below w.heap.size w w') : GAt w' i s gg g lab G := ⟨h.tx.below hb, h.gp.below hb, h.ok, h.is, h.gok⟩
theorem GAt.res (h : GAt w i s gg g lab G) {s' : Sto} (hx : TxAt w' i s') (ht : Tch w.heap.size i.own w w') (hi : s'.Is g G' ∧ s.Step s' g L) (hk : G'.Ok) : GRes w w' i s gg g lab G' L :=
  ⟨s', ⟨hx, h.gp.tch h.tx ht, by rw [hi.2.D]; exact h.ok, hi.1, hk⟩, hi.2, ht⟩
theorem GAt.same (h : GAt w i s gg g lab G) (hx : TxAt w' i s) (ht : Tch w.heap.size i.own w w') : GRes w w' i s gg g lab G L :=
  h.res hx ht ⟨h.is, Sto.Step.refl _ _ _⟩ h.gok
theorem gs_take_full (h : GAt w i s gg g lab G) (hf : G.free g.blocks = none) :
    Calls Tryz.prog 145 #[.pointer (some ⟨gg, 0, none⟩)] w fun e w' => e = .returned (.tuple #[.int .u16 0, .int .i64 10]) ∧ GRes w w' i s gg g lab G [] :=
  (take_full h.tx h.gp h.ok (by rw [h.is.free]; exact hf)).mono fun e w' ⟨he, hx, ht⟩ => ⟨he, h.same hx ht⟩
theorem gs_free_lt {m k : Nat} (hf : G.free m = some k) : k < m := List.mem_range.1 (List.mem_of_find?_eq_some hf)
theorem gs_take {k : Nat} (h : GAt w i s gg g lab G) (hr : s.M.length ≤ 28) (hf : G.free g.blocks = some k) :
    Calls Tryz.prog 145 #[.pointer (some ⟨gg, 0, none⟩)] w fun e w' => e = .returned (.tuple #[.int .u16 ((k + 1 : Nat) : Int), .int .i64 0]) ∧ GRes w w' i s gg g lab (G.take k) [g.base + k / 512, g.data + k] :=
  (take_ok h.tx h.gp h.ok hr (by rw [h.is.free]; exact hf) (gs_free_lt hf)).mono fun e w' ⟨he, hx, ht⟩ => ⟨he, h.res hx ht (is_take h.tx.ok h.ok (gs_free_lt hf) h.is) (h.gok.take k)⟩
theorem gs_give {k : Nat} (h : GAt w i s gg g lab G) (hr : s.M.length ≤ 28) (hk : k < g.blocks) (hb : G.tk k = true) :
    Calls Tryz.prog 103 #[.pointer (some ⟨gg, 0, none⟩), .int .u16 ((k + 1 : Nat) : Int)] w fun e w' => e = .returned (.int .i64 0) ∧ GRes w w' i s gg g lab (G.give k) [g.base + k / 512] :=
  (give_ok h.tx h.gp h.ok hr hk (by rw [h.is.bit k hk]; exact hb)).mono fun e w' ⟨he, hx, ht⟩ => ⟨he, h.res hx ht (is_give h.tx.ok h.ok hk h.is) (h.gok.give k)⟩
theorem gs_put {k : Nat} {b : BlkV} (h : GAt w i s gg g lab G) (hr : s.M.length ≤ 28) (hk : k < g.blocks) (hb : b.length = 64) :
    Calls Tryz.prog 94 #[.pointer (some ⟨gg, 0, none⟩), .int .u16 ((k + 1 : Nat) : Int), bval b] w fun e w' => e = .returned (.int .i64 0) ∧ GRes w w' i s gg g lab (G.put k b) [g.data + k] :=
  (gput_ok h.tx h.gp h.ok hr hk hb).mono fun e w' ⟨he, hx, ht⟩ => ⟨he, h.res hx ht (is_put h.ok hk h.is) (h.gok.put k hb)⟩
theorem gs_set {num : Nat} {n : NodeV} (h : GAt w i s gg g lab G) (hr : s.M.length ≤ 29) (h1 : 1 ≤ num) (h2 : num ≤ g.nodes) (hnd : n.dir.length = 6) (hck : checkN n = true) :
    Calls Tryz.prog 95 #[.pointer (some ⟨gg, 0, none⟩), .int .i64 (num : Int), n.val] w fun e w' => e = .returned (.int .i64 0) ∧ GRes w w' i s gg g lab (G.set num n) [g.base + g.bitmap + (num - 1) / 2] :=
  (gset_ok h.tx h.gp h.ok h1 h2 hnd hck (node_can h.ok hr h1 h2)).mono fun e w' ⟨he, hx, ht⟩ => ⟨he, h.res hx ht (is_set h.tx.ok h.ok h1 h2 hnd h.is) (h.gok.set num hnd hck)⟩
end
end Go.Proofs.YthmkgohfeahdhaaGreat
namespace Go.Proofs.YthmkgohfeahdhaaGreat
open Go.RowKit
set_option linter.unusedSimpArgs false
set_option linter.unusedVariables false

/-- an operation of a quiet region, by its run -/
theorem quiet_exec {P : Program} {C : World → Prop} {a : Act} {o : Oper} {K : Act → Prop} {v : Value} (h : ∀ w, C w → (execOp a.eval o).run P w = .ok (.value v) w) (hk : K (a.put o.dst v)) : o.quiet P a C K :=
  ⟨v, fun w hw => by unfold Oper.quietAt; rw [h w hw]; exact ⟨rfl, rfl⟩, hk⟩
/-- a row of blocks, read at one -/
theorem Rd.block {w : World} {B n : Nat} {A : Option Addr} {D : List BlkV} (h : Rd w B 64 A n (flatB D)) (hD : ∀ b ∈ D, b.length = 64) {k : Nat} {b : BlkV} (hk : D[k]? = some b) :
    ∃ g o, A = some ⟨g, o, none⟩ ∧ g < B ∧ w.rangeAt g (o + k * 64) (bvs b) := by
  have hn : n = D.length := by have := h.1; rw [flatB_length hD] at this; omega
  have hkl : k < D.length := (List.getElem?_eq_some_iff.1 hk).1
  obtain ⟨g, o, hA, hg, hc⟩ := h.2 (by omega)
  refine ⟨g, o, hA, hg, fun j v hj => ?_⟩
  have hb : b.length = 64 := hD b (List.mem_of_getElem? hk)
  have hj64 : j < 64 := by have := (List.getElem?_eq_some_iff.1 hj).1; rw [bvs_length, hb] at this; exact this
  have := hc (64 * k + j) v (by rw [flatB_get hD hk hj64]; exact hj)
  rw [show o + k * 64 + j = o + (64 * k + j) from by omega]
  exact this
section
variable {w w' : World} {dd rr : Nat} {D : List BlkV}
end
end Go.Proofs.YthmkgohfeahdhaaGreat
namespace Go.Proofs.YthmkgohfeahdhaaGreat
open Go.RowKit
set_option linter.unusedSimpArgs false
set_option linter.unusedVariables false

/-- a pointer in a block -/
def ptrB (b : BlkV) (i : Nat) : Nat := (b.getD (2 * i) 0).toNat + 256 * (b.getD (2 * i + 1) 0).toNat
/-- a block with a pointer changed -/
def pointB (b : BlkV) (i n : Nat) : BlkV := put2B b (2 * i) n
theorem pointB_length (b : BlkV) (i n : Nat) : (pointB b i n).length = b.length := put2B_length _ _ _
theorem ptrB_lt (b : BlkV) (i : Nat) : ptrB b i < 65536 := by
  have h1 := (b.getD (2 * i) 0).toNat_lt
  have h2 := (b.getD (2 * i + 1) 0).toNat_lt
  unfold ptrB
  omega
theorem getD_set_ (b : List UInt8) (i j : Nat) (x : UInt8) (hi : i < b.length) : (b.set i x).getD j 0 = if i = j then x else b.getD j 0 := by
  simp only [List.getD_eq_getElem?_getD, List.getElem?_set]
  by_cases h : i = j
  · subst h; simp [hi]
  · simp [h]
theorem ptr_point {b : BlkV} (hb : b.length = 64) {i n : Nat} (hi : i < 32) (hn : n < 65536) (j : Nat) : ptrB (pointB b i n) j = if j = i then n else ptrB b j := by
  unfold ptrB pointB put2B
  have h1 : 2 * i < b.length := by omega
  have h2 : 2 * i + 1 < (b.set (2 * i) (UInt8.ofNat (n % 256))).length := by rw [List.length_set]; omega
  rw [getD_set_ _ _ _ _ h2, getD_set_ _ _ _ _ h1, getD_set_ _ _ _ _ h2, getD_set_ _ _ _ _ h1]
  by_cases h : j = i
  · subst h
    rw [if_neg (by omega), if_pos rfl, if_pos rfl, if_pos rfl, UInt8.toNat_ofNat', UInt8.toNat_ofNat']
    omega
  · rw [if_neg (by omega), if_neg (by omega), if_neg (by omega), if_neg (by omega), if_neg h]
theorem ptr_zero (i : Nat) : ptrB zeroB i = 0 := by
  have h : ∀ j, zeroB.getD j 0 = 0 := fun j => by
    unfold zeroB
    rw [List.getD_eq_getElem?_getD, List.getElem?_replicate]
    split <;> rfl
  unfold ptrB
  rw [h, h]
  rfl

/-- how a file's block is come to: how many steps, which pointer at each -/
structure WayV where
  steps : Nat
  a0 : Nat
  a1 : Nat
def wayOf (n : Nat) : WayV := if n < 6 then ⟨0, n, 0⟩ else if n < 38 then ⟨1, n - 6, 0⟩ else ⟨2, (n - 38) / 32, (n - 38) % 32⟩
def WayV.cells (v : WayV) : Array Value := #[.int .i64 (v.steps : Int), .int .i64 (v.a0 : Int), .int .i64 (v.a1 : Int), .int .i64 0]
/-- where a node has the pointer with which a way begins -/
def WayV.root (v : WayV) : Nat := if v.steps = 0 then 4 + v.a0 else if v.steps = 1 then 10 else 11
def WayV.Ok (v : WayV) : Prop := (v.steps = 0 ∧ v.a0 < 6) ∨ (v.steps = 1 ∧ v.a0 < 32) ∨ (v.steps = 2 ∧ v.a0 < 32 ∧ v.a1 < 32)
theorem wayOf_ok {n : Nat} (h : n < 256) : (wayOf n).Ok := by
  unfold wayOf WayV.Ok
  split
  · left; simp; omega
  · split
    · right; left; simp; omega
    · right; right; simp; omega
theorem zero_way (w : World) : (zeroValue 268).run Tryz.prog w = .ok (.agg (WayV.cells ⟨0, 0, 0⟩)) w := by kernel_rfl
theorem size_way (v : WayV) : (Tryz.prog.info? 268).map (·.size) = some v.cells.size := by
  have : (Tryz.prog.info? 268).map (·.size) = some 4 := by kernel_rfl
  rw [this]; rfl
theorem way_one (v : WayV) : v.cells.all (·.oneCell') = true := by simp [WayV.cells, Value.oneCell']
section
variable {w w' : World}
set_option maxRecDepth 100000 in
set_option maxHeartbeats 800000 in
theorem place_ok' (w : World) {n : Nat} (hn : n < 256) :
    Calls Tryz.prog 143 #[.int .i64 (n : Int)] w fun e w' => e = .returned (.tuple #[.agg (wayOf n).cells, .bool true]) ∧ Below w.heap.size w w' := by
  have hz : (n : Int) ≤ 255 := by omega
  have t1 : decide ((256 : Int) ≤ (n : Int)) = false := by simp; omega
  obtain ⟨v, hv⟩ : ∃ v, wayOf n = v := ⟨_, rfl⟩
  rw [hv]
  go_enter Tryz.func143, Tryz.ntmps143
  go_upto_region 1 with (first | ((with_reducible refine at_alloc 268 ?_); refine wpList_alloc_as rfl 268 rfl _ (zero_way _) ?_) | fail)
  refine at_world (fun W => ∃ p, p = w.heap.size ∧ Below w.heap.size w W ∧ Blk W p 268 (WayV.cells ⟨0, 0, 0⟩)) ⟨_, rfl, (Below.refl _ _).alloc (Nat.le_refl _) _, Blk.new _ _ _⟩ (fun w1 hw1 => ?_)
  obtain ⟨p, hp, hb1, hP⟩ := hw1
  rw [← hp]
  have HB := hide (And.intro hb1 (show w.heap.size ≤ p from Nat.le_of_eq hp.symm))
  have HP := hide hP
  clear hp hb1 hP
  by_cases h6 : n < 6
  · have t2 : decide ((n : Int) < 6) = true := by simp; omega
    have e : v = ⟨0, n, 0⟩ := by rw [← hv]; unfold wayOf; rw [if_pos h6]
    clear hv
    subst e
    have hbw : ∀ W, (Instr.build 268 #[(0, .int .i64 0), (1, .agg #[.int .i64 (n : Int), .int .i64 0, .int .i64 0])]).run Tryz.prog W = .ok (.agg (WayV.cells ⟨0, n, 0⟩)) W := fun W => by kernel_rfl
    have hba : ∀ W, (Instr.build 266 #[(0, .int .i64 (n : Int))]).run Tryz.prog W = .ok (.agg #[.int .i64 (n : Int), .int .i64 0, .int .i64 0]) W := fun W => by kernel_rfl
    clear h6
    go_wp2_with (first | ((with_reducible refine at_build 266 #[(0, .tmp 15)] ?_); refine wpList_run rfl _ (exec_build 266 #[(0, .tmp 15)] rfl #[(0, .int .i64 (n : Int))] (by simp only [List.map_toArray, List.map_cons, List.map_nil]; rfl) _ (hba _)) ?_) | ((with_reducible refine at_build 268 #[(0, .const (.int .i64 0)), (1, .tmp 16)] ?_); refine wpList_run rfl _ (exec_build 268 #[(0, .const (.int .i64 0)), (1, .tmp 16)] rfl #[(0, .int .i64 0), (1, .agg #[.int .i64 (n : Int), .int .i64 0, .int .i64 0])] (by simp only [List.map_toArray, List.map_cons, List.map_nil]; rfl) _ (hbw _)) ?_) | ((with_reducible refine at_store 268 (.tmp 2) (.tmp 17) ?_); refine wpList_store_blk rfl 268 (.tmp 2) (.tmp 17) rfl p _ _ _ (by rfl) (by rfl) HP.out (size_way ⟨0, n, 0⟩) rfl (way_one ⟨0, n, 0⟩) (fun hB3 => ?_)) | ((with_reducible refine at_end ?_); refine bodyPost_ret (v := .tuple #[.agg (WayV.cells ⟨0, n, 0⟩), .bool true]) (results_run2 rfl (ResV.row rfl hB3 Tryz.underlying268 rfl (size_way _)) rfl) rfl ⟨rfl, below_setRow HB.out.1 HB.out.2 _⟩) | fail)
  · have t2 : decide ((n : Int) < 6) = false := by simp; omega
    by_cases h38 : n < 38
    · have t3 : decide ((n : Int) < 38) = true := by simp; omega
      have e : v = ⟨1, n - 6, 0⟩ := by rw [← hv]; unfold wayOf; rw [if_neg h6, if_pos h38]
      clear hv
      have e1 : IntKind.i64.wrap ((n : Int) - 6) = ((n - 6 : Nat) : Int) := by rw [IntWalk.i64_in _ (by omega)]; omega
      generalize n - 6 = a at e1 e
      subst e
      have hbw : ∀ W, (Instr.build 268 #[(0, .int .i64 1), (1, .agg #[.int .i64 (a : Int), .int .i64 0, .int .i64 0])]).run Tryz.prog W = .ok (.agg (WayV.cells ⟨1, a, 0⟩)) W := fun W => by kernel_rfl
      have hba : ∀ W, (Instr.build 266 #[(0, .int .i64 (a : Int))]).run Tryz.prog W = .ok (.agg #[.int .i64 (a : Int), .int .i64 0, .int .i64 0]) W := fun W => by kernel_rfl
      clear h6 h38
      go_wp2_with (first | ((with_reducible refine at_build 266 #[(0, .tmp 22)] ?_); refine wpList_run rfl _ (exec_build 266 #[(0, .tmp 22)] rfl #[(0, .int .i64 (a : Int))] (by simp only [List.map_toArray, List.map_cons, List.map_nil]; rfl) _ (hba _)) ?_) | ((with_reducible refine at_build 268 #[(0, .const (.int .i64 1)), (1, .tmp 23)] ?_); refine wpList_run rfl _ (exec_build 268 #[(0, .const (.int .i64 1)), (1, .tmp 23)] rfl #[(0, .int .i64 1), (1, .agg #[.int .i64 (a : Int), .int .i64 0, .int .i64 0])] (by simp only [List.map_toArray, List.map_cons, List.map_nil]; rfl) _ (hbw _)) ?_) | ((with_reducible refine at_store 268 (.tmp 2) (.tmp 24) ?_); refine wpList_store_blk rfl 268 (.tmp 2) (.tmp 24) rfl p _ _ _ (by rfl) (by rfl) HP.out (size_way ⟨1, a, 0⟩) rfl (way_one ⟨1, a, 0⟩) (fun hB3 => ?_)) | ((with_reducible refine at_end ?_); refine bodyPost_ret (v := .tuple #[.agg (WayV.cells ⟨1, a, 0⟩), .bool true]) (results_run2 rfl (ResV.row rfl hB3 Tryz.underlying268 rfl (size_way _)) rfl) rfl ⟨rfl, below_setRow HB.out.1 HB.out.2 _⟩) | fail)
    · have t3 : decide ((n : Int) < 38) = false := by simp; omega
      have e : v = ⟨2, (n - 38) / 32, (n - 38) % 32⟩ := by rw [← hv]; unfold wayOf; rw [if_neg h6, if_neg h38]
      clear hv
      have e1 : IntKind.i64.wrap ((n : Int) - 38) = ((n - 38 : Nat) : Int) := by rw [IntWalk.i64_in _ (by omega)]; omega
      have hq0 : ((n - 38 : Nat) : Int) ≤ 217 := by omega
      generalize n - 38 = q at e1 hq0 e
      have e2 : ((q : Int)).tdiv 32 = ((q / 32 : Nat) : Int) := by rw [Int.tdiv_eq_ediv_of_nonneg (by omega)]; omega
      have e3 : ((q : Int)).tmod 32 = ((q % 32 : Nat) : Int) := by rw [Int.tmod_eq_emod_of_nonneg (by omega)]; omega
      have hbw : ∀ W, (Instr.build 268 #[(0, .int .i64 2), (1, .agg #[.int .i64 ((q / 32 : Nat) : Int), .int .i64 ((q % 32 : Nat) : Int), .int .i64 0])]).run Tryz.prog W = .ok (.agg (WayV.cells ⟨2, q / 32, q % 32⟩)) W := fun W => by kernel_rfl
      have hba : ∀ W, (Instr.build 266 #[(0, .int .i64 ((q / 32 : Nat) : Int)), (1, .int .i64 ((q % 32 : Nat) : Int))]).run Tryz.prog W = .ok (.agg #[.int .i64 ((q / 32 : Nat) : Int), .int .i64 ((q % 32 : Nat) : Int), .int .i64 0]) W := fun W => by kernel_rfl
      have e4 : IntKind.i64.wrap ((q / 32 : Nat) : Int) = ((q / 32 : Nat) : Int) := IntWalk.i64_in _ (by omega)
      generalize q / 32 = a at *
      generalize q % 32 = b at *
      subst e
      clear h6 h38
      go_wp2_with (first | ((with_reducible refine at_build 266 #[(0, .tmp 28), (1, .tmp 30)] ?_); refine wpList_run rfl _ (exec_build 266 #[(0, .tmp 28), (1, .tmp 30)] rfl #[(0, .int .i64 (a : Int)), (1, .int .i64 (b : Int))] (by simp only [List.map_toArray, List.map_cons, List.map_nil]; rfl) _ (hba _)) ?_) | ((with_reducible refine at_build 268 #[(0, .const (.int .i64 2)), (1, .tmp 31)] ?_); refine wpList_run rfl _ (exec_build 268 #[(0, .const (.int .i64 2)), (1, .tmp 31)] rfl #[(0, .int .i64 2), (1, .agg #[.int .i64 (a : Int), .int .i64 (b : Int), .int .i64 0])] (by simp only [List.map_toArray, List.map_cons, List.map_nil]; rfl) _ (hbw _)) ?_) | ((with_reducible refine at_store 268 (.tmp 2) (.tmp 32) ?_); refine wpList_store_blk rfl 268 (.tmp 2) (.tmp 32) rfl p _ _ _ (by rfl) (by rfl) HP.out (size_way ⟨2, a, b⟩) rfl (way_one ⟨2, a, b⟩) (fun hB3 => ?_)) | ((with_reducible refine at_end ?_); refine bodyPost_ret (v := .tuple #[.agg (WayV.cells ⟨2, a, b⟩), .bool true]) (results_run2 rfl (ResV.row rfl hB3 Tryz.underlying268 rfl (size_way _)) rfl) rfl ⟨rfl, below_setRow HB.out.1 HB.out.2 _⟩) | fail)

theorem or_two {a b : Nat} (ha : a < 256) (hb : b < 256) : bits BinOp.or IntKind.u16 (a : Int) (((256 * b : Nat)) : Int) = ((a + 256 * b : Nat) : Int) := by
  have h := (bits_nat .u16 16 (by decide) (fun n h0 h1 => by rw [IntKind.wrap_u16]; omega) a (256 * b) (by omega) (by omega)).2
  rw [h]
  have : a ||| 256 * b = a + 256 * b := by
    rw [Nat.or_comm, Nat.add_comm]
    exact (Nat.two_pow_add_eq_or_of_lt (i := 8) ha b).symm
  rw [this]
set_option maxRecDepth 100000 in
set_option maxHeartbeats 800000 in
theorem pointer_ok (w : World) {b : BlkV} (hb : b.length = 64) {i : Nat} (hi : i < 32) :
    Calls Tryz.prog 146 #[bval b, .int .i64 (i : Int)] w fun e w' => e = .returned (.int .u16 (ptrB b i : Int)) ∧ Below w.heap.size w w' := by
  have hz : (i : Int) < 32 := by omega
  have e1 : IntKind.i64.wrap (2 * (i : Int)) = 2 * (i : Int) := IntWalk.i64_in _ (by omega)
  have e2 : IntKind.i64.wrap (2 * (i : Int) + 1) = 2 * (i : Int) + 1 := IntWalk.i64_in _ (by omega)
  obtain ⟨r, hr⟩ : ∃ r, ptrB b i = r := ⟨_, rfl⟩
  rw [hr]
  go_enter Tryz.func146, Tryz.ntmps146
  go_upto_region 1 with (fail)
  refine at_world (fun W => ∃ p, p = w.heap.size ∧ Below w.heap.size w W ∧ Blk W p 106 (bvs b).toArray) ⟨_, rfl, (Below.refl _ _).alloc (Nat.le_refl _) _, Blk.new _ _ _⟩ (fun w1 hw1 => ?_)
  obtain ⟨p, hp, hb1, hP⟩ := hw1
  rw [← hp]
  have HB := hide hb1
  have pl := hP.lt
  have c1 : w1.cell? ⟨p, 2 * i, none⟩ = some (.int .u8 ((b.getD (2 * i) 0).toNat : Int)) := (hP.cell (2 * i)).trans (by
    rw [List.getElem?_toArray, bvs_get, List.getElem?_eq_getElem (by omega), List.getD_eq_getElem?_getD, List.getElem?_eq_getElem (by omega)]; rfl)
  have c2 : w1.cell? ⟨p, 2 * i + 1, none⟩ = some (.int .u8 ((b.getD (2 * i + 1) 0).toNat : Int)) := (hP.cell (2 * i + 1)).trans (by
    rw [List.getElem?_toArray, bvs_get, List.getElem?_eq_getElem (by omega), List.getD_eq_getElem?_getD, List.getElem?_eq_getElem (by omega)]; rfl)
  have k1 := (b.getD (2 * i) 0).toNat_lt
  have k2 := (b.getD (2 * i + 1) 0).toNat_lt
  unfold ptrB at hr
  generalize (b.getD (2 * i) 0).toNat = x at c1 k1 hr
  generalize (b.getD (2 * i + 1) 0).toNat = y at c2 k2 hr
  have o1 := or_two k1 k2
  have e3 : IntKind.u16.wrap (x : Int) = (x : Int) := by rw [IntKind.wrap_u16]; omega
  have e4 : IntKind.u16.wrap (y : Int) = (y : Int) := by rw [IntKind.wrap_u16]; omega
  have e5 : IntKind.u16.wrap ((y : Int) * 256) = ((256 * y : Nat) : Int) := by rw [IntKind.wrap_u16]; omega
  rw [hr, show ((256 * y : Nat) : Int) = 256 * (y : Int) from by omega] at o1
  clear hp hP hb1 hr k1 k2
  go_quiet (fail)
  go_wp2
  go_returns
  exact ⟨rfl, below_drewN HB.out _⟩
set_option maxRecDepth 100000 in
set_option maxHeartbeats 800000 in
theorem point_ok (w : World) {b : BlkV} (hb : b.length = 64) {i n : Nat} (hi : i < 32) (hn : n < 65536) :
    Calls Tryz.prog 147 #[bval b, .int .i64 (i : Int), .int .u16 (n : Int)] w fun e w' => e = .returned (bval (pointB b i n)) ∧ Below w.heap.size w w' := by
  have hz : (i : Int) < 32 := by omega
  have h64 : 2 * (i : Int) < 64 := by omega
  have h65 : 2 * (i : Int) + 1 < 64 := by omega
  have h66 : (0 : Int) ≤ 2 * (i : Int) + 1 := by omega
  have h67 : (0 : Int) ≤ 2 * (i : Int) := by omega
  have e1 : IntKind.i64.wrap (2 * (i : Int)) = 2 * (i : Int) := IntWalk.i64_in _ (by omega)
  have e2 : IntKind.i64.wrap (2 * (i : Int) + 1) = 2 * (i : Int) + 1 := IntWalk.i64_in _ (by omega)
  obtain ⟨r, hr⟩ : ∃ r, pointB b i n = r := ⟨_, rfl⟩
  rw [hr]
  have HR := hide hr
  have HB0 := hide hb
  have HRL := hide (show r.length = 64 from by rw [← hr, pointB_length]; exact hb)
  clear hr
  go_enter Tryz.func147, Tryz.ntmps147
  go_upto_region 1 with (first | ((with_reducible refine at_alloc 106 ?_); refine wpList_alloc_as rfl 106 rfl _ (zero_block _) ?_) | fail)
  refine at_world (fun W => ∃ p q, p = w.heap.size ∧ q = w.heap.size + 1 ∧ Below w.heap.size w W ∧ Blk W p 106 (bvs b).toArray ∧ Blk W q 106 (bvs zeroB).toArray) ⟨_, _, rfl, rfl, ((Below.refl _ _).alloc (Nat.le_refl _) _).alloc (by simp) _, (Blk.new _ _ _).alloc _, by have := Blk.new (w.alloc (.cells (bvs b).toArray 106)) 106 (bvs zeroB).toArray; rwa [World.size_alloc] at this⟩ (fun w1 hw1 => ?_)
  obtain ⟨p, q, hp, hq, hb1, hP, hQ⟩ := hw1
  simp only [World.size_alloc, Act.put, List.setIfInBounds_toArray, List.set_cons_zero, List.set_cons_succ]
  rw [show w.heap.size + 1 = q from hq.symm, ← hp]
  have HB := hide (And.intro hb1 (show w.heap.size ≤ p ∧ w.heap.size ≤ q from by omega))
  have hpq : p ≠ q := by omega
  have HPQ := hide hpq
  have HQ := hide hQ
  have hB1 := hP.set_ (2 * i) (bv (UInt8.ofNat (n % 256)))
  rw [bvs_set] at hB1
  have hB2 := hB1.set_ (2 * i + 1) (bv (UInt8.ofNat (n / 256)))
  rw [bvs_set] at hB2
  have h1 : (bv (UInt8.ofNat (n % 256))) = .int .u8 ((n % 256 : Nat) : Int) := bv_ofNat (by omega)
  have h2 : (bv (UInt8.ofNat (n / 256))) = .int .u8 ((n / 256 : Nat) : Int) := bv_ofNat (by omega)
  have hr : ((b.set (2 * i) (UInt8.ofNat (n % 256))).set (2 * i + 1) (UInt8.ofNat (n / 256))) = r := HR.out
  rw [hr, h1, h2] at hB2
  rw [h1] at hB1
  have hs1 : (bvs (b.set (2 * i) (UInt8.ofNat (n % 256)))).toArray.size = 64 := bvs_size (by rw [List.length_set]; exact HB0.out)
  have e3 : IntKind.u8.wrap (n : Int) = ((n % 256 : Nat) : Int) := by rw [IntKind.wrap_u8]; omega
  have e4 : IntKind.u8.wrap ((n : Int) / 256) = ((n / 256 : Nat) : Int) := by rw [IntKind.wrap_u8]; omega
  generalize b.set (2 * i) (UInt8.ofNat (n % 256)) = bb at *
  have HP := hide hP
  have HB1 := hide hB1
  have HB2 := hide hB2
  have HS1 := hide hs1
  generalize n % 256 = na at *
  generalize n / 256 = nb at *
  clear hp hq hb1 hP hQ hpq hB1 hB2 hr h1 h2 hs1 hn
  go_wp2_with (first | ((with_reducible refine at_store 5 (.tmp 17) (.tmp 13) ?_); refine wpList_store_cell rfl 5 (.tmp 17) (.tmp 13) rfl p (2 * i) _ _ _ (by rfl) (by rfl) HP.out (by rw [bvs_size HB0.out]; omega) rfl (by kernel_rfl) ?_) | ((with_reducible refine at_store 5 (.tmp 18) (.tmp 16) ?_); refine wpList_store_cell rfl 5 (.tmp 18) (.tmp 16) rfl p (2 * i + 1) _ _ _ (by rfl) (by rfl) HB1.out (by rw [HS1.out]; omega) rfl (by kernel_rfl) ?_) | ((with_reducible refine at_load 106 (.tmp 3) ?_); refine wpList_load_blk rfl 106 (.tmp 3) rfl p 106 _ _ (by rfl) HB2.out Tryz.underlying106 rfl (size_blockOf HRL.out) ?_) | ((with_reducible refine at_store 106 (.tmp 6) (.tmp 19) ?_); refine wpList_store_blk rfl 106 (.tmp 6) (.tmp 19) rfl q 106 _ _ (by rfl) (by rfl) ((HQ.out.far (p := ⟨p, _, none⟩) (Ne.symm HPQ.out) _).far (p := ⟨p, _, none⟩) (Ne.symm HPQ.out) _) (size_blockOf HRL.out) ((bvs_size zeroB_length).trans (bvs_size HRL.out).symm) (bvs_oneCell _) (fun hB5 => ?_)) | ((with_reducible refine at_end ?_); refine bodyPost_ret (v := .agg (bvs r).toArray) (results_run1 rfl (ResV.row rfl hB5 Tryz.underlying106 rfl (size_blockOf HRL.out))) rfl ⟨rfl, ?_⟩) | fail)
  exact below_setRow (Below.setCell (p := ⟨p, 2 * i + 1, none⟩) (Below.setCell (p := ⟨p, 2 * i, none⟩) HB.out.1 HB.out.2.1 _) HB.out.2.1 _) HB.out.2.2 _
set_option maxRecDepth 100000 in
set_option maxHeartbeats 800000 in
theorem root_ok (w : World) {nb : Nat} {v : WayV} (hv : v.Ok) :
    Calls Tryz.prog 144 #[.pointer (some ⟨nb, 0, none⟩), .agg v.cells] w fun e w' => e = .returned (.pointer (some ⟨nb, v.root, none⟩)) ∧ Below w.heap.size w w' := by
  obtain ⟨st, a0, a1⟩ := v
  obtain ⟨r, hr⟩ : ∃ r, WayV.root ⟨st, a0, a1⟩ = r := ⟨_, rfl⟩
  rw [hr]
  unfold WayV.Ok at hv
  simp only at hv
  unfold WayV.root at hr
  simp only at hr
  go_enter Tryz.func144, Tryz.ntmps144
  go_upto_region 1 with (fail)
  refine at_world (fun W => ∃ p, p = w.heap.size ∧ Below w.heap.size w W ∧ Blk W p 268 (WayV.cells ⟨st, a0, a1⟩)) ⟨_, rfl, (Below.refl _ _).alloc (Nat.le_refl _) _, Blk.new _ _ _⟩ (fun w1 hw1 => ?_)
  obtain ⟨p, hp, hb1, hP⟩ := hw1
  rw [← hp]
  have HB := hide hb1
  have c0 : w1.cell? ⟨p, 0, none⟩ = some (.int .i64 (st : Int)) := hP.cell 0
  have c1 : w1.cell? ⟨p, 1, none⟩ = some (.int .i64 (a0 : Int)) := hP.cell 1
  have pl := hP.lt
  clear hp hb1 hP
  rcases hv with ⟨rfl, h0⟩ | ⟨rfl, h0⟩ | ⟨rfl, h0, h1⟩
  · have e : r = 4 + a0 := hr.symm
    have hz : (a0 : Int) < 6 := by omega
    clear hr
    subst e
    go_upto_region 3 with (fail)
    go_quiet (fail)
    go_wp2
    go_returns
    exact ⟨rfl, below_drewN HB.out _⟩
  · have e : r = 10 := hr.symm
    clear hr
    subst e
    go_wp2
    go_returns
    exact ⟨rfl, HB.out⟩
  · have e : r = 11 := hr.symm
    clear hr
    subst e
    go_wp2
    go_returns
    exact ⟨rfl, HB.out⟩
end
end Go.Proofs.YthmkgohfeahdhaaGreat
namespace Go.Proofs.YthmkgohfeahdhaaGreat
open Go.RowKit
set_option linter.unusedSimpArgs false
set_option linter.unusedVariables false

/-- the pointers on the way, behind the root -/
def WayV.idx (v : WayV) : List Nat := if v.steps = 0 then [] else if v.steps = 1 then [v.a0] else [v.a0, v.a1]
theorem WayV.idx_length {v : WayV} (h : v.Ok) : v.idx.length = v.steps := by
  obtain ⟨s, a, b⟩ := v
  rcases h with ⟨rfl, _⟩ | ⟨rfl, _⟩ | ⟨rfl, _, _⟩ <;> rfl
theorem WayV.idx_lt {v : WayV} (h : v.Ok) {k j : Nat} (hk : v.idx[k]? = some j) : j < 32 ∧ v.cells[1 + k]? = some (.int .i64 (j : Int)) ∧ k < 3 := by
  obtain ⟨s, a, b⟩ := v
  rcases h with ⟨rfl, _⟩ | ⟨rfl, h1⟩ | ⟨rfl, h1, h2⟩
  · simp [WayV.idx] at hk
  · rcases k with _ | k
    · simp [WayV.idx] at hk; subst hk; exact ⟨h1, rfl, by omega⟩
    · simp [WayV.idx] at hk
  · rcases k with _ | _ | k
    · simp [WayV.idx] at hk; subst hk; exact ⟨h1, rfl, by omega⟩
    · simp [WayV.idx] at hk; subst hk; exact ⟨h2, rfl, by omega⟩
    · simp [WayV.idx] at hk
/-- the pointer with which a way begins -/
def NodeV.rootV (n : NodeV) (v : WayV) : UInt16 := if v.steps = 0 then n.dir.getD v.a0 0 else if v.steps = 1 then n.single else n.double
theorem NodeV.rootV_at {n : NodeV} (hn : n.dir.length = 6) {v : WayV} (h : v.Ok) : n.cells[v.root]? = some (.int .u16 ((n.rootV v).toNat : Int)) ∧ v.root < 12 := by
  obtain ⟨k, l, g, s, dir, x, y⟩ := n
  simp only at hn
  obtain ⟨d0, d1, d2, d3, d4, d5, rfl⟩ : ∃ d0 d1 d2 d3 d4 d5, dir = [d0, d1, d2, d3, d4, d5] := by
    match dir, hn with
    | [d0, d1, d2, d3, d4, d5], _ => exact ⟨d0, d1, d2, d3, d4, d5, rfl⟩
  obtain ⟨s, a, b⟩ := v
  rcases h with ⟨rfl, h0⟩ | ⟨rfl, _⟩ | ⟨rfl, _, _⟩
  · simp only at h0
    obtain rfl | rfl | rfl | rfl | rfl | rfl : a = 0 ∨ a = 1 ∨ a = 2 ∨ a = 3 ∨ a = 4 ∨ a = 5 := by omega
    all_goals exact ⟨rfl, by unfold WayV.root; simp⟩
  · exact ⟨rfl, by unfold WayV.root; simp⟩
  · exact ⟨rfl, by unfold WayV.root; simp⟩
/-- the steps of a way -/
def blkGo (G : GS) : List Nat → Nat → Nat
  | [], p => p
  | j :: r, p => if p = 0 then 0 else blkGo G r (ptrB (G.by_ (p - 1)) j)
def blkOk (G : GS) (m : Nat) : List Nat → Nat → Prop
  | [], _ => True
  | j :: r, p => p ≠ 0 → p ≤ m ∧ blkOk G m r (ptrB (G.by_ (p - 1)) j)
section
variable {w w' : World} {i : Ids} {s : Sto} {gg : Nat} {g : GeoN} {lab : Int} {G G' : GS} {L : List Nat}
theorem GAt.stay (h : GAt w i s gg g lab G) (hx : TxAt w' i s) (ht : Tch w.heap.size i.own w w') : GAt w' i s gg g lab G := ⟨hx, h.gp.tch h.tx ht, h.ok, h.is, h.gok⟩
theorem gs_get' {k : Nat} (h : GAt w i s gg g lab G) (hk : k < g.blocks) :
    Calls Tryz.prog 93 #[.pointer (some ⟨gg, 0, none⟩), .int .u16 ((k + 1 : Nat) : Int)] w fun e w' => e = .returned (.tuple #[bval (G.by_ k), .int .i64 0]) ∧ GAt w' i s gg g lab G ∧ Tch w.heap.size i.own w w' := by
  have := gget_ok h.tx h.gp h.ok hk
  rw [h.is.byt k hk] at this
  exact this.mono fun e w' ⟨he, hx, ht⟩ => ⟨he, h.stay hx ht, ht⟩
theorem gs_node' {num : Nat} (h : GAt w i s gg g lab G) (h1 : 1 ≤ num) (h2 : num ≤ g.nodes) :
    Calls Tryz.prog 56 #[.pointer (some ⟨gg, 0, none⟩), .int .i64 (num : Int)] w fun e w' => e = .returned (.tuple #[(G.nd num).val, .int .i64 0]) ∧ GAt w' i s gg g lab G ∧ Tch w.heap.size i.own w w' := by
  have := gnode_ok h.tx h.gp h.ok h1 h2
  rw [h.is.nodeV h.gok h1 h2, h.is.nodeE h.gok h1 h2] at this
  exact this.mono fun e w' ⟨he, hx, ht⟩ => ⟨he, h.stay hx ht, ht⟩
set_option maxRecDepth 100000 in
set_option maxHeartbeats 1600000 in
theorem block_ok {n : NodeV} {b : Nat} (h : GAt w i s gg g lab G) (hb : b < 256) (hn : n.dir.length = 6) (hp : blkOk G g.blocks (wayOf b).idx (n.rootV (wayOf b)).toNat) :
    Calls Tryz.prog 99 #[.pointer (some ⟨gg, 0, none⟩), n.val, .int .i64 (b : Int)] w fun e w' => e = .returned (.tuple #[.int .u16 (blkGo G (wayOf b).idx (n.rootV (wayOf b)).toNat : Int), .int .i64 0]) ∧ GAt w' i s gg g lab G ∧ Tch w.heap.size i.own w w' := by
  have hwo := wayOf_ok hb
  have hpl := fun W => place_ok' W hb
  obtain ⟨v, hv⟩ : ∃ v, wayOf b = v := ⟨_, rfl⟩
  rw [hv] at hp hwo hpl ⊢
  obtain ⟨hrc, hr12⟩ := NodeV.rootV_at hn hwo
  have hp0 : (n.rootV v).toNat < 65536 := (n.rootV v).toNat_lt
  generalize (n.rootV v).toNat = p0 at *
  obtain ⟨R, hR⟩ : ∃ R, blkGo G v.idx p0 = R := ⟨_, rfl⟩
  rw [hR]
  have H := hide h
  have HP := hide hp
  have HPL := hide hpl
  have HR := hide (And.intro hR hp0)
  have HN := hide hn
  have HWO := hide hwo
  have HRC := hide hrc
  clear h hp hpl hR hp0 hn hwo hrc hv hb hr12
  go_enter Tryz.func99, Tryz.ntmps99
  go_upto_region 1 with (fail)
  refine at_world (fun W => ∃ nb, nb = w.heap.size ∧ Below w.heap.size w W ∧ Blk W nb 130 n.cells.toArray) ⟨_, rfl, (Below.refl _ _).alloc (Nat.le_refl _) _, Blk.new _ _ _⟩ (fun w1 hw1 => ?_)
  obtain ⟨nb, hnb, hb1, hN1⟩ := hw1
  rw [← hnb]
  have HN1 := hide hN1
  have HB1 := hide hb1
  clear hnb hN1 hb1
  go_wp2_with fail
  refine (HPL.out w1).mono ?_
  rintro e w2 ⟨rfl, hb2⟩
  have HN2 := hide (HN1.out.below hb2 HN1.out.lt)
  have HB2 := hide (HB1.out.trans (hb2.mono HB1.out.size))
  clear hb2 HN1 HB1 HPL
  go_upto_region 2 with (first | ((with_reducible refine at_alloc 268 ?_); refine wpList_alloc_as rfl 268 rfl _ (zero_way _) ?_) | ((with_reducible refine at_store 268 (.tmp 8) (.tmp 17) ?_); refine wpList_store_blk rfl 268 (.tmp 8) (.tmp 17) rfl w2.heap.size _ _ _ (by rfl) (by rfl) (Blk.new _ _ _) (size_way v) rfl (way_one v) (fun _ => ?_)) | fail)
  refine at_world (fun W => ∃ q, q = w2.heap.size ∧ Below w2.heap.size w2 W ∧ Blk W q 268 v.cells) ⟨_, rfl, below_setRow ((Below.refl _ _).alloc (Nat.le_refl _) _) (Nat.le_refl _) _, (Blk.new _ _ _).setRow_same _⟩ (fun w3 hw3 => ?_)
  obtain ⟨q, hq, hb3, hQ3⟩ := hw3
  rw [← hq]
  have HN3 := hide (HN2.out.below hb3 HN2.out.lt)
  have HB3 := hide (HB2.out.trans (hb3.mono HB2.out.size))
  have HQ3 := hide hQ3
  clear hq hb3 hQ3 HN2 HB2
  go_wp2_with (first | ((with_reducible refine at_load 268 (.tmp 8) ?_); refine wpList_load_blk rfl 268 (.tmp 8) rfl q _ _ _ (by rfl) HQ3.out Tryz.underlying268 rfl (size_way v) ?_) | fail)
  refine (root_ok w3 (nb := nb) HWO.out).mono ?_
  rintro e w4 ⟨rfl, hb4⟩
  have HQ4 := hide (HQ3.out.below hb4 HQ3.out.lt)
  have HB4 := hide (HB3.out.trans (hb4.mono HB3.out.size))
  have hN4 := HN3.out.below hb4 HN3.out.lt
  have cr : w4.cell? ⟨nb, v.root, none⟩ = some (.int .u16 (p0 : Int)) := (hN4.cell v.root).trans (by rw [List.getElem?_toArray]; exact HRC.out)
  have nl := hN4.lt
  have c0 : w4.cell? ⟨q, 0, none⟩ = some (.int .i64 (v.steps : Int)) := HQ4.out.cell 0
  have ql := HQ4.out.lt
  have HA4 := hide (H.out.below HB4.out)
  have HQO := hide (show ¬ i.own q from HA4.out.tx.other HQ4.out (by decide) (by decide) (by decide))
  have HT4 := hide (Tch.of_below (S := i.own) HB4.out)
  have HLN := hide (WayV.idx_length HWO.out)
  have hst : (v.steps : Int) ≤ 3 := by rcases HWO.out with h | h | h <;> omega
  clear hb4 hN4 HN3 HB3 HQ3
  go_wp2_with fail
  clear cr nl c0 ql
  go_loopg [10, 27] v.steps (fun gh x10 x27 wr => ∃ k p : Nat, k ≤ v.steps ∧ gh = v.steps - k ∧ x10 = .int .u16 (p : Int) ∧ x27 = .int .i64 (k : Int) ∧ Hid (GAt wr i s gg g lab G) ∧ Hid (Tch w.heap.size i.own w wr) ∧ Hid (blkGo G (v.idx.drop k) p = R ∧ p < 65536) ∧ Hid (blkOk G g.blocks (v.idx.drop k) p) ∧ Hid (Blk wr q 268 v.cells))
  case atStart => exact ⟨0, p0, Nat.zero_le _, rfl, rfl, rfl, HA4, HT4, HR, HP, HQ4⟩
  case round =>
    obtain ⟨k, p, hk, hgh, rfl, rfl, HA, HT, HG, HO, HQ⟩ := hrel
    have HGH := hide hgh
    clear hgh
    rcases Nat.lt_or_ge k v.steps with hkl | hkl
    · have hkz : decide ((k : Int) < (v.steps : Int)) = true := by simp; omega
      have hkl2 : k < v.idx.length := by rw [HLN.out]; exact hkl
      obtain ⟨hj32, hcj, hk3⟩ := WayV.idx_lt HWO.out (List.getElem?_eq_getElem hkl2)
      have hdrop := List.drop_eq_getElem_cons hkl2
      have hg := HG.out
      have ho := HO.out
      rw [hdrop] at hg ho
      generalize v.idx[k] = j at *
      rw [blkGo] at hg
      rw [blkOk] at ho
      have cj : wr.cell? ⟨q, 1 + k, none⟩ = some (.int .i64 (j : Int)) := (HQ.out.cell (1 + k)).trans hcj
      have hk3z : (k : Int) < 3 := by omega
      by_cases hp0 : p = 0
      · have t1 : ((p : Int) == 0) = true := by simp [hp0]
        rw [if_pos hp0] at hg
        have HE := hide hg.1
        clear hcj hdrop hg ho hp0 cj
        go_wp2
        go_returns
        exact ⟨by rw [← HE.out]; rfl, HA.out, HT.out⟩
      · have t1 : ((p : Int) == 0) = false := by simp [hp0]
        rw [if_neg hp0] at hg
        obtain ⟨hpm, ho2⟩ := ho hp0
        have hget := gs_get' (k := p - 1) HA.out (by omega)
        rw [show ((p - 1 + 1 : Nat) : Int) = (p : Int) from by omega] at hget
        have hbl := HA.out.gok.len (p - 1)
        generalize G.by_ (p - 1) = bk at *
        have hpt := fun W => pointer_ok W hbl hj32
        have hlt := ptrB_lt bk j
        generalize ptrB bk j = p2 at *
        have HGT := hide hget
        have HPT := hide hpt
        have HBL := hide hbl
        have HE := hide (And.intro hg.1 hlt)
        have HO2 := hide ho2
        have HCJ := hide hcj
        clear hcj hdrop hg ho hp0 cj hpm ho2 hget hbl hpt hlt HG HO hj32
        go_wp2_with fail
        refine HGT.out.mono ?_
        rintro e w5 ⟨rfl, ha5, ht5⟩
        have HA5 := hide ha5
        have HT5 := hide (HT.out.trans (ht5.mono HT.out.size fun _ _ h => h))
        have HQ5 := hide (HQ.out.tch ht5 HQ.out.lt HQO.out)
        clear ha5 ht5 HGT HA HT HQ
        go_upto_region 11 with (first | ((with_reducible refine at_alloc 106 ?_); refine wpList_alloc_as rfl 106 rfl _ (zero_block _) ?_) | ((with_reducible refine at_store 106 (.tmp 12) (.tmp 36) ?_); refine wpList_store_blk rfl 106 (.tmp 12) (.tmp 36) rfl w5.heap.size 106 _ _ (by rfl) (by rfl) (Blk.new _ _ _) (size_blockOf HBL.out) ((bvs_size zeroB_length).trans (bvs_size HBL.out).symm) (bvs_oneCell _) (fun _ => ?_)) | fail)
        refine at_world (fun W => ∃ z, z = w5.heap.size ∧ Below w5.heap.size w5 W ∧ Blk W z 106 (bvs bk).toArray) ⟨_, rfl, below_setRow ((Below.refl _ _).alloc (Nat.le_refl _) _) (Nat.le_refl _) _, (Blk.new _ _ _).setRow_same _⟩ (fun w6 hw6 => ?_)
        obtain ⟨z, hz, hb6, hZ6⟩ := hw6
        rw [← hz]
        have HA6 := hide (HA5.out.below hb6)
        have HT6 := hide (HT5.out.trans ((Tch.of_below hb6).mono HT5.out.size fun _ _ h => h))
        have HQ6 := hide (HQ5.out.below hb6 HQ5.out.lt)
        have HZ6 := hide hZ6
        clear hz hb6 hZ6 HA5 HT5 HQ5
        have cj : w6.cell? ⟨q, 1 + k, none⟩ = some (.int .i64 (j : Int)) := (HQ6.out.cell (1 + k)).trans HCJ.out
        have ql := HQ6.out.lt
        go_upto_region 13 with (fail)
        refine wp_region_text [0, 0, 0, 0, 0, 2, 0] (· = w6.drew) (by kernel_rfl) (by kernel_rfl) rfl ?_
        refine wpOrd_q (v := .agg (bvs bk).toArray) (by rfl) (fun W hW => by cases hW; exact exec_load_blk 106 (.tmp 12) rfl z _ (bvs bk).toArray _ rfl HZ6.out.drew Tryz.underlying106 rfl (size_blockOf HBL.out)) ?_
        try simp only [Act.put, List.setIfInBounds_toArray, List.set_cons_zero, List.set_cons_succ]
        iterate 4 (refine wpOrd_q (v := ?_) (by rfl) (fun W hW => ?_) ?_; rotate_left; (focus ((cases hW; go_simp); try with_reducible rfl)); try simp only [Act.put, List.setIfInBounds_toArray, List.set_cons_zero, List.set_cons_succ])
        refine wpOrd_b (by rfl) (fun K hK => ?_)
        go_simp
        refine (HPT.out _).mono ?_
        rintro e w7 ⟨rfl, hb7⟩
        refine hK (fun _ => True) _ _ trivial ?_
        have hb67 : Below w6.heap.size w6 w7 := (Below.refl _ _).drew.trans hb7
        have HA7 := hide (HA6.out.below hb67)
        have HT7 := hide (HT6.out.trans ((Tch.of_below hb67).mono HT6.out.size fun _ _ h => h))
        have HQ7 := hide (HQ6.out.below hb67 HQ6.out.lt)
        clear hK K hb7 hb67 cj ql HA6 HT6 HQ6 HZ6
        try simp only [Act.put, List.setIfInBounds_toArray, List.set_cons_zero, List.set_cons_succ]
        iterate 1 (refine wpOrd_q (v := ?_) (by rfl) (fun W hW => ?_) ?_; rotate_left; (focus (go_simp; try with_reducible rfl)); try simp only [Act.put, List.setIfInBounds_toArray, List.set_cons_zero, List.set_cons_succ])
        refine wpOrd_nil ?_
        go_wp2
        go_roundg (v.steps - (k + 1))
        case rel => exact ⟨k + 1, p2, by omega, rfl, rfl, by first | rfl | go_num, HA7, HT7, HE, HO2, HQ7⟩
        case measure => have := HGH.out; omega
    · have hkz : decide ((k : Int) < (v.steps : Int)) = false := by simp; omega
      have hE : p = R := by
        have := HG.out.1
        rwa [List.drop_of_length_le (by rw [HLN.out]; exact hkl)] at this
      have HE := hide hE
      clear hE
      go_wp2
      go_returns
      exact ⟨by rw [← HE.out]; rfl, HA.out, HT.out⟩
end
end Go.Proofs.YthmkgohfeahdhaaGreat

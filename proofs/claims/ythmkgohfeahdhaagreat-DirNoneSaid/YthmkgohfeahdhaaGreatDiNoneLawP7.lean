/- Directories as they are meant: places, plain. A directory's entry turned: walked. A directory's entry added: walked. A directory's entry dropped: walked. A directory's calls: what comes of them. The fixed fact of the directories: walked. An act's name: walked. DirNone: the law, walked. -/
import Derived.Test.YthmkgohfeahdhaaGreatDiNoneLawP6
namespace Go.Proofs.YthmkgohfeahdhaaGreat
open Go.RowKit
set_option linter.unusedSimpArgs false
set_option linter.unusedVariables false

def EntV.zero : EntV := ⟨⟨#[]⟩, 0⟩
theorem EntV.zero_good : EntV.zero.Good := .inl ⟨rfl, rfl⟩
/-- a directory lies in a group: its places, where its blocks are -/
structure DirN (G : GS) (g : GeoN) (num : Nat) (l : List EntV) (κ : Nat → Nat) : Prop where
  kind : (G.nd num).kind = 2
  links : (G.nd num).links ≠ 0
  size : (G.nd num).size.toNat = 16 * l.length
  file : FileAt G g.blocks (G.nd num) (blks (16 * l.length)) κ (16 * l.length) (fun j => (pks l).getD j 0)
  len : l.length ≤ 1024
  good : ∀ e ∈ l, e.Good
theorem Tree.other {G G' : GS} {m : Nat} {n : NodeV} {pr : Nat → Bool} {κ : Nat → Nat} (h : Tree G m n pr κ) (hb : ∀ c, pr c = true → G'.by_ (κ c) = G.by_ (κ c)) (ht : ∀ c, pr c = true → G'.tk (κ c) = true) : Tree G' m n pr κ :=
  ⟨h.dir, h.rng, h.cls, h.top, fun c p j h1 h2 h3 => by rw [hb p h3]; exact h.sub c p j h1 h2 h3, fun c hc => ⟨(h.own c hc).1, ht c hc⟩, h.inj⟩
theorem FileAt.other {G G' : GS} {m c len : Nat} {n : NodeV} {κ : Nat → Nat} {f : Nat → UInt8} (h : FileAt G m n c κ len f) (hb : ∀ k, prOf c k = true → G'.by_ (κ k) = G.by_ (κ k)) (ht : ∀ k, prOf c k = true → G'.tk (κ k) = true) : FileAt G' m n c κ len f :=
  ⟨h.tree.other hb ht, h.cle, h.fit, fun j hj => by rw [hb _ (prOf_true.2 (by have := h.fit; omega))]; exact h.byte j hj⟩
/-- no block is in both -/
def Apart (p : Nat → Bool) (κ : Nat → Nat) (p' : Nat → Bool) (κ' : Nat → Nat) : Prop := ∀ c c', p c = true → p' c' = true → κ c ≠ κ' c'
theorem FileAt.left {G G' : GS} {m c len num : Nat} {n : NodeV} {κ κ1 κ2 : Nat → Nat} {p1 p2 : Nat → Bool} {f : Nat → UInt8} (h : FileAt G m n c κ len f) (hl : Left G G' num p1 p2 κ1 κ2) (ha : Apart p1 κ1 (prOf c) κ) : FileAt G' m n c κ len f :=
  h.other (fun k hk => hl.by_ _ (h.tree.own k hk).2 fun c' hc' => ha c' k hc' hk) (fun k hk => hl.tk _ (h.tree.own k hk).2)
theorem Apart.left {G G' : GS} {m num : Nat} {n : NodeV} {κ κ1 κ2 : Nat → Nat} {p p1 p2 : Nat → Bool} (ht : Tree G m n p κ) (hl : Left G G' num p1 p2 κ1 κ2) (ha : Apart p1 κ1 p κ) : Apart p2 κ2 p κ := fun c c' h1 h2 => by
  cases hc : p1 c with
  | true => rw [(hl.old c hc).1]; exact ha c c' hc h2
  | false =>
    intro he
    have := hl.fresh c h1 hc
    rw [he, (ht.own c' h2).2] at this
    cases this
theorem DirN.left {G G' : GS} {g : GeoN} {num num' : Nat} {l : List EntV} {κ κ1 κ2 : Nat → Nat} {p1 p2 : Nat → Bool} (h : DirN G g num l κ) (hl : Left G G' num' p1 p2 κ1 κ2) (hn : num ≠ num') (ha : Apart p1 κ1 (prOf (blks (16 * l.length))) κ) : DirN G' g num l κ := by
  have e := hl.nd num hn
  exact ⟨by rw [e]; exact h.kind, by rw [e]; exact h.links, by rw [e]; exact h.size, by rw [e]; exact h.file.left hl ha, h.len, h.good⟩

/-! ### places -/
def named (nm : ByteArray) (e : EntV) : Bool := decide (e.num ≠ 0 ∧ e.name = nm)
def addAt (l : List EntV) : Nat := l.findIdx fun e => decide (e.num = 0)
def addL (l : List EntV) (x : EntV) : List EntV := if addAt l < l.length then l.set (addAt l) x else l ++ [x]
/-- how many places are left when the empty ones at the end are not counted -/
def trimN (l : List EntV) : Nat → Nat
  | 0 => 0
  | k + 1 => match l[k]? with
    | some e => if e.num = 0 then trimN l k else k + 1
    | none => k + 1
def dropEnd (l : List EntV) (K : Nat) : Nat := trimN (l.set K EntV.zero) l.length
def dropL (l : List EntV) (K : Nat) : List EntV := if dropEnd l K ≤ K then l.take (dropEnd l K) else l.set K EntV.zero
theorem addAt_le (l : List EntV) : addAt l ≤ l.length := List.findIdx_le_length
theorem addAt_eq {l : List EntV} {j : Nat} (h0 : ∀ i, i < j → ∀ e, l[i]? = some e → e.num ≠ 0) (h1 : j = l.length ∨ ∃ e, l[j]? = some e ∧ e.num = 0) : addAt l = j := by
  unfold addAt
  rcases h1 with rfl | ⟨e, he, hz⟩
  · rw [List.findIdx_eq_length]
    intro x hx
    obtain ⟨k, hk, rfl⟩ := List.mem_iff_getElem.1 hx
    have := h0 k hk _ (List.getElem?_eq_getElem hk)
    simpa using this
  · obtain ⟨hj, rfl⟩ := List.getElem?_eq_some_iff.1 he
    rw [List.findIdx_eq hj]
    refine ⟨by simpa using hz, fun i hi => ?_⟩
    have := h0 i hi _ (List.getElem?_eq_getElem (by omega))
    simpa using this
theorem addL_length (l : List EntV) (x : EntV) : (addL l x).length = max l.length (addAt l + 1) := by
  have := addAt_le l
  unfold addL
  split
  · rw [List.length_set]; omega
  · rw [List.length_append, List.length_singleton]; omega
theorem good_set {l : List EntV} {x : EntV} {k : Nat} (h : ∀ e ∈ l, e.Good) (hx : x.Good) : ∀ e ∈ l.set k x, e.Good := fun e he => by
  rcases List.mem_or_eq_of_mem_set he with h1 | rfl
  · exact h e h1
  · exact hx
theorem good_addL {l : List EntV} {x : EntV} (h : ∀ e ∈ l, e.Good) (hx : x.Good) : ∀ e ∈ addL l x, e.Good := fun e he => by
  unfold addL at he
  split at he
  · exact good_set h hx e he
  · rcases List.mem_append.1 he with h1 | h1
    · exact h e h1
    · rw [List.mem_singleton.1 h1]; exact hx
theorem pks_append (a b : List EntV) : pks (a ++ b) = pks a ++ pks b := by simp [pks]
theorem pks_getD {l : List EntV} {k : Nat} {e : EntV} (h : l[k]? = some e) {j : Nat} (hj : j < 16) : (pks l).getD (16 * k + j) 0 = (packB e).getD j 0 := by
  have := pks_piece h
  rw [List.getD_eq_getElem?_getD, List.getD_eq_getElem?_getD, ← this, List.getElem?_take_of_lt hj, List.getElem?_drop]
theorem pks_set {l : List EntV} {k j : Nat} {x : EntV} (hk : k < l.length) (hj : j < 16 * l.length) : over (fun j => (pks l).getD j 0) (16 * k) (packB x) 16 j = (pks (l.set k x)).getD j 0 := by
  obtain ⟨q, r, hr, rfl⟩ : ∃ q r, r < 16 ∧ j = 16 * q + r := ⟨j / 16, j % 16, Nat.mod_lt _ (by omega), by omega⟩
  have hq : q < l.length := by omega
  unfold over
  by_cases h : q = k
  · subst h
    rw [if_pos ⟨by omega, by omega⟩, pks_getD (l := l.set q x) (e := x) (by rw [List.getElem?_set_self hq]) hr, Nat.add_sub_cancel_left]
  · rw [if_neg (by omega), pks_getD (l := l.set k x) (e := l[q]) (by rw [List.getElem?_set_ne (fun e => h e.symm), List.getElem?_eq_getElem hq]) hr]
    exact pks_getD (List.getElem?_eq_getElem hq) hr
theorem pks_addL {l : List EntV} {j : Nat} {x : EntV} (hj : j < 16 * (addL l x).length) : over (fun j => (pks l).getD j 0) (16 * addAt l) (packB x) 16 j = (pks (addL l x)).getD j 0 := by
  have hle := addAt_le l
  have hlen := addL_length l x
  by_cases h : addAt l < l.length
  · have e : addL l x = l.set (addAt l) x := by unfold addL; rw [if_pos h]
    rw [e] at hj ⊢
    rw [List.length_set] at hj
    exact pks_set h hj
  · have e : addL l x = l ++ [x] := by unfold addL; rw [if_neg h]
    have e1 : addAt l = l.length := by omega
    rw [e, List.length_append, List.length_singleton] at hj
    have e2 : pks [x] = packB x := by simp [pks]
    rw [e, pks_append, e1, e2, ← over_end (l := pks l) (d := packB x) (by rw [pks_length, packB_length]; omega), pks_length, packB_length]
theorem pks_take {l : List EntV} {k j : Nat} (hj : j < 16 * k) (hk : k ≤ l.length) : (pks l).getD j 0 = (pks (l.take k)).getD j 0 := by
  obtain ⟨q, r, hr, rfl⟩ : ∃ q r, r < 16 ∧ j = 16 * q + r := ⟨j / 16, j % 16, Nat.mod_lt _ (by omega), by omega⟩
  have hq : q < l.length := by omega
  rw [pks_getD (List.getElem?_eq_getElem hq) hr, pks_getD (l := l.take k) (e := l[q]) (by rw [List.getElem?_take_of_lt (by omega), List.getElem?_eq_getElem hq]) hr]
theorem check_dir {n n' : NodeV} {x : Nat} (h : n.same n') (hk : n.kind = 2) (hl : n.links ≠ 0) (hs : max n.size.toNat x ≤ 16384) (h16 : max n.size.toNat x % 16 = 0) : checkN (n'.grow x) = true := by
  have h1 : (n'.grow x).kind = 2 := h.1.trans hk
  have h2 : (n'.grow x).links = n.links := h.2.1
  have h3 : (n'.grow x).size.toNat = max n.size.toNat x := by rw [grow_size (by rw [h.2.2.2]; omega), h.2.2.2]
  unfold checkN
  rw [h1, h2, h3]
  simp [hl, h16]
  omega
theorem check_dsize {n n' : NodeV} {x : Nat} (h : n.same n') (hk : n.kind = 2) (hl : n.links ≠ 0) (hs : x ≤ 16384) (h16 : x % 16 = 0) : checkN (n'.sized x) = true := by
  have h1 : (n'.sized x).kind = 2 := h.1.trans hk
  have h2 : (n'.sized x).links = n.links := h.2.1
  have h3 : (n'.sized x).size.toNat = x := by
    unfold NodeV.sized
    simp only
    rw [UInt32.toNat_ofNat', Nat.mod_eq_of_lt (by omega)]
  unfold checkN
  rw [h1, h2, h3]
  simp [hl, h16]
  omega
theorem named_false {nm : ByteArray} {e : EntV} (h : named nm e = false) : e.num = 0 ∨ e.name ≠ nm := by
  unfold named at h
  rw [decide_eq_false_iff_not] at h
  by_cases h0 : e.num = 0
  · exact .inl h0
  · exact .inr fun h1 => h ⟨h0, h1⟩
theorem named_true {nm : ByteArray} {e : EntV} (h : named nm e = true) : e.num ≠ 0 ∧ e.name = nm := of_decide_eq_true h
end Go.Proofs.YthmkgohfeahdhaaGreat
namespace Go.Proofs.YthmkgohfeahdhaaGreat
open Go.RowKit
set_option linter.unusedSimpArgs false
set_option linter.unusedVariables false

section
variable {P : Program} {w : World}
theorem run_slice_all (t e : TypeId) (g n : Nat) (hu : P.underlying t = some (.array n e)) (hs : (P.info? e).map (·.size) = some 1) (hn : 0 < n) :
    (Instr.sliceAt t (.pointer (some ⟨g, 0, none⟩)) none none none).run P w = .ok (.slice (some ⟨g, 0, none⟩) n n) w := by
  cases hq : P.info? e with
  | none => simp [hq] at hs
  | some i =>
    have hi : i.size = 1 := by simpa [hq] using hs
    have h2 : ¬ n = 0 := by omega
    simp [Instr.sliceAt, Instr.sureAddr, run_underlying hu, Instr.sliceBounds, sizeOf, typeInfo, hq, hi, Addr.add_mid, h2, Result.andThen]
end
theorem pack_size (e : EntV) : (Tryz.prog.info? 235).map (·.size) = some (bvs (packB e)).toArray.size := by
  have : (Tryz.prog.info? 235).map (·.size) = some 16 := by kernel_rfl
  rw [this, List.size_toArray, bvs_length, packB_length]
theorem name_eq_true {a b : ByteArray} (h : a = b) : (a.toList == b.toList) = true := by rw [h]; simp
theorem name_eq_false {e : EntV} {nm : ByteArray} (h : e.name ≠ nm) : (e.name.toList == nm.toList) = false := by
  rw [beq_eq_false_iff_ne, Lib.toList_data, Lib.toList_data]
  intro h0
  apply h
  rw [← str_name e, h0]
  obtain ⟨⟨d⟩⟩ := nm
  simp [str]
/-- what dir.open says -/
def OpensTo (i : Ids) (s : Sto) (gg : Nat) (g : GeoN) (lab : Int) (G : GS) (num : Nat) (l : List EntV) : Prop :=
  ∀ W, GAt W i s gg g lab G → Calls Tryz.prog 119 #[.pointer (some ⟨gg, 0, none⟩), .int .i64 (num : Int)] W fun e w' => ∃ A c, e = .returned (.tuple #[.slice A l.length c, .int .i64 0]) ∧ w'.ownsRow W.heap.size 125 2 (.slice A l.length c) l.length (flat2 l) ∧ GAt w' i s gg g lab G ∧ Tch W.heap.size i.own W w'
section
variable {w w' : World} {i : Ids} {s : Sto} {gg : Nat} {g : GeoN} {lab : Int} {G : GS}
theorem dopens {num : Nat} {l : List EntV} {κ : Nat → Nat} (hd : DirN G g num l κ) (h1 : 1 ≤ num) (h2 : num ≤ g.nodes) : OpensTo i s gg g lab G num l := fun W h =>
  dopen_ok h h1 h2 hd.kind (pks_length l) hd.size hd.file (by have := hd.len; omega) hd.good
theorem dlists {num : Nat} {l : List EntV} {κ : Nat → Nat} (hd : DirN G g num l κ) (h1 : 1 ≤ num) (h2 : num ≤ g.nodes) : ListsTo i s gg g lab G num (live l) := fun W h =>
  dlist_ok h hd.len (dopens hd h1 h2)
end
end Go.Proofs.YthmkgohfeahdhaaGreat
namespace Go.Proofs.YthmkgohfeahdhaaGreat
open Go.RowKit
set_option linter.unusedSimpArgs false
set_option linter.unusedVariables false

section
variable {w w' : World} {i : Ids} {s : Sto} {gg : Nat} {g : GeoN} {lab : Int} {G : GS}
/-- where the first empty place of so many is -/
def FreeTo (l : List EntV) (k : Nat) (a : Int) : Prop := (a = -1 ∧ ∀ j, j < k → ∀ x, l[j]? = some x → x.num ≠ 0) ∨ (∃ j : Nat, a = (j : Int) ∧ j < k ∧ (∃ x, l[j]? = some x ∧ x.num = 0) ∧ ∀ t, t < j → ∀ x, l[t]? = some x → x.num ≠ 0)
theorem free_more {l : List EntV} {k : Nat} {e : EntV} (he : l[k]? = some e) (h0 : e.num ≠ 0) (h : ∀ j, j < k → ∀ x, l[j]? = some x → x.num ≠ 0) : ∀ j, j < k + 1 → ∀ x, l[j]? = some x → x.num ≠ 0 := fun j hj x hx => by
  rcases Nat.lt_succ_iff_lt_or_eq.1 hj with h1 | rfl
  · exact h j h1 x hx
  · rw [he] at hx
    cases hx
    exact h0
set_option maxRecDepth 100000 in
set_option maxHeartbeats 6000000 in
theorem dadd_main {num : Nat} {l : List EntV} {nm : ByteArray} {v : UInt16} {R : Int → World → Prop} (h : GAt w i s gg g lab G) (hln : l.length ≤ 1024) (hgd : ∀ e ∈ l, e.Good) (hop : OpensTo i s gg g lab G num l) (hn : nameErr nm.data.toList = 0) (hv : v ≠ 0)
    (hx : (∃ e ∈ l, named nm e = true) → ∀ w', GAt w' i s gg g lab G → Tch w.heap.size i.own w w' → R 4 w')
    (hw : (∀ e ∈ l, named nm e = false) → ∀ W z, GAt W i s gg g lab G → Tch w.heap.size i.own w W → w.heap.size ≤ z → Blk W z 235 (bvs (packB ⟨nm, v⟩)).toArray →
      Calls Tryz.prog 33 #[.pointer (some ⟨gg, 0, none⟩), .int .i64 (num : Int), .int .i64 ((16 * addAt l : Nat) : Int), .slice (some ⟨z, 0, none⟩) 16 16] W fun e w' => ∃ x, e = .returned (.int .i64 x) ∧ R x w') :
    Calls Tryz.prog 53 #[.pointer (some ⟨gg, 0, none⟩), .int .i64 (num : Int), .agg #[.string nm, .int .u16 (v.toNat : Int)]] w fun e w' => ∃ x, e = .returned (.int .i64 x) ∧ R x w' := by
  have H := hide h
  have HOP := hide hop
  have HLN := hide (And.intro hln hgd)
  have HX := hide hx
  have HW := hide hw
  have HNE := hide hn
  have HSN := hide (show nm.size ≤ 14 from by rw [dn_sz]; exact (nameErr_zero hn).2.1)
  have hv0 : v.toNat ≠ 0 := fun h0 => hv (UInt16.toNat_inj.1 h0)
  have tv : ((v.toNat : Int) == 0) = false := by rw [beq_eq_false_iff_ne]; omega
  have tv' : ¬ (v.toNat : Int) = 0 := by omega
  clear h hop hln hx hw hv hn hv0
  go_enter Tryz.func53, Tryz.ntmps53
  go_upto_region 1 with (fail)
  refine at_world (fun W => ∃ q, q = w.heap.size ∧ Below w.heap.size w W ∧ Blk W q 125 #[.string nm, .int .u16 (v.toNat : Int)]) ⟨_, rfl, (Below.refl _ _).alloc (Nat.le_refl _) _, Blk.new _ _ _⟩ (fun w0 h0 => ?_)
  obtain ⟨q, hq, hb0, hQ0⟩ := h0
  rw [← hq]
  have HA0 := hide (H.out.below hb0)
  have HT0 := hide (Tch.of_below (S := i.own) hb0)
  have HQ0 := hide hQ0
  have HQN := hide (And.intro hq (show ¬ i.own q from H.out.tx.other_new (Nat.le_of_eq hq.symm)))
  clear hq hb0 hQ0
  go_wp2_with fail
  refine (HOP.out w0 HA0.out).mono ?_
  rintro e w1 ⟨A, c, rfl, hown, ha1, ht1⟩
  obtain ⟨N, hN⟩ : ∃ N, l.length = N := ⟨_, rfl⟩
  have HN := hide hN
  rw [hN] at hown ⊢
  have hqlt := HQ0.out.lt
  have HQ1 := hide (Blk.tch HQ0.out ht1 hqlt HQN.out.2)
  have HO1 := hide hown
  have HA1 := hide ha1
  have HT1 := hide (HT0.out.trans (ht1.mono HT0.out.size fun _ _ h => h))
  have qc1 := HQ1.out.cell 1
  have qc0 := HQ1.out.cell 0
  have ql := HQ1.out.lt
  clear hown ha1 ht1 hN hqlt HA0 HT0 HQ0
  go_wp2_with fail
  refine (dirname_ok nm w1).mono ?_
  rintro _ w2 ⟨rfl, rfl⟩
  rw [HNE.out]
  go_wp2_with fail
  clear qc1 qc0 ql
  go_loopg [10, 11, 12, 34, 39] N (fun gh x10 x11 x12 x34 x39 wr => ∃ (k : Nat) (a : Int), k ≤ N ∧ gh = N - k ∧ x10 = .int .i64 a ∧ x34 = .int .i64 (k : Int) ∧ Hid (GAt wr i s gg g lab G) ∧ Hid (Tch w.heap.size i.own w wr) ∧ Hid (wr.ownsRow w0.heap.size 125 2 (.slice A N c) N (flat2 l)) ∧ Hid (Blk wr q 125 #[.string nm, .int .u16 (v.toNat : Int)]) ∧ Hid (∀ j, j < k → ∀ x, l[j]? = some x → named nm x = false) ∧ Hid (FreeTo l k a))
  case atStart => exact ⟨0, -1, Nat.zero_le _, rfl, rfl, rfl, HA1, HT1, HO1, HQ1, hide fun j hj => absurd hj (Nat.not_lt_zero _), hide (.inl ⟨rfl, fun j hj => absurd hj (Nat.not_lt_zero _)⟩)⟩
  case round =>
    obtain ⟨k, a, hk, hgh, rfl, rfl, HA, HT, HO, HQ, HNO, HFR⟩ := hrel
    have HGH := hide hgh
    have hln := HLN.out.1
    have hnn := HN.out
    clear hgh HA1 HT1 HO1 HQ1
    rcases Nat.lt_or_ge k N with hkl | hkl
    · obtain ⟨e, he⟩ : ∃ e, l[k]? = some e := ⟨_, List.getElem?_eq_getElem (by omega)⟩
      obtain ⟨ga, rfl, hga, hrg⟩ := ent_range HO.out (by omega)
      have hrg' : wr.rangeAt ga (k * 2) [.string e.name, .int .u16 (e.num.toNat : Int)] := hrg k e he
      have HRG := hide hrg'
      have HE := hide he
      have t1 : decide ((k : Int) < (N : Int)) = true := by simp; omega
      have t1' : (k : Int) < (N : Int) := by omega
      have e64 : IntKind.i64.wrap ((k : Int) + 1) = (k : Int) + 1 := IntWalk.i64_in _ (by omega)
      have hsz : (Tryz.prog.info? 125).map (·.size) = some ([Value.string e.name, .int .u16 (e.num.toNat : Int)] : List Value).length := size_ent
      have HSZ := hide hsz
      clear hrg hrg' he hsz hln hnn
      go_upto_region 13 with (first | ((with_reducible refine at_load 125 (.tmp 37) ?_); refine wpList_load_mid rfl 125 (.tmp 37) rfl ga (k * 2) (by rfl) [.string e.name, .int .u16 (e.num.toNat : Int)] _ HRG.out Tryz.underlying125 rfl HSZ.out ?_) | fail)
      refine at_world (fun W => ∃ z, z = wr.heap.size ∧ Below wr.heap.size wr W ∧ Blk W z 125 #[.string e.name, .int .u16 (e.num.toNat : Int)]) ⟨_, rfl, (Below.refl _ _).alloc (Nat.le_refl _) _, Blk.new _ _ _⟩ (fun w5 h5 => ?_)
      obtain ⟨z, hz, hb5, hZ5⟩ := h5
      rw [← hz]
      have HA5 := hide (HA.out.below hb5)
      have HT5 := hide (HT.out.trans ((Tch.of_below hb5).mono HT.out.size fun _ _ h => h))
      have HO5 := hide (own_below HO.out hb5)
      have HQ5 := hide (HQ.out.below hb5 HQ.out.lt)
      have qc0 := HQ5.out.cell 0
      have ql := HQ5.out.lt
      have z0 := hZ5.cell 0
      have z1 := hZ5.cell 1
      have zl := hZ5.lt
      clear hz hb5 hZ5 HA HT HO HQ HRG
      by_cases hnm : named nm e = true
      · obtain ⟨hn1, hn2⟩ := named_true hnm
        have hex : ∃ e ∈ l, named nm e = true := ⟨e, List.mem_of_getElem? HE.out, hnm⟩
        have HEX := hide hex
        have hn0 : e.num.toNat ≠ 0 := fun h0 => hn1 (UInt16.toNat_inj.1 h0)
        have t0 : ((e.num.toNat : Int) == 0) = false := by rw [beq_eq_false_iff_ne]; omega
        have t0' : ¬ (e.num.toNat : Int) = 0 := by omega
        have t2 : decide ((0 : Int) < (e.num.toNat : Int)) = true := by simp; omega
        have t2' : (0 : Int) < (e.num.toNat : Int) := by omega
        have t3 := name_eq_true hn2
        clear hnm hn1 hn2 hex hn0
        go_wp2_with fail
        go_returns
        exact ⟨4, rfl, HX.out HEX.out _ HA5.out HT5.out⟩
      · have hnm' : named nm e = false := by simpa using hnm
        have hno' : ∀ j, j < k + 1 → ∀ x, l[j]? = some x → named nm x = false := fun j hj x hx => by
          rcases Nat.lt_succ_iff_lt_or_eq.1 hj with h1 | rfl
          · exact HNO.out j h1 x hx
          · rw [HE.out] at hx
            cases hx
            exact hnm'
        have HNO' := hide hno'
        by_cases hz0 : e.num = 0
        · have HZ0 := hide hz0
          have t0 : ((e.num.toNat : Int) == 0) = true := by rw [hz0]; rfl
          have t0' : (e.num.toNat : Int) = 0 := by rw [hz0]; rfl
          have t2 : decide ((0 : Int) < (e.num.toNat : Int)) = false := by rw [hz0]; rfl
          have hn0 : e.num.toNat = 0 := by rw [hz0]; rfl
          clear hnm hnm' hno' hz0
          rcases HFR.out with ⟨rfl, hf⟩ | ⟨j, rfl, hj, hjz, hjf⟩
          · have HF := hide hf
            clear hf HFR
            go_wp2_with fail
            go_roundg (N - (k + 1))
            case rel => exact ⟨k + 1, (k : Int), by omega, rfl, by first | rfl | go_num, by first | rfl | go_num, HA5, HT5, HO5, HQ5, HNO', hide (.inr ⟨k, rfl, Nat.lt_succ_self k, ⟨e, HE.out, HZ0.out⟩, HF.out⟩)⟩
            case measure => have := HGH.out; omega
          · have HF := hide (And.intro hj (And.intro hjz hjf))
            have t4 : decide ((j : Int) < 0) = false := by simp
            have t4' : ¬ (j : Int) < 0 := by omega
            clear hj hjz hjf HFR
            go_wp2_with fail
            go_roundg (N - (k + 1))
            case rel => exact ⟨k + 1, (j : Int), by omega, rfl, by first | rfl | go_num, by first | rfl | go_num, HA5, HT5, HO5, HQ5, HNO', hide (.inr ⟨j, rfl, Nat.lt_succ_of_lt HF.out.1, HF.out.2⟩)⟩
            case measure => have := HGH.out; omega
        · have HZ0 := hide hz0
          have hne : e.name ≠ nm := by
            rcases named_false hnm' with h0 | h0
            · exact absurd h0 hz0
            · exact h0
          have t3 := name_eq_false hne
          have hn0 : e.num.toNat ≠ 0 := fun h0 => hz0 (UInt16.toNat_inj.1 h0)
          have t0 : ((e.num.toNat : Int) == 0) = false := by rw [beq_eq_false_iff_ne]; omega
          have t0' : ¬ (e.num.toNat : Int) = 0 := by omega
          have t2 : decide ((0 : Int) < (e.num.toNat : Int)) = true := by simp; omega
          have t2' : (0 : Int) < (e.num.toNat : Int) := by omega
          clear hnm hnm' hno' hz0 hne hn0
          rcases HFR.out with ⟨rfl, hf⟩ | ⟨j, rfl, hj, hjz, hjf⟩
          · have HF := hide (free_more HE.out HZ0.out hf)
            clear hf HFR
            go_wp2_with fail
            go_roundg (N - (k + 1))
            case rel => exact ⟨k + 1, (-1), by omega, rfl, by first | rfl | go_num, by first | rfl | go_num, HA5, HT5, HO5, HQ5, HNO', hide (.inl ⟨rfl, HF.out⟩)⟩
            case measure => have := HGH.out; omega
          · have HF := hide (And.intro hj (And.intro hjz hjf))
            clear hj hjz hjf HFR
            go_wp2_with fail
            go_roundg (N - (k + 1))
            case rel => exact ⟨k + 1, (j : Int), by omega, rfl, by first | rfl | go_num, by first | rfl | go_num, HA5, HT5, HO5, HQ5, HNO', hide (.inr ⟨j, rfl, Nat.lt_succ_of_lt HF.out.1, HF.out.2⟩)⟩
            case measure => have := HGH.out; omega
    · have t1 : decide ((k : Int) < (N : Int)) = false := by simp; omega
      have t1' : ¬ (k : Int) < (N : Int) := by omega
      have hkN : k = N := by omega
      have hno : ∀ e ∈ l, named nm e = false := fun e he => by
        obtain ⟨j, hj⟩ := List.getElem?_of_mem he
        exact HNO.out j (by have := (List.getElem?_eq_some_iff.1 hj).1; omega) e hj
      have HNO' := hide hno
      rcases HFR.out with ⟨rfl, hf⟩ | ⟨j, rfl, hj, hjz, hjf⟩
      · have hat : addAt l = N := addAt_eq (fun t ht x hx => hf t (by omega) x hx) (.inl hnn.symm)
        obtain ⟨y, hy⟩ : ∃ y : Nat, 16 * N = y := ⟨_, rfl⟩
        have e16 : IntKind.i64.wrap ((N : Int) * 16) = (y : Int) := by rw [IntWalk.i64_in _ (by omega)]; omega
        have HY := hide hy
        have HAT := hide hat
        clear hkl hk hln hnn hno hf hy hat hkN
        go_wp2_with (first | ((with_reducible refine at_load 125 (.tmp 5) ?_); refine wpList_load_blk rfl 125 (.tmp 5) rfl q _ _ _ (by rfl) HQ.out Tryz.underlying125 rfl (by exact size_ent) ?_) | fail)
        refine (pack_ok nm v HSN.out wr).mono ?_
        rintro _ w6 ⟨rfl, hb6⟩
        have HA6 := hide (HA.out.below hb6)
        have HT6 := hide (HT.out.trans ((Tch.of_below hb6).mono HT.out.size fun _ _ h => h))
        have HPS := hide (pack_size ⟨nm, v⟩)
        clear hb6 HA HT HQ
        go_upto_region 21 with (first | ((with_reducible refine at_store 235 (.tmp 13) (.tmp 65) ?_); refine wpList_store_blk rfl 235 (.tmp 13) (.tmp 65) rfl w6.heap.size _ _ _ (by rfl) (by rfl) (Blk.new _ _ _) HPS.out (by rw [List.size_toArray, List.size_toArray, bvs_length, packB_length]; rfl) (bvs_oneCell _) (fun _ => ?_)) | fail)
        refine at_world (fun W => ∃ z, z = w6.heap.size ∧ Below w6.heap.size w6 W ∧ Blk W z 235 (bvs (packB ⟨nm, v⟩)).toArray) ⟨_, rfl, below_setRow ((Below.refl _ _).alloc (Nat.le_refl _) _) (Nat.le_refl _) _, (Blk.new _ _ _).setRow_same _⟩ (fun w7 h7 => ?_)
        obtain ⟨z', hz', hb7, hZ7⟩ := h7
        rw [← hz']
        have HA7 := hide (HA6.out.below hb7)
        have HT7 := hide (HT6.out.trans ((Tch.of_below hb7).mono HT6.out.size fun _ _ h => h))
        have hzw : w.heap.size ≤ z' := by rw [hz']; exact HT6.out.size
        have HZ7 := hide (And.intro hzw hZ7)
        clear hz' hb7 hZ7 hzw HA6 HT6
        have hres := HW.out HNO'.out w7 z' HA7.out HT7.out HZ7.out.1 HZ7.out.2
        rw [HAT.out, HY.out] at hres
        have HRES := hide hres
        clear hres
        go_wp2_with (first | ((with_reducible refine at_slice 235 (.tmp 13) none none ?_); refine wpList_run rfl _ (exec_slice 235 (.tmp 13) none none rfl (run_slice_all 235 5 z' 16 Tryz.underlying235 (by kernel_rfl) (by decide))) ?_) | fail)
        refine HRES.out.mono ?_
        rintro _ w8 ⟨x, rfl, hr⟩
        have HR := hide hr
        clear hr HRES
        go_wp2_with fail
        go_returns
        exact ⟨x, rfl, HR.out⟩
      · have hat : addAt l = j := addAt_eq hjf (.inr hjz)
        have t4 : decide ((j : Int) < 0) = false := by simp
        have t4' : ¬ (j : Int) < 0 := by omega
        obtain ⟨y, hy⟩ : ∃ y : Nat, 16 * j = y := ⟨_, rfl⟩
        have e16 : IntKind.i64.wrap ((j : Int) * 16) = (y : Int) := by rw [IntWalk.i64_in _ (by omega)]; omega
        have HY := hide hy
        have HAT := hide hat
        clear hkl hk hln hnn hno hj hjz hjf hy hat hkN
        go_wp2_with (first | ((with_reducible refine at_load 125 (.tmp 5) ?_); refine wpList_load_blk rfl 125 (.tmp 5) rfl q _ _ _ (by rfl) HQ.out Tryz.underlying125 rfl (by exact size_ent) ?_) | fail)
        refine (pack_ok nm v HSN.out wr).mono ?_
        rintro _ w6 ⟨rfl, hb6⟩
        have HA6 := hide (HA.out.below hb6)
        have HT6 := hide (HT.out.trans ((Tch.of_below hb6).mono HT.out.size fun _ _ h => h))
        have HPS := hide (pack_size ⟨nm, v⟩)
        clear hb6 HA HT HQ
        go_upto_region 21 with (first | ((with_reducible refine at_store 235 (.tmp 13) (.tmp 65) ?_); refine wpList_store_blk rfl 235 (.tmp 13) (.tmp 65) rfl w6.heap.size _ _ _ (by rfl) (by rfl) (Blk.new _ _ _) HPS.out (by rw [List.size_toArray, List.size_toArray, bvs_length, packB_length]; rfl) (bvs_oneCell _) (fun _ => ?_)) | fail)
        refine at_world (fun W => ∃ z, z = w6.heap.size ∧ Below w6.heap.size w6 W ∧ Blk W z 235 (bvs (packB ⟨nm, v⟩)).toArray) ⟨_, rfl, below_setRow ((Below.refl _ _).alloc (Nat.le_refl _) _) (Nat.le_refl _) _, (Blk.new _ _ _).setRow_same _⟩ (fun w7 h7 => ?_)
        obtain ⟨z', hz', hb7, hZ7⟩ := h7
        rw [← hz']
        have HA7 := hide (HA6.out.below hb7)
        have HT7 := hide (HT6.out.trans ((Tch.of_below hb7).mono HT6.out.size fun _ _ h => h))
        have hzw : w.heap.size ≤ z' := by rw [hz']; exact HT6.out.size
        have HZ7 := hide (And.intro hzw hZ7)
        clear hz' hb7 hZ7 hzw HA6 HT6
        have hres := HW.out HNO'.out w7 z' HA7.out HT7.out HZ7.out.1 HZ7.out.2
        rw [HAT.out, HY.out] at hres
        have HRES := hide hres
        clear hres
        go_wp2_with (first | ((with_reducible refine at_slice 235 (.tmp 13) none none ?_); refine wpList_run rfl _ (exec_slice 235 (.tmp 13) none none rfl (run_slice_all 235 5 z' 16 Tryz.underlying235 (by kernel_rfl) (by decide))) ?_) | fail)
        refine HRES.out.mono ?_
        rintro _ w8 ⟨x, rfl, hr⟩
        have HR := hide hr
        clear hr HRES
        go_wp2_with fail
        go_returns
        exact ⟨x, rfl, HR.out⟩
end
end Go.Proofs.YthmkgohfeahdhaaGreat
namespace Go.Proofs.YthmkgohfeahdhaaGreat
open Go.RowKit
set_option linter.unusedSimpArgs false
set_option linter.unusedVariables false

section
variable {w w' : World} {i : Ids} {s : Sto} {gg : Nat} {g : GeoN} {lab : Int} {G : GS}
theorem build_ent0 (w : World) : (Instr.build 125 #[]).run Tryz.prog w = .ok (.agg EntV.zero.cells.toArray) w := by kernel_rfl
theorem flat2_seg {L : List EntV} {k : Nat} (n' : EntV) (hk : k < L.length) : (flat2 L).take (k * 2) ++ n'.cells ++ (flat2 L).drop (k * 2 + n'.cells.length) = flat2 (L.set k n') := by
  induction L generalizing k with
  | nil => simp at hk
  | cons a r ih =>
    have ha : a.cells.length = 2 := rfl
    have hn : n'.cells.length = 2 := rfl
    cases k with
    | zero =>
      unfold flat2
      rw [Nat.zero_mul, List.take_zero, List.nil_append, Nat.zero_add, hn, List.set_cons_zero, List.flatMap_cons, List.flatMap_cons, List.drop_append, ← ha, List.drop_length, Nat.sub_self, List.drop_zero, List.nil_append]
    | succ k =>
      have := ih (k := k) (by simpa using hk)
      unfold flat2 at this ⊢
      rw [List.set_cons_succ, List.flatMap_cons, List.flatMap_cons, ← this, List.take_append, List.drop_append, List.take_of_length_le (by rw [ha]; omega), List.drop_of_length_le (by rw [ha]; omega), List.nil_append]
      rw [show (k + 1) * 2 - a.cells.length = k * 2 from by rw [ha]; omega, show (k + 1) * 2 + n'.cells.length - a.cells.length = k * 2 + n'.cells.length from by rw [ha]; omega]
      simp only [List.append_assoc]
theorem own2_set {w : World} {B ga N c k : Nat} {l : List EntV} (x : EntV) (h : w.ownsRow B 125 2 (.slice (some ⟨ga, 0, none⟩) N c) N (flat2 l)) (hk : k < N) (hl : l.length = N) : (w.setCells ga (k * 2) x.cells).ownsRow B 125 2 (.slice (some ⟨ga, 0, none⟩) N c) N (flat2 (l.set k x)) := by
  have := own_cells (vs := x.cells) (o := k * 2) h (by have : x.cells.length = 2 := rfl; omega)
  rwa [flat2_seg x (by omega)] at this
theorem own2_there {w : World} {B ga N c k : Nat} {l : List EntV} (h : w.ownsRow B 125 2 (.slice (some ⟨ga, 0, none⟩) N c) N (flat2 l)) (hk : k < N) : w.there ga (k * 2) 2 := by
  obtain ⟨-, h | ⟨g', cap, cur, hv, hg, hh, hn, hcm, hsz, ht⟩⟩ := h
  · cases h.1
  · simp only [Value.slice.injEq, Option.some.injEq, Addr.mk.injEq] at hv
    obtain ⟨⟨rfl, _⟩, _, rfl⟩ := hv
    have hB : Blk w ga 125 cur := hh
    exact hB.there (by omega)
theorem trimN_step {L : List EntV} {m : Nat} {e : EntV} (h : L[m]? = some e) (h0 : e.num = 0) : trimN L (m + 1) = trimN L m := by
  rw [trimN.eq_def]; simp [h, h0]
theorem trimN_stop {L : List EntV} {m : Nat} {e : EntV} (h : L[m]? = some e) (h0 : e.num ≠ 0) : trimN L (m + 1) = m + 1 := by
  rw [trimN.eq_def]; simp [h, h0]
set_option maxRecDepth 100000 in
set_option maxHeartbeats 6000000 in
theorem ddrop_main {num : Nat} {l : List EntV} {nm : ByteArray} {R : Int → World → Prop} (h : GAt w i s gg g lab G) (hln : l.length ≤ 1024) (hgd : ∀ e ∈ l, e.Good) (hop : OpensTo i s gg g lab G num l)
    (hx : (∀ e ∈ l, named nm e = false) → ∀ w', GAt w' i s gg g lab G → Tch w.heap.size i.own w w' → R 3 w')
    (hc : ∀ K e, l[K]? = some e → named nm e = true → (∀ j, j < K → ∀ x, l[j]? = some x → named nm x = false) → dropEnd l K ≤ K → ∀ W, GAt W i s gg g lab G → Tch w.heap.size i.own w W →
      Calls Tryz.prog 34 #[.pointer (some ⟨gg, 0, none⟩), .int .i64 (num : Int), .int .i64 ((16 * dropEnd l K : Nat) : Int)] W fun e w' => ∃ x, e = .returned (.int .i64 x) ∧ R x w')
    (hw : ∀ K e, l[K]? = some e → named nm e = true → (∀ j, j < K → ∀ x, l[j]? = some x → named nm x = false) → K < dropEnd l K → ∀ W z, GAt W i s gg g lab G → Tch w.heap.size i.own w W → w.heap.size ≤ z → Blk W z 235 (bvs (packB EntV.zero)).toArray →
      Calls Tryz.prog 33 #[.pointer (some ⟨gg, 0, none⟩), .int .i64 (num : Int), .int .i64 ((16 * K : Nat) : Int), .slice (some ⟨z, 0, none⟩) 16 16] W fun e w' => ∃ x, e = .returned (.int .i64 x) ∧ R x w') :
    Calls Tryz.prog 55 #[.pointer (some ⟨gg, 0, none⟩), .int .i64 (num : Int), .string nm] w fun e w' => ∃ x, e = .returned (.int .i64 x) ∧ R x w' := by
  have H := hide h
  have HOP := hide hop
  have HLN := hide (And.intro hln hgd)
  have HX := hide hx
  have HC := hide hc
  have HW := hide hw
  clear h hop hln hx hw hc
  go_enter Tryz.func55, Tryz.ntmps55
  go_wp2_with fail
  refine (HOP.out w H.out).mono ?_
  rintro e w1 ⟨A, c, rfl, hown, ha1, ht1⟩
  obtain ⟨N, hN⟩ : ∃ N, l.length = N := ⟨_, rfl⟩
  have HN := hide hN
  rw [hN] at hown ⊢
  have HO1 := hide hown
  have HA1 := hide ha1
  have HT1 := hide ht1
  clear hown ha1 ht1 hN
  go_wp2_with fail
  go_loopg [9, 10, 11, 12, 24] N (fun gh x9 x10 x11 x12 x24 wr => ∃ k : Nat, k ≤ N ∧ gh = N - k ∧ x24 = .int .i64 (k : Int) ∧ Hid (GAt wr i s gg g lab G) ∧ Hid (Tch w.heap.size i.own w wr) ∧ Hid (wr.ownsRow w.heap.size 125 2 (.slice A N c) N (flat2 l)) ∧ Hid (∀ j, j < k → ∀ x, l[j]? = some x → named nm x = false))
  case atStart => exact ⟨0, Nat.zero_le _, rfl, rfl, HA1, HT1, HO1, hide fun j hj => absurd hj (Nat.not_lt_zero _)⟩
  case round =>
    obtain ⟨k, hk, hgh, rfl, HA, HT, HO, HNO⟩ := hrel
    have HGH := hide hgh
    have hln := HLN.out.1
    have hnn := HN.out
    clear hgh HA1 HT1 HO1
    rcases Nat.lt_or_ge k N with hkl | hkl
    · obtain ⟨e, he⟩ : ∃ e, l[k]? = some e := ⟨_, List.getElem?_eq_getElem (by omega)⟩
      obtain ⟨ga, rfl, hga, hrg⟩ := ent_range HO.out (by omega)
      have hrg' : wr.rangeAt ga (k * 2) [.string e.name, .int .u16 (e.num.toNat : Int)] := hrg k e he
      have HRG := hide hrg'
      have HE := hide he
      have t1 : decide ((k : Int) < (N : Int)) = true := by simp; omega
      have t1' : (k : Int) < (N : Int) := by omega
      have e64 : IntKind.i64.wrap ((k : Int) + 1) = (k : Int) + 1 := IntWalk.i64_in _ (by omega)
      have hsz : (Tryz.prog.info? 125).map (·.size) = some ([Value.string e.name, .int .u16 (e.num.toNat : Int)] : List Value).length := size_ent
      have HSZ := hide hsz
      have HGA := hide hga
      clear hrg hrg' he hsz hln hnn
      go_upto_region 7 with (first | ((with_reducible refine at_load 125 (.tmp 27) ?_); refine wpList_load_mid rfl 125 (.tmp 27) rfl ga (k * 2) (by rfl) [.string e.name, .int .u16 (e.num.toNat : Int)] _ HRG.out Tryz.underlying125 rfl HSZ.out ?_) | fail)
      refine at_world (fun W => ∃ z, z = wr.heap.size ∧ Below wr.heap.size wr W ∧ Blk W z 125 #[.string e.name, .int .u16 (e.num.toNat : Int)]) ⟨_, rfl, (Below.refl _ _).alloc (Nat.le_refl _) _, Blk.new _ _ _⟩ (fun w5 h5 => ?_)
      obtain ⟨z, hz, hb5, hZ5⟩ := h5
      rw [← hz]
      have HA5 := hide (HA.out.below hb5)
      have HT5 := hide (HT.out.trans ((Tch.of_below hb5).mono HT.out.size fun _ _ h => h))
      have HO5 := hide (own_below HO.out hb5)
      have z0 := hZ5.cell 0
      have z1 := hZ5.cell 1
      have zl := hZ5.lt
      clear hz hb5 hZ5 HA HT HO HRG
      by_cases hnm : named nm e = true
      · obtain ⟨hn1, hn2⟩ := named_true hnm
        have HNM := hide hnm
        have hn0 : e.num.toNat ≠ 0 := fun h0 => hn1 (UInt16.toNat_inj.1 h0)
        have t0 : ((e.num.toNat : Int) == 0) = false := by rw [beq_eq_false_iff_ne]; omega
        have t0' : ¬ (e.num.toNat : Int) = 0 := by omega
        have t3 := name_eq_true hn2
        have hpk := pack_ok ⟨#[]⟩ 0 (by decide)
        rw [show (((0 : UInt16).toNat : Nat) : Int) = 0 from rfl] at hpk
        have HPK := hide hpk
        have HTH := hide (own2_there HO5.out hkl)
        have HSZ0 := hide (show (Tryz.prog.info? 125).map (·.size) = some EntV.zero.cells.toArray.size from size_ent)
        have HON := hide (show EntV.zero.cells.toArray.all (·.oneCell') = true from by simp [EntV.zero, EntV.cells, Value.oneCell'])
        clear hnm hn1 hn2 hn0 hpk
        go_upto_region 9 with (first | ((with_reducible refine at_build 125 #[] ?_); refine wpList_zero_as rfl 125 rfl _ (build_ent0 _) ?_) | ((with_reducible refine at_store 125 (.tmp 41) (.tmp 40) ?_); refine wpList_store_mid rfl 125 (.tmp 41) (.tmp 40) rfl ga (k * 2) EntV.zero.cells.toArray (by rfl) (by rfl) HTH.out HSZ0.out HON.out ?_) | fail)
        refine at_world (fun W => W = w5.setCells ga (k * 2) EntV.zero.cells) rfl (fun w6 h6 => ?_)
        have hgw : w.heap.size ≤ ga := (own_block_ge HO5.out rfl).1
        have htg : Tch w5.heap.size (· = ga) w5 w6 := by rw [h6]; exact Tch.setCells (S := (· = ga)) (fun _ => rfl) _ _ _
        have ho6 := own2_set EntV.zero HO5.out hkl HN.out
        rw [← h6] at ho6
        have hll := H.out.tx.log.log.lt
        have hgg := H.out.gp.lt
        have HA6 := hide (HA5.out.apart htg (fun b hb => ⟨fun ho => H.out.tx.other_new (by rw [hb]; exact hgw) ho, by omega, by omega⟩))
        have HT6 := hide (HT5.out.trans (htg.mono HT5.out.size (fun b hk hb => by omega)))
        have HO6 := hide ho6
        obtain ⟨L, hL⟩ : ∃ L, l.set k EntV.zero = L := ⟨_, rfl⟩
        rw [hL] at HO6
        have hLN : L.length = N := by rw [← hL, List.length_set]; exact HN.out
        have hdl : dropEnd l k = trimN L N := by unfold dropEnd; rw [hL, HN.out]
        have HLL := hide (And.intro hLN (And.intro hdl HLN.out.1))
        clear h6 htg hgw ho6 hll hgg hL hLN hdl HA5 HT5 HO5 HTH z0 z1 zl t0 t0' t3
        go_wp2_with fail
        go_loopg [11] N (fun gh x11 wr2 => ∃ n : Nat, n ≤ N ∧ gh = n ∧ x11 = .int .i64 (n : Int) ∧ wr2 = w6 ∧ Hid (trimN L n = trimN L N))
        case atStart => exact ⟨N, Nat.le_refl _, rfl, rfl, rfl, hide rfl⟩
        case round =>
          obtain ⟨n, hn, hgh2, rfl, rfl, HTR⟩ := hrel
          have HGH2 := hide hgh2
          have HNN := hide (And.intro hn hkl)
          clear hgh2
          cases n with
          | zero =>
            have hde : dropEnd l k = 0 := by rw [HLL.out.2.1, ← HTR.out]; rfl
            have HDE := hide hde
            obtain ⟨y, hy⟩ : ∃ y : Nat, 16 * 0 = y := ⟨_, rfl⟩
            have HY := hide hy
            have hin : 0 ≤ k := Nat.zero_le _
            have t9 : decide ((0 : Int) ≤ (k : Int)) = true := by simp
            have hy0 : y = 0 := by omega
            subst hy0
            clear hde hy hn hk
            have hres := HC.out k e HE.out HNM.out HNO.out (by rw [HDE.out]; have := hin; omega) wr HA6.out HT6.out
            rw [HDE.out, HY.out] at hres
            have HRES := hide hres
            clear hres
            go_wp2_with fail
            refine HRES.out.mono ?_
            rintro _ w8 ⟨x, rfl, hr⟩
            have HR := hide hr
            clear hr HRES
            go_wp2_with fail
            go_returns
            exact ⟨x, rfl, HR.out⟩
          | succ m =>
            obtain ⟨em, hem⟩ : ∃ em, L[m]? = some em := ⟨_, List.getElem?_eq_getElem (by have := HLL.out.1; omega)⟩
            obtain ⟨ga', hga', -, hrg2⟩ := ent_range HO6.out (by omega)
            obtain rfl : ga = ga' := by simpa using hga'
            have y1 : wr.cell? ⟨ga, m * 2 + 1, none⟩ = some (.int .u16 (em.num.toNat : Int)) := hrg2 m em hem 1 _ rfl
            have yl : ga < wr.heap.size := (own_block_ge HO6.out rfl).2
            have hNs := HLL.out.1
            have hNm := HN.out
            have hl1024 := HLL.out.2.2
            have a1 : decide ((0 : Int) < (((m + 1 : Nat)) : Int)) = true := by simp
            have a1' : (0 : Int) < (((m + 1 : Nat)) : Int) := by omega
            have a2 : IntKind.i64.wrap ((((m + 1 : Nat)) : Int) - 1) = (m : Int) := by rw [IntWalk.i64_in _ (by omega)]; omega
            have a4 : IntKind.i64.wrap (m : Int) = (m : Int) := IntWalk.i64_in _ (by omega)
            have a5 : IntKind.i64.wrap ((m : Int) + 1 - 1) = (m : Int) := by rw [IntWalk.i64_in _ (by omega)]; omega
            have a6 : decide ((0 : Int) < (m : Int) + 1) = true := decide_eq_true (by omega)
            have a7 : (0 : Int) < (m : Int) + 1 := by omega
            have a3 : decide ((m : Int) < (N : Int)) = true := by simp; omega
            have a3' : (m : Int) < (N : Int) := by omega
            have HEM := hide hem
            clear hga' hrg2 hem hNs hNm hl1024 hn hk
            by_cases hz : em.num = 0
            · have HST := hide (trimN_step HEM.out hz)
              have b1 : ((em.num.toNat : Int) == 0) = true := by rw [hz]; rfl
              have b1' : (em.num.toNat : Int) = 0 := by rw [hz]; rfl
              clear hz
              go_wp2_with fail
              go_roundg m
              case rel => exact ⟨m, by have := HNN.out.1; omega, rfl, by first | rfl | go_num, rfl, hide (HST.out.symm.trans HTR.out)⟩
              case measure => have := HGH2.out; omega
            · have hz' : em.num.toNat ≠ 0 := fun h0 => hz (UInt16.toNat_inj.1 h0)
              have b1 : ((em.num.toNat : Int) == 0) = false := by rw [beq_eq_false_iff_ne]; omega
              have b1' : ¬ (em.num.toNat : Int) = 0 := by omega
              have hde : dropEnd l k = m + 1 := by rw [HLL.out.2.1, ← HTR.out, trimN_stop HEM.out hz]
              have HDE := hide hde
              clear hz hz' hde
              by_cases hin : m + 1 ≤ k
              · obtain ⟨y, hy⟩ : ∃ y : Nat, 16 * (m + 1) = y := ⟨_, rfl⟩
                have HY := hide hy
                have e16 : IntKind.i64.wrap ((((m + 1 : Nat)) : Int) * 16) = (y : Int) := by rw [IntWalk.i64_in _ (by have := HLL.out; have := HNN.out; have := HN.out; omega)]; omega
                have e17 : IntKind.i64.wrap (((m : Int) + 1) * 16) = (y : Int) := by rw [IntWalk.i64_in _ (by have := HLL.out; have := HNN.out; have := HN.out; omega)]; omega
                have t9 : decide ((((m + 1 : Nat)) : Int) ≤ (k : Int)) = true := by simp; omega
                have t8 : decide ((m : Int) + 1 ≤ (k : Int)) = true := by simp; omega
                have t8' : (m : Int) + 1 ≤ (k : Int) := by omega
                clear hy
                have hin := hin
                have hres := HC.out k e HE.out HNM.out HNO.out (by rw [HDE.out]; have := hin; omega) wr HA6.out HT6.out
                rw [HDE.out, HY.out] at hres
                have HRES := hide hres
                clear hres
                go_wp2_with fail
                refine HRES.out.mono ?_
                rintro _ w8 ⟨x, rfl, hr⟩
                have HR := hide hr
                clear hr HRES
                go_wp2_with fail
                go_returns
                exact ⟨x, rfl, HR.out⟩
              · obtain ⟨y, hy⟩ : ∃ y : Nat, 16 * k = y := ⟨_, rfl⟩
                have HY := hide hy
                have e16 : IntKind.i64.wrap ((k : Int) * 16) = (y : Int) := by rw [IntWalk.i64_in _ (by have := HLL.out; have := HNN.out; have := HN.out; omega)]; omega
                have t9 : decide ((((m + 1 : Nat)) : Int) ≤ (k : Int)) = false := by simp; omega
                have t8 : decide ((m : Int) + 1 ≤ (k : Int)) = false := by simp; omega
                have t8' : ¬ (m : Int) + 1 ≤ (k : Int) := by omega
                clear hy
                go_wp2_with (first | ((with_reducible refine at_build 125 #[] ?_); refine wpList_zero_as rfl 125 rfl _ (build_ent0 _) ?_) | fail)
                refine (HPK.out wr).mono ?_
                rintro _ w66 ⟨rfl, hb6⟩
                have HA66 := hide (HA6.out.below hb6)
                have HT66 := hide (HT6.out.trans ((Tch.of_below hb6).mono HT6.out.size fun _ _ h => h))
                have HPS := hide (pack_size EntV.zero)
                clear hb6 HA6 HT6 HO6
                go_upto_region 15 with (first | ((with_reducible refine at_store 235 (.tmp 12) (.tmp 66) ?_); refine wpList_store_blk rfl 235 (.tmp 12) (.tmp 66) rfl w66.heap.size _ _ _ (by rfl) (by rfl) (Blk.new _ _ _) HPS.out (by rw [List.size_toArray, List.size_toArray, bvs_length, packB_length]; rfl) (bvs_oneCell _) (fun _ => ?_)) | fail)
                refine at_world (fun W => ∃ z, z = w66.heap.size ∧ Below w66.heap.size w66 W ∧ Blk W z 235 (bvs (packB EntV.zero)).toArray) ⟨_, rfl, below_setRow ((Below.refl _ _).alloc (Nat.le_refl _) _) (Nat.le_refl _) _, (Blk.new _ _ _).setRow_same _⟩ (fun w7 h7 => ?_)
                obtain ⟨z', hz', hb7, hZ7⟩ := h7
                rw [← hz']
                have HA7 := hide (HA66.out.below hb7)
                have HT7 := hide (HT66.out.trans ((Tch.of_below hb7).mono HT66.out.size fun _ _ h => h))
                have hzw : w.heap.size ≤ z' := by rw [hz']; exact HT66.out.size
                have HZ7 := hide (And.intro hzw hZ7)
                clear hz' hb7 hZ7 hzw HA66 HT66
                have hres := HW.out k e HE.out HNM.out HNO.out (by rw [HDE.out]; have := hin; omega) w7 z' HA7.out HT7.out HZ7.out.1 HZ7.out.2
                rw [HY.out] at hres
                have HRES := hide hres
                clear hres
                go_wp2_with (first | ((with_reducible refine at_slice 235 (.tmp 12) none none ?_); refine wpList_run rfl _ (exec_slice 235 (.tmp 12) none none rfl (run_slice_all 235 5 z' 16 Tryz.underlying235 (by kernel_rfl) (by decide))) ?_) | fail)
                refine HRES.out.mono ?_
                rintro _ w8 ⟨x, rfl, hr⟩
                have HR := hide hr
                clear hr HRES
                go_wp2_with fail
                go_returns
                exact ⟨x, rfl, HR.out⟩
      · have hnm' : named nm e = false := by simpa using hnm
        have hno' : ∀ j, j < k + 1 → ∀ x, l[j]? = some x → named nm x = false := fun j hj x hx => by
          rcases Nat.lt_succ_iff_lt_or_eq.1 hj with h1 | rfl
          · exact HNO.out j h1 x hx
          · rw [HE.out] at hx
            cases hx
            exact hnm'
        have HNO' := hide hno'
        by_cases hz0 : e.num = 0
        · have t0 : ((e.num.toNat : Int) == 0) = true := by rw [hz0]; rfl
          have t0' : (e.num.toNat : Int) = 0 := by rw [hz0]; rfl
          have hn0 : e.num.toNat = 0 := by rw [hz0]; rfl
          clear hnm hnm' hno' hz0
          go_wp2_with fail
          go_roundg (N - (k + 1))
          case rel => exact ⟨k + 1, by omega, rfl, by first | rfl | go_num, HA5, HT5, HO5, HNO'⟩
          case measure => have := HGH.out; omega
        · have hne : e.name ≠ nm := by
            rcases named_false hnm' with h0 | h0
            · exact absurd h0 hz0
            · exact h0
          have t3 := name_eq_false hne
          have hn0 : e.num.toNat ≠ 0 := fun h0 => hz0 (UInt16.toNat_inj.1 h0)
          have t0 : ((e.num.toNat : Int) == 0) = false := by rw [beq_eq_false_iff_ne]; omega
          have t0' : ¬ (e.num.toNat : Int) = 0 := by omega
          clear hnm hnm' hno' hz0 hne hn0
          go_wp2_with fail
          go_roundg (N - (k + 1))
          case rel => exact ⟨k + 1, by omega, rfl, by first | rfl | go_num, HA5, HT5, HO5, HNO'⟩
          case measure => have := HGH.out; omega
    · have t1 : decide ((k : Int) < (N : Int)) = false := by simp; omega
      have t1' : ¬ (k : Int) < (N : Int) := by omega
      have hno : ∀ e ∈ l, named nm e = false := fun e he => by
        obtain ⟨j, hj⟩ := List.getElem?_of_mem he
        exact HNO.out j (by have := (List.getElem?_eq_some_iff.1 hj).1; omega) e hj
      have HNO' := hide hno
      clear hkl hk hln hnn hno
      go_wp2
      go_returns
      exact ⟨3, rfl, HX.out HNO'.out _ HA.out HT.out⟩
end
end Go.Proofs.YthmkgohfeahdhaaGreat
namespace Go.Proofs.YthmkgohfeahdhaaGreat
open Go.RowKit
set_option linter.unusedSimpArgs false
set_option linter.unusedVariables false

/-- what a call on one node leaves of a group's other nodes -/
structure Mov (G G' : GS) (num : Nat) (p : Nat → Bool) (κ : Nat → Nat) (p' : Nat → Bool) (κ' : Nat → Nat) : Prop where
  nd : ∀ k, k ≠ num → G'.nd k = G.nd k
  by_ : ∀ x, G.tk x = true → (∀ c, p c = true → κ c ≠ x) → G'.by_ x = G.by_ x
  tk : ∀ x, G.tk x = true → (∀ c, p c = true → κ c ≠ x) → G'.tk x = true
  new : ∀ c, p' c = true → (∃ c0, p c0 = true ∧ κ' c = κ c0) ∨ G.tk (κ' c) = false
  more : ∀ x, G'.tk x = true → G.tk x = true ∨ ∃ c, p' c = true ∧ κ' c = x
theorem Left.mov {G G' : GS} {num : Nat} {p p' : Nat → Bool} {κ κ' : Nat → Nat} (h : Left G G' num p p' κ κ') : Mov G G' num p κ p' κ' :=
  ⟨h.nd, h.by_, fun x hx _ => h.tk x hx, fun c hc => by
    cases hp : p c with
    | true => exact .inl ⟨c, hp, (h.old c hp).1⟩
    | false => exact .inr (h.fresh c hc hp), fun x hx => (h.new x hx).imp id fun ⟨c, h1, _, h2⟩ => ⟨c, h1, h2⟩⟩
theorem Lost.mov {G G' : GS} {m num : Nat} {n : NodeV} {p p' : Nat → Bool} {κ : Nat → Nat} (h : Lost G G' num p κ) (ht : Tree G m n p κ) (hp : ∀ c, p' c = true → p c = true) : Mov G G' num p κ p' κ :=
  ⟨h.nd, fun x _ hx => h.by_ x hx, fun x h1 hx => by rw [h.tk x hx]; exact h1, fun c hc => .inl ⟨c, hp c hc, rfl⟩, fun x hx => by
    by_cases hn : ∃ c, p c = true ∧ κ c = x
    · obtain ⟨c, h1, rfl⟩ := hn
      exact .inl (ht.own c h1).2
    · rw [h.tk x fun c hc e => hn ⟨c, hc, e⟩] at hx
      exact .inl hx⟩
theorem FileAt.mov {G G' : GS} {m c len num : Nat} {n : NodeV} {κ κ1 κ2 : Nat → Nat} {p1 p2 : Nat → Bool} {f : Nat → UInt8} (h : FileAt G m n c κ len f) (hl : Mov G G' num p1 κ1 p2 κ2) (ha : Apart p1 κ1 (prOf c) κ) : FileAt G' m n c κ len f :=
  h.other (fun k hk => hl.by_ _ (h.tree.own k hk).2 fun c' hc' => ha c' k hc' hk) (fun k hk => hl.tk _ (h.tree.own k hk).2 fun c' hc' => ha c' k hc' hk)
theorem Apart.mov {G G' : GS} {m num : Nat} {n : NodeV} {κ κ1 κ2 : Nat → Nat} {p p1 p2 : Nat → Bool} (ht : Tree G m n p κ) (hl : Mov G G' num p1 κ1 p2 κ2) (ha : Apart p1 κ1 p κ) : Apart p2 κ2 p κ := fun c c' h1 h2 => by
  rcases hl.new c h1 with ⟨c0, h3, h4⟩ | h3
  · rw [h4]; exact ha c0 c' h3 h2
  · intro he
    rw [he, (ht.own c' h2).2] at h3
    cases h3
theorem DirN.mov {G G' : GS} {g : GeoN} {num num' : Nat} {l : List EntV} {κ κ1 κ2 : Nat → Nat} {p1 p2 : Nat → Bool} (h : DirN G g num l κ) (hl : Mov G G' num' p1 κ1 p2 κ2) (hn : num ≠ num') (ha : Apart p1 κ1 (prOf (blks (16 * l.length))) κ) : DirN G' g num l κ := by
  have e := hl.nd num hn
  exact ⟨by rw [e]; exact h.kind, by rw [e]; exact h.links, by rw [e]; exact h.size, by rw [e]; exact h.file.mov hl ha, h.len, h.good⟩
/-- a small directory's own blocks -/
def dk (g : GeoN) (num c : Nat) (κ : Nat → Nat) : List Nat := g.base :: (g.base + g.bitmap + (num - 1) / 2) :: ((List.range 6).filter (prOf c)).map fun k => g.data + κ k
/-- a directory's step -/
structure DStep (s s' : Sto) (g : GeoN) (G G' : GS) (num : Nat) (l l' : List EntV) (κ κ' : Nat → Nat) (K0 T : List Nat) : Prop where
  dir : DirN G' g num l' κ'
  links : (G'.nd num).links = (G.nd num).links
  gen : (G'.nd num).gen = (G.nd num).gen
  mov : Mov G G' num (prOf (blks (16 * l.length))) κ (prOf (blks (16 * l'.length))) κ'
  cnt : G'.cnt g.blocks + nkeys (blks (16 * l.length)) = G.cnt g.blocks + nkeys (blks (16 * l'.length))
  inn : s'.In (K0 ++ T)
  tlen : T.length ≤ 12
  small : max (blks (16 * l.length)) (blks (16 * l'.length)) ≤ 6 → ∀ x ∈ T, x ∈ dk g num (max (blks (16 * l.length)) (blks (16 * l'.length))) κ'
  stay : Stay s s' g
  keep : ∀ c, prOf (blks (16 * l.length)) c = true → prOf (blks (16 * l'.length)) c = true → κ' c = κ c
theorem dk_length (g : GeoN) (num c : Nat) (κ : Nat → Nat) : (dk g num c κ).length ≤ 8 := by
  have := List.length_filter_le (prOf c) (List.range 6)
  simp only [dk, List.length_cons, List.length_map, List.length_range] at this ⊢
  omega
/-- a small directory's step touches its own blocks alone -/
theorem DStep.inn' {s s' : Sto} {g : GeoN} {G G' : GS} {num : Nat} {l l' : List EntV} {κ κ' : Nat → Nat} {T : List Nat} (h : DStep s s' g G G' num l l' κ κ' (dk g num (blks (16 * l.length)) κ) T) (hle : l.length ≤ l'.length) (h6 : blks (16 * l'.length) ≤ 6) : s'.In (dk g num (blks (16 * l'.length)) κ') := by
  have hc : blks (16 * l.length) ≤ blks (16 * l'.length) := by unfold blks; omega
  have hs := h.small (by rw [Nat.max_eq_right hc]; exact h6)
  rw [Nat.max_eq_right hc] at hs
  refine h.inn.mono fun x hx => ?_
  rcases List.mem_append.1 hx with hx | hx
  · unfold dk at hx ⊢
    rcases List.mem_cons.1 hx with rfl | hx
    · exact List.mem_cons_self
    · rcases List.mem_cons.1 hx with rfl | hx
      · exact List.mem_cons_of_mem _ List.mem_cons_self
      · obtain ⟨k, hk, rfl⟩ := List.mem_map.1 hx
        obtain ⟨hk1, hk2⟩ := List.mem_filter.1 hk
        have hk3 : prOf (blks (16 * l'.length)) k = true := prOf_true.2 (by have := prOf_true.1 hk2; omega)
        exact List.mem_cons_of_mem _ (List.mem_cons_of_mem _ (List.mem_map.2 ⟨k, List.mem_filter.2 ⟨hk1, hk3⟩, by rw [h.keep k hk2 hk3]⟩))
  · exact hs x hx
def DRes (w w' : World) (i : Ids) (s : Sto) (gg : Nat) (g : GeoN) (lab : Int) (G : GS) (num : Nat) (l l' : List EntV) (κ : Nat → Nat) (K0 : List Nat) : Prop :=
  ∃ s' G' κ' T, GAt w' i s' gg g lab G' ∧ DStep s s' g G G' num l l' κ κ' K0 T ∧ Tch w.heap.size i.own w w'
/-- there was no room -/
def DFull (w w' : World) (i : Ids) (s : Sto) (gg : Nat) (g : GeoN) (lab : Int) (G : GS) (l l' : List EntV) : Prop :=
  g.blocks + nkeys (blks (16 * l.length)) < G.cnt g.blocks + nkeys (blks (16 * l'.length)) ∧ ∃ s' G', GAt w' i s' gg g lab G' ∧ Stay s s' g ∧ Tch w.heap.size i.own w w'
section
variable {w w' : World} {i : Ids} {s : Sto} {gg : Nat} {g : GeoN} {lab : Int} {G : GS} {K0 : List Nat}
theorem one_blk (a : Nat) : blks (16 * a + 16) - 16 * a / 64 = 1 := by unfold blks; omega
theorem dwrite {num at_ z : Nat} {l l' : List EntV} {x : EntV} {κ : Nat → Nat} (h : GAt w i s gg g lab G) (hK0 : s.In K0) (hKl : K0.length ≤ 16) (h1 : 1 ≤ num) (h2 : num ≤ g.nodes) (hb5 : g.blocks ≤ 512) (hd : DirN G g num l κ)
    (hat : at_ ≤ l.length) (hat2 : at_ < 1024) (hlen : l'.length = max l.length (at_ + 1)) (hgd : ∀ e ∈ l', e.Good) (hby : ∀ j, j < 16 * l'.length → over (fun j => (pks l).getD j 0) (16 * at_) (packB x) 16 j = (pks l').getD j 0)
    (hzo : ¬ i.own z) (hZ : Blk w z 235 (bvs (packB x)).toArray) :
    Calls Tryz.prog 33 #[.pointer (some ⟨gg, 0, none⟩), .int .i64 (num : Int), .int .i64 ((16 * at_ : Nat) : Int), .slice (some ⟨z, 0, none⟩) 16 16] w fun e w' =>
      (e = .returned (.int .i64 10) ∧ DFull w w' i s gg g lab G l l') ∨ (e = .returned (.int .i64 0) ∧ DRes w w' i s gg g lab G num l l' κ K0) := by
  have hll := hd.len
  have hpl : (packB x).length = 16 := packB_length x
  have hmax : max (blks (16 * l.length)) (blks (16 * at_ + 16)) = blks (16 * l'.length) := by rw [hlen]; unfold blks; omega
  have hms : max (16 * l.length) (16 * at_ + 16) = 16 * l'.length := by rw [hlen]; omega
  have h1b := one_blk at_
  have hrd := Rd.of_bytes hZ hpl
  have hwr := write_file (num := num) (off := 16 * at_) (cap := 16) (c := blks (16 * l.length)) (sz := 16 * l.length) (κ := κ) (f := fun j => (pks l).getD j 0) (K0 := K0) (data := packB x) (A := some ⟨z, 0, none⟩) h hK0 h1 h2 hb5 (by rw [hd.kind]; decide) hd.size hd.file (by omega) (by omega) (by omega) (by omega) (by rw [hpl]; exact hrd) (fun b hb => by cases hb; exact hzo)
    (by rw [hpl]; omega) (by rw [hpl, h1b]; split <;> omega) (by unfold blks; omega) (fun n' hs hd' => check_dir hs hd.kind hd.links (by rw [hd.size, hpl]; omega) (by rw [hd.size, hpl, hms]; omega))
  rw [hpl, hmax, hms, h1b] at hwr
  refine hwr.mono ?_
  rintro e w' (⟨he, hno, hs⟩ | ⟨he, s', G', κ', k1, k2, k3, k4, k5, k6, k7, k8, k9, k10, k11⟩)
  · exact .inl ⟨he, hno, hs⟩
  · refine .inr ⟨he, s', G', κ', (g.base :: ((tkeys (16 * at_ / 64) 1).filter (prOf (blks (16 * l'.length)))).map fun k => g.data + κ' k) ++ [g.base + g.bitmap + (num - 1) / 2], k1, ⟨⟨k4.trans hd.kind, by rw [k5]; exact hd.links, k3, k2.congr hby, by omega, hgd⟩, k5, k6, k7.mov, k8, ?_, ?_, ?_, k10, fun c hc _ => (k7.old c hc).1⟩, k11⟩
    · unfold KL at k9
      rw [List.append_assoc] at k9
      exact k9
    · have := List.length_filter_le (prOf (blks (16 * l'.length))) (tkeys (16 * at_ / 64) 1)
      have e1 : (tkeys (16 * at_ / 64) 1).length = 5 := rfl
      simp only [List.length_append, List.length_cons, List.length_map, List.length_nil]
      omega
    · intro hsm y hy
      have hle : blks (16 * l.length) ≤ blks (16 * l'.length) := by rw [← hmax]; omega
      rw [Nat.max_eq_right hle] at hsm ⊢
      rcases List.mem_append.1 hy with hy | hy
      · rcases List.mem_cons.1 hy with rfl | hy
        · exact List.mem_cons_self
        · obtain ⟨k, hk, rfl⟩ := List.mem_map.1 hy
          obtain ⟨hk1, hk2⟩ := List.mem_filter.1 hk
          refine List.mem_cons_of_mem _ (List.mem_cons_of_mem _ (List.mem_map.2 ⟨k, List.mem_filter.2 ⟨List.mem_range.2 ?_, hk2⟩, rfl⟩))
          have := prOf_true.1 hk2
          omega
      · rw [List.mem_singleton.1 hy]
        exact List.mem_cons_of_mem _ List.mem_cons_self
theorem dcut {num n : Nat} {l : List EntV} {κ : Nat → Nat} (h : GAt w i s gg g lab G) (hK0 : s.In K0) (hKl : K0.length ≤ 16) (h1 : 1 ≤ num) (h2 : num ≤ g.nodes) (hb5 : g.blocks ≤ 512) (hd : DirN G g num l κ) (hn : n < l.length) :
    Calls Tryz.prog 34 #[.pointer (some ⟨gg, 0, none⟩), .int .i64 (num : Int), .int .i64 ((16 * n : Nat) : Int)] w fun e w' => e = .returned (.int .i64 0) ∧ DRes w w' i s gg g lab G num l (l.take n) κ K0 := by
  have hll := hd.len
  have hln : (l.take n).length = n := by rw [List.length_take]; omega
  have hct := cut_file (num := num) (size := 16 * n) (sz := 16 * l.length) (K0 := K0) h hK0 (by split <;> (try split) <;> omega) h1 h2 hb5 (by rw [hd.kind]; decide) hd.size (by omega) hd.file (by omega)
    (fun n' hs hd' => check_dsize hs hd.kind hd.links (by omega) (by omega))
  refine hct.mono ?_
  rintro e w' ⟨he, s', G', k1, k2, k3, k4, k5, k6, k7, k8, k9, k10, k11⟩
  have hle : blks (16 * n) ≤ blks (16 * l.length) := by unfold blks; omega
  refine ⟨he, s', G', κ, (g.base :: (([256, 257, 258, 259, 260, 261, 262, 263, 264].filter (prOf (blks (16 * l.length)))).map fun k => g.data + κ k) ++ [g.data + κ (16 * n / 64)]) ++ [g.base + g.bitmap + (num - 1) / 2], k1, ⟨⟨k4.trans hd.kind, by rw [k5]; exact hd.links, by rw [hln]; exact k3, by rw [hln]; exact k2.congr (fun j hj => pks_take hj (by omega)), by omega, fun e he => hd.good e (List.mem_of_mem_take he)⟩, k5, k6, ?_, by rw [hln]; exact k8, ?_, ?_, ?_, k10, fun _ _ _ => rfl⟩, k11⟩
  · rw [hln]
    exact k7.mov hd.file.tree (fun c hc => prOf_true.2 (by have := prOf_true.1 hc; omega))
  · unfold cutL at k9
    simp only [List.append_assoc, List.cons_append] at k9 ⊢
    exact k9
  · have := List.length_filter_le (prOf (blks (16 * l.length))) [256, 257, 258, 259, 260, 261, 262, 263, 264]
    simp only [List.length_append, List.length_cons, List.length_map, List.length_nil] at this ⊢
    omega
  · intro hsm y hy
    rw [hln, Nat.max_eq_left hle] at hsm ⊢
    rcases List.mem_append.1 hy with hy | hy
    · rcases List.mem_append.1 hy with hy | hy
      · rcases List.mem_cons.1 hy with rfl | hy
        · exact List.mem_cons_self
        · obtain ⟨k, hk, rfl⟩ := List.mem_map.1 hy
          obtain ⟨hk1, hk2⟩ := List.mem_filter.1 hk
          have h3 := prOf_true.1 hk2
          simp only [List.mem_cons, List.not_mem_nil, or_false] at hk1
          omega
      · rw [List.mem_singleton.1 hy]
        refine List.mem_cons_of_mem _ (List.mem_cons_of_mem _ (List.mem_map.2 ⟨16 * n / 64, List.mem_filter.2 ⟨List.mem_range.2 ?_, prOf_true.2 ?_⟩, rfl⟩)) <;> unfold blks at * <;> omega
    · rw [List.mem_singleton.1 hy]
      exact List.mem_cons_of_mem _ List.mem_cons_self
theorem DRes.before {w0 : World} {num : Nat} {l l' : List EntV} {κ : Nat → Nat} (ht : Tch w0.heap.size i.own w0 w) (h : DRes w w' i s gg g lab G num l l' κ K0) : DRes w0 w' i s gg g lab G num l l' κ K0 := by
  obtain ⟨s', G', κ', T, k1, k2, k3⟩ := h
  exact ⟨s', G', κ', T, k1, k2, ht.trans (k3.mono ht.size fun _ _ h => h)⟩
theorem DFull.before {w0 : World} {l l' : List EntV} (ht : Tch w0.heap.size i.own w0 w) (h : DFull w w' i s gg g lab G l l') : DFull w0 w' i s gg g lab G l l' := by
  obtain ⟨k0, s', G', k1, k2, k3⟩ := h
  exact ⟨k0, s', G', k1, k2, ht.trans (k3.mono ht.size fun _ _ h => h)⟩
theorem DFull.never {l l' : List EntV} (hl : l'.length = l.length) (h : DFull w w' i s gg g lab G l l') : False := by
  have := h.1
  have h2 := cnt_le_ G g.blocks
  rw [hl] at this
  omega
theorem find_at {l : List EntV} {nm : ByteArray} {K : Nat} {e : EntV} (h : l[K]? = some e) (he : named nm e = true) (hno : ∀ j, j < K → ∀ x, l[j]? = some x → named nm x = false) : l.findIdx (named nm) = K := by
  obtain ⟨hK, rfl⟩ := List.getElem?_eq_some_iff.1 h
  rw [List.findIdx_eq hK]
  exact ⟨he, fun j hj => hno j hj _ (List.getElem?_eq_getElem (by omega))⟩
theorem fresh_own {z : Nat} {w0 : World} (h : GAt w0 i s gg g lab G) (hz : w0.heap.size ≤ z) : ¬ i.own z := h.tx.other_new hz
/-- an entry added -/
theorem dadd_ok {num : Nat} {l : List EntV} {nm : ByteArray} {v : UInt16} {κ : Nat → Nat} (h : GAt w i s gg g lab G) (hK0 : s.In K0) (hKl : K0.length ≤ 16) (h1 : 1 ≤ num) (h2 : num ≤ g.nodes) (hb5 : g.blocks ≤ 512) (hd : DirN G g num l κ) (hn : nameErr nm.data.toList = 0) (hv : v ≠ 0) (hno : ∀ e ∈ l, named nm e = false) (hat : addAt l < 1024) :
    Calls Tryz.prog 53 #[.pointer (some ⟨gg, 0, none⟩), .int .i64 (num : Int), .agg #[.string nm, .int .u16 (v.toNat : Int)]] w fun e w' =>
      (e = .returned (.int .i64 10) ∧ DFull w w' i s gg g lab G l (addL l ⟨nm, v⟩)) ∨ (e = .returned (.int .i64 0) ∧ DRes w w' i s gg g lab G num l (addL l ⟨nm, v⟩) κ K0) := by
  have hx : EntV.Good ⟨nm, v⟩ := .inr ⟨hv, hn⟩
  have := dadd_main (R := fun x w' => (x = 10 ∧ DFull w w' i s gg g lab G l (addL l ⟨nm, v⟩)) ∨ (x = 0 ∧ DRes w w' i s gg g lab G num l (addL l ⟨nm, v⟩) κ K0)) h hd.len hd.good (dopens hd h1 h2) hn hv
    (fun ⟨e, he, hne⟩ => by rw [hno e he] at hne; cases hne)
    (fun _ W z hA hT hzw hZ => (dwrite hA hK0 hKl h1 h2 hb5 hd (addAt_le l) hat (addL_length l _) (good_addL hd.good hx) (fun j hj => pks_addL hj) (fresh_own h hzw) hZ).mono fun e w' hr => by
      rcases hr with ⟨rfl, hr⟩ | ⟨rfl, hr⟩
      · exact ⟨10, rfl, .inl ⟨rfl, hr.before hT⟩⟩
      · exact ⟨0, rfl, .inr ⟨rfl, hr.before hT⟩⟩)
  refine this.mono ?_
  rintro e w' ⟨x, rfl, ⟨rfl, hr⟩ | ⟨rfl, hr⟩⟩
  · exact .inl ⟨rfl, hr⟩
  · exact .inr ⟨rfl, hr⟩
/-- an entry dropped -/
theorem ddrop_ok {num K : Nat} {l : List EntV} {nm : ByteArray} {κ : Nat → Nat} {e0 : EntV} (h : GAt w i s gg g lab G) (hK0 : s.In K0) (hKl : K0.length ≤ 16) (h1 : 1 ≤ num) (h2 : num ≤ g.nodes) (hb5 : g.blocks ≤ 512) (hd : DirN G g num l κ) (hK : l[K]? = some e0) (hne : named nm e0 = true) (hno : ∀ j, j < K → ∀ x, l[j]? = some x → named nm x = false) :
    Calls Tryz.prog 55 #[.pointer (some ⟨gg, 0, none⟩), .int .i64 (num : Int), .string nm] w fun e w' => e = .returned (.int .i64 0) ∧ DRes w w' i s gg g lab G num l (dropL l K) κ K0 := by
  have hll := hd.len
  have huniq : ∀ K' e, l[K']? = some e → named nm e = true → (∀ j, j < K' → ∀ x, l[j]? = some x → named nm x = false) → K' = K := fun K' e q1 q2 q3 => (find_at q1 q2 q3).symm.trans (find_at hK hne hno)
  have := ddrop_main (nm := nm) (R := fun x w' => x = 0 ∧ DRes w w' i s gg g lab G num l (dropL l K) κ K0) h hd.len hd.good (dopens hd h1 h2)
    (fun hno' => by rw [hno' e0 (List.mem_of_getElem? hK)] at hne; cases hne)
    (fun K' e q1 q2 q3 hle W hA hT => by
      obtain rfl := huniq K' e q1 q2 q3
      have hlt := (List.getElem?_eq_some_iff.1 q1).1
      have e0 : dropL l K' = l.take (dropEnd l K') := by unfold dropL; rw [if_pos hle]
      rw [e0]
      refine (dcut hA hK0 hKl h1 h2 hb5 hd (by omega)).mono fun e w' hr => ?_
      obtain ⟨rfl, hr⟩ := hr
      exact ⟨0, rfl, rfl, hr.before hT⟩)
    (fun K' e q1 q2 q3 hle W z hA hT hzw hZ => by
      obtain rfl := huniq K' e q1 q2 q3
      have hlt := (List.getElem?_eq_some_iff.1 q1).1
      have e0 : dropL l K' = l.set K' EntV.zero := by unfold dropL; rw [if_neg (by omega)]
      rw [e0]
      refine (dwrite (at_ := K') (l' := l.set K' EntV.zero) hA hK0 hKl h1 h2 hb5 hd (Nat.le_of_lt hlt) (by omega) (by rw [List.length_set]; omega) (good_set hd.good EntV.zero_good) (fun j hj => by rw [List.length_set] at hj; exact pks_set hlt hj) (fresh_own h hzw) hZ).mono fun e w' hr => ?_
      rcases hr with ⟨rfl, hr⟩ | ⟨rfl, hr⟩
      · exact (hr.never (List.length_set ..)).elim
      · exact ⟨0, rfl, rfl, hr.before hT⟩)
  refine this.mono ?_
  rintro e w' ⟨x, rfl, rfl, hr⟩
  exact ⟨rfl, hr⟩
end
end Go.Proofs.YthmkgohfeahdhaaGreat
namespace Go.Proofs.YthmkgohfeahdhaaGreat
open Go.RowKit
set_option linter.unusedSimpArgs false
set_option linter.unusedVariables false

/-- configurations of two labels, the first with more blocks -/
def twoH (a : UInt8) : List UInt8 := [a, 0, 0, 0, 0, 10, 0, 0, 0, 0, 0, 0, 0, 0, 0, 0, 0, 0, 0, 0, 0, 0, 0, 0, 0]
def twoR (a : UInt8) : List RegV := szRegs 0 (twoH a)
theorem build_two (w : World) (a : UInt8) : (Instr.build 26 #[(1, .agg #[.int .u8 (a.toNat : Int), .int .u8 0, .int .u8 0, .int .u8 0, .int .u8 0, .int .u8 10, .int .u8 0, .int .u8 0, .int .u8 0, .int .u8 0, .int .u8 0, .int .u8 0, .int .u8 0, .int .u8 0, .int .u8 0, .int .u8 0, .int .u8 0, .int .u8 0, .int .u8 0, .int .u8 0, .int .u8 0, .int .u8 0, .int .u8 0, .int .u8 0, .int .u8 0])]).run Tryz.prog w = .ok (.agg (szCells 0 (twoH a) none 0 0)) w := by kernel_rfl
theorem two_len (a : UInt8) : (twoR a).length = 2 := rfl
theorem two_reg (a : UInt8) : (twoR a)[0]? = some (szReg 2 (twoH a) 0) := rfl
theorem two_conf (w : World) (a : UInt8) : Calls Tryz.prog 15 #[.agg (szCells 0 (twoH a) none 0 0)] w fun e w' => ∃ (cc : Nat) (K : List MarkV) (tb nb lb : Nat) (A1 A2 A3 : Option Addr) (c1 c2 c3 : Nat), e = .returned (.pointer (some ⟨cc, 0, none⟩)) ∧ Below w.heap.size w w' ∧ ConfIn w.heap.size w' cc (twoR a) K tb nb lb A1 A2 A3 c1 c2 c3 :=
  (size_conf (w := w) (m := 0) (H := twoH a) (A := none) (n := 0) (c := 0) (T := []) rfl (Rd.nil _ _ _ _) (by decide)).mono fun e w' ⟨cc, K, tb, nb, lb, B1, B2, B3, d1, d2, d3, he, hb, hin, _⟩ => ⟨cc, K, tb, nb, lb, B1, B2, B3, d1, d2, d3, he, hb, hin⟩
theorem two_geo {n : Nat} {a : UInt8} {b : Nat} (hF : CfFacts (twoR a) n) (hb : (szReg 2 (twoH a) 0).blocks = (b : Int)) : ∃ v u, (geosOf 32 (twoR a))[0]? = some v ∧ geoN v = u ∧ u.val = .agg v.cells.toArray ∧ u.Ok n ∧ u.blocks = b ∧ u.nodes = 8 := by
  obtain ⟨v, r, hv, hr, hgo, hval, hbl, hnd, -⟩ := hF.geo 0 (by rw [two_len]; omega)
  rw [two_reg] at hr
  cases hr
  have h2 : (szReg 2 (twoH a) 0).nodes = 8 := rfl
  rw [h2] at hnd
  rw [hb] at hbl
  exact ⟨v, _, hv, rfl, hval, hgo, by omega, by omega⟩
theorem two30 : (szReg 2 (twoH 30) 0).blocks = ((38 : Nat) : Int) := by decide +kernel
/-- a fresh group's root -/
theorem fresh_dir (g : GeoN) (κ : Nat → Nat) : DirN GS.fresh g 1 [] κ :=
  ⟨rfl, by decide, rfl, file_empty κ _ rfl (fresh_slot 2), by decide, fun e he => absurd he (by simp)⟩
def entA : EntV := ⟨⟨#[97]⟩, 5⟩
def entB : EntV := ⟨⟨#[98]⟩, 5⟩
def entC : EntV := ⟨⟨#[99]⟩, 5⟩
def entD : EntV := ⟨⟨#[100]⟩, 6⟩
def abc : List EntV := [entA, entB, entC]
theorem abc_name : ∀ (k : Nat) (e : EntV), abc[k]? = some e → nameErr e.name.data.toList = 0 ∧ e.num = 5
  | 0, e, h => by cases h; exact ⟨rfl, rfl⟩
  | 1, e, h => by cases h; exact ⟨rfl, rfl⟩
  | 2, e, h => by cases h; exact ⟨rfl, rfl⟩
  | k + 3, e, h => by simp [abc] at h
theorem abc_add : ∀ (k : Nat) (e : EntV), abc[k]? = some e → (∀ x ∈ abc.take k, named e.name x = false) ∧ addL (abc.take k) e = abc.take (k + 1) ∧ addAt (abc.take k) < 1024
  | 0, e, h => by cases h; exact ⟨by simp, rfl, by decide⟩
  | 1, e, h => by cases h; exact ⟨by decide +kernel, rfl, by decide +kernel⟩
  | 2, e, h => by cases h; exact ⟨by decide +kernel, rfl, by decide +kernel⟩
  | k + 3, e, h => by simp [abc] at h
theorem abc_before : ∀ j, j < 1 → ∀ x, abc[j]? = some x → named ⟨#[98]⟩ x = false := fun j hj x hx => by
  obtain rfl : j = 0 := by omega
  cases hx
  decide +kernel
theorem abc_len (k : Nat) (hk : k ≤ 3) : (abc.take k).length = k := by
  rw [List.length_take]; exact Nat.min_eq_left hk
theorem blks_small {n : Nat} (h : n ≤ 4) : blks (16 * n) ≤ 1 := by unfold blks; omega
theorem nkeys_small {c : Nat} (h : c ≤ 1) : nkeys c = c := by unfold nkeys; rw [if_neg (by omega), if_neg (by omega)]; rfl
theorem fresh_nd' {k : Nat} (h : 4 ≤ k) : GS.fresh.nd k = NodeV.zero := by
  have h1 : k ≠ 1 := by omega
  have h2 : k ≠ 2 := by omega
  have h3 : k ≠ 3 := by omega
  show upd (upd (upd (fun _ => NodeV.zero) 1 (freshN 2)) 2 (freshN 1)) 3 (freshN 1) k = NodeV.zero
  rw [upd_other _ _ h3, upd_other _ _ h2, upd_other _ _ h1]
set_option maxRecDepth 100000 in
set_option maxHeartbeats 4000000 in
theorem awake9_ok (w : World) : Calls Tryz.prog 51 #[] w fun e w' => e = .returned (.bool true) ∧ Below w.heap.size w w' := by
  have hbt := build_two w 30
  rw [show (((30 : UInt8).toNat : Nat) : Int) = 30 from rfl] at hbt
  have HBT := hide hbt
  clear hbt
  go_enter Tryz.func51, Tryz.ntmps51
  go_wp2_with (first | ((with_reducible refine at_build 22 #[(0, .const (.int .u8 30))] ?_); refine wpList_run rfl _ (exec_build 22 #[(0, .const (.int .u8 30))] rfl #[(0, .int .u8 30)] (by simp only [List.map_toArray, List.map_cons, List.map_nil]; rfl) _ (build_five _ _)) ?_) | ((with_reducible refine at_build 22 #[(0, .const (.int .u8 10))] ?_); refine wpList_run rfl _ (exec_build 22 #[(0, .const (.int .u8 10))] rfl #[(0, .int .u8 10)] (by simp only [List.map_toArray, List.map_cons, List.map_nil]; rfl) _ (build_five _ _)) ?_) | ((with_reducible refine at_build 23 #[(0, .tmp 13), (1, .tmp 14)] ?_); refine wpList_run rfl _ (exec_build 23 #[(0, .tmp 13), (1, .tmp 14)] rfl #[(0, .agg #[.int .u8 30, .int .u8 0, .int .u8 0, .int .u8 0, .int .u8 0]), (1, .agg #[.int .u8 10, .int .u8 0, .int .u8 0, .int .u8 0, .int .u8 0])] (by simp only [List.map_toArray, List.map_cons, List.map_nil]; rfl) _ (build_fives _ _ _)) ?_) | ((with_reducible refine at_build 26 #[(1, .tmp 15)] ?_); refine wpList_run rfl _ (exec_build 26 #[(1, .tmp 15)] rfl #[(1, .agg #[.int .u8 30, .int .u8 0, .int .u8 0, .int .u8 0, .int .u8 0, .int .u8 10, .int .u8 0, .int .u8 0, .int .u8 0, .int .u8 0, .int .u8 0, .int .u8 0, .int .u8 0, .int .u8 0, .int .u8 0, .int .u8 0, .int .u8 0, .int .u8 0, .int .u8 0, .int .u8 0, .int .u8 0, .int .u8 0, .int .u8 0, .int .u8 0, .int .u8 0])] (by simp only [List.map_toArray, List.map_cons, List.map_nil]; rfl) _ HBT.out) ?_) | fail)
  refine (two_conf w 30).mono ?_
  rintro e w1 ⟨cc, K, tb, nb, lb, B1, B2, B3, d1, d2, d3, rfl, hb1, hin⟩
  obtain ⟨n, hF⟩ := cf_facts hin.ok (by rw [two_len]; omega)
  obtain ⟨v, u, hv, hu, hval, hgo, hub, hun⟩ := two_geo hF two30
  have hfr := fresh_all (w := w1) hin hF (by rw [two_len]; omega)
  have HC := hide (And.intro hin (And.intro hv (And.intro hu (And.intro hval hb1))))
  have HGO := hide (And.intro hgo (And.intro hub hun))
  have HFR := hide hfr
  clear hin hv hu hval hgo hub hun hfr hb1 hF HBT
  go_wp2_with fail
  refine HFR.out.mono ?_
  rintro e w2 ⟨i, D, rfl, hx, hDn, hall, hown, hll, hb2⟩
  have hin2 := HC.out.1.below hb2
  have hgop := gopen_yes (tt := i.tt) hin2 HC.out.2.1 (by rw [HC.out.2.2.1]; exact HC.out.2.2.2.1)
  rw [HC.out.2.2.1, show ((0 : Nat) : Int) = 0 from rfl] at hgop
  have his := hall 0 v HC.out.2.1
  rw [HC.out.2.2.1] at his
  have HB2 := hide (HC.out.2.2.2.2.trans (hb2.mono HC.out.2.2.2.2.size))
  have HX2 := hide hx
  have HOWN := hide (show ∀ k, i.own k → w.heap.size ≤ k from fun k hk => Nat.le_trans HC.out.2.2.2.2.size (hown k hk))
  have HGP := hide hgop
  have HIS := hide (And.intro his (show u.Ok D.length by rw [hDn]; exact HGO.out.1))
  clear hin2 hgop hb2 hx hown his hall hll hDn HFR
  go_wp2_with fail
  refine HGP.out.mono ?_
  rintro e w3 ⟨gg, rfl, -, hG, hb3⟩
  have HA3 : Hid (GAt w3 i ⟨D, [], 0⟩ gg u 0 GS.fresh) := hide ⟨HX2.out.below hb3, hG, HIS.out.2, HIS.out.1, GS.fresh_ok⟩
  have HB3 := hide (HB2.out.trans (hb3.mono HB2.out.size))
  clear hG hb3 HGP HX2 HIS
  go_upto_region 5 with (fail)
  refine at_world (fun W => ∃ sb, sb = w3.heap.size ∧ Below w3.heap.size w3 W ∧ Blk W sb 9 #[.string ⟨#[97]⟩, .string ⟨#[98]⟩, .string ⟨#[99]⟩]) ⟨_, rfl, (Below.refl _ _).alloc (Nat.le_refl _) _, Blk.new _ _ _⟩ (fun w4 h4 => ?_)
  obtain ⟨sb, hsb, hb4, hS4⟩ := h4
  rw [← hsb]
  have HA4 := hide (HA3.out.below hb4)
  have HB4 := hide (HB3.out.trans (hb4.mono HB3.out.size))
  have HS4 := hide hS4
  have HSO := hide (show ¬ i.own sb from HA3.out.tx.other_new (Nat.le_of_eq hsb.symm))
  have HI4 : Hid (Sto.In ⟨D, [], 0⟩ (dk u 1 (blks (16 * 0)) fun _ => 0) ∧ GS.fresh.cnt 38 = nkeys (blks (16 * 0))) := hide ⟨fun x hx => absurd hx (by simp), by rw [fresh_cnt]; rfl⟩
  have HD4 := hide (fresh_dir u fun _ => 0)
  clear hsb hb4 hS4 HA3 HB3
  go_loopg [8, 32] 3 (fun gh x8 x32 wr => ∃ (k : Nat) (s : Sto) (G : GS) (κ : Nat → Nat), k ≤ 3 ∧ gh = 3 - k ∧ x32 = .int .i64 (k : Int) ∧ Hid (GAt wr i s gg u 0 G) ∧ Hid (DirN G u 1 (abc.take k) κ) ∧ Hid (s.In (dk u 1 (blks (16 * k)) κ) ∧ G.cnt 38 = nkeys (blks (16 * k))) ∧ Hid (Tch w4.heap.size i.own w4 wr) ∧ Hid (Blk wr sb 9 #[.string ⟨#[97]⟩, .string ⟨#[98]⟩, .string ⟨#[99]⟩]))
  case atStart => exact ⟨0, _, GS.fresh, fun _ => 0, Nat.zero_le _, rfl, rfl, HA4, HD4, HI4, hide (Tch.refl _ _ _), HS4⟩
  case round =>
    clear HA4 HD4 HI4
    obtain ⟨k, s, G, κ, hk, hgh, rfl, HA, HD, HI, HT, HS⟩ := hrel
    have HGH := hide hgh
    clear hgh
    rcases Nat.lt_or_ge k 3 with hkl | hkl
    · obtain ⟨e, he⟩ : ∃ e, abc[k]? = some e := ⟨_, List.getElem?_eq_getElem (by show k < 3; exact hkl)⟩
      have hc : wr.cell? ⟨sb, k, none⟩ = some (.string e.name) := by
        have h0 := HS.out.cell k
        rw [h0]
        have : k = 0 ∨ k = 1 ∨ k = 2 := by omega
        rcases this with rfl | rfl | rfl <;> cases he <;> rfl
      have sl := HS.out.lt
      obtain ⟨hn0, hn5⟩ := abc_name k e he
      obtain ⟨hno, hadd, hat⟩ := abc_add k e he
      have hev : (⟨e.name, 5⟩ : EntV) = e := by rw [← hn5]
      have hda := dadd_ok (num := 1) (nm := e.name) (v := 5) HA.out HI.out.1 (Nat.le_trans (dk_length _ _ _ _) (by omega)) (by omega) (by rw [HGO.out.2.2]; omega) (by rw [HGO.out.2.1]; omega) HD.out hn0 (by decide) hno hat
      rw [hev, hadd, show ((1 : Nat) : Int) = 1 from rfl, show (((5 : UInt16).toNat : Nat) : Int) = 5 from rfl] at hda
      have HDA := hide hda
      have t1 : decide ((k : Int) < 3) = true := by simp; omega
      have t1' : (k : Int) < 3 := by omega
      have e64 : IntKind.i64.wrap ((k : Int) + 1) = (k : Int) + 1 := IntWalk.i64_in _ (by omega)
      clear he hn0 hn5 hno hadd hat hev hda
      go_wp2_with fail
      refine HDA.out.mono ?_
      rintro e_ w5 (⟨rfl, hful⟩ | ⟨rfl, s5, G5, κ5, T5, ha5, hst5, ht5⟩)
      · exfalso
        have h1 := hful.1
        rw [HGO.out.2.1, HI.out.2] at h1
        rw [abc_len k (by omega), abc_len (k + 1) (by omega)] at h1
        have q1 := blks_small (n := k + 1) (by omega)
        have q2 := nkeys_small q1
        omega
      · have hi5 : s5.In (dk u 1 (blks (16 * (k + 1))) κ5) ∧ G5.cnt 38 = nkeys (blks (16 * (k + 1))) := by
          have h1 := hst5
          have h2 := h1.cnt
          have e1 := abc_len k (by omega)
          have e2 := abc_len (k + 1) (by omega)
          rw [e1, e2, HGO.out.2.1, HI.out.2] at h2
          have h3 : DStep s s5 u G G5 1 (abc.take k) (abc.take (k + 1)) κ κ5 (dk u 1 (blks (16 * (abc.take k).length)) κ) T5 := by rw [e1]; exact h1
          have h4 := h3.inn' (by omega) (by rw [e2]; have := blks_small (n := k + 1) (by omega); omega)
          rw [e2] at h4
          exact ⟨h4, by omega⟩
        have HA5 := hide ha5
        have HD5 := hide hst5.dir
        have HI5 := hide hi5
        have HT5 := hide (HT.out.trans (ht5.mono HT.out.size fun _ _ h => h))
        have HS5 := hide (HS.out.tch ht5 HS.out.lt HSO.out)
        clear ha5 hst5 hi5 ht5 HDA hc sl HA HD HI HT HS
        go_wp2_with fail
        go_roundg (3 - (k + 1))
        case rel => exact ⟨k + 1, s5, G5, κ5, by omega, rfl, by first | rfl | go_num, HA5, HD5, HI5, HT5, HS5⟩
        case measure => have := HGH.out; omega
    · have hk3 : k = 3 := by omega
      have t1 : decide ((k : Int) < 3) = false := by simp; omega
      have t1' : ¬ (k : Int) < 3 := by omega
      have HK3 := hide hk3
      have HD3 : Hid (DirN G u 1 abc κ) := hide (by have h0 := HD.out; rw [hk3] at h0; exact h0)
      have HI3 : Hid (s.In (dk u 1 (blks (16 * abc.length)) κ) ∧ G.cnt 38 = 1) := hide (by have h0 := HI.out; rw [hk3] at h0; exact ⟨h0.1, h0.2⟩)
      have hdr := ddrop_ok (num := 1) (K := 1) (nm := ⟨#[98]⟩) (e0 := entB) HA.out HI3.out.1 (Nat.le_trans (dk_length _ _ _ _) (by omega)) (by omega) (by rw [HGO.out.2.2]; omega) (by rw [HGO.out.2.1]; omega) HD3.out rfl (by decide +kernel) abc_before
      rw [show dropL abc 1 = [entA, EntV.zero, entC] from rfl, show ((1 : Nat) : Int) = 1 from rfl] at hdr
      have HDR := hide hdr
      clear hk hkl hk3 hdr HD HI
      go_wp2_with fail
      refine HDR.out.mono ?_
      rintro e_ w5 ⟨rfl, s5, G5, κ5, T5, ha5, hst5, ht5⟩
      have hi5 : s5.In (dk u 1 (blks (16 * 3)) κ5) := hst5.inn' (Nat.le_refl _) (by decide)
      have hc5 : G5.cnt 38 = 1 := by
        have h2 := hst5.cnt
        rw [HGO.out.2.1, HI3.out.2] at h2
        have : nkeys (blks (16 * abc.length)) = nkeys (blks (16 * [entA, EntV.zero, entC].length)) := rfl
        omega
      have hda := dadd_ok (num := 1) (nm := ⟨#[100]⟩) (v := 6) ha5 hi5 (Nat.le_trans (dk_length _ _ _ _) (by omega)) (by omega) (by rw [HGO.out.2.2]; omega) (by rw [HGO.out.2.1]; omega) hst5.dir rfl (by decide) (by decide +kernel) (by decide +kernel)
      rw [show addL [entA, EntV.zero, entC] ⟨⟨#[100]⟩, 6⟩ = [entA, entD, entC] from rfl, show ((1 : Nat) : Int) = 1 from rfl, show (((6 : UInt16).toNat : Nat) : Int) = 6 from rfl] at hda
      have HDA := hide hda
      have HC5 := hide hc5
      have HT5 := hide (HT.out.trans (ht5.mono HT.out.size fun _ _ h => h))
      clear ha5 hst5 hi5 ht5 hda hc5 HDR HA HT HD3 HI3 HS
      go_wp2_with fail
      refine HDA.out.mono ?_
      rintro e_ w6 (⟨rfl, hful⟩ | ⟨rfl, s6, G6, κ6, T6, ha6, hst6, ht6⟩)
      · exfalso
        have h1 := hful.1
        rw [HGO.out.2.1, HC5.out] at h1
        revert h1
        decide
      have hls := dlists (i := i) (s := s6) (gg := gg) (lab := 0) hst6.dir (by omega) (by rw [HGO.out.2.2]; omega) w6 ha6
      rw [show live [entA, entD, entC] = [entA, entD, entC] from rfl, show ([entA, entD, entC] : List EntV).length = 3 from rfl, show ((1 : Nat) : Int) = 1 from rfl] at hls
      have HLS := hide hls
      have HT6 := hide (HT5.out.trans (ht6.mono HT5.out.size fun _ _ h => h))
      clear ha6 hst6 ht6 hls HDA HT5
      go_wp2_with fail
      refine HLS.out.mono ?_
      rintro e_ w7 ⟨A7, c7, rfl, hown7, ha7, ht7⟩
      obtain ⟨g7, rfl, hg7, hr7⟩ := ent_range hown7 (by omega)
      have y2 : w7.cell? ⟨g7, 2, none⟩ = some (.string ⟨#[100]⟩) := hr7 1 entD rfl 0 _ rfl
      have y3 : w7.cell? ⟨g7, 3, none⟩ = some (.int .u16 6) := hr7 1 entD rfl 1 _ rfl
      have HT7 := hide (HT6.out.trans (ht7.mono HT6.out.size fun _ _ h => h))
      clear ha7 ht7 hown7 hr7 HLS HT6
      go_wp2_with fail
      go_returns
      exact ⟨rfl, (HB4.out.trans ((HT7.out.mono HB4.out.size (S' := fun _ => False) (fun k hk h => by have := HOWN.out k h; omega)).below fun _ _ h => h))⟩
end Go.Proofs.YthmkgohfeahdhaaGreat
namespace Go.Proofs.YthmkgohfeahdhaaGreat
open Go.RowKit
set_option linter.unusedSimpArgs false
set_option linter.unusedVariables false

def fewNames : List ByteArray := [⟨#[97]⟩, ⟨#[98]⟩, ⟨#[99]⟩, ⟨#[100, 100]⟩, ⟨#[101, 46, 102]⟩, ⟨#[102, 111, 117, 114, 116, 101, 101, 110, 45, 98, 121, 116, 101, 115]⟩, ⟨#[103]⟩, ⟨#[104]⟩]
def DAct.nm (a : DAct) : ByteArray := if a.raw then a.text else fewNames.getD (a.name % 8) ⟨#[]⟩
set_option maxRecDepth 100000 in
set_option maxHeartbeats 1000000 in
theorem actname_ok (a : DAct) (w : World) :
    Calls Tryz.prog 57 #[.agg a.cells.toArray] w fun e w' => e = .returned (.string a.nm) ∧ Below w.heap.size w w' := by
  obtain ⟨ak, an, am, tx, raw⟩ := a
  have hcs : (DAct.cells ⟨ak, an, am, tx, raw⟩).toArray = #[.int .u8 (ak : Int), .int .u8 (an : Int), .int .u16 (am : Int), .string tx, .bool raw] := rfl
  rw [hcs]
  clear hcs
  go_enter Tryz.func57, Tryz.ntmps57
  go_upto_region 1 with (fail)
  refine at_world (fun W => ∃ q, q = w.heap.size ∧ Below w.heap.size w W ∧ Blk W q 136 #[.int .u8 (ak : Int), .int .u8 (an : Int), .int .u16 (am : Int), .string tx, .bool raw]) ⟨_, rfl, (Below.refl _ _).alloc (Nat.le_refl _) _, Blk.new _ _ _⟩ (fun w0 h0 => ?_)
  obtain ⟨q, hq, hb0, hQ0⟩ := h0
  rw [← hq]
  have HB0 := hide hb0
  have q1 := hQ0.cell 1
  have q3 := hQ0.cell 3
  have q4 := hQ0.cell 4
  have ql := hQ0.lt
  have HQ0 := hide hQ0
  clear hq hb0 hQ0
  cases raw with
  | true =>
    go_wp2_with fail
    go_returns
    exact ⟨rfl, HB0.out⟩
  | false =>
    obtain ⟨j, hj, hj8⟩ : ∃ j : Nat, an % 8 = j ∧ j < 8 := ⟨_, rfl, Nat.mod_lt _ (by omega)⟩
    have hm : ((an : Int)).tmod 8 = (j : Int) := by rw [Int.tmod_eq_emod_of_nonneg (by omega)]; omega
    have hnm : DAct.nm ⟨ak, an, am, tx, false⟩ = fewNames.getD j ⟨#[]⟩ := by unfold DAct.nm; rw [if_neg (by simp), hj]
    have HNM := hide hnm
    clear hj hnm
    obtain rfl | rfl | rfl | rfl | rfl | rfl | rfl | rfl : j = 0 ∨ j = 1 ∨ j = 2 ∨ j = 3 ∨ j = 4 ∨ j = 5 ∨ j = 6 ∨ j = 7 := by omega
    all_goals
      clear hj8
      go_wp2_with fail
      go_returns
      exact ⟨by rw [HNM.out]; rfl, Below.trans HB0.out ((Below.refl _ _).alloc HB0.out.size _)⟩
end Go.Proofs.YthmkgohfeahdhaaGreat
namespace Go.Proofs.YthmkgohfeahdhaaGreat
open Go.RowKit
set_option linter.unusedSimpArgs false
set_option linter.unusedVariables false

def zeroH : List UInt8 := List.replicate 25 0
def zeroR : List RegV := szRegs 0 zeroH
theorem zero_len : zeroR.length = 2 := rfl
theorem zero_conf (w : World) : Calls Tryz.prog 15 #[.agg (szCells 0 zeroH none 0 0)] w fun e w' => ∃ (cc : Nat) (K : List MarkV) (tb nb lb : Nat) (A1 A2 A3 : Option Addr) (c1 c2 c3 : Nat), e = .returned (.pointer (some ⟨cc, 0, none⟩)) ∧ Below w.heap.size w w' ∧ ConfIn w.heap.size w' cc zeroR K tb nb lb A1 A2 A3 c1 c2 c3 :=
  (size_conf (w := w) (m := 0) (H := zeroH) (A := none) (n := 0) (c := 0) (T := []) rfl (Rd.nil _ _ _ _) (by decide)).mono fun e w' ⟨cc, K, tb, nb, lb, B1, B2, B3, d1, d2, d3, he, hb, hin, _⟩ => ⟨cc, K, tb, nb, lb, B1, B2, B3, d1, d2, d3, he, hb, hin⟩
theorem zero_ent0 (w : World) : (zeroValue 125).run Tryz.prog w = .ok (.agg EntV.zero.cells.toArray) w := by kernel_rfl
section
variable {w w' : World} {i : Ids} {s : Sto} {gg : Nat} {g : GeoN}
/-- what is left of a fresh group's transaction -/
def FreshR (i : Ids) (gg : Nat) (g : GeoN) (w w' : World) : Prop := ∃ s', GAt w' i s' gg g 0 GS.fresh ∧ Tch w.heap.size i.own w w'
theorem freshR_below {w : World} (a b : World) (h : FreshR i gg g w a) (hb : Below a.heap.size a b) : FreshR i gg g w b := by
  obtain ⟨s', ha, ht⟩ := h
  exact ⟨s', ha.below hb, ht.trans ((Tch.of_below hb).mono ht.size fun _ _ h => h)⟩
/-- what dir.open says of what is no directory -/
def NoDir (i : Ids) (gg : Nat) (g : GeoN) (num x : Int) : Prop := x ≠ 0 ∧ ∀ W s, GAt W i s gg g 0 GS.fresh → Calls Tryz.prog 119 #[.pointer (some ⟨gg, 0, none⟩), .int .i64 num] W fun e w' => e = .returned (.tuple #[.slice none 0 0, .int .i64 x]) ∧ FreshR i gg g W w'
theorem nodir_file {k : Nat} (h2 : k ≤ g.nodes) (hk : k = 2 ∨ k = 3) : NoDir i gg g (k : Int) 5 :=
  ⟨by decide, fun W s h => (dopen_not h (by omega) h2 (by rcases hk with rfl | rfl <;> decide)).mono fun e w' ⟨he, ha, ht⟩ => ⟨by rw [he, if_neg (by rcases hk with rfl | rfl <;> decide)], s, ha, ht⟩⟩
theorem nodir_free {k : Nat} (h2 : k ≤ g.nodes) (hk : 4 ≤ k) : NoDir i gg g (k : Int) 14 :=
  ⟨by decide, fun W s h => (dopen_not h (by omega) h2 (by rw [fresh_nd' hk]; decide)).mono fun e w' ⟨he, ha, ht⟩ => ⟨by rw [he, fresh_nd' hk]; rfl, s, ha, ht⟩⟩
theorem nodir_out {num : Int} (hn : num < 1 ∨ (g.nodes : Int) < num) : NoDir i gg g num 27 :=
  ⟨by decide, fun W s h => (dopen_bad (R := FreshR i gg g W) (by decide) ((gs_node_none h hn).mono fun e w' ⟨he, s', ha, _, ht⟩ => ⟨he, s', ha, ht⟩)).mono fun e w' ⟨he, w1, hr, hb⟩ => ⟨he, freshR_below _ _ hr hb⟩⟩
theorem NoDir.at {num x : Int} (h : NoDir i gg g num x) {w0 W : World} (h0 : FreshR i gg g w0 W) : ∀ W', Below W.heap.size W W' → Calls Tryz.prog 119 #[.pointer (some ⟨gg, 0, none⟩), .int .i64 num] W' fun e w' => e = .returned (.tuple #[.slice none 0 0, .int .i64 x]) ∧ FreshR i gg g w0 w' := fun W' hb => by
  obtain ⟨s, ha, ht⟩ := freshR_below _ _ h0 hb
  refine (h.2 W' s ha).mono ?_
  rintro e w' ⟨he, s', ha', ht'⟩
  exact ⟨he, s', ha', ht.trans (ht'.mono ht.size fun _ _ h => h)⟩
theorem nil_open (w0 W : World) (hb0 : Below w0.heap.size w0 W) (num : Int) : ∀ W', Below W.heap.size W W' → Calls Tryz.prog 119 #[.pointer none, .int .i64 num] W' fun e w' => e = .returned (.tuple #[.slice none 0 0, .int .i64 1]) ∧ Below w0.heap.size w0 w' := fun W' hb =>
  (dopen_bad (R := fun w' => Below W'.heap.size W' w') (by decide) (none_node W' num)).mono fun e w' ⟨he, w1, hr, hb'⟩ => ⟨he, (hb0.trans (hb.mono hb0.size)).trans ((hr.trans (hb'.mono hr.size)).mono (by have := hb0.size; have := hb.size; omega))⟩
end
set_option maxRecDepth 100000 in
set_option maxHeartbeats 8000000 in
theorem dnone_all (w : World) (num : Int) (a : DAct) (ha : a.Ok) :
    Calls Tryz.prog 10 #[.int .i64 num, .agg a.cells.toArray] w fun e w' => e = .returned (.bool true) ∧ Below w.heap.size w w' := by
  have hname := actname_ok a
  obtain ⟨nm, hnm⟩ : ∃ nm, a.nm = nm := ⟨_, rfl⟩
  rw [hnm] at hname
  obtain ⟨am, ham⟩ : ∃ am, a.num = am := ⟨_, rfl⟩
  have hcell : a.cells.toArray[2]? = some (.int .u16 (am : Int)) := by rw [← ham]; rfl
  have hsz : (Tryz.prog.info? 136).map (·.size) = some a.cells.toArray.size := by
    have : (Tryz.prog.info? 136).map (·.size) = some 5 := by kernel_rfl
    rw [this]; rfl
  obtain ⟨ac, hac⟩ : ∃ ac, a.cells.toArray = ac := ⟨_, rfl⟩
  rw [hac] at hname hcell hsz ⊢
  have HNAME := hide hname
  have HCELL := hide (And.intro hcell hsz)
  clear hname hnm ham hcell hsz hac ha a
  go_enter Tryz.func10, Tryz.ntmps10
  go_upto_region 1 with (fail)
  refine at_world (fun W => ∃ q, q = w.heap.size ∧ Below w.heap.size w W ∧ Blk W q 136 ac) ⟨_, rfl, (Below.refl _ _).alloc (Nat.le_refl _) _, Blk.new _ _ _⟩ (fun w0 h0 => ?_)
  obtain ⟨q, hq, hb0, hQ0⟩ := h0
  rw [← hq]
  have HB0 := hide hb0
  have HQ0 := hide hQ0
  clear hq hb0 hQ0
  go_wp2_with fail
  refine (awake9_ok w0).mono ?_
  rintro e w1 ⟨rfl, hb1⟩
  have HQ1 := hide (HQ0.out.below hb1 HQ0.out.lt)
  have HB1 := hide (HB0.out.trans (hb1.mono HB0.out.size))
  clear hb1 HB0 HQ0
  go_wp2_with (first | ((with_reducible refine at_build 26 #[] ?_); refine wpList_zero_as rfl 26 rfl _ (build_size _) ?_) | fail)
  refine (zero_conf w1).mono ?_
  rintro e w2 ⟨cc, K, tb, nb, lb, B1, B2, B3, d1, d2, d3, rfl, hb2, hin⟩
  have hb12 : Below w.heap.size w w2 := HB1.out.trans (hb2.mono HB1.out.size)
  have HQ2 := hide (HQ1.out.below hb2 HQ1.out.lt)
  obtain ⟨nn, hF⟩ := cf_facts hin.ok (by rw [zero_len]; omega)
  obtain ⟨v, r, hv, hr, hgo, hval, hbl, hnd, -⟩ := hF.geo 0 (by rw [zero_len]; omega)
  have hfr := fresh_all (w := w2) hin hF (by rw [zero_len]; omega)
  have hreg := fun W (hW : ConfIn w1.heap.size W cc zeroR K tb nb lb B1 B2 B3 d1 d2 d3) => reg_ok hW hr
  rw [← hnd, show ((0 : Nat) : Int) = 0 from rfl] at hreg
  obtain ⟨u, hu⟩ : ∃ u, geoN v = u := ⟨_, rfl⟩
  have hnod : u.nodes = 8 := by
    have h0 : zeroR[0]? = some (szReg 2 zeroH 0) := rfl
    rw [h0] at hr
    cases hr
    have h2 : (szReg 2 zeroH 0).nodes = 8 := rfl
    rw [h2, hu] at hnd
    omega
  rw [hu] at hreg hgo
  have HC := hide (And.intro hin (And.intro hv (And.intro hu (And.intro hval hb12))))
  have HGO := hide (And.intro hgo hnod)
  have HFR := hide hfr
  have HREG := hide hreg
  clear hin hv hu hval hgo hbl hnd hnod hfr hb12 hF hb2 HB1 hreg hr HQ1
  go_wp2_with fail
  refine HFR.out.mono ?_
  rintro e w3 ⟨i, D, rfl, hx, hDn, hall, hown, hll, hb3⟩
  have his := hall 0 v HC.out.2.1
  rw [HC.out.2.2.1] at his
  have HX3 := hide hx
  have HW23 := hide hb3
  have HQ3 := hide (HQ2.out.below hb3 HQ2.out.lt)
  have HOWN := hide (show ∀ k, i.own k → w2.heap.size ≤ k from hown)
  have HIS := hide (And.intro his (show u.Ok D.length by rw [hDn]; exact HGO.out.1))
  have hop := gopen_yes (tt := i.tt) (HC.out.1.below HW23.out) HC.out.2.1 HC.out.2.2.2.1
  rw [HC.out.2.2.1, show ((0 : Nat) : Int) = 0 from rfl] at hop
  have HOP := hide hop
  have HQO := hide (show ¬ i.own q from fun h => by have := HOWN.out q h; have := HQ2.out.lt; omega)
  clear hb3 hx hown his hall hll hDn HFR hop HQ2
  go_wp2_with fail
  refine HOP.out.mono ?_
  rintro e w4 ⟨gg, rfl, hgg, hG, hb4⟩
  have HA4 : Hid (GAt w4 i ⟨D, [], 0⟩ gg u 0 GS.fresh) := hide ⟨HX3.out.below hb4, hG, HIS.out.2, HIS.out.1, GS.fresh_ok⟩
  have HW24 := hide (HW23.out.trans (hb4.mono HW23.out.size))
  have HIN4 := hide (HC.out.1.below HW24.out)
  have HQ4 := hide (HQ3.out.below hb4 HQ3.out.lt)
  clear hG hb4 HX3 hgg HQ3 HOP
  go_wp2_with fail
  refine (HREG.out w4 HIN4.out).mono ?_
  rintro e w5 ⟨rfl, hb5⟩
  have HA5 := hide (HA4.out.below hb5)
  have HW25 := hide (HW24.out.trans (hb5.mono HW24.out.size))
  have HQ5 := hide (HQ4.out.below hb5 HQ4.out.lt)
  clear hb5 HA4 HW24 HIN4 HREG HQ4
  go_upto_region 7 with (fail)
  refine at_world (fun W => ∃ rg, rg = w5.heap.size ∧ rg < W.heap.size ∧ W.cell? ⟨rg, 4, none⟩ = some (.int .i64 (u.nodes : Int)) ∧ Below w5.heap.size w5 W) ⟨_, rfl, by simp, (Blk.new w5 _ _).cell 4, (Below.refl _ _).alloc (Nat.le_refl _) _⟩ (fun w6 h6 => ?_)
  obtain ⟨rg, hrg, rgl, y4, hb6⟩ := h6
  rw [← hrg]
  have HA6 := hide (HA5.out.below hb6)
  have HW26 := hide (HW25.out.trans (hb6.mono HW25.out.size))
  have HB6 := hide (HC.out.2.2.2.2.trans (HW26.out.mono HC.out.2.2.2.2.size))
  have HQ6 := hide (HQ5.out.below hb6 HQ5.out.lt)
  have HOWZ := hide (show ∀ k, i.own k → w.heap.size ≤ k from fun k hk => by have := HOWN.out k hk; have := HC.out.2.2.2.2.size; omega)
  have hn8 := HGO.out.2
  rw [hn8] at y4
  have HN8 := hide hn8
  clear hrg hb6 HA5 HW25 HQ5 hn8 HOWN HW26 HIS HW23 HC HGO
  have hcase : num = 1 ∨ num = 2 ∨ num = 3 ∨ (3 < num ∧ num ≤ 8) ∨ num < 1 ∨ 8 < num := by omega
  rcases hcase with rfl | rfl | rfl | h | h | h
  · go_wp2
    go_returns
    exact ⟨rfl, HB6.out⟩
  · have t0 : True := trivial
    have HG := hide (show NoDir i gg u 2 5 from nodir_file (k := 2) (by rw [HN8.out]; omega) (.inl rfl))
    go_upto_region 14 with (fail)
    clear y4 rgl t0
    go_cut [14] from 63 to 68 (fun x14 wc => ∃ g, x14 = .pointer (some ⟨g, 0, none⟩) ∧ Hid (Below w6.heap.size w6 wc ∧ w6.heap.size ≤ g) ∧ Hid (Blk wc g 125 #[.string nm, .int .u16 (am : Int)]))
    case first =>
      refine wp_region_tree (.q 0 (.q 2 (.q 3 (.br 1 (.q 4 (.x 5 (.x 6 .nil))) 5 (.x 1 (.q 4 (.x 6 .nil))))))) (fun W => Below w6.heap.size w6 W) (by kernel_rfl) (by kernel_rfl) (Below.refl _ _).drew ?_
      refine wpT_q (v := .agg ac) (by simp only [List.getElem?_toArray, List.getElem?_cons_succ, List.getElem?_cons_zero]; try rfl) (by rfl) (fun W hW => exec_load_blk 136 (.tmp 3) rfl q _ ac _ rfl (HQ6.out.below hW HQ6.out.lt) Tryz.underlying136 rfl HCELL.out.2) ?_
      try simp only [Act.put, List.setIfInBounds_toArray, List.set_cons_zero, List.set_cons_succ]
      iterate 2 (refine wpT_q (v := ?_) (by simp only [List.getElem?_toArray, List.getElem?_cons_succ, List.getElem?_cons_zero]; try rfl) (by rfl) (fun W hW => ?_) ?_; rotate_left; (focus ((have c2 := ((HQ6.out.below hW HQ6.out.lt).cell 2).trans HCELL.out.1; have cl := (HQ6.out.below hW HQ6.out.lt).lt; go_simp); try with_reducible rfl)); try simp only [Act.put, List.setIfInBounds_toArray, List.set_cons_zero, List.set_cons_succ])
      refine wpT_br ?_ ?_
      · refine wpT_x (by simp only [List.getElem?_toArray, List.getElem?_cons_succ, List.getElem?_cons_zero]; try rfl) (by rfl) (fun K hK => ?_)
        go_simp
        refine (HNAME.out _).mono ?_
        rintro e w7 ⟨rfl, hb7⟩
        have hb7 : Below w6.heap.size w6 w7 := (Below.refl _ _).drew.trans hb7
        refine hK _ _ _ (fun _ h => h) hb7 ?_
        clear hK K
        try simp only [Act.put, List.setIfInBounds_toArray, List.set_cons_zero, List.set_cons_succ]
        iterate 1 (refine wpT_q (v := ?_) (by simp only [List.getElem?_toArray, List.getElem?_cons_succ, List.getElem?_cons_zero]; try rfl) (by rfl) (fun W hW => ?_) ?_; rotate_left; (focus ((go_simp); try with_reducible rfl)); try simp only [Act.put, List.setIfInBounds_toArray, List.set_cons_zero, List.set_cons_succ])
        refine wpT_x (by simp only [List.getElem?_toArray, List.getElem?_cons_succ, List.getElem?_cons_zero]; try rfl) (by rfl) (fun K hK => ?_)
        refine wp_alloc_as 125 rfl _ (zero_ent0 _) ?_
        have hb8 : Below w6.heap.size w6 (w7.alloc (.cells EntV.zero.cells.toArray 125)) := hb7.alloc hb7.size _
        refine hK _ _ _ (fun _ h => h) hb8 ?_
        clear hK K
        try simp only [Act.put, List.setIfInBounds_toArray, List.set_cons_zero, List.set_cons_succ]
        refine wpT_x (by simp only [List.getElem?_toArray, List.getElem?_cons_succ, List.getElem?_cons_zero]; try rfl) (by rfl) (fun K hK => ?_)
        refine wp_store_blk 125 (.tmp 14) (.tmp 67) rfl w7.heap.size 125 _ _ (by rfl) (by rfl) (Blk.new _ _ _) (by exact size_ent) (by simp [EntV.cells]) (by simp [Value.oneCell']) (fun hG => ?_)
        have hb9 : Below w6.heap.size w6 ((w7.alloc (.cells EntV.zero.cells.toArray 125)).setRow w7.heap.size #[.string nm, .int .u16 (am : Int)]) := below_setRow hb8 hb7.size _
        refine hK _ _ _ (fun _ h => h) hb9 ?_
        have HF := hide (And.intro hb9 hb7.size)
        have HG9 := hide hG
        clear hK K hb7 hb8 hb9 hG
        try simp only [Act.put, List.setIfInBounds_toArray, List.set_cons_zero, List.set_cons_succ]
        refine wpT_nil ?_
        go_wp2
        go_meet
        case rel => exact ⟨_, rfl, HF, HG9⟩
      · refine wpT_x (by simp only [List.getElem?_toArray, List.getElem?_cons_succ, List.getElem?_cons_zero]; try rfl) (by rfl) (fun K hK => ?_)
        refine wp_alloc_as 125 rfl _ (zero_ent0 _) ?_
        have hb7 : Below w6.heap.size w6 (w6.drew.alloc (.cells EntV.zero.cells.toArray 125)) := (Below.refl _ _).drew.alloc (Nat.le_refl _) _
        have hG1 := Blk.new w6.drew 125 EntV.zero.cells.toArray
        refine hK _ _ _ (fun _ h => h) hb7 ?_
        clear hK K
        try simp only [Act.put, List.setIfInBounds_toArray, List.set_cons_zero, List.set_cons_succ]
        refine wpT_x (by simp only [List.getElem?_toArray, List.getElem?_cons_succ, List.getElem?_cons_zero]; try rfl) (by rfl) (fun K hK => ?_)
        go_simp
        refine (HNAME.out _).mono ?_
        rintro e w7 ⟨rfl, hb8⟩
        have hG2 := hG1.below hb8 hG1.lt
        have hb8 : Below w6.heap.size w6 w7 := hb7.trans (hb8.mono hb7.size)
        refine hK _ _ _ (fun _ h => h) hb8 ?_
        clear hK K
        try simp only [Act.put, List.setIfInBounds_toArray, List.set_cons_zero, List.set_cons_succ]
        iterate 1 (refine wpT_q (v := ?_) (by simp only [List.getElem?_toArray, List.getElem?_cons_succ, List.getElem?_cons_zero]; try rfl) (by rfl) (fun W hW => ?_) ?_; rotate_left; (focus ((go_simp); try with_reducible rfl)); try simp only [Act.put, List.setIfInBounds_toArray, List.set_cons_zero, List.set_cons_succ])
        refine wpT_x (by simp only [List.getElem?_toArray, List.getElem?_cons_succ, List.getElem?_cons_zero]; try rfl) (by rfl) (fun K hK => ?_)
        refine wp_store_blk 125 (.tmp 14) (.tmp 67) rfl w6.heap.size 125 _ _ (by rfl) (by rfl) hG2 (by exact size_ent) (by simp [EntV.zero, EntV.cells]) (by simp [Value.oneCell']) (fun hG => ?_)
        have hb9 : Below w6.heap.size w6 (w7.setRow w6.heap.size #[.string nm, .int .u16 (am : Int)]) := below_setRow hb8 (Nat.le_refl _) _
        refine hK _ _ _ (fun _ h => h) hb9 ?_
        have HF := hide (And.intro hb9 (Nat.le_refl w6.heap.size))
        have HG9 := hide hG
        clear hK K hb7 hb8 hb9 hG hG1 hG2
        try simp only [Act.put, List.setIfInBounds_toArray, List.set_cons_zero, List.set_cons_succ]
        refine wpT_nil ?_
        go_wp2
        go_meet
        case rel => exact ⟨_, rfl, HF, HG9⟩
    case rest =>
      obtain ⟨g, rfl, HBC, HE⟩ := hcut
      rename_i wc
      have HF7 : Hid (FreshR i gg u wc wc) := hide ⟨_, HA6.out.below HBC.out.1, Tch.refl _ _ _⟩
      have HBW := hide (HB6.out.trans (HBC.out.1.mono HB6.out.size))
      have HEF := hide (show ∀ W, FreshR i gg u wc W → Blk W g 125 #[.string nm, .int .u16 (am : Int)] from fun W ⟨s', ha, ht⟩ => HE.out.tch ht HE.out.lt (HA6.out.tx.other_new HBC.out.2))
      have HOP := hide (fun W (h : FreshR i gg u wc W) => HG.out.at h)
      have HLS := hide (fun W (h : FreshR i gg u wc W) W' (hb : Below W.heap.size W W') => dlist_bad (R := FreshR i gg u wc) HG.out.1 freshR_below (HG.out.at (freshR_below _ _ h hb)))
      go_wp2_with fail
      refine (dlist_bad (R := FreshR i gg u wc) HG.out.1 freshR_below (HOP.out wc HF7.out)).mono ?_
      rintro e w8 ⟨rfl, hf8⟩
      have HF8 := hide hf8
      clear hf8 HF7
      have hE8 := HEF.out w8 HF8.out
      have e0 := hE8.cell 0
      have e1 := hE8.cell 1
      have el := hE8.lt
      go_wp2_with fail
      refine (dfind_bad (R := FreshR i gg u wc) HG.out.1 freshR_below (HLS.out w8 HF8.out)).mono ?_
      rintro e w9 ⟨rfl, hf9⟩
      have HF9 := hide hf9
      clear e0 e1 el hE8 hf9 HF8
      go_wp2_with fail
      refine (dempty_bad (R := FreshR i gg u wc) HG.out.1 freshR_below (HLS.out w9 HF9.out)).mono ?_
      rintro e w10 ⟨rfl, hf10⟩
      have HF10 := hide hf10
      clear hf10 HF9
      go_wp2_with fail
      refine (dlist_bad (R := fun W => Below w10.heap.size w10 W) (by decide) (fun a b h hb => h.trans (hb.mono h.size)) (nil_open w10 w10 (Below.refl _ _) _)).mono ?_
      rintro e w11 ⟨rfl, hb11⟩
      have HF11 := hide (freshR_below _ _ HF10.out hb11)
      clear hb11 HF10
      have hE11 := HEF.out w11 HF11.out
      have e0 := hE11.cell 0
      have e1 := hE11.cell 1
      have el := hE11.lt
      go_wp2_with (first | ((with_reducible refine at_load 125 (.tmp 14) ?_); refine wpList_take (by kernel_rfl) ?_; refine wpList_load_blk rfl 125 (.tmp 14) rfl g _ _ _ (by rfl) hE11 Tryz.underlying125 rfl (by exact size_ent) ?_) | fail)
      refine (dadd_bad (R := FreshR i gg u wc) HG.out.1 freshR_below (HOP.out w11 HF11.out)).mono ?_
      rintro e w12 ⟨rfl, hf12⟩
      have HF12 := hide hf12
      clear e0 e1 el hE11 hf12 HF11
      have hE12 := HEF.out w12 HF12.out
      have e0 := hE12.cell 0
      have e1 := hE12.cell 1
      have el := hE12.lt
      go_wp2_with (first | ((with_reducible refine at_load 125 (.tmp 14) ?_); refine wpList_take (by kernel_rfl) ?_; refine wpList_load_blk rfl 125 (.tmp 14) rfl g _ _ _ (by rfl) hE12 Tryz.underlying125 rfl (by exact size_ent) ?_) | fail)
      refine (ddrop_bad (R := FreshR i gg u wc) HG.out.1 freshR_below (HOP.out w12 HF12.out)).mono ?_
      rintro e w13 ⟨rfl, hf13⟩
      have HF13 := hide hf13
      clear e0 e1 el hE12 hf13 HF12
      have hE13 := HEF.out w13 HF13.out
      have e0 := hE13.cell 0
      have e1 := hE13.cell 1
      have el := hE13.lt
      go_wp2_with (first | ((with_reducible refine at_load 125 (.tmp 14) ?_); refine wpList_take (by kernel_rfl) ?_; refine wpList_load_blk rfl 125 (.tmp 14) rfl g _ _ _ (by rfl) hE13 Tryz.underlying125 rfl (by exact size_ent) ?_) | fail)
      refine (dturn_bad (R := FreshR i gg u wc) HG.out.1 freshR_below (HOP.out w13 HF13.out)).mono ?_
      rintro e w14 ⟨rfl, hf14⟩
      have HF14 := hide hf14
      clear e0 e1 el hE13 hf14 HF13
      have hE14 := HEF.out w14 HF14.out
      have e0 := hE14.cell 0
      have e1 := hE14.cell 1
      have el := hE14.lt
      go_wp2_with (first | ((with_reducible refine at_load 125 (.tmp 14) ?_); refine wpList_take (by kernel_rfl) ?_; refine wpList_load_blk rfl 125 (.tmp 14) rfl g _ _ _ (by rfl) hE14 Tryz.underlying125 rfl (by exact size_ent) ?_) | fail)
      refine (dadd_bad (R := fun W => Below w14.heap.size w14 W) (by decide) (fun a b h hb => h.trans (hb.mono h.size)) (nil_open w14 w14 (Below.refl _ _) _)).mono ?_
      rintro e w15 ⟨rfl, hb15⟩
      have HF15 := hide (freshR_below _ _ HF14.out hb15)
      clear e0 e1 el hE14 hb15 HF14
      go_wp2_with fail
      go_returns
      obtain ⟨s', ha, ht⟩ := HF15.out
      exact ⟨rfl, HBW.out.trans ((ht.mono HBW.out.size (S' := fun _ => False) (fun k hk h => by have := HOWZ.out k h; omega)).below fun _ _ h => h)⟩
  · have t0 : True := trivial
    have HG := hide (show NoDir i gg u 3 5 from nodir_file (k := 3) (by rw [HN8.out]; omega) (.inr rfl))
    go_upto_region 14 with (fail)
    clear y4 rgl t0
    go_cut [14] from 63 to 68 (fun x14 wc => ∃ g, x14 = .pointer (some ⟨g, 0, none⟩) ∧ Hid (Below w6.heap.size w6 wc ∧ w6.heap.size ≤ g) ∧ Hid (Blk wc g 125 #[.string nm, .int .u16 (am : Int)]))
    case first =>
      refine wp_region_tree (.q 0 (.q 2 (.q 3 (.br 1 (.q 4 (.x 5 (.x 6 .nil))) 5 (.x 1 (.q 4 (.x 6 .nil))))))) (fun W => Below w6.heap.size w6 W) (by kernel_rfl) (by kernel_rfl) (Below.refl _ _).drew ?_
      refine wpT_q (v := .agg ac) (by simp only [List.getElem?_toArray, List.getElem?_cons_succ, List.getElem?_cons_zero]; try rfl) (by rfl) (fun W hW => exec_load_blk 136 (.tmp 3) rfl q _ ac _ rfl (HQ6.out.below hW HQ6.out.lt) Tryz.underlying136 rfl HCELL.out.2) ?_
      try simp only [Act.put, List.setIfInBounds_toArray, List.set_cons_zero, List.set_cons_succ]
      iterate 2 (refine wpT_q (v := ?_) (by simp only [List.getElem?_toArray, List.getElem?_cons_succ, List.getElem?_cons_zero]; try rfl) (by rfl) (fun W hW => ?_) ?_; rotate_left; (focus ((have c2 := ((HQ6.out.below hW HQ6.out.lt).cell 2).trans HCELL.out.1; have cl := (HQ6.out.below hW HQ6.out.lt).lt; go_simp); try with_reducible rfl)); try simp only [Act.put, List.setIfInBounds_toArray, List.set_cons_zero, List.set_cons_succ])
      refine wpT_br ?_ ?_
      · refine wpT_x (by simp only [List.getElem?_toArray, List.getElem?_cons_succ, List.getElem?_cons_zero]; try rfl) (by rfl) (fun K hK => ?_)
        go_simp
        refine (HNAME.out _).mono ?_
        rintro e w7 ⟨rfl, hb7⟩
        have hb7 : Below w6.heap.size w6 w7 := (Below.refl _ _).drew.trans hb7
        refine hK _ _ _ (fun _ h => h) hb7 ?_
        clear hK K
        try simp only [Act.put, List.setIfInBounds_toArray, List.set_cons_zero, List.set_cons_succ]
        iterate 1 (refine wpT_q (v := ?_) (by simp only [List.getElem?_toArray, List.getElem?_cons_succ, List.getElem?_cons_zero]; try rfl) (by rfl) (fun W hW => ?_) ?_; rotate_left; (focus ((go_simp); try with_reducible rfl)); try simp only [Act.put, List.setIfInBounds_toArray, List.set_cons_zero, List.set_cons_succ])
        refine wpT_x (by simp only [List.getElem?_toArray, List.getElem?_cons_succ, List.getElem?_cons_zero]; try rfl) (by rfl) (fun K hK => ?_)
        refine wp_alloc_as 125 rfl _ (zero_ent0 _) ?_
        have hb8 : Below w6.heap.size w6 (w7.alloc (.cells EntV.zero.cells.toArray 125)) := hb7.alloc hb7.size _
        refine hK _ _ _ (fun _ h => h) hb8 ?_
        clear hK K
        try simp only [Act.put, List.setIfInBounds_toArray, List.set_cons_zero, List.set_cons_succ]
        refine wpT_x (by simp only [List.getElem?_toArray, List.getElem?_cons_succ, List.getElem?_cons_zero]; try rfl) (by rfl) (fun K hK => ?_)
        refine wp_store_blk 125 (.tmp 14) (.tmp 67) rfl w7.heap.size 125 _ _ (by rfl) (by rfl) (Blk.new _ _ _) (by exact size_ent) (by simp [EntV.cells]) (by simp [Value.oneCell']) (fun hG => ?_)
        have hb9 : Below w6.heap.size w6 ((w7.alloc (.cells EntV.zero.cells.toArray 125)).setRow w7.heap.size #[.string nm, .int .u16 (am : Int)]) := below_setRow hb8 hb7.size _
        refine hK _ _ _ (fun _ h => h) hb9 ?_
        have HF := hide (And.intro hb9 hb7.size)
        have HG9 := hide hG
        clear hK K hb7 hb8 hb9 hG
        try simp only [Act.put, List.setIfInBounds_toArray, List.set_cons_zero, List.set_cons_succ]
        refine wpT_nil ?_
        go_wp2
        go_meet
        case rel => exact ⟨_, rfl, HF, HG9⟩
      · refine wpT_x (by simp only [List.getElem?_toArray, List.getElem?_cons_succ, List.getElem?_cons_zero]; try rfl) (by rfl) (fun K hK => ?_)
        refine wp_alloc_as 125 rfl _ (zero_ent0 _) ?_
        have hb7 : Below w6.heap.size w6 (w6.drew.alloc (.cells EntV.zero.cells.toArray 125)) := (Below.refl _ _).drew.alloc (Nat.le_refl _) _
        have hG1 := Blk.new w6.drew 125 EntV.zero.cells.toArray
        refine hK _ _ _ (fun _ h => h) hb7 ?_
        clear hK K
        try simp only [Act.put, List.setIfInBounds_toArray, List.set_cons_zero, List.set_cons_succ]
        refine wpT_x (by simp only [List.getElem?_toArray, List.getElem?_cons_succ, List.getElem?_cons_zero]; try rfl) (by rfl) (fun K hK => ?_)
        go_simp
        refine (HNAME.out _).mono ?_
        rintro e w7 ⟨rfl, hb8⟩
        have hG2 := hG1.below hb8 hG1.lt
        have hb8 : Below w6.heap.size w6 w7 := hb7.trans (hb8.mono hb7.size)
        refine hK _ _ _ (fun _ h => h) hb8 ?_
        clear hK K
        try simp only [Act.put, List.setIfInBounds_toArray, List.set_cons_zero, List.set_cons_succ]
        iterate 1 (refine wpT_q (v := ?_) (by simp only [List.getElem?_toArray, List.getElem?_cons_succ, List.getElem?_cons_zero]; try rfl) (by rfl) (fun W hW => ?_) ?_; rotate_left; (focus ((go_simp); try with_reducible rfl)); try simp only [Act.put, List.setIfInBounds_toArray, List.set_cons_zero, List.set_cons_succ])
        refine wpT_x (by simp only [List.getElem?_toArray, List.getElem?_cons_succ, List.getElem?_cons_zero]; try rfl) (by rfl) (fun K hK => ?_)
        refine wp_store_blk 125 (.tmp 14) (.tmp 67) rfl w6.heap.size 125 _ _ (by rfl) (by rfl) hG2 (by exact size_ent) (by simp [EntV.zero, EntV.cells]) (by simp [Value.oneCell']) (fun hG => ?_)
        have hb9 : Below w6.heap.size w6 (w7.setRow w6.heap.size #[.string nm, .int .u16 (am : Int)]) := below_setRow hb8 (Nat.le_refl _) _
        refine hK _ _ _ (fun _ h => h) hb9 ?_
        have HF := hide (And.intro hb9 (Nat.le_refl w6.heap.size))
        have HG9 := hide hG
        clear hK K hb7 hb8 hb9 hG hG1 hG2
        try simp only [Act.put, List.setIfInBounds_toArray, List.set_cons_zero, List.set_cons_succ]
        refine wpT_nil ?_
        go_wp2
        go_meet
        case rel => exact ⟨_, rfl, HF, HG9⟩
    case rest =>
      obtain ⟨g, rfl, HBC, HE⟩ := hcut
      rename_i wc
      have HF7 : Hid (FreshR i gg u wc wc) := hide ⟨_, HA6.out.below HBC.out.1, Tch.refl _ _ _⟩
      have HBW := hide (HB6.out.trans (HBC.out.1.mono HB6.out.size))
      have HEF := hide (show ∀ W, FreshR i gg u wc W → Blk W g 125 #[.string nm, .int .u16 (am : Int)] from fun W ⟨s', ha, ht⟩ => HE.out.tch ht HE.out.lt (HA6.out.tx.other_new HBC.out.2))
      have HOP := hide (fun W (h : FreshR i gg u wc W) => HG.out.at h)
      have HLS := hide (fun W (h : FreshR i gg u wc W) W' (hb : Below W.heap.size W W') => dlist_bad (R := FreshR i gg u wc) HG.out.1 freshR_below (HG.out.at (freshR_below _ _ h hb)))
      go_wp2_with fail
      refine (dlist_bad (R := FreshR i gg u wc) HG.out.1 freshR_below (HOP.out wc HF7.out)).mono ?_
      rintro e w8 ⟨rfl, hf8⟩
      have HF8 := hide hf8
      clear hf8 HF7
      have hE8 := HEF.out w8 HF8.out
      have e0 := hE8.cell 0
      have e1 := hE8.cell 1
      have el := hE8.lt
      go_wp2_with fail
      refine (dfind_bad (R := FreshR i gg u wc) HG.out.1 freshR_below (HLS.out w8 HF8.out)).mono ?_
      rintro e w9 ⟨rfl, hf9⟩
      have HF9 := hide hf9
      clear e0 e1 el hE8 hf9 HF8
      go_wp2_with fail
      refine (dempty_bad (R := FreshR i gg u wc) HG.out.1 freshR_below (HLS.out w9 HF9.out)).mono ?_
      rintro e w10 ⟨rfl, hf10⟩
      have HF10 := hide hf10
      clear hf10 HF9
      go_wp2_with fail
      refine (dlist_bad (R := fun W => Below w10.heap.size w10 W) (by decide) (fun a b h hb => h.trans (hb.mono h.size)) (nil_open w10 w10 (Below.refl _ _) _)).mono ?_
      rintro e w11 ⟨rfl, hb11⟩
      have HF11 := hide (freshR_below _ _ HF10.out hb11)
      clear hb11 HF10
      have hE11 := HEF.out w11 HF11.out
      have e0 := hE11.cell 0
      have e1 := hE11.cell 1
      have el := hE11.lt
      go_wp2_with (first | ((with_reducible refine at_load 125 (.tmp 14) ?_); refine wpList_take (by kernel_rfl) ?_; refine wpList_load_blk rfl 125 (.tmp 14) rfl g _ _ _ (by rfl) hE11 Tryz.underlying125 rfl (by exact size_ent) ?_) | fail)
      refine (dadd_bad (R := FreshR i gg u wc) HG.out.1 freshR_below (HOP.out w11 HF11.out)).mono ?_
      rintro e w12 ⟨rfl, hf12⟩
      have HF12 := hide hf12
      clear e0 e1 el hE11 hf12 HF11
      have hE12 := HEF.out w12 HF12.out
      have e0 := hE12.cell 0
      have e1 := hE12.cell 1
      have el := hE12.lt
      go_wp2_with (first | ((with_reducible refine at_load 125 (.tmp 14) ?_); refine wpList_take (by kernel_rfl) ?_; refine wpList_load_blk rfl 125 (.tmp 14) rfl g _ _ _ (by rfl) hE12 Tryz.underlying125 rfl (by exact size_ent) ?_) | fail)
      refine (ddrop_bad (R := FreshR i gg u wc) HG.out.1 freshR_below (HOP.out w12 HF12.out)).mono ?_
      rintro e w13 ⟨rfl, hf13⟩
      have HF13 := hide hf13
      clear e0 e1 el hE12 hf13 HF12
      have hE13 := HEF.out w13 HF13.out
      have e0 := hE13.cell 0
      have e1 := hE13.cell 1
      have el := hE13.lt
      go_wp2_with (first | ((with_reducible refine at_load 125 (.tmp 14) ?_); refine wpList_take (by kernel_rfl) ?_; refine wpList_load_blk rfl 125 (.tmp 14) rfl g _ _ _ (by rfl) hE13 Tryz.underlying125 rfl (by exact size_ent) ?_) | fail)
      refine (dturn_bad (R := FreshR i gg u wc) HG.out.1 freshR_below (HOP.out w13 HF13.out)).mono ?_
      rintro e w14 ⟨rfl, hf14⟩
      have HF14 := hide hf14
      clear e0 e1 el hE13 hf14 HF13
      have hE14 := HEF.out w14 HF14.out
      have e0 := hE14.cell 0
      have e1 := hE14.cell 1
      have el := hE14.lt
      go_wp2_with (first | ((with_reducible refine at_load 125 (.tmp 14) ?_); refine wpList_take (by kernel_rfl) ?_; refine wpList_load_blk rfl 125 (.tmp 14) rfl g _ _ _ (by rfl) hE14 Tryz.underlying125 rfl (by exact size_ent) ?_) | fail)
      refine (dadd_bad (R := fun W => Below w14.heap.size w14 W) (by decide) (fun a b h hb => h.trans (hb.mono h.size)) (nil_open w14 w14 (Below.refl _ _) _)).mono ?_
      rintro e w15 ⟨rfl, hb15⟩
      have HF15 := hide (freshR_below _ _ HF14.out hb15)
      clear e0 e1 el hE14 hb15 HF14
      go_wp2_with fail
      go_returns
      obtain ⟨s', ha, ht⟩ := HF15.out
      exact ⟨rfl, HBW.out.trans ((ht.mono HBW.out.size (S' := fun _ => False) (fun k hk h => by have := HOWZ.out k h; omega)).below fun _ _ h => h)⟩
  · have t1 : (num == 1) = false := by rw [beq_eq_false_iff_ne]; omega
    have t2 : (num == 2) = false := by rw [beq_eq_false_iff_ne]; omega
    have t3 : (num == 3) = false := by rw [beq_eq_false_iff_ne]; omega
    have t4 : decide ((3 : Int) < num) = true := by simp; omega
    have t5 : decide (num ≤ (8 : Int)) = true := by simp; omega
    have HG := hide (show NoDir i gg u num 14 from by obtain ⟨k, rfl⟩ : ∃ k : Nat, num = (k : Int) := ⟨num.toNat, by omega⟩; exact nodir_free (k := k) (by rw [HN8.out]; omega) (by omega))
    clear h
    go_upto_region 14 with (fail)
    clear y4 rgl t1 t2 t3 t4 t5
    go_cut [14] from 63 to 68 (fun x14 wc => ∃ g, x14 = .pointer (some ⟨g, 0, none⟩) ∧ Hid (Below w6.heap.size w6 wc ∧ w6.heap.size ≤ g) ∧ Hid (Blk wc g 125 #[.string nm, .int .u16 (am : Int)]))
    case first =>
      refine wp_region_tree (.q 0 (.q 2 (.q 3 (.br 1 (.q 4 (.x 5 (.x 6 .nil))) 5 (.x 1 (.q 4 (.x 6 .nil))))))) (fun W => Below w6.heap.size w6 W) (by kernel_rfl) (by kernel_rfl) (Below.refl _ _).drew ?_
      refine wpT_q (v := .agg ac) (by simp only [List.getElem?_toArray, List.getElem?_cons_succ, List.getElem?_cons_zero]; try rfl) (by rfl) (fun W hW => exec_load_blk 136 (.tmp 3) rfl q _ ac _ rfl (HQ6.out.below hW HQ6.out.lt) Tryz.underlying136 rfl HCELL.out.2) ?_
      try simp only [Act.put, List.setIfInBounds_toArray, List.set_cons_zero, List.set_cons_succ]
      iterate 2 (refine wpT_q (v := ?_) (by simp only [List.getElem?_toArray, List.getElem?_cons_succ, List.getElem?_cons_zero]; try rfl) (by rfl) (fun W hW => ?_) ?_; rotate_left; (focus ((have c2 := ((HQ6.out.below hW HQ6.out.lt).cell 2).trans HCELL.out.1; have cl := (HQ6.out.below hW HQ6.out.lt).lt; go_simp); try with_reducible rfl)); try simp only [Act.put, List.setIfInBounds_toArray, List.set_cons_zero, List.set_cons_succ])
      refine wpT_br ?_ ?_
      · refine wpT_x (by simp only [List.getElem?_toArray, List.getElem?_cons_succ, List.getElem?_cons_zero]; try rfl) (by rfl) (fun K hK => ?_)
        go_simp
        refine (HNAME.out _).mono ?_
        rintro e w7 ⟨rfl, hb7⟩
        have hb7 : Below w6.heap.size w6 w7 := (Below.refl _ _).drew.trans hb7
        refine hK _ _ _ (fun _ h => h) hb7 ?_
        clear hK K
        try simp only [Act.put, List.setIfInBounds_toArray, List.set_cons_zero, List.set_cons_succ]
        iterate 1 (refine wpT_q (v := ?_) (by simp only [List.getElem?_toArray, List.getElem?_cons_succ, List.getElem?_cons_zero]; try rfl) (by rfl) (fun W hW => ?_) ?_; rotate_left; (focus ((go_simp); try with_reducible rfl)); try simp only [Act.put, List.setIfInBounds_toArray, List.set_cons_zero, List.set_cons_succ])
        refine wpT_x (by simp only [List.getElem?_toArray, List.getElem?_cons_succ, List.getElem?_cons_zero]; try rfl) (by rfl) (fun K hK => ?_)
        refine wp_alloc_as 125 rfl _ (zero_ent0 _) ?_
        have hb8 : Below w6.heap.size w6 (w7.alloc (.cells EntV.zero.cells.toArray 125)) := hb7.alloc hb7.size _
        refine hK _ _ _ (fun _ h => h) hb8 ?_
        clear hK K
        try simp only [Act.put, List.setIfInBounds_toArray, List.set_cons_zero, List.set_cons_succ]
        refine wpT_x (by simp only [List.getElem?_toArray, List.getElem?_cons_succ, List.getElem?_cons_zero]; try rfl) (by rfl) (fun K hK => ?_)
        refine wp_store_blk 125 (.tmp 14) (.tmp 67) rfl w7.heap.size 125 _ _ (by rfl) (by rfl) (Blk.new _ _ _) (by exact size_ent) (by simp [EntV.cells]) (by simp [Value.oneCell']) (fun hG => ?_)
        have hb9 : Below w6.heap.size w6 ((w7.alloc (.cells EntV.zero.cells.toArray 125)).setRow w7.heap.size #[.string nm, .int .u16 (am : Int)]) := below_setRow hb8 hb7.size _
        refine hK _ _ _ (fun _ h => h) hb9 ?_
        have HF := hide (And.intro hb9 hb7.size)
        have HG9 := hide hG
        clear hK K hb7 hb8 hb9 hG
        try simp only [Act.put, List.setIfInBounds_toArray, List.set_cons_zero, List.set_cons_succ]
        refine wpT_nil ?_
        go_wp2
        go_meet
        case rel => exact ⟨_, rfl, HF, HG9⟩
      · refine wpT_x (by simp only [List.getElem?_toArray, List.getElem?_cons_succ, List.getElem?_cons_zero]; try rfl) (by rfl) (fun K hK => ?_)
        refine wp_alloc_as 125 rfl _ (zero_ent0 _) ?_
        have hb7 : Below w6.heap.size w6 (w6.drew.alloc (.cells EntV.zero.cells.toArray 125)) := (Below.refl _ _).drew.alloc (Nat.le_refl _) _
        have hG1 := Blk.new w6.drew 125 EntV.zero.cells.toArray
        refine hK _ _ _ (fun _ h => h) hb7 ?_
        clear hK K
        try simp only [Act.put, List.setIfInBounds_toArray, List.set_cons_zero, List.set_cons_succ]
        refine wpT_x (by simp only [List.getElem?_toArray, List.getElem?_cons_succ, List.getElem?_cons_zero]; try rfl) (by rfl) (fun K hK => ?_)
        go_simp
        refine (HNAME.out _).mono ?_
        rintro e w7 ⟨rfl, hb8⟩
        have hG2 := hG1.below hb8 hG1.lt
        have hb8 : Below w6.heap.size w6 w7 := hb7.trans (hb8.mono hb7.size)
        refine hK _ _ _ (fun _ h => h) hb8 ?_
        clear hK K
        try simp only [Act.put, List.setIfInBounds_toArray, List.set_cons_zero, List.set_cons_succ]
        iterate 1 (refine wpT_q (v := ?_) (by simp only [List.getElem?_toArray, List.getElem?_cons_succ, List.getElem?_cons_zero]; try rfl) (by rfl) (fun W hW => ?_) ?_; rotate_left; (focus ((go_simp); try with_reducible rfl)); try simp only [Act.put, List.setIfInBounds_toArray, List.set_cons_zero, List.set_cons_succ])
        refine wpT_x (by simp only [List.getElem?_toArray, List.getElem?_cons_succ, List.getElem?_cons_zero]; try rfl) (by rfl) (fun K hK => ?_)
        refine wp_store_blk 125 (.tmp 14) (.tmp 67) rfl w6.heap.size 125 _ _ (by rfl) (by rfl) hG2 (by exact size_ent) (by simp [EntV.zero, EntV.cells]) (by simp [Value.oneCell']) (fun hG => ?_)
        have hb9 : Below w6.heap.size w6 (w7.setRow w6.heap.size #[.string nm, .int .u16 (am : Int)]) := below_setRow hb8 (Nat.le_refl _) _
        refine hK _ _ _ (fun _ h => h) hb9 ?_
        have HF := hide (And.intro hb9 (Nat.le_refl w6.heap.size))
        have HG9 := hide hG
        clear hK K hb7 hb8 hb9 hG hG1 hG2
        try simp only [Act.put, List.setIfInBounds_toArray, List.set_cons_zero, List.set_cons_succ]
        refine wpT_nil ?_
        go_wp2
        go_meet
        case rel => exact ⟨_, rfl, HF, HG9⟩
    case rest =>
      obtain ⟨g, rfl, HBC, HE⟩ := hcut
      rename_i wc
      have HF7 : Hid (FreshR i gg u wc wc) := hide ⟨_, HA6.out.below HBC.out.1, Tch.refl _ _ _⟩
      have HBW := hide (HB6.out.trans (HBC.out.1.mono HB6.out.size))
      have HEF := hide (show ∀ W, FreshR i gg u wc W → Blk W g 125 #[.string nm, .int .u16 (am : Int)] from fun W ⟨s', ha, ht⟩ => HE.out.tch ht HE.out.lt (HA6.out.tx.other_new HBC.out.2))
      have HOP := hide (fun W (h : FreshR i gg u wc W) => HG.out.at h)
      have HLS := hide (fun W (h : FreshR i gg u wc W) W' (hb : Below W.heap.size W W') => dlist_bad (R := FreshR i gg u wc) HG.out.1 freshR_below (HG.out.at (freshR_below _ _ h hb)))
      go_wp2_with fail
      refine (dlist_bad (R := FreshR i gg u wc) HG.out.1 freshR_below (HOP.out wc HF7.out)).mono ?_
      rintro e w8 ⟨rfl, hf8⟩
      have HF8 := hide hf8
      clear hf8 HF7
      have hE8 := HEF.out w8 HF8.out
      have e0 := hE8.cell 0
      have e1 := hE8.cell 1
      have el := hE8.lt
      go_wp2_with fail
      refine (dfind_bad (R := FreshR i gg u wc) HG.out.1 freshR_below (HLS.out w8 HF8.out)).mono ?_
      rintro e w9 ⟨rfl, hf9⟩
      have HF9 := hide hf9
      clear e0 e1 el hE8 hf9 HF8
      go_wp2_with fail
      refine (dempty_bad (R := FreshR i gg u wc) HG.out.1 freshR_below (HLS.out w9 HF9.out)).mono ?_
      rintro e w10 ⟨rfl, hf10⟩
      have HF10 := hide hf10
      clear hf10 HF9
      go_wp2_with fail
      refine (dlist_bad (R := fun W => Below w10.heap.size w10 W) (by decide) (fun a b h hb => h.trans (hb.mono h.size)) (nil_open w10 w10 (Below.refl _ _) _)).mono ?_
      rintro e w11 ⟨rfl, hb11⟩
      have HF11 := hide (freshR_below _ _ HF10.out hb11)
      clear hb11 HF10
      have hE11 := HEF.out w11 HF11.out
      have e0 := hE11.cell 0
      have e1 := hE11.cell 1
      have el := hE11.lt
      go_wp2_with (first | ((with_reducible refine at_load 125 (.tmp 14) ?_); refine wpList_take (by kernel_rfl) ?_; refine wpList_load_blk rfl 125 (.tmp 14) rfl g _ _ _ (by rfl) hE11 Tryz.underlying125 rfl (by exact size_ent) ?_) | fail)
      refine (dadd_bad (R := FreshR i gg u wc) HG.out.1 freshR_below (HOP.out w11 HF11.out)).mono ?_
      rintro e w12 ⟨rfl, hf12⟩
      have HF12 := hide hf12
      clear e0 e1 el hE11 hf12 HF11
      have hE12 := HEF.out w12 HF12.out
      have e0 := hE12.cell 0
      have e1 := hE12.cell 1
      have el := hE12.lt
      go_wp2_with (first | ((with_reducible refine at_load 125 (.tmp 14) ?_); refine wpList_take (by kernel_rfl) ?_; refine wpList_load_blk rfl 125 (.tmp 14) rfl g _ _ _ (by rfl) hE12 Tryz.underlying125 rfl (by exact size_ent) ?_) | fail)
      refine (ddrop_bad (R := FreshR i gg u wc) HG.out.1 freshR_below (HOP.out w12 HF12.out)).mono ?_
      rintro e w13 ⟨rfl, hf13⟩
      have HF13 := hide hf13
      clear e0 e1 el hE12 hf13 HF12
      have hE13 := HEF.out w13 HF13.out
      have e0 := hE13.cell 0
      have e1 := hE13.cell 1
      have el := hE13.lt
      go_wp2_with (first | ((with_reducible refine at_load 125 (.tmp 14) ?_); refine wpList_take (by kernel_rfl) ?_; refine wpList_load_blk rfl 125 (.tmp 14) rfl g _ _ _ (by rfl) hE13 Tryz.underlying125 rfl (by exact size_ent) ?_) | fail)
      refine (dturn_bad (R := FreshR i gg u wc) HG.out.1 freshR_below (HOP.out w13 HF13.out)).mono ?_
      rintro e w14 ⟨rfl, hf14⟩
      have HF14 := hide hf14
      clear e0 e1 el hE13 hf14 HF13
      have hE14 := HEF.out w14 HF14.out
      have e0 := hE14.cell 0
      have e1 := hE14.cell 1
      have el := hE14.lt
      go_wp2_with (first | ((with_reducible refine at_load 125 (.tmp 14) ?_); refine wpList_take (by kernel_rfl) ?_; refine wpList_load_blk rfl 125 (.tmp 14) rfl g _ _ _ (by rfl) hE14 Tryz.underlying125 rfl (by exact size_ent) ?_) | fail)
      refine (dadd_bad (R := fun W => Below w14.heap.size w14 W) (by decide) (fun a b h hb => h.trans (hb.mono h.size)) (nil_open w14 w14 (Below.refl _ _) _)).mono ?_
      rintro e w15 ⟨rfl, hb15⟩
      have HF15 := hide (freshR_below _ _ HF14.out hb15)
      clear e0 e1 el hE14 hb15 HF14
      go_wp2_with fail
      go_returns
      obtain ⟨s', ha, ht⟩ := HF15.out
      exact ⟨rfl, HBW.out.trans ((ht.mono HBW.out.size (S' := fun _ => False) (fun k hk h => by have := HOWZ.out k h; omega)).below fun _ _ h => h)⟩
  · have t1 : (num == 1) = false := by rw [beq_eq_false_iff_ne]; omega
    have t2 : (num == 2) = false := by rw [beq_eq_false_iff_ne]; omega
    have t3 : (num == 3) = false := by rw [beq_eq_false_iff_ne]; omega
    have t4 : decide ((3 : Int) < num) = false := by simp; omega
    have HG := hide (show NoDir i gg u num 27 from nodir_out (.inl h))
    clear h
    go_upto_region 14 with (fail)
    clear y4 rgl t1 t2 t3 t4
    go_cut [14] from 63 to 68 (fun x14 wc => ∃ g, x14 = .pointer (some ⟨g, 0, none⟩) ∧ Hid (Below w6.heap.size w6 wc ∧ w6.heap.size ≤ g) ∧ Hid (Blk wc g 125 #[.string nm, .int .u16 (am : Int)]))
    case first =>
      refine wp_region_tree (.q 0 (.q 2 (.q 3 (.br 1 (.q 4 (.x 5 (.x 6 .nil))) 5 (.x 1 (.q 4 (.x 6 .nil))))))) (fun W => Below w6.heap.size w6 W) (by kernel_rfl) (by kernel_rfl) (Below.refl _ _).drew ?_
      refine wpT_q (v := .agg ac) (by simp only [List.getElem?_toArray, List.getElem?_cons_succ, List.getElem?_cons_zero]; try rfl) (by rfl) (fun W hW => exec_load_blk 136 (.tmp 3) rfl q _ ac _ rfl (HQ6.out.below hW HQ6.out.lt) Tryz.underlying136 rfl HCELL.out.2) ?_
      try simp only [Act.put, List.setIfInBounds_toArray, List.set_cons_zero, List.set_cons_succ]
      iterate 2 (refine wpT_q (v := ?_) (by simp only [List.getElem?_toArray, List.getElem?_cons_succ, List.getElem?_cons_zero]; try rfl) (by rfl) (fun W hW => ?_) ?_; rotate_left; (focus ((have c2 := ((HQ6.out.below hW HQ6.out.lt).cell 2).trans HCELL.out.1; have cl := (HQ6.out.below hW HQ6.out.lt).lt; go_simp); try with_reducible rfl)); try simp only [Act.put, List.setIfInBounds_toArray, List.set_cons_zero, List.set_cons_succ])
      refine wpT_br ?_ ?_
      · refine wpT_x (by simp only [List.getElem?_toArray, List.getElem?_cons_succ, List.getElem?_cons_zero]; try rfl) (by rfl) (fun K hK => ?_)
        go_simp
        refine (HNAME.out _).mono ?_
        rintro e w7 ⟨rfl, hb7⟩
        have hb7 : Below w6.heap.size w6 w7 := (Below.refl _ _).drew.trans hb7
        refine hK _ _ _ (fun _ h => h) hb7 ?_
        clear hK K
        try simp only [Act.put, List.setIfInBounds_toArray, List.set_cons_zero, List.set_cons_succ]
        iterate 1 (refine wpT_q (v := ?_) (by simp only [List.getElem?_toArray, List.getElem?_cons_succ, List.getElem?_cons_zero]; try rfl) (by rfl) (fun W hW => ?_) ?_; rotate_left; (focus ((go_simp); try with_reducible rfl)); try simp only [Act.put, List.setIfInBounds_toArray, List.set_cons_zero, List.set_cons_succ])
        refine wpT_x (by simp only [List.getElem?_toArray, List.getElem?_cons_succ, List.getElem?_cons_zero]; try rfl) (by rfl) (fun K hK => ?_)
        refine wp_alloc_as 125 rfl _ (zero_ent0 _) ?_
        have hb8 : Below w6.heap.size w6 (w7.alloc (.cells EntV.zero.cells.toArray 125)) := hb7.alloc hb7.size _
        refine hK _ _ _ (fun _ h => h) hb8 ?_
        clear hK K
        try simp only [Act.put, List.setIfInBounds_toArray, List.set_cons_zero, List.set_cons_succ]
        refine wpT_x (by simp only [List.getElem?_toArray, List.getElem?_cons_succ, List.getElem?_cons_zero]; try rfl) (by rfl) (fun K hK => ?_)
        refine wp_store_blk 125 (.tmp 14) (.tmp 67) rfl w7.heap.size 125 _ _ (by rfl) (by rfl) (Blk.new _ _ _) (by exact size_ent) (by simp [EntV.cells]) (by simp [Value.oneCell']) (fun hG => ?_)
        have hb9 : Below w6.heap.size w6 ((w7.alloc (.cells EntV.zero.cells.toArray 125)).setRow w7.heap.size #[.string nm, .int .u16 (am : Int)]) := below_setRow hb8 hb7.size _
        refine hK _ _ _ (fun _ h => h) hb9 ?_
        have HF := hide (And.intro hb9 hb7.size)
        have HG9 := hide hG
        clear hK K hb7 hb8 hb9 hG
        try simp only [Act.put, List.setIfInBounds_toArray, List.set_cons_zero, List.set_cons_succ]
        refine wpT_nil ?_
        go_wp2
        go_meet
        case rel => exact ⟨_, rfl, HF, HG9⟩
      · refine wpT_x (by simp only [List.getElem?_toArray, List.getElem?_cons_succ, List.getElem?_cons_zero]; try rfl) (by rfl) (fun K hK => ?_)
        refine wp_alloc_as 125 rfl _ (zero_ent0 _) ?_
        have hb7 : Below w6.heap.size w6 (w6.drew.alloc (.cells EntV.zero.cells.toArray 125)) := (Below.refl _ _).drew.alloc (Nat.le_refl _) _
        have hG1 := Blk.new w6.drew 125 EntV.zero.cells.toArray
        refine hK _ _ _ (fun _ h => h) hb7 ?_
        clear hK K
        try simp only [Act.put, List.setIfInBounds_toArray, List.set_cons_zero, List.set_cons_succ]
        refine wpT_x (by simp only [List.getElem?_toArray, List.getElem?_cons_succ, List.getElem?_cons_zero]; try rfl) (by rfl) (fun K hK => ?_)
        go_simp
        refine (HNAME.out _).mono ?_
        rintro e w7 ⟨rfl, hb8⟩
        have hG2 := hG1.below hb8 hG1.lt
        have hb8 : Below w6.heap.size w6 w7 := hb7.trans (hb8.mono hb7.size)
        refine hK _ _ _ (fun _ h => h) hb8 ?_
        clear hK K
        try simp only [Act.put, List.setIfInBounds_toArray, List.set_cons_zero, List.set_cons_succ]
        iterate 1 (refine wpT_q (v := ?_) (by simp only [List.getElem?_toArray, List.getElem?_cons_succ, List.getElem?_cons_zero]; try rfl) (by rfl) (fun W hW => ?_) ?_; rotate_left; (focus ((go_simp); try with_reducible rfl)); try simp only [Act.put, List.setIfInBounds_toArray, List.set_cons_zero, List.set_cons_succ])
        refine wpT_x (by simp only [List.getElem?_toArray, List.getElem?_cons_succ, List.getElem?_cons_zero]; try rfl) (by rfl) (fun K hK => ?_)
        refine wp_store_blk 125 (.tmp 14) (.tmp 67) rfl w6.heap.size 125 _ _ (by rfl) (by rfl) hG2 (by exact size_ent) (by simp [EntV.zero, EntV.cells]) (by simp [Value.oneCell']) (fun hG => ?_)
        have hb9 : Below w6.heap.size w6 (w7.setRow w6.heap.size #[.string nm, .int .u16 (am : Int)]) := below_setRow hb8 (Nat.le_refl _) _
        refine hK _ _ _ (fun _ h => h) hb9 ?_
        have HF := hide (And.intro hb9 (Nat.le_refl w6.heap.size))
        have HG9 := hide hG
        clear hK K hb7 hb8 hb9 hG hG1 hG2
        try simp only [Act.put, List.setIfInBounds_toArray, List.set_cons_zero, List.set_cons_succ]
        refine wpT_nil ?_
        go_wp2
        go_meet
        case rel => exact ⟨_, rfl, HF, HG9⟩
    case rest =>
      obtain ⟨g, rfl, HBC, HE⟩ := hcut
      rename_i wc
      have HF7 : Hid (FreshR i gg u wc wc) := hide ⟨_, HA6.out.below HBC.out.1, Tch.refl _ _ _⟩
      have HBW := hide (HB6.out.trans (HBC.out.1.mono HB6.out.size))
      have HEF := hide (show ∀ W, FreshR i gg u wc W → Blk W g 125 #[.string nm, .int .u16 (am : Int)] from fun W ⟨s', ha, ht⟩ => HE.out.tch ht HE.out.lt (HA6.out.tx.other_new HBC.out.2))
      have HOP := hide (fun W (h : FreshR i gg u wc W) => HG.out.at h)
      have HLS := hide (fun W (h : FreshR i gg u wc W) W' (hb : Below W.heap.size W W') => dlist_bad (R := FreshR i gg u wc) HG.out.1 freshR_below (HG.out.at (freshR_below _ _ h hb)))
      go_wp2_with fail
      refine (dlist_bad (R := FreshR i gg u wc) HG.out.1 freshR_below (HOP.out wc HF7.out)).mono ?_
      rintro e w8 ⟨rfl, hf8⟩
      have HF8 := hide hf8
      clear hf8 HF7
      have hE8 := HEF.out w8 HF8.out
      have e0 := hE8.cell 0
      have e1 := hE8.cell 1
      have el := hE8.lt
      go_wp2_with fail
      refine (dfind_bad (R := FreshR i gg u wc) HG.out.1 freshR_below (HLS.out w8 HF8.out)).mono ?_
      rintro e w9 ⟨rfl, hf9⟩
      have HF9 := hide hf9
      clear e0 e1 el hE8 hf9 HF8
      go_wp2_with fail
      refine (dempty_bad (R := FreshR i gg u wc) HG.out.1 freshR_below (HLS.out w9 HF9.out)).mono ?_
      rintro e w10 ⟨rfl, hf10⟩
      have HF10 := hide hf10
      clear hf10 HF9
      go_wp2_with fail
      refine (dlist_bad (R := fun W => Below w10.heap.size w10 W) (by decide) (fun a b h hb => h.trans (hb.mono h.size)) (nil_open w10 w10 (Below.refl _ _) _)).mono ?_
      rintro e w11 ⟨rfl, hb11⟩
      have HF11 := hide (freshR_below _ _ HF10.out hb11)
      clear hb11 HF10
      have hE11 := HEF.out w11 HF11.out
      have e0 := hE11.cell 0
      have e1 := hE11.cell 1
      have el := hE11.lt
      go_wp2_with (first | ((with_reducible refine at_load 125 (.tmp 14) ?_); refine wpList_take (by kernel_rfl) ?_; refine wpList_load_blk rfl 125 (.tmp 14) rfl g _ _ _ (by rfl) hE11 Tryz.underlying125 rfl (by exact size_ent) ?_) | fail)
      refine (dadd_bad (R := FreshR i gg u wc) HG.out.1 freshR_below (HOP.out w11 HF11.out)).mono ?_
      rintro e w12 ⟨rfl, hf12⟩
      have HF12 := hide hf12
      clear e0 e1 el hE11 hf12 HF11
      have hE12 := HEF.out w12 HF12.out
      have e0 := hE12.cell 0
      have e1 := hE12.cell 1
      have el := hE12.lt
      go_wp2_with (first | ((with_reducible refine at_load 125 (.tmp 14) ?_); refine wpList_take (by kernel_rfl) ?_; refine wpList_load_blk rfl 125 (.tmp 14) rfl g _ _ _ (by rfl) hE12 Tryz.underlying125 rfl (by exact size_ent) ?_) | fail)
      refine (ddrop_bad (R := FreshR i gg u wc) HG.out.1 freshR_below (HOP.out w12 HF12.out)).mono ?_
      rintro e w13 ⟨rfl, hf13⟩
      have HF13 := hide hf13
      clear e0 e1 el hE12 hf13 HF12
      have hE13 := HEF.out w13 HF13.out
      have e0 := hE13.cell 0
      have e1 := hE13.cell 1
      have el := hE13.lt
      go_wp2_with (first | ((with_reducible refine at_load 125 (.tmp 14) ?_); refine wpList_take (by kernel_rfl) ?_; refine wpList_load_blk rfl 125 (.tmp 14) rfl g _ _ _ (by rfl) hE13 Tryz.underlying125 rfl (by exact size_ent) ?_) | fail)
      refine (dturn_bad (R := FreshR i gg u wc) HG.out.1 freshR_below (HOP.out w13 HF13.out)).mono ?_
      rintro e w14 ⟨rfl, hf14⟩
      have HF14 := hide hf14
      clear e0 e1 el hE13 hf14 HF13
      have hE14 := HEF.out w14 HF14.out
      have e0 := hE14.cell 0
      have e1 := hE14.cell 1
      have el := hE14.lt
      go_wp2_with (first | ((with_reducible refine at_load 125 (.tmp 14) ?_); refine wpList_take (by kernel_rfl) ?_; refine wpList_load_blk rfl 125 (.tmp 14) rfl g _ _ _ (by rfl) hE14 Tryz.underlying125 rfl (by exact size_ent) ?_) | fail)
      refine (dadd_bad (R := fun W => Below w14.heap.size w14 W) (by decide) (fun a b h hb => h.trans (hb.mono h.size)) (nil_open w14 w14 (Below.refl _ _) _)).mono ?_
      rintro e w15 ⟨rfl, hb15⟩
      have HF15 := hide (freshR_below _ _ HF14.out hb15)
      clear e0 e1 el hE14 hb15 HF14
      go_wp2_with fail
      go_returns
      obtain ⟨s', ha, ht⟩ := HF15.out
      exact ⟨rfl, HBW.out.trans ((ht.mono HBW.out.size (S' := fun _ => False) (fun k hk h => by have := HOWZ.out k h; omega)).below fun _ _ h => h)⟩
  · have t1 : (num == 1) = false := by rw [beq_eq_false_iff_ne]; omega
    have t2 : (num == 2) = false := by rw [beq_eq_false_iff_ne]; omega
    have t3 : (num == 3) = false := by rw [beq_eq_false_iff_ne]; omega
    have t4 : decide ((3 : Int) < num) = true := by simp; omega
    have t5 : decide (num ≤ (8 : Int)) = false := by simp; omega
    have HG := hide (show NoDir i gg u num 27 from nodir_out (.inr (by rw [HN8.out]; exact h)))
    clear h
    go_upto_region 14 with (fail)
    clear y4 rgl t1 t2 t3 t4 t5
    go_cut [14] from 63 to 68 (fun x14 wc => ∃ g, x14 = .pointer (some ⟨g, 0, none⟩) ∧ Hid (Below w6.heap.size w6 wc ∧ w6.heap.size ≤ g) ∧ Hid (Blk wc g 125 #[.string nm, .int .u16 (am : Int)]))
    case first =>
      refine wp_region_tree (.q 0 (.q 2 (.q 3 (.br 1 (.q 4 (.x 5 (.x 6 .nil))) 5 (.x 1 (.q 4 (.x 6 .nil))))))) (fun W => Below w6.heap.size w6 W) (by kernel_rfl) (by kernel_rfl) (Below.refl _ _).drew ?_
      refine wpT_q (v := .agg ac) (by simp only [List.getElem?_toArray, List.getElem?_cons_succ, List.getElem?_cons_zero]; try rfl) (by rfl) (fun W hW => exec_load_blk 136 (.tmp 3) rfl q _ ac _ rfl (HQ6.out.below hW HQ6.out.lt) Tryz.underlying136 rfl HCELL.out.2) ?_
      try simp only [Act.put, List.setIfInBounds_toArray, List.set_cons_zero, List.set_cons_succ]
      iterate 2 (refine wpT_q (v := ?_) (by simp only [List.getElem?_toArray, List.getElem?_cons_succ, List.getElem?_cons_zero]; try rfl) (by rfl) (fun W hW => ?_) ?_; rotate_left; (focus ((have c2 := ((HQ6.out.below hW HQ6.out.lt).cell 2).trans HCELL.out.1; have cl := (HQ6.out.below hW HQ6.out.lt).lt; go_simp); try with_reducible rfl)); try simp only [Act.put, List.setIfInBounds_toArray, List.set_cons_zero, List.set_cons_succ])
      refine wpT_br ?_ ?_
      · refine wpT_x (by simp only [List.getElem?_toArray, List.getElem?_cons_succ, List.getElem?_cons_zero]; try rfl) (by rfl) (fun K hK => ?_)
        go_simp
        refine (HNAME.out _).mono ?_
        rintro e w7 ⟨rfl, hb7⟩
        have hb7 : Below w6.heap.size w6 w7 := (Below.refl _ _).drew.trans hb7
        refine hK _ _ _ (fun _ h => h) hb7 ?_
        clear hK K
        try simp only [Act.put, List.setIfInBounds_toArray, List.set_cons_zero, List.set_cons_succ]
        iterate 1 (refine wpT_q (v := ?_) (by simp only [List.getElem?_toArray, List.getElem?_cons_succ, List.getElem?_cons_zero]; try rfl) (by rfl) (fun W hW => ?_) ?_; rotate_left; (focus ((go_simp); try with_reducible rfl)); try simp only [Act.put, List.setIfInBounds_toArray, List.set_cons_zero, List.set_cons_succ])
        refine wpT_x (by simp only [List.getElem?_toArray, List.getElem?_cons_succ, List.getElem?_cons_zero]; try rfl) (by rfl) (fun K hK => ?_)
        refine wp_alloc_as 125 rfl _ (zero_ent0 _) ?_
        have hb8 : Below w6.heap.size w6 (w7.alloc (.cells EntV.zero.cells.toArray 125)) := hb7.alloc hb7.size _
        refine hK _ _ _ (fun _ h => h) hb8 ?_
        clear hK K
        try simp only [Act.put, List.setIfInBounds_toArray, List.set_cons_zero, List.set_cons_succ]
        refine wpT_x (by simp only [List.getElem?_toArray, List.getElem?_cons_succ, List.getElem?_cons_zero]; try rfl) (by rfl) (fun K hK => ?_)
        refine wp_store_blk 125 (.tmp 14) (.tmp 67) rfl w7.heap.size 125 _ _ (by rfl) (by rfl) (Blk.new _ _ _) (by exact size_ent) (by simp [EntV.cells]) (by simp [Value.oneCell']) (fun hG => ?_)
        have hb9 : Below w6.heap.size w6 ((w7.alloc (.cells EntV.zero.cells.toArray 125)).setRow w7.heap.size #[.string nm, .int .u16 (am : Int)]) := below_setRow hb8 hb7.size _
        refine hK _ _ _ (fun _ h => h) hb9 ?_
        have HF := hide (And.intro hb9 hb7.size)
        have HG9 := hide hG
        clear hK K hb7 hb8 hb9 hG
        try simp only [Act.put, List.setIfInBounds_toArray, List.set_cons_zero, List.set_cons_succ]
        refine wpT_nil ?_
        go_wp2
        go_meet
        case rel => exact ⟨_, rfl, HF, HG9⟩
      · refine wpT_x (by simp only [List.getElem?_toArray, List.getElem?_cons_succ, List.getElem?_cons_zero]; try rfl) (by rfl) (fun K hK => ?_)
        refine wp_alloc_as 125 rfl _ (zero_ent0 _) ?_
        have hb7 : Below w6.heap.size w6 (w6.drew.alloc (.cells EntV.zero.cells.toArray 125)) := (Below.refl _ _).drew.alloc (Nat.le_refl _) _
        have hG1 := Blk.new w6.drew 125 EntV.zero.cells.toArray
        refine hK _ _ _ (fun _ h => h) hb7 ?_
        clear hK K
        try simp only [Act.put, List.setIfInBounds_toArray, List.set_cons_zero, List.set_cons_succ]
        refine wpT_x (by simp only [List.getElem?_toArray, List.getElem?_cons_succ, List.getElem?_cons_zero]; try rfl) (by rfl) (fun K hK => ?_)
        go_simp
        refine (HNAME.out _).mono ?_
        rintro e w7 ⟨rfl, hb8⟩
        have hG2 := hG1.below hb8 hG1.lt
        have hb8 : Below w6.heap.size w6 w7 := hb7.trans (hb8.mono hb7.size)
        refine hK _ _ _ (fun _ h => h) hb8 ?_
        clear hK K
        try simp only [Act.put, List.setIfInBounds_toArray, List.set_cons_zero, List.set_cons_succ]
        iterate 1 (refine wpT_q (v := ?_) (by simp only [List.getElem?_toArray, List.getElem?_cons_succ, List.getElem?_cons_zero]; try rfl) (by rfl) (fun W hW => ?_) ?_; rotate_left; (focus ((go_simp); try with_reducible rfl)); try simp only [Act.put, List.setIfInBounds_toArray, List.set_cons_zero, List.set_cons_succ])
        refine wpT_x (by simp only [List.getElem?_toArray, List.getElem?_cons_succ, List.getElem?_cons_zero]; try rfl) (by rfl) (fun K hK => ?_)
        refine wp_store_blk 125 (.tmp 14) (.tmp 67) rfl w6.heap.size 125 _ _ (by rfl) (by rfl) hG2 (by exact size_ent) (by simp [EntV.zero, EntV.cells]) (by simp [Value.oneCell']) (fun hG => ?_)
        have hb9 : Below w6.heap.size w6 (w7.setRow w6.heap.size #[.string nm, .int .u16 (am : Int)]) := below_setRow hb8 (Nat.le_refl _) _
        refine hK _ _ _ (fun _ h => h) hb9 ?_
        have HF := hide (And.intro hb9 (Nat.le_refl w6.heap.size))
        have HG9 := hide hG
        clear hK K hb7 hb8 hb9 hG hG1 hG2
        try simp only [Act.put, List.setIfInBounds_toArray, List.set_cons_zero, List.set_cons_succ]
        refine wpT_nil ?_
        go_wp2
        go_meet
        case rel => exact ⟨_, rfl, HF, HG9⟩
    case rest =>
      obtain ⟨g, rfl, HBC, HE⟩ := hcut
      rename_i wc
      have HF7 : Hid (FreshR i gg u wc wc) := hide ⟨_, HA6.out.below HBC.out.1, Tch.refl _ _ _⟩
      have HBW := hide (HB6.out.trans (HBC.out.1.mono HB6.out.size))
      have HEF := hide (show ∀ W, FreshR i gg u wc W → Blk W g 125 #[.string nm, .int .u16 (am : Int)] from fun W ⟨s', ha, ht⟩ => HE.out.tch ht HE.out.lt (HA6.out.tx.other_new HBC.out.2))
      have HOP := hide (fun W (h : FreshR i gg u wc W) => HG.out.at h)
      have HLS := hide (fun W (h : FreshR i gg u wc W) W' (hb : Below W.heap.size W W') => dlist_bad (R := FreshR i gg u wc) HG.out.1 freshR_below (HG.out.at (freshR_below _ _ h hb)))
      go_wp2_with fail
      refine (dlist_bad (R := FreshR i gg u wc) HG.out.1 freshR_below (HOP.out wc HF7.out)).mono ?_
      rintro e w8 ⟨rfl, hf8⟩
      have HF8 := hide hf8
      clear hf8 HF7
      have hE8 := HEF.out w8 HF8.out
      have e0 := hE8.cell 0
      have e1 := hE8.cell 1
      have el := hE8.lt
      go_wp2_with fail
      refine (dfind_bad (R := FreshR i gg u wc) HG.out.1 freshR_below (HLS.out w8 HF8.out)).mono ?_
      rintro e w9 ⟨rfl, hf9⟩
      have HF9 := hide hf9
      clear e0 e1 el hE8 hf9 HF8
      go_wp2_with fail
      refine (dempty_bad (R := FreshR i gg u wc) HG.out.1 freshR_below (HLS.out w9 HF9.out)).mono ?_
      rintro e w10 ⟨rfl, hf10⟩
      have HF10 := hide hf10
      clear hf10 HF9
      go_wp2_with fail
      refine (dlist_bad (R := fun W => Below w10.heap.size w10 W) (by decide) (fun a b h hb => h.trans (hb.mono h.size)) (nil_open w10 w10 (Below.refl _ _) _)).mono ?_
      rintro e w11 ⟨rfl, hb11⟩
      have HF11 := hide (freshR_below _ _ HF10.out hb11)
      clear hb11 HF10
      have hE11 := HEF.out w11 HF11.out
      have e0 := hE11.cell 0
      have e1 := hE11.cell 1
      have el := hE11.lt
      go_wp2_with (first | ((with_reducible refine at_load 125 (.tmp 14) ?_); refine wpList_take (by kernel_rfl) ?_; refine wpList_load_blk rfl 125 (.tmp 14) rfl g _ _ _ (by rfl) hE11 Tryz.underlying125 rfl (by exact size_ent) ?_) | fail)
      refine (dadd_bad (R := FreshR i gg u wc) HG.out.1 freshR_below (HOP.out w11 HF11.out)).mono ?_
      rintro e w12 ⟨rfl, hf12⟩
      have HF12 := hide hf12
      clear e0 e1 el hE11 hf12 HF11
      have hE12 := HEF.out w12 HF12.out
      have e0 := hE12.cell 0
      have e1 := hE12.cell 1
      have el := hE12.lt
      go_wp2_with (first | ((with_reducible refine at_load 125 (.tmp 14) ?_); refine wpList_take (by kernel_rfl) ?_; refine wpList_load_blk rfl 125 (.tmp 14) rfl g _ _ _ (by rfl) hE12 Tryz.underlying125 rfl (by exact size_ent) ?_) | fail)
      refine (ddrop_bad (R := FreshR i gg u wc) HG.out.1 freshR_below (HOP.out w12 HF12.out)).mono ?_
      rintro e w13 ⟨rfl, hf13⟩
      have HF13 := hide hf13
      clear e0 e1 el hE12 hf13 HF12
      have hE13 := HEF.out w13 HF13.out
      have e0 := hE13.cell 0
      have e1 := hE13.cell 1
      have el := hE13.lt
      go_wp2_with (first | ((with_reducible refine at_load 125 (.tmp 14) ?_); refine wpList_take (by kernel_rfl) ?_; refine wpList_load_blk rfl 125 (.tmp 14) rfl g _ _ _ (by rfl) hE13 Tryz.underlying125 rfl (by exact size_ent) ?_) | fail)
      refine (dturn_bad (R := FreshR i gg u wc) HG.out.1 freshR_below (HOP.out w13 HF13.out)).mono ?_
      rintro e w14 ⟨rfl, hf14⟩
      have HF14 := hide hf14
      clear e0 e1 el hE13 hf14 HF13
      have hE14 := HEF.out w14 HF14.out
      have e0 := hE14.cell 0
      have e1 := hE14.cell 1
      have el := hE14.lt
      go_wp2_with (first | ((with_reducible refine at_load 125 (.tmp 14) ?_); refine wpList_take (by kernel_rfl) ?_; refine wpList_load_blk rfl 125 (.tmp 14) rfl g _ _ _ (by rfl) hE14 Tryz.underlying125 rfl (by exact size_ent) ?_) | fail)
      refine (dadd_bad (R := fun W => Below w14.heap.size w14 W) (by decide) (fun a b h hb => h.trans (hb.mono h.size)) (nil_open w14 w14 (Below.refl _ _) _)).mono ?_
      rintro e w15 ⟨rfl, hb15⟩
      have HF15 := hide (freshR_below _ _ HF14.out hb15)
      clear e0 e1 el hE14 hb15 HF14
      go_wp2_with fail
      go_returns
      obtain ⟨s', ha, ht⟩ := HF15.out
      exact ⟨rfl, HBW.out.trans ((ht.mono HBW.out.size (S' := fun _ => False) (fun k hk h => by have := HOWZ.out k h; omega)).below fun _ _ h => h)⟩
end Go.Proofs.YthmkgohfeahdhaaGreat

/- PathOwn: answers are new memory: the walk. Printed by pathown.py. -/
import Derived.Test.YtkjgieehiimiiaaDoorPathPlain
import Derived.OneCell
namespace Go.Proofs.YtkjgieehiimiiaaDoor
open Go.RowKit

/-- the law's two paths, as they lie -/
structure Ow (w0 W : World) (pa : Nat) (Ra : Option Addr) (ka ca : Nat) (Rb : Option Addr) (kb cb : Nat) (xs ys : List (BL × BL)) : Prop where
  bel : Below w0.heap.size w0 W
  aB : Blk W pa 27 #[.bool true, .slice Ra ka ca]
  bB : Blk W (pa + 1) 27 #[.bool false, .slice Rb kb cb]
  oa : W.ownsRow w0.heap.size 34 2 (.slice Ra ka ca) ka (flat xs)
  ob : W.ownsRow w0.heap.size 34 2 (.slice Rb kb cb) kb (flat ys)
section
variable {w0 W W' : World} {pa ka ca kb cb : Nat} {Ra Rb : Option Addr} {xs ys : List (BL × BL)}
theorem Ow.below (h : Ow w0 W pa Ra ka ca Rb kb cb xs ys) (hb : Below W.heap.size W W') : Ow w0 W' pa Ra ka ca Rb kb cb xs ys :=
  ⟨h.bel.trans (hb.mono h.bel.size), h.aB.below hb h.aB.lt, h.bB.below hb h.bB.lt, own_below h.oa hb, own_below h.ob hb⟩
theorem Ow.keep (h : Ow w0 W pa Ra ka ca Rb kb cb xs ys) (hb : Below w0.heap.size w0 W') (N : Nat) (hN : pa + 1 < N) (hA : ∀ g, (Value.slice Ra ka ca).ownBlock = some g → g < N) (hB : ∀ g, (Value.slice Rb kb cb).ownBlock = some g → g < N)
    (hk : ∀ k, k < N → W'.heap[k]? = W.heap[k]?) : Ow w0 W' pa Ra ka ca Rb kb cb xs ys :=
  ⟨hb, (hk _ (by omega)).trans h.aB, (hk _ hN).trans h.bB, own_keep h.oa (fun g hg => hk g (hA g hg)), own_keep h.ob (fun g hg => hk g (hB g hg))⟩
theorem own_ptr {w : World} {base n c : Nat} {e : TypeId} {sz : Nat} {A : Option Addr} {xs : List Value} (h : w.ownsRow base e sz (.slice A n c) n xs) (hn : 0 < n) :
    ∃ g cur, A = some ⟨g, 0, none⟩ ∧ base ≤ g ∧ w.heap[g]? = some (.cells cur e (0, 0)) ∧ n ≤ c ∧ cur.size = c * sz := by
  rcases h.2 with ⟨h1, h2⟩ | ⟨g, cap, cur, hv, hg, hh, hnc, _, hcs, _⟩
  · omega
  · injection hv with h1 h2 h3
    subst h3
    exact ⟨g, cur, h1, hg, hh, hnc, hcs⟩
end
theorem own_le2 {w : World} {base n c : Nat} {e : TypeId} {sz : Nat} {A : Option Addr} {xs : List Value} (h : w.ownsRow base e sz (.slice A n c) n xs) : n ≤ c := by
  obtain ⟨A', c', hv, h1, _⟩ := own_form h
  injection hv with _ _ h2
  omega
theorem base_any (a : Bool) (A : Option Addr) (n c : Nat) (xs : List (BL × BL)) (w : World) (hA : Rd w w.heap.size 2 A n (flat xs)) (hnc : n ≤ c) (hn : n ≤ 100) :
    Calls Tryd.prog 14 #[.agg #[.bool a, .slice A n c]] w fun e w' => ∃ (R : Option Addr) (k e' : Nat) (q : Array UInt8 × Array UInt8) (ok : Bool) (zs : List (BL × BL)), e = .returned (.tuple #[.agg #[.bool a, .slice R k e'], .agg #[.string ⟨q.1⟩, .string ⟨q.2⟩], .bool ok]) ∧
      w'.ownsRow w.heap.size 34 2 (.slice R k e') k (flat zs) ∧ Below w.heap.size w w' ∧ k ≤ 100 := by
  have lx := hA.parts
  rcases List.eq_nil_or_concat xs with h | ⟨zs, q, h⟩
  · subst h
    obtain rfl : n = 0 := by simpa using lx.symm
    refine (base_none a A c w).mono ?_
    rintro e w' ⟨rfl, hb⟩
    exact ⟨none, 0, 0, (#[], #[]), false, [], rfl, World.ownsRow_nil _ _ _ _, hb, by omega⟩
  · rw [List.concat_eq_append] at h
    subst h
    obtain ⟨n, rfl⟩ : ∃ j, n = j + 1 := ⟨n - 1, by simp at lx; omega⟩
    refine (base_some a A n c zs w q hA hnc (by omega)).mono ?_
    rintro e w' ⟨R, e', rfl, ho, hb⟩
    exact ⟨R, n, e', (q.1.toArray, q.2.toArray), true, zs, rfl, ho, hb, by omega⟩

section
variable (A B : Option Addr) (n c m d : Nat) (l o : List UInt8) (w : World)
set_option maxRecDepth 100000 in
set_option maxHeartbeats 20000000 in
theorem own_all (hm : Mx w) (hr : Rd w w.heap.size 1 A n (bvs l)) (hr2 : Rd w w.heap.size 1 B m (bvs o)) :
    Calls Tryd.prog 6 #[.slice A n c, .slice B m d] w fun e w' => e = .returned (.bool true) ∧ Below w.heap.size w w' := by
  obtain ⟨i0, hi0, hq0, hq1, hq2⟩ := info_parts info_part
  go_enter Tryd.func6, Tryd.ntmps6
  go_wp2_with fail
  refine (awake_ok _ hm).mono ?_
  rintro e w1 ⟨rfl, hb1⟩
  go_wp2_with fail
  refine (made_ok true A n c l w1 ((hr.below hb1).more hb1.size)).mono ?_
  rintro e w2 ⟨Ra, ka, ca, rfl, oa, hb2⟩
  have hbx := hb1.trans (hb2.mono hb1.size)
  go_wp2_with fail
  refine (made_ok false B m d o w2 ((hr2.below hbx).more hbx.size)).mono ?_
  rintro e w3 ⟨Rb, kb, cb, rfl, ob, hb3⟩
  have hby := hbx.trans (hb3.mono hbx.size)
  have oa3 := own_low (own_below oa hb3) hb1.size
  have ob3 := own_low ob hbx.size
  have lka := (Rd.of_own oa3).parts
  have lkb := (Rd.of_own ob3).parts
  have h9a := madeL_len l
  have h9b := madeL_len o
  have hsa := madeL_short (l := l)
  have hsb := madeL_short (l := o)
  generalize madeL l = xs at oa3 lka h9a hsa
  generalize madeL o = ys at ob3 lkb h9b hsb
  have hca := own_le2 oa3
  have hcb := own_le2 ob3
  have hka : ka ≤ 9 := by omega
  have hkb : kb ≤ 9 := by omega
  have HSA := hide hsa
  have HSB := hide hsb
  clear oa ob hb1 hb2 hb3 hbx lka lkb hsa hsb h9a h9b hr hr2
  go_upto_region 4 with (fail)
  refine at_world (fun W => Ow w W w3.heap.size Ra ka ca Rb kb cb xs ys) ⟨(hby.alloc hby.size _).alloc (by have := hby.size; simp; omega) _, (Blk.new w3 _ _).alloc _, by simpa using Blk.new (w3.alloc (.cells #[.bool true, .slice Ra ka ca] 27)) 27 #[.bool false, .slice Rb kb cb], (oa3.alloc _).alloc _, (ob3.alloc _).alloc _⟩ (fun w4 ow => ?_)
  clear oa3 ob3 hby
  refine wp_region_ord [0, 2, 1, 3, 4, 5] [0, 0, 1, 1, 0, 0] (fun W => Blk W w3.heap.size 27 #[.bool true, .slice Ra ka ca] ∧ Blk W (w3.heap.size + 1) 27 #[.bool false, .slice Rb kb cb]) (by kernel_rfl) (by kernel_rfl) ⟨ow.aB.drew, ow.bB.drew⟩ ?_
  iterate 2 (refine wpOrd_q (v := ?_) (by rfl) (fun W hW => ?_) ?_; rotate_left; (focus ((obtain ⟨hW1, hW2⟩ := hW; have h0 := hW1.cell 0; have h1 := hW1.cell 1; have h2 := hW2.cell 0; have h3 := hW2.cell 1; have hl1 := hW1.lt; have hl2 := hW2.lt); go_simp; try with_reducible rfl)); try simp only [Act.put, List.setIfInBounds_toArray, List.set_cons_zero, List.set_cons_succ])
  refine at_world (fun X => Ow w X w3.heap.size Ra ka ca Rb kb cb xs ys) ⟨ow.bel.drew, ow.aB.drew, ow.bB.drew, ow.oa.drew, ow.ob.drew⟩ (fun w5 ow5 => ?_)
  clear ow
  refine wpOrd_x (by rfl) (fun K hK => ?_)
  go_simp
  refine (text_ok true Ra ka ca xs w5 (Rd.of_own ow5.oa) HSA.out (by omega)).mono ?_
  rintro e w6 ⟨rfl, hb6⟩
  have ow6 := ow5.below hb6
  refine hK (fun W => Blk W w3.heap.size 27 #[.bool true, .slice Ra ka ca] ∧ Blk W (w3.heap.size + 1) 27 #[.bool false, .slice Rb kb cb]) _ _ (fun _ h => h) ⟨ow6.aB, ow6.bB⟩ ?_
  clear hK K ow5 hb6
  try simp only [Act.put, List.setIfInBounds_toArray, List.set_cons_zero, List.set_cons_succ]
  refine wpOrd_x (by rfl) (fun K hK => ?_)
  go_simp
  refine (text_ok false Rb kb cb ys w6 (Rd.of_own ow6.ob) HSB.out (by omega)).mono ?_
  rintro e w7 ⟨rfl, hb7⟩
  have ow7 := ow6.below hb7
  refine hK (fun W => Blk W w3.heap.size 27 #[.bool true, .slice Ra ka ca] ∧ Blk W (w3.heap.size + 1) 27 #[.bool false, .slice Rb kb cb]) _ _ (fun _ h => h) ⟨ow7.aB, ow7.bB⟩ ?_
  clear hK K ow6 hb7
  try simp only [Act.put, List.setIfInBounds_toArray, List.set_cons_zero, List.set_cons_succ]
  iterate 2 (refine wpOrd_q (v := ?_) (by rfl) (fun W hW => ?_) ?_; rotate_left; (focus ((obtain ⟨hW1, hW2⟩ := hW; have h0 := hW1.cell 0; have h1 := hW1.cell 1; have h2 := hW2.cell 0; have h3 := hW2.cell 1; have hl1 := hW1.lt; have hl2 := hW2.lt); go_simp; try with_reducible rfl)); try simp only [Act.put, List.setIfInBounds_toArray, List.set_cons_zero, List.set_cons_succ])
  refine wpOrd_nil ?_
  have a0 := ow7.aB.cell 0
  have a1 := ow7.aB.cell 1
  have la := ow7.aB.lt
  have b0 := ow7.bB.cell 0
  have b1 := ow7.bB.cell 1
  have lb := ow7.bB.lt
  go_wp2_with fail
  refine (join_ok true false Ra Rb ka ca kb cb xs ys w7 (Rd.of_own ow7.oa) (Rd.of_own ow7.ob) (by omega) (by omega)).mono ?_
  rintro e w8 ⟨RJ, kJ, cJ, rfl, oJ, hb8⟩
  have ow8 := ow7.below hb8
  have hA7 : ∀ g, (Value.slice Ra ka ca).ownBlock = some g → g < w7.heap.size := fun g hg => (ow7.oa.lt g hg).2
  have hB7 : ∀ g, (Value.slice Rb kb cb).ownBlock = some g → g < w7.heap.size := fun g hg => (ow7.ob.lt g hg).2
  have hp7 : w3.heap.size + 1 < w7.heap.size := ow7.bB.lt
  have hw7 : w.heap.size ≤ w7.heap.size := ow7.bel.size
  have hJ8 : ∀ g, (Value.slice RJ kJ cJ).ownBlock = some g → g < w8.heap.size := fun g hg => (oJ.lt g hg).2
  have h78 := hb8.size
  have hkJ : kJ ≤ 18 := by
    have h1 := (Rd.of_own oJ).parts
    have h2 := (Rd.of_own ow7.oa).parts
    have h3 := (Rd.of_own ow7.ob).parts
    simp at h1
    omega
  have H7 := hide (And.intro hA7 (And.intro hB7 hJ8))
  clear hA7 hB7 hJ8 hb8 ow7 a0 a1 la b0 b1 lb
  have a0 := ow8.aB.cell 0
  have a1 := ow8.aB.cell 1
  have la := ow8.aB.lt
  have b0 := ow8.bB.cell 0
  have b1 := ow8.bB.cell 1
  have lb := ow8.bB.lt
  go_wp2_with fail
  have hal : Below w8.heap.size w8 (w8.alloc (.cells #[.bool true, .slice RJ kJ cJ] 27)) := (Below.refl _ _).alloc (Nat.le_refl _) _
  refine (base_any true Ra ka ca xs _ (Rd.of_own (ow8.below hal).oa) hca (by omega)).mono ?_
  rintro e w9 ⟨R4, n4, e4, qq, ok, zs, rfl, oX, hb9, hn4⟩
  have ow9 := (ow8.below hal).below hb9
  have jB9 : Blk w9 w8.heap.size 27 #[.bool true, .slice RJ kJ cJ] := (Blk.new w8 _ _).below hb9 (by simp)
  have oJ9 := own_below (own_below oJ hal) hb9
  have h89 : w8.heap.size + 1 ≤ w9.heap.size := by have := hb9.size; simpa using this
  have oX9 := own_low oX (b := w8.heap.size + 1) (by simp)
  clear hal ow8 hb9 oJ oX a0 a1 la b0 b1 lb
  obtain ⟨q1, q2⟩ := qq
  simp only
  have j0 := jB9.cell 0
  have j1 := jB9.cell 1
  have lj := jB9.lt
  go_wp2
  refine at_world (fun W => Ow w W w3.heap.size Ra ka ca Rb kb cb xs ys ∧ Blk W w8.heap.size 27 #[.bool true, .slice RJ kJ cJ] ∧ Blk W w9.heap.size 27 #[.bool true, .slice R4 n4 e4] ∧ W.ownsRow w7.heap.size 34 2 (.slice RJ kJ cJ) kJ (flat (xs ++ ys)) ∧ W.ownsRow (w8.heap.size + 1) 34 2 (.slice R4 n4 e4) n4 (flat zs))
    ⟨ow9.below (((Below.refl _ _).alloc (Nat.le_refl _) _).alloc (by simp) _), (jB9.alloc _).alloc _, (Blk.new w9 _ _).alloc _, (oJ9.alloc _).alloc _, (oX9.alloc _).alloc _⟩ (fun wA hX => ?_)
  clear ow9 jB9 oJ9 oX9 j0 j1 lj
  obtain ⟨owA, jBA, xBA, oJA, oXA⟩ := hX
  go_loopg [36] kJ (fun g i wr => ∃ k : Nat, k ≤ kJ ∧ g = kJ - k ∧ i = .int .i64 k ∧ Aside (Below w.heap.size w wr ∧ (∀ b, ¬ (Value.slice RJ kJ cJ).ownBlock = some b → b < wA.heap.size → wr.heap[b]? = wA.heap[b]?) ∧ wA.heap.size ≤ wr.heap.size ∧ ∀ g, (Value.slice RJ kJ cJ).ownBlock = some g → ∃ cur, Blk wr g 34 cur ∧ kJ * 2 ≤ cur.size))
  case atStart =>
    refine ⟨0, Nat.zero_le _, rfl, rfl, owA.bel, fun _ _ _ => rfl, Nat.le_refl _, fun g hg => ?_⟩
    rcases oJA.2 with ⟨h1, _⟩ | ⟨g', cap, cur, hv, _, hh, hnc, _, hcs, _⟩
    · rw [h1] at hg; cases hg
    · rw [hv] at hg
      simp only [Value.ownBlock, Option.some.injEq] at hg
      subst hg
      exact ⟨cur, hh, by omega⟩
  case round =>
    obtain ⟨k, hk, hg, rfl, hH⟩ := hrel
    obtain ⟨hbr, hsame, hszr, hcur⟩ := hH.out
    clear hH
    have jR : Blk wr w8.heap.size 27 #[.bool true, .slice RJ kJ cJ] := (hsame _ (fun h => by have := (H7.out.2.2 _ h); omega) jBA.lt).trans jBA
    by_cases hkJ2 : k < kJ
    · have hkz : (k : Int) < kJ := by omega
      obtain ⟨gJ, cur0, rfl, hgJ, _, hnc, _⟩ := own_ptr oJA (by omega)
      obtain ⟨cur, cB, hcs⟩ := hcur gJ rfl
      have hgw : w.heap.size ≤ gJ := Nat.le_trans hw7 hgJ
      have lt0 : k * 2 < cur.size := by omega
      have lt1 : k * 2 + 1 < cur.size := by omega
      have c0 := (cB.cell (k * 2)).trans (Array.getElem?_eq_getElem lt0)
      have c1 := (cB.cell (k * 2 + 1)).trans (Array.getElem?_eq_getElem lt1)
      have f0 := cB.frozen (k * 2)
      have f1 := cB.frozen (k * 2 + 1)
      have lg := cB.lt
      have j0 := jR.cell 0
      have j1 := jR.cell 1
      have lj := jR.lt
      have HS := hide hsame
      have HC := hide cB
      clear hsame cB hcur
      go_wp2
      go_roundg (kJ - (k + 1))
      case measure => omega
      case rel =>
        refine ⟨k + 1, by omega, rfl, by go_num, (hbr.setCell hgw _).setCell hgw _, fun b hb hb2 => ?_, by simpa [World.setCell] using hszr, fun g hg => ?_⟩
        · have hne : b ≠ gJ := fun e => hb (by rw [e]; rfl)
          rw [Below.heap_setCell _ _ _ _ hne, Below.heap_setCell _ _ _ _ hne]
          exact HS.out b hb hb2
        · simp only [Value.ownBlock, Option.some.injEq] at hg
          subst hg
          exact ⟨_, (HC.out.set_ _ _).set_ _ _, by simpa using hcs⟩
    · have hkz : decide ((k : Int) < kJ) = false := by simp; omega
      have hJ7 : ∀ g, (Value.slice RJ kJ cJ).ownBlock = some g → w7.heap.size ≤ g := fun g hg => own_ge oJA hg
      have lj := jBA.lt
      have owR := owA.keep hbr w7.heap.size hp7 H7.out.1 H7.out.2.1 (fun k hk => hsame k (fun h => by have := hJ7 k h; omega) (by omega))
      have xR : Blk wr w9.heap.size 27 #[.bool true, .slice R4 n4 e4] := (hsame _ (fun h => by have := H7.out.2.2 _ h; omega) xBA.lt).trans xBA
      have oXR := own_keep oXA (fun g hg => hsame g (fun h => by have := H7.out.2.2 _ h; have := own_ge oXA hg; omega) (oXA.lt g hg).2)
      have hw8 : w8.heap.size + 1 ≤ wr.heap.size := by omega
      clear hsame hcur jR jBA xBA oJA oXA owA lj hJ7
      have x0 := xR.cell 0
      have x1 := xR.cell 1
      have lx := xR.lt
      have hal : Below wr.heap.size wr (wr.alloc (.cells #[.string ⟨#[122, 122]⟩, .string ⟨#[]⟩] 34)) := (Below.refl _ _).alloc (Nat.le_refl _) _
      have oXS := own_below oXR hal
      have xS := xR.below hal xR.lt
      have RD : Rd (wr.alloc (.cells #[.string ⟨#[122, 122]⟩, .string ⟨#[]⟩] 34)) (wr.heap.size + 1) 2 (some ⟨wr.heap.size, 0, none⟩) 1 [.string ⟨#[122, 122]⟩, .string ⟨#[]⟩] := Rd.lit2 (Blk.new wr 34 #[.string ⟨#[122, 122]⟩, .string ⟨#[]⟩])
      go_wp2_with (at_builtin; refine wpList_append_rd _ rfl (.tmp 46) (.tmp 48) 25 rfl (w8.heap.size + 1) 34 i0 (.agg #[.string ByteArray.empty, .string ByteArray.empty]) 2 32 Tryd.underlying25 hi0 hq0 hq1 hq2 rfl (by decide) (.slice R4 n4 e4) n4 (flat zs) rfl oXS _ _ 1 1 _ rfl RD (by simp [Value.oneCell']) (by simp only [maxLen]; omega) (by omega) (by simp; omega) ?_; intro v' wB hown hg2 hnil hat; obtain ⟨R6, e6, rfl, -⟩ := own_form hown; have xB2 := xS.grown hg2 (fun e => blk_not_own xS oXS (by decide) e.symm); have x12 := xB2.cell 1; have f12 := xB2.frozen 1; have lx2 := xB2.lt; have hbB : Below w.heap.size w wB := ((owR.bel.alloc owR.bel.size _).grown hg2 (by have := owR.bel.size; simp; omega) (fun g hg => by have := own_ge oXS hg; omega)); have owB := (owR.below hal).keep hbB w7.heap.size hp7 H7.out.1 H7.out.2.1 (fun k hk => hg2.block k (by simp; omega) (fun e => by have := own_ge oXS e.symm; omega)); have owC := owB.keep (owB.bel.setCell (p := ⟨w9.heap.size, 1, none⟩) (by show w.heap.size ≤ w9.heap.size; omega) (.slice R6 (n4 + 1) e6)) w7.heap.size hp7 H7.out.1 H7.out.2.1 (fun k hk => Below.heap_setCell _ _ _ _ (by show k ≠ w9.heap.size; omega)); have a0 := owB.aB.cell 0; have a1 := owB.aB.cell 1; have la := owB.aB.lt; have n1 : w3.heap.size ≠ w9.heap.size := (by omega); have n2 : w9.heap.size ≠ w3.heap.size := (by omega); clear x0 x1 lx)
      refine (text_ok true Ra ka ca xs _ (Rd.of_own owC.oa) HSA.out (by omega)).mono ?_
      rintro e wD ⟨rfl, hbD⟩
      have owD := owC.below hbD
      clear a0 a1 la x12 f12 lx2
      have a0 := owD.aB.cell 0
      have a1 := owD.aB.cell 1
      have la := owD.aB.lt
      have b0 := owD.bB.cell 0
      have b1 := owD.bB.cell 1
      have lb := owD.bB.lt
      go_wp2_with fail
      refine (text_ok false Rb kb cb ys wD (Rd.of_own owD.ob) HSB.out (by omega)).mono ?_
      rintro e wE ⟨rfl, hbE⟩
      have owE := owD.below hbE
      go_wp2
      go_returns
      exact ⟨rfl, owE.bel⟩
end
end Go.Proofs.YtkjgieehiimiiaaDoor

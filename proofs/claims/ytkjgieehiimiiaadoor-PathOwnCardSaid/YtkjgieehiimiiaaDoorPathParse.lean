/- Paths: a text as a path: the walk of path.Parse. -/
import Derived.Test.YtkjgieehiimiiaaDoorPathPart
import Derived.Test.YtkjgieehiimiiaaDoorRegion
namespace Go.Proofs.YtkjgieehiimiiaaDoor
open Go.RowKit

theorem info_part : (Tryd.prog.info? 34).map (fun i => (i.zero, i.size, i.bytes)) = some (some (.agg #[.string ByteArray.empty, .string ByteArray.empty]), 2, 32) := by kernel_rfl

/-- parts as cells -/
def flat (ps : List (BL × BL)) : List Value := ps.flatMap fun q => [.string ⟨q.1.toArray⟩, .string ⟨q.2.toArray⟩]
theorem flat_snoc (ps : List (BL × BL)) (q : BL × BL) : flat (ps ++ [q]) = flat ps ++ [.string ⟨q.1.toArray⟩, .string ⟨q.2.toArray⟩] := by simp [flat]
theorem flat_length (ps : List (BL × BL)) : (flat ps).length = ps.length * 2 := by
  induction ps with
  | nil => rfl
  | cons q r ih => simp [flat] at ih ⊢; omega

/-- what is read already, and what is to come -/
def joined (done : List (BL × BL)) (r : List (BL × BL) × Int) : List (BL × BL) × Int := if r.2 ≠ 0 then ([], r.2) else (done ++ r.1, 0)
theorem joined_nil (r : List (BL × BL) × Int) (h : r.2 ≠ 0 → r.1 = []) : joined [] r = r := by
  unfold joined
  obtain ⟨a, b⟩ := r
  by_cases hb : b = 0
  · subst hb; simp
  · simp only at h; rw [if_pos hb, h hb]
theorem partsOf_bad : ∀ (l : List BL), (partsOf l).2 ≠ 0 → (partsOf l).1 = []
  | [], h => by simp [partsOf] at h
  | x :: r, h => by
    unfold partsOf at h ⊢
    split
    · rename_i h1; rw [if_pos h1] at h; exact partsOf_bad r h
    · rename_i h1
      rw [if_neg h1] at h
      split
      · rfl
      · rename_i h2
        rw [if_neg h2] at h
        split
        · rfl
        · rename_i h3; rw [if_neg h3] at h; exact absurd rfl h
theorem joined_end (done : List (BL × BL)) : joined done (partsOf []) = (done, 0) := by simp [joined, partsOf]
theorem joined_skip {done : List (BL × BL)} {x : BL} {r : List BL} (h : x = []) : joined done (partsOf (x :: r)) = joined done (partsOf r) := by rw [partsOf, if_pos h]
theorem joined_err {done : List (BL × BL)} {x : BL} {r : List BL} (h : x ≠ []) (h2 : (partL x).2.2 ≠ 0) : joined done (partsOf (x :: r)) = ([], (partL x).2.2) := by
  rw [partsOf, if_neg h, if_pos h2, joined, if_pos h2]
theorem joined_next {done : List (BL × BL)} {x : BL} {r : List BL} (h : x ≠ []) (h2 : (partL x).2.2 = 0) : joined done (partsOf (x :: r)) = joined (done ++ [((partL x).1, (partL x).2.1)]) (partsOf r) := by
  rw [partsOf, if_neg h, if_neg (fun hh => hh h2)]
  unfold joined
  by_cases h3 : (partsOf r).2 ≠ 0
  · rw [if_pos h3, if_pos h3, if_pos h3]
  · rw [if_neg h3, if_neg h3, if_neg (by simp)]
    simp

theorem pieces_le : ∀ (l acc : BL) (x : BL), x ∈ pieces acc l → x.length ≤ acc.length + l.length
  | [], acc, x, h => by simp [pieces] at h; subst h; simp
  | c :: r, acc, x, h => by
    unfold pieces at h
    split at h
    · rcases List.mem_cons.1 h with rfl | h
      · simp
      · have := pieces_le r [] x h; simp at this ⊢; omega
    · have := pieces_le r _ x h; simp at this ⊢; omega

/-- where path.Parse's loop stands -/
structure Pp (w0 w : World) (abs : Bool) (bs : List ByteArray) (A : Option Addr) (n c : Nat) (done : List (BL × BL)) : Prop where
  bel : Below w0.heap.size w0 w
  rB : Blk w w0.heap.size 27 #[.bool false, .slice none 0 0]
  pB : Blk w (w0.heap.size + 1) 27 #[.bool abs, .slice A n c]
  sB : Blk w (w0.heap.size + 2) 9 (bs.map Value.string).toArray
  own : w.ownsRow (w0.heap.size + 3) 34 2 (.slice A n c) n (flat done)

section
variable {w0 w w' : World} {abs : Bool} {bs : List ByteArray} {A A' : Option Addr} {n c n' c' : Nat} {done : List (BL × BL)}
theorem Pp.below (h : Pp w0 w abs bs A n c done) (hb : Below w.heap.size w w') : Pp w0 w' abs bs A n c done :=
  ⟨h.bel.trans (hb.mono h.bel.size), h.rB.below hb h.rB.lt, h.pB.below hb h.pB.lt, h.sB.below hb h.sB.lt, own_below h.own hb⟩
theorem own_ge {base : Nat} {e : TypeId} {sz n : Nat} {v : Value} {xs : List Value} {g : Nat} (h : w.ownsRow base e sz v n xs) (hv : v.ownBlock = some g) : base ≤ g := by
  rcases h.2 with ⟨rfl, _⟩ | ⟨g', cap, cur, rfl, hb, _⟩
  · cases hv
  · simp only [Value.ownBlock, Option.some.injEq] at hv
    omega
theorem own_low {base b : Nat} {e : TypeId} {sz n : Nat} {v : Value} {xs : List Value} (h : w.ownsRow base e sz v n xs) (hb : b ≤ base) : w.ownsRow b e sz v n xs := by
  refine ⟨h.1, ?_⟩
  rcases h.2 with h | ⟨g, cap, cur, h1, h2, h3⟩
  · exact Or.inl h
  · exact Or.inr ⟨g, cap, cur, h1, Nat.le_trans hb h2, h3⟩
theorem Rd.lit2 {W : World} {g : Nat} {a b : Value} {t : TypeId} (h : Blk W g t #[a, b]) : Rd W (g + 1) 2 (some ⟨g, 0, none⟩) 1 [a, b] := by
  refine ⟨rfl, fun _ => ⟨g, 0, rfl, by omega, fun j u hj => ?_⟩⟩
  rw [Nat.zero_add, h.cell j]
  match j, hj with
  | 0, hj => exact hj
  | 1, hj => exact hj
  | j + 2, hj => simp at hj
theorem Pp.piece (h : Pp w0 w abs bs A n c done) {k : Nat} (hk : k < bs.length) : w.cell? ⟨w0.heap.size + 2, k, none⟩ = some (.string bs[k]) := by
  rw [h.sB.cell k]; simp [hk]
end

set_option maxRecDepth 100000 in
theorem parse_empty (w : World) : Calls Tryd.prog 8 #[.string ⟨#[]⟩] w fun e w' => e = .returned (.tuple #[.agg #[.bool false, .slice none 0 0], .int .i64 7]) ∧ Below w.heap.size w w' := by
  go_enter Tryd.func8, Tryd.ntmps8
  go_wp2
  refine bodyPost_ret (results_run2 rfl (ResV.struct rfl (Blk.new _ _ _) Tryd.underlying27 (by kernel_rfl)) rfl) rfl ?_
  exact ⟨rfl, (Below.refl _ _).alloc (Nat.le_refl _) _⟩

set_option maxRecDepth 100000 in
theorem parse_long (s : ByteArray) (w : World) (h : 120 < s.size) : Calls Tryd.prog 8 #[.string s] w fun e w' => e = .returned (.tuple #[.agg #[.bool false, .slice none 0 0], .int .i64 8]) ∧ Below w.heap.size w w' := by
  have n1 : ¬ s.toList = [] := by rw [Lib.toList_data]; exact fun h2 => absurd (show s.size = 0 by rw [sz, h2]; rfl) (by omega)
  have b1 : s.toList.isEmpty = false := by simpa using n1
  have t1 : decide ((120 : Int) < s.size) = true := by simp; omega
  go_enter Tryd.func8, Tryd.ntmps8
  go_wp2
  refine bodyPost_ret (results_run2 rfl (ResV.struct rfl (Blk.new _ _ _) Tryd.underlying27 (by kernel_rfl)) rfl) rfl ?_
  exact ⟨rfl, (Below.refl _ _).alloc (Nat.le_refl _) _⟩

set_option maxRecDepth 100000 in
set_option maxHeartbeats 4000000 in
theorem parse_some (s : ByteArray) (w : World) (hm : Mx w) (h0 : 0 < s.size) (h1 : s.size ≤ 120) :
    Calls Tryd.prog 8 #[.string s] w fun e w' => ∃ A n c, e = .returned (.tuple #[.agg #[.bool (parseL s.data.toList).1, .slice A n c], .int .i64 (parseL s.data.toList).2.2]) ∧
      w'.ownsRow w.heap.size 34 2 (.slice A n c) n (flat (parseL s.data.toList).2.1) ∧ Below w.heap.size w w' := by
  have n1 : ¬ s.toList = [] := by rw [Lib.toList_data]; exact fun h2 => absurd (show s.size = 0 by rw [sz, h2]; rfl) (by omega)
  have b1 : s.toList.isEmpty = false := by simpa using n1
  have t1 : decide ((120 : Int) < s.size) = false := by simp; omega
  have hz0 : (0 : Int) < s.size := by omega
  obtain ⟨bs, hbs⟩ : ∃ bs, Lib.splitB ⟨#[47]⟩ 0 (Lib.countB s ⟨#[47]⟩) s = bs := ⟨_, rfl⟩
  have hlen : bs.length = Lib.countB s ⟨#[47]⟩ + 1 := by rw [← hbs]; exact Lib.splitB_all _ (by decide) 0 _ s rfl
  have hcnt : Lib.countB s ⟨#[47]⟩ ≤ s.size := Lib.countB_le ⟨#[47]⟩ (by decide) s.size s (Nat.le_refl _)
  have hpieces : bs.map (·.data.toList) = pieces [] s.data.toList := by rw [pieces_is, ← hbs, Lib.splitB_data]; rfl
  obtain ⟨N, hN⟩ : ∃ N, Lib.countB s ⟨#[47]⟩ + 1 = N := ⟨_, rfl⟩
  rw [hN] at hlen
  have hN2 : N ≤ 121 := by omega
  have hsplit := fun (W : World) (hm : Mx W) => (hm.elim fun m hm => Tryd.strings_Split s ⟨#[47]⟩ m W (by omega) hm (by decide))
  rw [hbs, hN] at hsplit
  obtain ⟨i0, hi0, hq0, hq1, hq2⟩ := info_parts info_part
  clear hbs hcnt hN
  go_enter Tryd.func8, Tryd.ntmps8
  go_wp2_with fail
  refine (hsplit _ ((hm.below' ((Below.refl _ _).alloc (Nat.le_refl _) _)).below' ((Below.refl _ _).alloc (Nat.le_refl _) _))).mono ?_
  rintro e w' ⟨rfl, rfl⟩
  have habs : (((s[0].toNat : Nat) : Int) == 47) = (decide (s.data.toList.head? = some 47)) := by
    have hg := get_byte s 0 h0
    rw [List.head?_eq_getElem?, hg]
    by_cases h : s[0] = 47
    · rw [h]; rfl
    · have e1 : ¬ (((s[0].toNat : Nat) : Int) = 47) := fun h2 => h (UInt8.toNat_inj.1 (by show s[0].toNat = 47; omega))
      simp [h, e1]
  rw [habs]
  obtain ⟨abs, hab⟩ : ∃ abs, decide (s.data.toList.head? = some 47) = abs := ⟨_, rfl⟩
  rw [hab]
  have hpl : parseL s.data.toList = if (joined [] (partsOf ((bs.drop 0).map (·.data.toList)))).2 ≠ 0 then (false, [], (joined [] (partsOf ((bs.drop 0).map (·.data.toList)))).2) else (abs, (joined [] (partsOf ((bs.drop 0).map (·.data.toList)))).1, 0) := by
    rw [List.drop_zero, hpieces, joined_nil _ (partsOf_bad _), ← hab]
    unfold parseL
    rw [if_neg (fun h => absurd (show s.size = 0 by rw [sz, h]; rfl) (by omega)), if_neg (by have := sz s; omega)]
  have HPL := hide hpl
  have hxs : ∀ k (hk : k < bs.length), bs[k].size < 4294967281 := fun k hk => by
    have hmem : bs[k].data.toList ∈ pieces [] s.data.toList := by rw [← hpieces]; exact List.mem_map.2 ⟨_, List.getElem_mem hk, rfl⟩
    have h2 := pieces_le _ _ _ hmem
    have := sz bs[k]
    have := sz s
    simp only [List.length_nil] at h2
    omega
  have HXS := hide hxs
  clear hxs
  have p0 : Pp w _ abs bs none 0 0 [] := ⟨(((Below.refl _ _).alloc (Nat.le_refl _) _).alloc (by simp) _).alloc (by simp; omega) _, ((Blk.new w 27 #[.bool false, .slice none 0 0]).alloc _).alloc _, by
    have := (Blk.new (w.alloc (.cells #[.bool false, .slice none 0 0] 27)) 27 #[.bool abs, .slice none 0 0]).alloc (.cells (bs.map Value.string).toArray 9)
    simpa using this, by
    have := Blk.new ((w.alloc (.cells #[.bool false, .slice none 0 0] 27)).alloc (.cells #[.bool abs, .slice none 0 0] 27)) 9 (bs.map Value.string).toArray
    simpa using this, World.ownsRow_nil _ _ _ _⟩
  have hM : Mx _ := hm.below' p0.bel
  clear hpl hpieces habs hab hsplit
  go_wp2
  go_loopg [25] N (fun g i wr => ∃ k : Nat, k ≤ N ∧ g = N - k ∧ i = .int .i64 k ∧ Aside (∃ A n c done, Pp w wr abs bs A n c done ∧ n ≤ k ∧ joined [] (partsOf ((bs.drop 0).map (·.data.toList))) = joined done (partsOf ((bs.drop k).map (·.data.toList)))))
  case atStart => exact ⟨0, Nat.zero_le _, rfl, rfl, none, 0, 0, [], p0, Nat.le_refl _, rfl⟩
  case round =>
    obtain ⟨k, hk, hg, rfl, hA⟩ := hrel
    clear p0
    by_cases hkm : k < N
    · have hkz : (k : Int) < N := by omega
      obtain ⟨A, n, c, done, pp, hnk, hj⟩ := hA.out
      have hbk : k < bs.length := by omega
      have cp := pp.piece hbk
      have hbl := pp.sB.lt
      have hdrop : (bs.drop k).map (·.data.toList) = bs[k].data.toList :: (bs.drop (k + 1)).map (·.data.toList) := by
        rw [List.drop_eq_getElem_cons hbk]; rfl
      rw [hdrop] at hj
      obtain ⟨x, hx⟩ : ∃ x, bs[k] = x := ⟨_, rfl⟩
      have hxs := HXS.out k hbk
      rw [hx] at cp hj hxs
      clear hA hdrop hx
      by_cases hx0 : x.data.toList = []
      · have ht : x.toList = [] := by rw [Lib.toList_data]; exact hx0
        have bt : x.toList.isEmpty = true := by simp [ht]
        rw [joined_skip hx0] at hj
        have HJ := hide hj
        have PP := hide pp
        clear hj pp hx0
        go_wp2
        go_roundg (N - (k + 1))
        case measure => omega
        case rel => exact ⟨k + 1, by omega, rfl, by go_num, A, n, c, done, PP.out, by omega, HJ.out⟩
      · have n2 : ¬ x.toList = [] := by rw [Lib.toList_data]; exact hx0
        have b2 : x.toList.isEmpty = false := by simpa using n2
        have HJ := hide hj
        have HX := hide hx0
        clear hj hx0
        go_wp2_with fail
        refine (part_ok x wr hxs (hm.below' pp.bel)).mono ?_
        rintro e w1 ⟨rfl, hb1⟩
        have hj := HJ.out
        have hx0 := HX.out
        by_cases her : (partL x.data.toList).2.2 = 0
        · rw [joined_next hx0 her] at hj
          rw [her]
          generalize ((partL x.data.toList).1, (partL x.data.toList).2.1) = q at hj ⊢
          have HJ2 := hide hj
          clear hj hx0 her HJ HX cp
          have p1 := pp.below hb1
          have q0 := p1.pB.cell 0
          have q1 := p1.pB.cell 1
          have f1 := p1.pB.frozen 1
          have hpb := p1.pB.lt
          have hrb := p1.rB.lt
          have PP := hide p1
          clear p1 pp hb1 hbl
          obtain ⟨qa, qb⟩ := q
          simp only [pv]
          obtain ⟨W, hW⟩ : ∃ W, W = (w1.alloc (.cells #[.string ⟨qa.toArray⟩, .string ⟨qb.toArray⟩] 34)).alloc (.cells #[.string ⟨qa.toArray⟩, .string ⟨qb.toArray⟩] 34) := ⟨_, rfl⟩
          have hbW : Below w1.heap.size w1 W := by rw [hW]; exact ((Below.refl _ _).alloc (Nat.le_refl _) _).alloc (by simp) _
          have RD : Rd W (w1.heap.size + 1 + 1) 2 (some ⟨w1.heap.size + 1, 0, none⟩) 1 [.string ⟨qa.toArray⟩, .string ⟨qb.toArray⟩] := Rd.lit2 (t := 34) (by have := Blk.new (w1.alloc (.cells #[.string ⟨qa.toArray⟩, .string ⟨qb.toArray⟩] 34)) 34 #[.string ⟨qa.toArray⟩, .string ⟨qb.toArray⟩]; rw [← hW] at this; simpa using this)
          have PPW := hide (PP.out.below hbW)
          have hsz : w.heap.size + 3 ≤ W.heap.size := PPW.out.sB.lt
          rw [hW] at RD PPW hsz
          clear hW hbW
          go_wp2_with (at_builtin; refine wpList_append_rd _ rfl (.tmp 41) (.tmp 43) 25 rfl (w.heap.size + 3) 34 i0 (.agg #[.string ByteArray.empty, .string ByteArray.empty]) 2 32 Tryd.underlying25 hi0 hq0 hq1 hq2 rfl (by decide) (.slice A n c) n (flat done) rfl PPW.out.own _ _ 1 1 _ rfl RD (by simp [Value.oneCell']) (by simp only [maxLen]; omega) (by omega) hsz ?_; intro v' w2 hown hg2 hnil hat; obtain ⟨A2, c2, rfl, hnc, hcm, -⟩ := own_form hown; have pB2 := PPW.out.pB.grown hg2 (fun e => blk_not_own PPW.out.pB PPW.out.own (by decide) e.symm); have q12 := pB2.cell 1; have f12 := pB2.frozen 1; have hl2 := pB2.lt; clear q0 q1 f1 hpb hrb)
          have rB2 := PPW.out.rB.grown hg2 (fun e => blk_not_own PPW.out.rB PPW.out.own (by decide) e.symm)
          have sB2 := PPW.out.sB.grown hg2 (fun e => blk_not_own PPW.out.sB PPW.out.own (by decide) e.symm)
          go_roundg (N - (k + 1))
          case measure => omega
          case rel => exact ⟨k + 1, by omega, rfl, by go_num, A2, n + 1, c2, done ++ [(qa, qb)], ⟨(PPW.out.bel.grown hg2 (by omega) (fun g hg => Nat.le_trans (by omega) (own_ge PPW.out.own hg))).setCell (by simp) _, rB2.far (by simp) _, by simpa using pB2.set_ 1 (.slice A2 (n + 1) c2), sB2.far (by simp) _, ownsRow_setCell_below (by rw [flat_snoc]; exact hown) (by simp) _⟩, by omega, HJ2.out⟩
        · rw [joined_err hx0 her] at hj
          have hz : ((partL x.data.toList).2.2 == 0) = false := by simp [her]
          have p1 := pp.below hb1
          have r0 := p1.rB.cell 0
          have r1 := p1.rB.cell 1
          have f0 := p1.rB.frozen 0
          have f1 := p1.rB.frozen 1
          have hrb := p1.rB.lt
          have e1 : ((0 : Int) == 0) = true := rfl
          generalize (partL x.data.toList).2.2 = er at hz her hj ⊢
          generalize ((partL x.data.toList).1, (partL x.data.toList).2.1) = q
          obtain ⟨qa, qb⟩ := q
          simp only [pv]
          have HJ2 := hide hj
          have PP := hide p1
          clear hj hx0 HJ HX cp p1 pp hb1 hbl
          go_wp2
          have B2 : Blk _ w.heap.size 27 #[.bool false, .slice none 0 0] :=
            ((PP.out.rB.set_ 0 (.bool false)).set_ 1 (.slice none 0 0)).alloc (.cells #[.string ⟨qa.toArray⟩, .string ⟨qb.toArray⟩] 34)
          refine bodyPost_ret (results_run2 rfl (ResV.struct rfl B2 Tryd.underlying27 (by kernel_rfl)) rfl) rfl ?_
          refine ⟨none, 0, 0, ?_, ?_, ?_⟩
          · rw [HPL.out, HJ2.out, if_pos her]; rfl
          · rw [HPL.out, HJ2.out, if_pos her]; exact World.ownsRow_nil _ _ _ _
          · exact ((PP.out.bel.setCell (by simp) _).setCell (by simp) _).alloc (by simp; omega) _
    · have hkz : decide ((k : Int) < N) = false := by simp; omega
      obtain ⟨A, n, c, done, pp, hnk, hj⟩ := hA.out
      have hdr : bs.drop k = [] := List.drop_eq_nil_of_le (by omega)
      rw [hdr, List.map_nil, joined_end] at hj
      have q0 := pp.pB.cell 0
      have q1 := pp.pB.cell 1
      have r0 := pp.rB.cell 0
      have r1 := pp.rB.cell 1
      have f0 := pp.rB.frozen 0
      have f1 := pp.rB.frozen 1
      have hpb := pp.pB.lt
      have hrb := pp.rB.lt
      have PP := hide pp
      have HJ2 := hide hj
      clear hA hj hdr pp
      go_wp2
      have B2 : Blk _ w.heap.size 27 #[.bool abs, .slice A n c] := (PP.out.rB.set_ 0 (.bool abs)).set_ 1 (.slice A n c)
      refine bodyPost_ret (results_run2 rfl (ResV.struct rfl B2 Tryd.underlying27 (by kernel_rfl)) rfl) rfl ?_
      refine ⟨A, n, c, ?_, ?_, ?_⟩
      · rw [HPL.out, HJ2.out, if_neg (fun h => h rfl)]; rfl
      · rw [HPL.out, HJ2.out, if_neg (fun h => h rfl)]
        exact own_low (ownsRow_setCell_below (ownsRow_setCell_below PP.out.own (by simp) _) (by simp) _) (by omega)
      · exact (PP.out.bel.setCell (by simp) _).setCell (by simp) _

theorem parse_ok (s : ByteArray) (w : World) (hm : Mx w) :
    Calls Tryd.prog 8 #[.string s] w fun e w' => ∃ A n c, e = .returned (.tuple #[.agg #[.bool (parseL s.data.toList).1, .slice A n c], .int .i64 (parseL s.data.toList).2.2]) ∧
      w'.ownsRow w.heap.size 34 2 (.slice A n c) n (flat (parseL s.data.toList).2.1) ∧ Below w.heap.size w w' := by
  by_cases h0 : 0 < s.size
  · by_cases h1 : s.size ≤ 120
    · exact parse_some s w hm h0 h1
    · refine (parse_long s w (by omega)).mono ?_
      rintro e w' ⟨rfl, hb⟩
      have hp : parseL s.data.toList = (false, [], 8) := by
        unfold parseL
        rw [if_neg (fun h => absurd (show s.size = 0 by rw [sz, h]; rfl) (by omega)), if_pos (by have := sz s; omega)]
      rw [hp]
      exact ⟨none, 0, 0, rfl, World.ownsRow_nil _ _ _ _, hb⟩
  · have e0 : s = ⟨#[]⟩ := by
      have h2 := Lib.mk_data s
      have h3 : s.data.toList = [] := List.eq_nil_of_length_eq_zero (by have := sz s; omega)
      rw [h3] at h2
      exact h2.symm
    subst e0
    refine (parse_empty w).mono ?_
    rintro e w' ⟨rfl, hb⟩
    exact ⟨none, 0, 0, rfl, World.ownsRow_nil _ _ _ _, hb⟩
end Go.Proofs.YtkjgieehiimiiaaDoor

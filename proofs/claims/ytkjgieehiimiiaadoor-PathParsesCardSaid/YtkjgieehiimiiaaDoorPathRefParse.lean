/- Paths: a text as a path, the document's answer: the walk of garrisonref11.Parse. -/
import Derived.Test.YtkjgieehiimiiaaDoorPathJoin
namespace Go.Proofs.YtkjgieehiimiiaaDoor
open Go.RowKit

/-- what is to come, at place k, where the piece that is read began at f -/
def rest (l : BL) (f k : Nat) : List BL := if k ≤ l.length then pieces ((l.drop f).take (k - f)) (l.drop k) else []
theorem rest_step {l : BL} {f k : Nat} {c : UInt8} (hk : k < l.length) (hf : f ≤ k) (hc : l[k]? = some c) (h : c ≠ 47) : rest l f k = rest l f (k + 1) := by
  unfold rest
  rw [if_pos (by omega), if_pos (by omega)]
  have hd : l.drop k = c :: l.drop (k + 1) := by
    rw [List.drop_eq_getElem_cons hk]
    rw [List.getElem?_eq_getElem hk] at hc
    rw [Option.some.inj hc]
  rw [hd, pieces, if_neg h]
  have e : (l.drop f).take (k - f) ++ [c] = (l.drop f).take (k + 1 - f) := by
    rw [show k + 1 - f = (k - f) + 1 by omega, List.take_add_one, List.getElem?_drop, show f + (k - f) = k by omega, hc]
    rfl
  rw [e]
theorem rest_cut {l : BL} {f k : Nat} (hk : k ≤ l.length) (hc : k < l.length → l[k]? = some 47) : rest l f k = ((l.drop f).take (k - f)) :: rest l (k + 1) (k + 1) := by
  unfold rest
  rw [if_pos hk]
  by_cases h : k < l.length
  · have hc := hc h
    have hd : l.drop k = 47 :: l.drop (k + 1) := by
      rw [List.drop_eq_getElem_cons h]
      rw [List.getElem?_eq_getElem h] at hc
      rw [Option.some.inj hc]
    rw [hd, pieces, if_pos rfl, if_pos (by omega), Nat.sub_self, List.take_zero]
  · have hd : l.drop k = [] := List.drop_eq_nil_of_le (by omega)
    rw [hd, pieces, if_neg (by omega)]

set_option maxRecDepth 100000 in
theorem refparse_empty (w : World) : Calls Tryd.prog 9 #[.string ⟨#[]⟩] w fun e w' => e = .returned (.tuple #[.bool false, .slice none 0 0, .int .i64 7]) ∧ w' = w := by
  go_enter Tryd.func9, Tryd.ntmps9
  go_wp2
  go_returns
  exact ⟨rfl, rfl⟩

set_option maxRecDepth 100000 in
theorem refparse_long (s : ByteArray) (w : World) (h : 120 < s.size) : Calls Tryd.prog 9 #[.string s] w fun e w' => e = .returned (.tuple #[.bool false, .slice none 0 0, .int .i64 8]) ∧ w' = w := by
  have n1 : ¬ s.toList = [] := by rw [Lib.toList_data]; exact fun h2 => absurd (show s.size = 0 by rw [sz, h2]; rfl) (by omega)
  have b1 : s.toList.isEmpty = false := by simpa using n1
  have t1 : decide ((120 : Int) < s.size) = true := by simp; omega
  go_enter Tryd.func9, Tryd.ntmps9
  go_wp2
  go_returns
  exact ⟨rfl, rfl⟩

set_option maxRecDepth 100000 in
set_option maxHeartbeats 4000000 in
theorem refparse_some (s : ByteArray) (w : World) (h0 : 0 < s.size) (h1 : s.size ≤ 120) :
    Calls Tryd.prog 9 #[.string s] w fun e w' => ∃ A n c, e = .returned (.tuple #[.bool (parseL s.data.toList).1, .slice A n c, .int .i64 (parseL s.data.toList).2.2]) ∧
      w'.ownsRow w.heap.size 34 2 (.slice A n c) n (flat (parseL s.data.toList).2.1) ∧ Below w.heap.size w w' := by
  have n1 : ¬ s.toList = [] := by rw [Lib.toList_data]; exact fun h2 => absurd (show s.size = 0 by rw [sz, h2]; rfl) (by omega)
  have b1 : s.toList.isEmpty = false := by simpa using n1
  have t1 : decide ((120 : Int) < s.size) = false := by simp; omega
  have hz0 : (0 : Int) < s.size := by omega
  obtain ⟨i0, hi0, hq0, hq1, hq2⟩ := info_parts info_part
  have habs : (((s[0].toNat : Nat) : Int) == 47) = (decide (s.data.toList.head? = some 47)) := by
    have hg := get_byte s 0 h0
    rw [List.head?_eq_getElem?, hg]
    by_cases h : s[0] = 47
    · rw [h]; rfl
    · have e1 : ¬ (((s[0].toNat : Nat) : Int) = 47) := fun h2 => h (UInt8.toNat_inj.1 (by show s[0].toNat = 47; omega))
      simp [h, e1]
  obtain ⟨abs, hab⟩ : ∃ abs, decide (s.data.toList.head? = some 47) = abs := ⟨_, rfl⟩
  rw [hab] at habs
  have hpl : parseL s.data.toList = if (joined [] (partsOf (pieces [] s.data.toList))).2 ≠ 0 then (false, [], (joined [] (partsOf (pieces [] s.data.toList))).2) else (abs, (joined [] (partsOf (pieces [] s.data.toList))).1, 0) := by
    rw [joined_nil _ (partsOf_bad _), ← hab]
    unfold parseL
    rw [if_neg (fun h => absurd (show s.size = 0 by rw [sz, h]; rfl) (by omega)), if_neg (by have := sz s; omega)]
  have HPL := hide hpl
  have HAB := hide habs
  clear hpl hab habs
  go_enter Tryd.func9, Tryd.ntmps9
  go_wp2
  go_loopg [5, 6, 7] (s.size + 1) (fun g out fr i wr => ∃ k f : Nat, k ≤ s.size + 1 ∧ f ≤ k ∧ g = s.size + 1 - k ∧ i = .int .i64 k ∧ fr = .int .i64 f ∧ ∃ A n c, out = .slice A n c ∧
    Aside (∃ done, Below w.heap.size w wr ∧ wr.ownsRow w.heap.size 34 2 (.slice A n c) n (flat done) ∧ n ≤ k ∧ joined [] (partsOf (pieces [] s.data.toList)) = joined done (partsOf (rest s.data.toList f k))))
  case atStart => exact ⟨0, 0, Nat.zero_le _, Nat.le_refl _, rfl, rfl, rfl, none, 0, 0, rfl, [], Below.refl _ _, World.ownsRow_nil _ _ _ _, Nat.le_refl _, by simp [rest]⟩
  case round =>
    obtain ⟨k, f, hk, hf, hg, rfl, rfl, A, n, c, rfl, hA⟩ := hrel
    by_cases hkm : k ≤ s.size
    · have hkz : (k : Int) ≤ s.size := by omega
      obtain ⟨done, hb, hown, hnk, hj⟩ := hA.out
      clear hA
      by_cases hcont : k < s.size ∧ s.data.toList[k]? ≠ some 47
      · obtain ⟨hks, hne⟩ := hcont
        have hbt := get_byte s k hks
        have hx : s[k] ≠ 47 := fun h => hne (by rw [hbt, h])
        have hkz2 : (k : Int) < s.size := by omega
        have t2 : (((s[k].toNat : Nat) : Int) == 47) = false := by
          rw [beq_eq_false_iff_ne]; intro h; exact hx (UInt8.toNat_inj.1 (by show s[k].toNat = 47; omega))
        have t3 : (((s[k].toNat : Nat) : Int) != 47) = true := by rw [bne, t2]; rfl
        rw [rest_step (by rw [← sz]; exact hks) hf hbt hx] at hj
        have HJ := hide hj
        have HO := hide hown
        have HB := hide hb
        clear hj hown hb hbt hx hne
        go_wp2
        go_roundg (s.size + 1 - (k + 1))
        case measure => omega
        case rel => exact ⟨k + 1, f, by omega, by omega, rfl, by go_num, rfl, A, n, c, rfl, done, HB.out, HO.out, by omega, HJ.out⟩
      · have hcut : k < s.data.toList.length → s.data.toList[k]? = some 47 := fun h => Classical.byContradiction fun h2 => hcont ⟨by rw [sz]; exact h, h2⟩
        rw [rest_cut (by rw [← sz]; exact hkm) hcut] at hj
        have htest : (∀ (h : k < s.size), (((s[k].toNat : Nat) : Int) != 47) = false) := fun h => by
          have h1 := hcut (by rw [← sz]; exact h)
          rw [get_byte s k h] at h1
          rw [Option.some.inj h1]; rfl
        clear hcont hcut
        obtain ⟨x, hx⟩ : ∃ x, s.extract f k = x := ⟨_, rfl⟩
        have hxd : x.data.toList = (s.data.toList.drop f).take (k - f) := by rw [← hx, Lib.extract_data]
        have hxs : x.size < 4294967281 := by rw [sz, hxd, List.length_take]; omega
        rw [← hxd] at hj
        by_cases hks : k < s.size
        · have hkz2 : (k : Int) < s.size := by omega
          have t3 := htest hks
          have t2 : (((s[k].toNat : Nat) : Int) == 47) = true := by simpa [bne] using t3
          clear htest
          by_cases hfk : f < k
          · have hfz : (f : Int) < k := by omega
            have hxn : x.data.toList ≠ [] := fun h => by
              have h2 : ((s.data.toList.drop f).take (k - f)).length = 0 := by rw [← hxd, h]; rfl
              rw [List.length_take, List.length_drop, ← sz] at h2
              omega
            have c0 : (0 : Int) ≤ f := by omega
            have c1 : (f : Int) ≤ k := by omega
            have HJ := hide hj
            have HX := hide hxn
            have HO := hide hown
            clear hj hxn hxd hown
            go_wp2_with fail
            refine (refpart_ok x wr hxs).mono ?_
            rintro e w1 ⟨rfl, hb1⟩
            have hj := HJ.out
            have hb2 := hb.trans (hb1.mono hb.size)
            have own1 := own_below HO.out hb1
            clear HO HJ hb
            by_cases her : (partL x.data.toList).2.2 = 0
            · rw [joined_next HX.out her] at hj
              rw [her]
              generalize ((partL x.data.toList).1, (partL x.data.toList).2.1) = q at hj ⊢
              have HJ2 := hide hj
              clear hj her HX hb1
              obtain ⟨qa, qb⟩ := q
              simp only [pv]
              have hbW : Below w1.heap.size w1 ((w1.alloc (.cells #[.string ⟨qa.toArray⟩, .string ⟨qb.toArray⟩] 34)).alloc (.cells #[.string ⟨qa.toArray⟩, .string ⟨qb.toArray⟩] 34)) := ((Below.refl _ _).alloc (Nat.le_refl _) _).alloc (by simp) _
              have hb3 := hb2.trans (hbW.mono hb2.size)
              have own3 := own_below own1 hbW
              have RD : Rd ((w1.alloc (.cells #[.string ⟨qa.toArray⟩, .string ⟨qb.toArray⟩] 34)).alloc (.cells #[.string ⟨qa.toArray⟩, .string ⟨qb.toArray⟩] 34)) (w1.heap.size + 1 + 1) 2 (some ⟨w1.heap.size + 1, 0, none⟩) 1 [.string ⟨qa.toArray⟩, .string ⟨qb.toArray⟩] := Rd.lit2 (t := 34) (by simpa using Blk.new (w1.alloc (.cells #[.string ⟨qa.toArray⟩, .string ⟨qb.toArray⟩] 34)) 34 #[.string ⟨qa.toArray⟩, .string ⟨qb.toArray⟩])
              go_wp2_with (at_builtin; refine wpList_append_rd _ rfl (.tmp 45) (.tmp 47) 25 rfl w.heap.size 34 i0 (.agg #[.string ByteArray.empty, .string ByteArray.empty]) 2 32 Tryd.underlying25 hi0 hq0 hq1 hq2 rfl (by decide) (.slice A n c) n (flat done) rfl own3 _ _ 1 1 _ rfl RD (by simp [Value.oneCell']) (by simp only [maxLen]; omega) (by omega) hb3.size ?_; intro v' w2 hown4 hg2 hnil hat; obtain ⟨A2, c2, rfl, hnc, hcm, -⟩ := own_form hown4)
              go_roundg (s.size + 1 - (k + 1))
              case measure => omega
              case rel => exact ⟨k + 1, k + 1, by omega, Nat.le_refl _, rfl, by go_num, by go_num, A2, n + 1, c2, rfl, done ++ [(qa, qb)], hb3.grown hg2 hb3.size (fun g hg => own_ge own3 hg), by rw [flat_snoc]; exact hown4, by omega, HJ2.out⟩
            · rw [joined_err HX.out her] at hj
              have hz : ((partL x.data.toList).2.2 == 0) = false := by simp [her]
              generalize (partL x.data.toList).2.2 = er at hz her hj ⊢
              generalize ((partL x.data.toList).1, (partL x.data.toList).2.1) = q
              obtain ⟨qa, qb⟩ := q
              simp only [pv]
              have HJ2 := hide hj
              clear hj HX hb1 own1
              go_wp2
              go_returns
              refine ⟨none, 0, 0, ?_, ?_, hb2.alloc hb2.size _⟩
              · rw [HPL.out, HJ2.out, if_pos her]; rfl
              · rw [HPL.out, HJ2.out, if_pos her]; exact World.ownsRow_nil _ _ _ _
          · have hfz : decide ((f : Int) < k) = false := by simp; omega
            have hxn : x.data.toList = [] := by rw [hxd, show k - f = 0 by omega, List.take_zero]
            rw [joined_skip hxn] at hj
            have HJ := hide hj
            have HO := hide hown
            have HB := hide hb
            clear hj hown hb hxn hxd hx hxs
            go_wp2
            go_roundg (s.size + 1 - (k + 1))
            case measure => omega
            case rel => exact ⟨k + 1, k + 1, by omega, Nat.le_refl _, rfl, by go_num, by go_num, A, n, c, rfl, done, HB.out, HO.out, by omega, HJ.out⟩
        · have hkz2 : decide ((k : Int) < s.size) = false := by simp; omega
          clear htest
          by_cases hfk : f < k
          · have hfz : (f : Int) < k := by omega
            have hxn : x.data.toList ≠ [] := fun h => by
              have h2 : ((s.data.toList.drop f).take (k - f)).length = 0 := by rw [← hxd, h]; rfl
              rw [List.length_take, List.length_drop, ← sz] at h2
              omega
            have c0 : (0 : Int) ≤ f := by omega
            have c1 : (f : Int) ≤ k := by omega
            have HJ := hide hj
            have HX := hide hxn
            have HO := hide hown
            clear hj hxn hxd hown
            go_wp2_with fail
            refine (refpart_ok x wr hxs).mono ?_
            rintro e w1 ⟨rfl, hb1⟩
            have hj := HJ.out
            have hb2 := hb.trans (hb1.mono hb.size)
            have own1 := own_below HO.out hb1
            clear HO HJ hb
            by_cases her : (partL x.data.toList).2.2 = 0
            · rw [joined_next HX.out her] at hj
              rw [her]
              generalize ((partL x.data.toList).1, (partL x.data.toList).2.1) = q at hj ⊢
              have HJ2 := hide hj
              clear hj her HX hb1
              obtain ⟨qa, qb⟩ := q
              simp only [pv]
              have hbW : Below w1.heap.size w1 ((w1.alloc (.cells #[.string ⟨qa.toArray⟩, .string ⟨qb.toArray⟩] 34)).alloc (.cells #[.string ⟨qa.toArray⟩, .string ⟨qb.toArray⟩] 34)) := ((Below.refl _ _).alloc (Nat.le_refl _) _).alloc (by simp) _
              have hb3 := hb2.trans (hbW.mono hb2.size)
              have own3 := own_below own1 hbW
              have RD : Rd ((w1.alloc (.cells #[.string ⟨qa.toArray⟩, .string ⟨qb.toArray⟩] 34)).alloc (.cells #[.string ⟨qa.toArray⟩, .string ⟨qb.toArray⟩] 34)) (w1.heap.size + 1 + 1) 2 (some ⟨w1.heap.size + 1, 0, none⟩) 1 [.string ⟨qa.toArray⟩, .string ⟨qb.toArray⟩] := Rd.lit2 (t := 34) (by simpa using Blk.new (w1.alloc (.cells #[.string ⟨qa.toArray⟩, .string ⟨qb.toArray⟩] 34)) 34 #[.string ⟨qa.toArray⟩, .string ⟨qb.toArray⟩])
              go_wp2_with (at_builtin; refine wpList_append_rd _ rfl (.tmp 45) (.tmp 47) 25 rfl w.heap.size 34 i0 (.agg #[.string ByteArray.empty, .string ByteArray.empty]) 2 32 Tryd.underlying25 hi0 hq0 hq1 hq2 rfl (by decide) (.slice A n c) n (flat done) rfl own3 _ _ 1 1 _ rfl RD (by simp [Value.oneCell']) (by simp only [maxLen]; omega) (by omega) hb3.size ?_; intro v' w2 hown4 hg2 hnil hat; obtain ⟨A2, c2, rfl, hnc, hcm, -⟩ := own_form hown4)
              go_roundg (s.size + 1 - (k + 1))
              case measure => omega
              case rel => exact ⟨k + 1, k + 1, by omega, Nat.le_refl _, rfl, by go_num, by go_num, A2, n + 1, c2, rfl, done ++ [(qa, qb)], hb3.grown hg2 hb3.size (fun g hg => own_ge own3 hg), by rw [flat_snoc]; exact hown4, by omega, HJ2.out⟩
            · rw [joined_err HX.out her] at hj
              have hz : ((partL x.data.toList).2.2 == 0) = false := by simp [her]
              generalize (partL x.data.toList).2.2 = er at hz her hj ⊢
              generalize ((partL x.data.toList).1, (partL x.data.toList).2.1) = q
              obtain ⟨qa, qb⟩ := q
              simp only [pv]
              have HJ2 := hide hj
              clear hj HX hb1 own1
              go_wp2
              go_returns
              refine ⟨none, 0, 0, ?_, ?_, hb2.alloc hb2.size _⟩
              · rw [HPL.out, HJ2.out, if_pos her]; rfl
              · rw [HPL.out, HJ2.out, if_pos her]; exact World.ownsRow_nil _ _ _ _
          · have hfz : decide ((f : Int) < k) = false := by simp; omega
            have hxn : x.data.toList = [] := by rw [hxd, show k - f = 0 by omega, List.take_zero]
            rw [joined_skip hxn] at hj
            have HJ := hide hj
            have HO := hide hown
            have HB := hide hb
            clear hj hown hb hxn hxd hx hxs
            go_wp2
            go_roundg (s.size + 1 - (k + 1))
            case measure => omega
            case rel => exact ⟨k + 1, k + 1, by omega, Nat.le_refl _, rfl, by go_num, by go_num, A, n, c, rfl, done, HB.out, HO.out, by omega, HJ.out⟩
    · have hkz : decide ((k : Int) ≤ s.size) = false := by simp; omega
      obtain ⟨done, hb, hown, hnk, hj⟩ := hA.out
      have hr : rest s.data.toList f k = [] := by unfold rest; rw [if_neg (by rw [← sz]; exact hkm)]
      rw [hr, joined_end] at hj
      have HJ := hide hj
      have HO := hide hown
      clear hA hj hr hown
      have hab := HAB.out
      go_wp2
      go_returns
      refine ⟨A, n, c, ?_, ?_, hb⟩
      · rw [HPL.out, HJ.out, if_neg (fun h => h rfl)]; rfl
      · rw [HPL.out, HJ.out, if_neg (fun h => h rfl)]; exact HO.out

theorem refparse_ok (s : ByteArray) (w : World) :
    Calls Tryd.prog 9 #[.string s] w fun e w' => ∃ A n c, e = .returned (.tuple #[.bool (parseL s.data.toList).1, .slice A n c, .int .i64 (parseL s.data.toList).2.2]) ∧
      w'.ownsRow w.heap.size 34 2 (.slice A n c) n (flat (parseL s.data.toList).2.1) ∧ Below w.heap.size w w' := by
  by_cases h0 : 0 < s.size
  · by_cases h1 : s.size ≤ 120
    · exact refparse_some s w h0 h1
    · refine (refparse_long s w (by omega)).mono ?_
      rintro e w' ⟨rfl, rfl⟩
      have hp : parseL s.data.toList = (false, [], 8) := by
        unfold parseL
        rw [if_neg (fun h => absurd (show s.size = 0 by rw [sz, h]; rfl) (by omega)), if_pos (by have := sz s; omega)]
      rw [hp]
      exact ⟨none, 0, 0, rfl, World.ownsRow_nil _ _ _ _, Below.refl _ _⟩
  · have e0 : s = ⟨#[]⟩ := by
      have h2 := Lib.mk_data s
      have h3 : s.data.toList = [] := List.eq_nil_of_length_eq_zero (by have := sz s; omega)
      rw [h3] at h2
      exact h2.symm
    subst e0
    refine (refparse_empty w).mono ?_
    rintro e w' ⟨rfl, rfl⟩
    exact ⟨none, 0, 0, rfl, World.ownsRow_nil _ _ _ _, Below.refl _ _⟩
end Go.Proofs.YtkjgieehiimiiaaDoor

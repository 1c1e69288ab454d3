/- Programs' texts: the law on texts and programs about as long as they may be. -/
import Derived.Test.YtmhlokehdjnldaaDoorAsA
namespace Go.Proofs.YtmhlokehdjnldaaDoor
open Go.RowKit Go.WideMaps
set_option linter.unusedSimpArgs false
set_option linter.unusedVariables false

theorem bvs_set (l : List UInt8) (i : Nat) (b : UInt8) : (bvs l).toArray.setIfInBounds i (bv b) = (bvs (l.set i b)).toArray := by
  rw [List.setIfInBounds_toArray, bvs, bvs, List.map_set]
/-- so many line ends, and nothing yet behind them -/
def lfsTo (n k : Nat) : List UInt8 := List.replicate k 10 ++ List.replicate (n - k) 0
theorem lfsTo_len {n k : Nat} (h : k ≤ n) : (lfsTo n k).length = n := by simp [lfsTo]; omega
theorem lfsTo_set {n k : Nat} (h : k < n) : (lfsTo n k).set k 10 = lfsTo n (k + 1) := by
  unfold lfsTo
  rw [List.set_append_right _ _ (by simp), List.length_replicate, Nat.sub_self, show n - k = (n - (k + 1)) + 1 by omega, List.replicate_succ, List.set_cons_zero, List.replicate_succ', List.append_assoc]
  rfl
theorem lfsTo_get {n k : Nat} (h : k < n) : (lfsTo n k)[k]? = some 0 := by
  unfold lfsTo
  rw [List.getElem?_append_right (by simp), List.length_replicate, Nat.sub_self, List.getElem?_replicate, if_pos (by omega)]
theorem lfsTo_end (n : Nat) : lfsTo n n = List.replicate n 10 := by unfold lfsTo; rw [Nat.sub_self]; simp
theorem Rd.of_bytes {w : World} {p n : Nat} {t : TypeId} {l : List UInt8} (h : Blk w p t (bvs l).toArray) (hn : l.length = n) : Rd w w.heap.size 1 (some ⟨p, 0, none⟩) n (bvs l) :=
  ⟨by rw [bvs_length, hn, Nat.mul_one], fun _ => ⟨p, 0, rfl, h.lt, fun j u hu => by
    have := h.cell j
    rw [List.getElem?_toArray, hu] at this
    rw [Nat.zero_add]; exact this⟩⟩
theorem lfs_ascii (n : Nat) : (List.replicate n (10 : UInt8)).all (fun c => decide (c.toNat < 128)) = true := by
  rw [List.all_replicate]; split <;> decide
theorem sevens_ascii : ∀ n : Nat, (sevens n).all (fun c => decide (c.toNat < 128)) = true
  | 0 => rfl
  | k + 1 => by
    rw [sevens, List.all_append, sevens_ascii k]
    split <;> decide
theorem sevens_len : ∀ n : Nat, (sevens n).length ≤ 7 * n
  | 0 => Nat.le_refl _
  | k + 1 => by
    have := sevens_len k
    rw [sevens, List.length_append]
    split <;> simp [wByte] <;> omega

set_option maxRecDepth 100000 in
set_option maxHeartbeats 4000000 in
theorem long_all (a : Nat) (long : Bool) (ha : a < 65536) (w : World) (hL : Lw w) : Calls Tryd.prog 4 #[.int .u16 (a : Int), .bool long] w fun e w' => e = .returned (.bool true) ∧ Below w.heap.size w w' := by
  go_enter Tryd.func4, Tryd.ntmps4
  go_wp2_with fail
  refine (awake17_ok w hL).mono ?_
  rintro e w1 ⟨rfl, hb1⟩
  have HL1 := hide (hL.below' hb1)
  have HB1 := hide hb1
  clear hb1
  cases long
  · obtain ⟨q, hq⟩ : ∃ q, a % 40 = q := ⟨_, rfl⟩
    have hq1 : q < 40 := by omega
    obtain ⟨k, hk⟩ : ∃ k, 2030 + q = k := ⟨_, rfl⟩
    have HK := hide (show 2030 ≤ k ∧ k < 2070 by omega)
    have u1 : IntKind.u16.wrap ((a : Int).tmod 40) = (q : Int) := by rw [IntWalk.rem_in _ _ (by omega)]; unfold IntKind.wrap; simp [IntKind.bits, IntKind.signed]; omega
    have u1' : (a : Int) % 40 = (q : Int) := by omega
    have v1 : IntKind.i64.wrap (2030 + (q : Int)) = (k : Int) := by rw [IntWalk.i64_in _ (by omega)]; omega
    clear hq hk
    go_wp2_with fail
    clear u1 u1' v1 hq1
    go_loopg [11, 65] k (fun g x11 x65 wr => wr = w1 ∧ ∃ (j : Nat) (t : ByteArray), j ≤ k ∧ g = k - j ∧ x65 = .int .i64 (j : Nat) ∧ x11 = .string t ∧ Hid (t.data.toList = sevens j))
    case atStart => exact ⟨rfl, 0, ⟨#[]⟩, by omega, rfl, rfl, rfl, hide rfl⟩
    case round =>
      obtain ⟨rfl, j, t, hj, hg, rfl, rfl, HT⟩ := hrel
      have hz : t.size ≤ 7 * j := by rw [sz, HT.out]; exact sevens_len j
      have hk2 := HK.out.2
      by_cases hjk : j < k
      · have t1 : decide ((j : Int) < (k : Int)) = true := by simp; omega
        have hjz : (j : Int) < (k : Int) := by omega
        obtain ⟨r, hr⟩ : ∃ r, j % 64 = r := ⟨_, rfl⟩
        have HR := hide hr
        have hr64 : r < 64 := by omega
        have r1 : IntKind.i64.wrap ((j : Int).tmod 64) = (r : Int) := by rw [IntWalk.rem_in _ _ (by omega), IntWalk.i64_in _ (by omega)]; omega
        have r1' : (j : Int) % 64 = (r : Int) := by omega
        clear hr
        go_upto_if 70 with (fail)
        clear r1 r1'
        go_cut [11] from 71 to 73 (fun x11 wc => wc = wr ∧ ∃ t' : ByteArray, x11 = .string t' ∧ Hid (t'.data.toList = sevens j ++ (if j % 64 = 0 then 10 :: wByte else [])))
        case first =>
          by_cases h0 : r = 0
          · have HT2 : Hid ((t ++ ⟨#[10, 98, 121, 116, 101]⟩).data.toList = sevens j ++ (if j % 64 = 0 then 10 :: wByte else [])) := hide (by
              rw [if_pos (by rw [HR.out, h0]), ← HT.out]; simp [wByte])
            have hl2 : ¬ 9223372036854775807 < t.size + 5 := by omega
            have hz0 : (r : Int) = 0 := by omega
            have hz1 : decide ((r : Int) = 0) = true := by simp; exact h0
            clear h0
            go_wp2
            go_meet
            case rel => exact ⟨rfl, _, rfl, HT2⟩
          · have HT2 : Hid (t.data.toList = sevens j ++ (if j % 64 = 0 then 10 :: wByte else [])) := hide (by
              rw [if_neg (by rw [HR.out]; exact h0), ← HT.out]; simp)
            have hz0 : ¬ (r : Int) = 0 := by omega
            have hz1 : decide ((r : Int) = 0) = false := by simp; exact h0
            clear h0
            go_wp2
            go_meet
            case rel => exact ⟨rfl, t, rfl, HT2⟩
        case rest =>
          obtain ⟨rfl, t2, rfl, HT2⟩ := hcut
          have hz2 : t2.size ≤ 7 * j + 5 := by
            rw [sz, HT2.out, List.length_append]
            have := sevens_len j
            split <;> simp [wByte] <;> omega
          have hl2 : ¬ 9223372036854775807 < t2.size + 2 := by omega
          have HT3 : Hid ((t2 ++ ⟨#[32, 55]⟩).data.toList = sevens (j + 1)) := hide (by
            rw [sevens, ← List.append_assoc, ← HT2.out]; simp)
          go_wp2_with fail
          go_roundg (k - (j + 1))
          case measure => omega
          case rel => exact ⟨rfl, j + 1, _, by omega, rfl, by go_num, rfl, HT3⟩
      have hjk' : j = k := by omega
      have t1 : decide ((j : Int) < (k : Int)) = false := by simp; omega
      have t1' : ¬ (j : Int) < (k : Int) := by omega
      have HT4 : Hid (t.data.toList = sevens k) := hide (by rw [HT.out, hjk'])
      have hasc : ∀ (j : Nat) b, t.data.toList[j]? = some b → b.toNat < 128 := by
        rw [HT4.out]; exact ascii_of (sevens_ascii k)
      have HRES := hide (asmA_sevens HK.out.1 HK.out.2)
      clear hjk hj hg HT hz hjk' hk2
      go_wp2_with fail
      refine (asm_ok t _ hasc HL1.out).mono ?_
      rintro e w3 ⟨hans, hb3⟩
      rw [HT4.out] at hans
      have HB3 := hide (Below.then_ HB1.out HB1.out.size hb3)
      clear hb3 t1 t1'
      by_cases hbig : 2048 < k
      · rw [HRES.out.2 hbig] at hans
        obtain ⟨rfl, -⟩ := hans
        have t2 : (2048 : Int) < (k : Int) := by omega
        have t2' : decide ((2048 : Int) < (k : Int)) = true := by simp; omega
        have hk2 := HK.out.2
        have e1 : IntKind.i64.wrap ((k : Int) + 63) = (k : Int) + 63 := IntWalk.i64_in _ (by omega)
        have e2 : IntKind.i64.wrap (((k : Int) + 63).tdiv 64) = ((k : Int) + 63) / 64 := by rw [Int.tdiv_eq_ediv_of_nonneg (by omega), IntWalk.i64_in _ (by omega)]
        have e3 : IntKind.i64.wrap (1 + ((k : Int) + 63) / 64) = ((1 + (k + 63) / 64 : Nat) : Int) := by rw [IntWalk.i64_in _ (by omega)]; omega
        obtain ⟨z, hz⟩ : ∃ z, 1 + (k + 63) / 64 = z := ⟨_, rfl⟩
        rw [hz] at e3 ⊢
        clear hbig hz
        go_wp2
        go_returns
        exact ⟨by simp, (HB3.out.alloc HB3.out.size _)⟩
      · obtain ⟨c, hc, hlen⟩ := HRES.out.1 (by omega)
        rw [hc] at hans
        obtain ⟨-, -, A, cc, rfl, hown⟩ := hans
        rw [hlen]
        have t2 : ¬ (2048 : Int) < (k : Int) := by omega
        have t2' : decide ((2048 : Int) < (k : Int)) = false := by simp; omega
        clear hbig hc hlen hown
        go_wp2
        go_returns
        exact ⟨by simp, (HB3.out.alloc HB3.out.size _)⟩
  · obtain ⟨q, hq⟩ : ∃ q, a % 12 = q := ⟨_, rfl⟩
    have hq1 : q < 12 := by omega
    obtain ⟨n, hn⟩ : ∃ n, 65530 + q = n := ⟨_, rfl⟩
    have HN := hide (show n < 65542 by omega)
    have u1 : IntKind.u16.wrap ((a : Int).tmod 12) = (q : Int) := by rw [IntWalk.rem_in _ _ (by omega)]; unfold IntKind.wrap; simp [IntKind.bits, IntKind.signed]; omega
    have u1' : (a : Int) % 12 = (q : Int) := by omega
    have v1 : IntKind.i64.wrap (65530 + (q : Int)) = (n : Int) := by rw [IntWalk.i64_in _ (by omega)]; omega
    clear hq hn
    obtain ⟨i0, hi0⟩ : ∃ i0, Tryd.prog.info? 5 = some i0 := by
      have := info_u8
      cases h : Tryd.prog.info? 5 with
      | none => rw [h] at this; cases this
      | some i => exact ⟨i, rfl⟩
    have hi1 := info_u8
    rw [hi0] at hi1
    simp only [Option.map_some, Option.some.injEq, Prod.mk.injEq] at hi1
    have HI0 := hide hi0
    have HI1 := hide hi1
    clear hi0 hi1
    go_wp2_with (first | (at_make; refine wpList_make_full w1 rfl (.tmp 22) (.tmp 22) 22 rfl w1.heap.size 5 i0 (.int .u8 0) 1 Tryd.underlying22 HI0.out HI1.out.1 HI1.out.2.1 .i64 .i64 n n n (by rfl) (by rfl) rfl rfl (by rw [HI1.out.2.2]; have := HN.out; omega) (by unfold maxLen; have := HN.out; omega) (Nat.le_refl _) (fun w2 ho hg => ?_)) | fail)
    have hB := own_blk ho
    have hz : (madeCells (Value.int .u8 0).cells (n * 1)).toList = bvs (lfsTo n 0) := by
      apply List.ext_getElem
      · simp [madeCells, bvs, lfsTo]
      · intro i h1 h2
        simp [madeCells, bvs, Value.cells, lfsTo]
        rw [Nat.mod_one]
        rfl
    rw [hz] at hB
    have hb1 : Below w1.heap.size w1 w2 := grown_none hg
    refine at_world (fun W => ∃ p, p = w1.heap.size ∧ Below w1.heap.size w1 W ∧ Blk W p 5 (bvs (lfsTo n 0)).toArray) ⟨_, rfl, hb1, hB⟩ (fun w3 hw3 => ?_)
    obtain ⟨p, hp, hb3, hB3⟩ := hw3
    rw [← hp]
    have HB3 := hide hB3
    have HW3 := hide hb3
    have HPW := hide (show w1.heap.size ≤ p from Nat.le_of_eq hp.symm)
    clear ho hg hB hz hb1 hp hB3 hb3 u1 u1' v1 hq1
    go_loopg [26] n (fun gh x26 wr => ∃ k : Nat, k ≤ n ∧ gh = n - k ∧ x26 = .int .i64 (k : Int) ∧ Hid (Blk wr p 5 (bvs (lfsTo n k)).toArray) ∧ Hid (Below w1.heap.size w1 wr))
    case atStart => exact ⟨0, Nat.zero_le _, rfl, rfl, HB3, HW3⟩
    case round =>
      obtain ⟨k, hk, hgh, rfl, HB, HW⟩ := hrel
      have HGH := hide hgh
      clear hgh
      rcases Nat.lt_or_ge k n with hkl | hkl
      · have hkz : decide ((k : Int) < (n : Int)) = true := by simp; omega
        have hkz2 : (k : Int) < (n : Int) := by omega
        have hnn := HN.out
        have hset := HB.out.set_ k (bv 10)
        rw [bvs_set, lfsTo_set hkl] at hset
        have c1 := HB.out.cell k
        have f1 := HB.out.frozen k
        have pl := HB.out.lt
        have hcs : ((bvs (lfsTo n k)).toArray)[k]? = some (.int .u8 0) := by
          rw [List.getElem?_toArray, bvs_get, lfsTo_get hkl]
          rfl
        rw [hcs] at c1
        have HSET := hide hset
        clear hset hcs
        go_wp2
        go_roundg (n - (k + 1))
        case rel => exact ⟨k + 1, by omega, rfl, by first | rfl | go_num, hide HSET.out, hide (HW.out.setCell (by exact HPW.out) _)⟩
        case measure => have := HGH.out; omega
      · have hkz : decide ((k : Int) < (n : Int)) = false := by simp; omega
        have hkz2 : ¬ (k : Int) < (n : Int) := by omega
        have hkn : k = n := by omega
        have hrd : Rd wr wr.heap.size 1 (some ⟨p, 0, none⟩) n (bvs (List.replicate n 10)) := by
          rw [← lfsTo_end]
          refine Rd.of_bytes (t := 5) ?_ (lfsTo_len (Nat.le_refl _))
          rw [← hkn]; rw [← hkn] at HB; exact HB.out
        have hk : (convert 22 9 (.slice (some ⟨p, 0, none⟩) n n)).run Tryd.prog wr = .ok (.string (str (List.replicate n 10))) wr :=
          run_string_rd (P := Tryd.prog) 22 5 9 Tryd.underlying22 Tryd.underlying5 Tryd.underlying9 hrd
        obtain ⟨t, ht⟩ : ∃ t, str (List.replicate n 10) = t := ⟨_, rfl⟩
        have HT : Hid (t.data.toList = List.replicate n 10) := hide (by rw [← ht]; simp [str])
        rw [ht] at hk
        have HBW := hide (Below.then_ HB1.out HB1.out.size HW.out)
        have HLW := hide (HL1.out.below' HW.out)
        have hnn := HN.out
        clear hrd ht hkn hkl
        go_wp2_with fail
        refine (asm_ok t _ (by rw [HT.out]; exact ascii_of (lfs_ascii n)) HLW.out).mono ?_
        rintro e w4 ⟨hans, hb4⟩
        rw [HT.out, asmA_blank] at hans
        have HB4 := hide (Below.then_ HBW.out HBW.out.size hb4)
        clear hb4 hkz hkz2 hk
        by_cases hbig : 65536 < n
        · rw [if_pos hbig] at hans
          obtain ⟨rfl, -⟩ := hans
          have t2 : (65536 : Int) < (n : Int) := by omega
          have t2' : decide ((65536 : Int) < (n : Int)) = true := by simp; omega
          clear hbig
          go_wp2
          go_returns
          exact ⟨by simp, (HB4.out.alloc HB4.out.size _)⟩
        · rw [if_neg hbig] at hans
          obtain ⟨rfl, -⟩ := hans
          have t2 : ¬ (65536 : Int) < (n : Int) := by omega
          have t2' : decide ((65536 : Int) < (n : Int)) = false := by simp; omega
          have t3 : (n : Int) ≤ 65536 := by omega
          have t3' : decide ((n : Int) ≤ 65536) = true := by simp; omega
          clear hbig
          go_wp2
          go_returns
          exact ⟨by simp, (HB4.out.alloc HB4.out.size _)⟩
end Go.Proofs.YtmhlokehdjnldaaDoor

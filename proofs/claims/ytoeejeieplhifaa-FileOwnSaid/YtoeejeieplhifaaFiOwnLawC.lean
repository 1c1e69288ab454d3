/- FileOwn: what is handed in stays, spare room too; what is read is new memory: for every input the law returns true, and its arguments read as they did. -/
import Derived.Test.YtoeejeieplhifaaMFib
import Derived.Test.YtoeejeieplhifaaRows
import Derived.WalkKit
import Derived.ProofKit
import Derived.OpenShut
import Derived.ShutString
import Derived.ChangeOld
import Derived.Below
import Derived.Lib.SmallJoins
import Derived.Test.YtoeejeieplhifaaMArg
namespace Go.Proofs.Ytoeejeieplhifaa
open Go.RowKit
set_option linter.unusedSimpArgs false
set_option linter.unusedVariables false

/-- a block of bytes, of which so many are told -/
def U8In (w : World) (g n : Nat) : Prop := ∃ cur : Array Value, Blk w g 5 cur ∧ ∀ j, j < n → ∃ x : UInt8, cur[j]? = some (bv x)
theorem u8_set {cur : Array Value} {n k : Nat} {y : UInt8} (h : ∀ j, j < n → ∃ x : UInt8, cur[j]? = some (bv x)) (hk : k < n) : ∀ j, j < n → ∃ x : UInt8, (cur.setIfInBounds k (bv y))[j]? = some (bv x) := by
  intro j hj
  obtain ⟨x, hx⟩ := h j hj
  obtain ⟨x', hx'⟩ := h k hk
  rw [Array.getElem?_setIfInBounds]
  split
  · have : k < cur.size := by
      rcases Nat.lt_or_ge k cur.size with h1 | h1
      · exact h1
      · rw [Array.getElem?_eq_none h1] at hx'; cases hx'
    rw [if_pos this]
    exact ⟨y, rfl⟩
  · exact ⟨x, hx⟩
/-- an own row with room, as it lies -/
theorem own_u8 {w : World} {B n c : Nat} {A : Option Addr} {l : List UInt8} (h : w.ownsRow B 5 1 (.slice A n c) n (bvs l)) (hn : 0 < n) :
    ∃ (g : Nat) (cur : Array Value), A = some ⟨g, 0, none⟩ ∧ B ≤ g ∧ Blk w g 5 cur ∧ (∀ (j : Nat) (x : UInt8), l[j]? = some x → cur[j]? = some (bv x)) ∧ l.length = n := by
  have hl : l.length = n := by have := h.1; rw [bvs_length] at this; omega
  rcases h.2 with ⟨h0, h1⟩ | ⟨g, cap, cur, hv, hg, hh, hnc, _, _, htake⟩
  · omega
  · simp only [Value.slice.injEq] at hv
    obtain ⟨rfl, _, rfl⟩ := hv
    refine ⟨g, cur, rfl, hg, hh, fun j x hj => ?_, hl⟩
    have hjl : j < l.length := (List.getElem?_eq_some_iff.1 hj).1
    have h2 : (cur.toList.take (n * 1))[j]? = some (bv x) := by rw [htake, bvs_get, hj]; rfl
    rw [List.getElem?_take, if_pos (by omega), Array.getElem?_toList] at h2
    exact h2
theorem Rd.of_cur {w : World} {g n o : Nat} {cur : Array Value} {l : List UInt8} (h : Blk w g 5 cur) (hl : l.length = n) (hc : ∀ (j : Nat) (x : UInt8), l[j]? = some x → cur[o + j]? = some (bv x)) : Rd w w.heap.size 1 (some ⟨g, o, none⟩) n (bvs l) :=
  ⟨by rw [bvs_length, hl, Nat.mul_one], fun _ => ⟨g, o, rfl, h.lt, fun j u hu => by
    have hj : j < l.length := by have := (List.getElem?_eq_some_iff.1 hu).1; rw [bvs_length] at this; exact this
    have := h.cell (o + j)
    rw [bvs_get, List.getElem?_eq_getElem hj, Option.map_some] at hu
    cases hu
    rw [hc j _ (List.getElem?_eq_getElem hj)] at this
    exact this⟩⟩
theorem Tch.below_own {w w' : World} {B : Nat} {S : Nat → Prop} {B' : Nat} {v : World} (h : Tch B S w w') (hS : ∀ k, S k → B' ≤ k) (hv : Below B' v w) (hb : B' ≤ B) : Below B' w w' := (h.mono hb (S' := fun _ => False) (fun k hk hs => by have := hS k hs; omega)).below fun _ _ h => h
set_option maxRecDepth 100000 in
theorem own_long (w : World) (A : Option Addr) (n c : Nat) (hn : 500 < n) :
    Calls Try.prog 6 #[.slice A n c] w fun e w' => e = .returned (.bool true) ∧ Below w.heap.size w w' := by
  go_enter Try.func6, Try.ntmps6
  go_wp2_with fail
  refine (awake8_ok w).mono ?_
  rintro e w1 ⟨rfl, hb1⟩
  have HB1 := hide hb1
  have hz : (500 : Int) < (n : Int) := by omega
  clear hb1
  go_wp2
  go_returns
  exact ⟨rfl, HB1.out⟩
set_option maxRecDepth 100000 in
set_option maxHeartbeats 4000000 in
theorem own_short (w : World) (A : Option Addr) (n cc0 : Nat) (l : List UInt8) (hn : n ≤ 500) (hr : Rd w w.heap.size 1 A n (bvs l)) :
    Calls Try.prog 6 #[.slice A n cc0] w fun e w' => e = .returned (.bool true) ∧ Below w.heap.size w w' := by
  obtain ⟨i0, hi0, i1, i2, i3⟩ := info_byte
  have HI := hide (And.intro hi0 (And.intro i1 (And.intro i2 i3)))
  have hln : l.length = n := by have := hr.1; rw [bvs_length] at this; omega
  have HR := hide (And.intro hr hln)
  clear hi0 i1 i2 i3 hr hln
  go_enter Try.func6, Try.ntmps6
  go_wp2_with fail
  refine (awake8_ok w).mono ?_
  rintro e w1 ⟨rfl, hb1⟩
  have HB1 := hide hb1
  have hz : ¬ (500 : Int) < (n : Int) := by omega
  have hz2 : decide ((500 : Int) < (n : Int)) = false := by simp; omega
  clear hb1
  go_wp2_with fail
  refine (small_ok w1).mono ?_
  rintro e w2 ⟨cc, K, tb, nb, lb, B1, B2, B3, d1, d2, d3, rfl, hb2, hin⟩
  have hb12 : Below w.heap.size w w2 := HB1.out.trans (hb2.mono HB1.out.size)
  obtain ⟨nn, hF⟩ := cf_facts hin.ok (by rw [small_len]; omega)
  obtain ⟨v, u, hv, hu, hval, hgo, hub, hun⟩ := small_geo hF
  have hfr := fresh_all (w := w2) hin hF (by rw [small_len]; omega)
  have HC := hide (And.intro hin (And.intro hv (And.intro hu (And.intro hval hb12))))
  have HGO := hide (And.intro hgo (And.intro hub hun))
  have HFR := hide hfr
  clear hin hv hu hval hgo hub hun hfr hb12 hF hb2 HB1 hz hz2
  go_wp2_with fail
  refine HFR.out.mono ?_
  rintro e w3 ⟨i, D, rfl, hx, hDn, hall, hown, hll, hb3⟩
  have his := hall 0 v HC.out.2.1
  rw [HC.out.2.2.1] at his
  have HX3 := hide hx
  have HW23 := hide hb3
  have HOWN := hide (show ∀ k, i.own k → w2.heap.size ≤ k from hown)
  have HIS := hide (And.intro his (show u.Ok D.length by rw [hDn]; exact HGO.out.1))
  have hop := gopen_yes (tt := i.tt) (HC.out.1.below HW23.out) HC.out.2.1 (by rw [HC.out.2.2.1]; exact HC.out.2.2.2.1)
  rw [HC.out.2.2.1] at hop
  rw [show ((0 : Nat) : Int) = 0 from rfl] at hop
  have HOP := hide hop
  have HLL := hide hll
  clear hb3 hx hown his hall hll hDn HFR hop
  go_wp2_with fail
  refine HOP.out.mono ?_
  rintro e w4 ⟨gg, rfl, hgg, hG, hb4⟩
  have HA4 : Hid (GAt w4 i ⟨D, [], 0⟩ gg u 0 GS.fresh) := hide ⟨HX3.out.below hb4, hG, HIS.out.2, HIS.out.1, GS.fresh_ok⟩
  have HW24 := hide (HW23.out.trans (hb4.mono HW23.out.size))
  have HBW4 := hide (HC.out.2.2.2.2.trans (HW24.out.mono HC.out.2.2.2.2.size))
  have HR4 := hide ((HR.out.1.below HBW4.out).more HBW4.out.size)
  clear hG hb4 HX3
  go_upto_region 8 with (fail)
  go_wp2_with (first | (at_builtin; refine wpList_append_rd _ rfl (.tmp 37) (.tmp 38) 24 rfl w4.heap.size 5 i0 (.int .u8 0) 1 1 Try.underlying24 HI.out.1 HI.out.2.1 HI.out.2.2.1 HI.out.2.2.2 rfl (by decide) (.slice (some ⟨w4.heap.size, 0, none⟩) 0 0) 0 _ rfl (own_lit rfl (by simp) (by simp) (by simp [maxLen]) rfl) w4.heap.size A n cc0 (bvs l) rfl (HR4.out.alloc (by simp) _) (bvs_one _) (by simp only [maxLen]; omega) (by omega) (by simp) ?_; intro v5 w5 hown5 hg5 hnil5 hat5; obtain ⟨A5, c5, rfl, hnc5, _, _⟩ := own_form hown5; have hb5 : Below w4.heap.size w4 w5 := (((Below.refl _ _).alloc (Nat.le_refl _) _).grown hg5 (by simp) (by simp [Value.ownBlock])); clear hg5 hnil5 hat5; simp only [Nat.zero_add, List.nil_append] at hown5 hnc5; have hw5 := own_below hown5 (((Below.refl _ _).alloc (Nat.le_refl _) (.cells #[.int .u8 1, .int .u8 2, .int .u8 3] 5))); have hl5 := own_lit (w := w5) (base := 0) (e := 5) (size := 1) (n := 3) (cs := #[.int .u8 1, .int .u8 2, .int .u8 3]) rfl rfl (Nat.zero_le _) (by simp [maxLen]) rfl) |
    (at_builtin; refine wpList_append_rd _ rfl (.tmp 39) (.tmp 40) 24 rfl w4.heap.size 5 i0 (.int .u8 0) 1 1 Try.underlying24 HI.out.1 HI.out.2.1 HI.out.2.2.1 HI.out.2.2.2 rfl (by decide) (.slice A5 n c5) n _ rfl hw5 _ (some ⟨w5.heap.size, 0, none⟩) 3 3 (bvs [1, 2, 3]) rfl (Rd.of_own hl5) (bvs_one _) (by simp only [maxLen]; omega) (by omega) (by simp; have := hb5.size; omega) ?_; intro v6 w6 hown6 hg6 hnil6 hat6; obtain ⟨A6, c6, rfl, hnc6, _, _⟩ := own_form hown6; have hb6 : Below w4.heap.size w4 w6 := ((hb5.alloc hb5.size _).grown hg6 (by simp; have := hb5.size; omega) (fun k hk => (hw5.lt k hk).1)); clear hg6 hnil6 hat6; have hnc6' : n ≤ c6 := (by omega)) | fail)
  rw [← bvs_append] at hown6
  obtain ⟨g6, cur6, rfl, hg6, hB6, hcur6, hlen6⟩ := own_u8 hown6 (by omega)
  have HC6 := hide hcur6
  have HB6 := hide hb6
  have HBK := hide (And.intro hB6 hg6)
  have hrd6 : Rd w6 w6.heap.size 1 (some ⟨g6, 0, none⟩) n (bvs l) := Rd.of_cur hB6 HR.out.2 fun j x hj => by
    rw [Nat.zero_add]
    exact hcur6 j x (by rw [List.getElem?_append_left (List.getElem?_eq_some_iff.1 hj).1]; exact hj)
  have HNO := hide (show ¬ i.own g6 from HA4.out.tx.other_new hg6)
  obtain ⟨c, hc⟩ : ∃ c, blks n = c := ⟨_, rfl⟩
  have hc8 : c ≤ 8 := by rw [← hc]; unfold blks; omega
  have hln := HR.out.2
  have hc0 : blks (0 + l.length) = c := by rw [hln, Nat.zero_add, hc]
  have hwr := write_file (num := 3) (off := 0) (cap := c6) (c := 0) (sz := 0) (κ := fun _ => 0) (f := fun _ => 0) (K0 := []) (data := l) (A := some ⟨g6, 0, none⟩) (HA4.out.below hb6) (fun x hx => by simp at hx) (by omega) (by rw [HGO.out.2.2]; omega) (by rw [HGO.out.2.1]; omega)
    (by decide) rfl (fresh_file _ _) (by omega) (by omega) (by omega) (by omega) (by rw [hln]; exact hrd6) (fun x hx => by cases hx; exact HNO.out)
    (by rw [hc0]; omega) (by rw [hc0, List.length_nil]; split <;> omega) (by decide)
    (fun n' hs hd => check_grow hs rfl (by decide) (by have : (GS.fresh.nd 3).size.toNat = 0 := rfl; omega))
  rw [hc0, hln, show ((3 : Nat) : Int) = 3 from rfl, show ((0 : Nat) : Int) = 0 from rfl, HGO.out.2.1] at hwr
  rw [show max 0 (0 + n) = n from by omega, show max 0 c = c from by omega] at hwr
  have HWR := hide hwr
  have HCC := hide (And.intro hc hc8)
  clear hwr hc0 hown6 hcur6 hlen6 hB6 hb6 hrd6 hc hc8 hln hown5 hb5 hnc5 hw5 hl5 hg6
  go_wp2_with fail
  refine HWR.out.mono ?_
  rintro e w7 (⟨rfl, hno, -⟩ | ⟨rfl, s7, G7, κ7, ha7, hf7, hsz7, hk7, -, -, -, -, -, -, ht7⟩)
  · exfalso
    rw [fresh_cnt] at hno
    have h1 := nkeys_mono HCC.out.2
    have h2 : nkeys 8 = 9 := by decide
    omega
  have HA7 := hide ha7
  have HF7 := hide (And.intro hf7 (And.intro hsz7 (show (G7.nd 3).kind ≠ 0 from by rw [hk7]; decide)))
  have HT7 := hide ((Tch.of_below (S := i.own) HB6.out).trans (ht7.mono HB6.out.size fun _ _ h => h))
  have hblk := HBK.out.1.tch2 ht7 HNO.out
  have HBL7 := hide hblk
  clear hblk ha7 hf7 hsz7 hk7 ht7 HWR
  have HBW7 := hide (HC.out.2.2.2.2.trans ((HW24.out.trans (HT7.out.below_own HOWN.out HW24.out HW24.out.size)).mono HC.out.2.2.2.2.size))
  have r1 : Rd w7 w7.heap.size 1 (some ⟨g6, 0, none⟩) n (bvs l) := Rd.of_cur HBL7.out HR.out.2 fun j x hj => by
    rw [Nat.zero_add]
    exact HC6.out j x (by rw [List.getElem?_append_left (List.getElem?_eq_some_iff.1 hj).1]; exact hj)
  have r2 : Rd w7 w7.heap.size 1 A n (bvs l) := (HR.out.1.below HBW7.out).more HBW7.out.size
  have r3 : Rd w7 w7.heap.size 1 (some ⟨g6, n, none⟩) 3 (bvs [1, 2, 3]) := Rd.of_cur HBL7.out rfl fun j x hj => HC6.out (n + j) x (by
    rw [List.getElem?_append_right (by rw [HR.out.2]; omega), HR.out.2, Nat.add_sub_cancel_left]; exact hj)
  have k1 : (convert 24 9 (.slice (some ⟨g6, 0, none⟩) n c6)).run Try.prog w7 = .ok (.string (str l)) w7 := run_string_rd _ _ _ Try.underlying24 Try.underlying5 Try.underlying9 r1
  have k2 : (convert 24 9 (.slice A n cc0)).run Try.prog w7 = .ok (.string (str l)) w7 := run_string_rd _ _ _ Try.underlying24 Try.underlying5 Try.underlying9 r2
  have k3 : (convert 24 9 (.slice (some ⟨g6, n, none⟩) 3 (c6 - n))).run Try.prog w7 = .ok (.string (str [1, 2, 3])) w7 := run_string_rd _ _ _ Try.underlying24 Try.underlying5 Try.underlying9 r3
  have q3 : ((str [1, 2, 3]).toList == [1, 2, 3]) = true := by simp [str, ByteArray.toList_mk]
  have n1 : n ≤ c6 := by omega
  have n2 : n + 3 ≤ c6 := by omega
  have n3 : ¬ c6 = n := by omega
  have n4 : n + 3 - n = 3 := by omega
  clear r1 r2 r3
  go_upto_region 11 with (fail)
  have HU7 : Hid (U8In w7 g6 n) := hide ⟨cur6, HBL7.out, fun j hj => ⟨(l ++ [1, 2, 3])[j]'(by have := HR.out.2; simp; omega), HC6.out j _ (List.getElem?_eq_getElem _)⟩⟩
  clear k1 k2 k3 q3 n1 n2 n3 n4
  go_wp2_with fail
  go_loopg [67] n (fun gh x67 wr => ∃ k : Nat, k ≤ n ∧ gh = n - k ∧ x67 = .int .i64 (k : Int) ∧ Hid (U8In wr g6 n) ∧ Hid (Tch w7.heap.size (fun x => x = g6) w7 wr))
  case atStart => exact ⟨0, Nat.zero_le _, rfl, rfl, HU7, hide (Tch.refl _ _ _)⟩
  case round =>
    obtain ⟨k, hk, hgh, rfl, HU, HT⟩ := hrel
    have HGH := hide hgh
    clear hgh
    rcases Nat.lt_or_ge k n with hkl | hkl
    · have hkz : decide ((k : Int) < (n : Int)) = true := by simp; omega
      have hkz2 : (k : Int) < (n : Int) := by omega
      have e0 : IntKind.i64.wrap ((k : Int) + 1) = (k : Int) + 1 := IntWalk.i64_in _ (by omega)
      obtain ⟨cur, hB, hcs⟩ := HU.out
      obtain ⟨x, hx⟩ := hcs k hkl
      obtain ⟨y, hy⟩ : ∃ y, x ^^^ 255 = y := ⟨_, rfl⟩
      have hset := hB.set_ k (bv y)
      have c1 := hB.cell k
      have f1 := hB.frozen k
      have pl := hB.lt
      rw [hx] at c1
      have e1 : bits BinOp.xor IntKind.u8 (x.toNat : Int) 255 = (y.toNat : Int) := by
        have := xor8 (a := x.toNat) (b := 255) x.toNat_lt (by decide)
        rw [← hy, UInt8.toNat_xor]
        exact this
      simp only [bv] at c1 hset
      have HSET := hide hset
      have HCS := hide (u8_set (y := y) hcs hkl)
      clear hset hcs hx HU hB
      go_wp2
      go_roundg (n - (k + 1))
      case rel => exact ⟨k + 1, by omega, rfl, by first | rfl | go_num, hide ⟨_, HSET.out, HCS.out⟩, hide (HT.out.trans (Tch.setCell (p := ⟨g6, k, none⟩) (fun _ => rfl)))⟩
      case measure => have := HGH.out; omega
    · have hkz : decide ((k : Int) < (n : Int)) = false := by simp; omega
      have hkn : ¬ (k : Int) < (n : Int) := by omega
      clear HGH
      go_wp2_with fail
      clear hkz hkn hk hkl
      have hA : GAt wr i s7 gg u 0 G7 := HA7.out.apart HT.out fun x hx => by
        subst hx
        have h1 := HNO.out
        have h2 := HBK.out.2
        have h3 := HA4.out.tx.log.log.lt
        have h4 := HA4.out.gp.lt
        exact ⟨h1, by omega, by omega⟩
      have hrd := read_file (num := 3) (off := 0) (many := n) (en := n) hA (by omega) (by rw [HGO.out.2.2]; omega) HF7.out.2.2 HF7.out.2.1 (by rw [HGO.out.2.1]; exact HF7.out.1) (by omega) (by omega) (by omega) (by omega)
      have hlist : (List.range n).map (fun j => over (fun _ => 0) 0 l n (0 + j)) = l := by
        apply List.ext_getElem?
        intro j
        rcases Nat.lt_or_ge j n with hj | hj
        · have hjl : j < l.length := by have := HR.out.2; omega
          rw [List.getElem?_map, List.getElem?_range hj, Option.map_some]
          unfold over
          rw [if_pos (by omega), Nat.zero_add, Nat.sub_zero, List.getD_eq_getElem?_getD, List.getElem?_eq_getElem hjl]
          rfl
        · rw [List.getElem?_eq_none (by simp; omega), List.getElem?_eq_none (by have := HR.out.2; omega)]
      rw [Nat.sub_zero] at hrd
      rw [hlist, show ((3 : Nat) : Int) = 3 from rfl, show ((0 : Nat) : Int) = 0 from rfl] at hrd
      have HRD := hide hrd
      have HLI := hide hlist
      have HLT := hide (And.intro hA.tx.log.log.lt hA.gp.lt)
      have HON := hide (fun p (hp : wr.heap.size ≤ p) => hA.tx.other_new hp)
      have HBR := hide (HBW7.out.trans ((HT.out.mono (Nat.le_trans HBK.out.1.lt (Nat.le_refl _) |> fun _ => HBW7.out.size) (S' := fun _ => False) (fun k hk h => by
        have := HBK.out.2
        have := HBW4.out.size
        omega)).below fun _ _ h => h))
      clear hA hrd hlist HU HT
      refine HRD.out.mono ?_
      rintro e w8 ⟨A8, c8, rfl, hR8, ha8, ht8, hfr8, hcap8, hown8⟩
      have HA8 := hide ha8
      have HOWZ := hide (show ∀ k, i.own k → w.heap.size ≤ k from fun k hk => by have := HOWN.out k hk; have := HC.out.2.2.2.2.size; omega)
      have HB8 := hide (HBR.out.trans (ht8.below_own HOWZ.out HBR.out HBR.out.size))
      have HL8 := hide hown8
      have HFR := hide hfr8
      have hll8 : i.ll < w8.heap.size ∧ gg < w8.heap.size := ⟨Nat.lt_of_lt_of_le HLT.out.1 ht8.size, Nat.lt_of_lt_of_le HLT.out.2 ht8.size⟩
      have k4 : (convert 24 9 (.slice A8 n c8)).run Try.prog w8 = .ok (.string (str l)) w8 := run_string_rd _ _ _ Try.underlying24 Try.underlying5 Try.underlying9 hR8
      have HSZ := hide ht8.size
      clear hR8 ha8 ht8 hfr8 hown8 hll8 HRD
      go_upto_region 18 with (fail)
      clear k4
      go_wp2_with fail
      go_loopg [88] n (fun gh x88 wt => ∃ k : Nat, k ≤ n ∧ gh = n - k ∧ x88 = .int .i64 (k : Int) ∧ Hid (0 < n → ∃ g, A8 = some ⟨g, 0, none⟩ ∧ U8In wt g n) ∧ Hid (Tch w8.heap.size (fun x => ∃ a : Addr, A8 = some a ∧ x = a.block) w8 wt))
      case atStart => exact ⟨0, Nat.zero_le _, rfl, rfl, hide (fun hpos => by
        obtain ⟨g, cur, h1, h2, h3, h4, h5⟩ := own_u8 HL8.out hpos
        exact ⟨g, h1, cur, h3, fun j hj => ⟨l[j]'(by omega), h4 j _ (List.getElem?_eq_getElem _)⟩⟩), hide (Tch.refl _ _ _)⟩
      case round =>
        obtain ⟨k, hk, hgh, rfl, HU, HT⟩ := hrel
        have HGH := hide hgh
        clear hgh
        rcases Nat.lt_or_ge k n with hkl | hkl
        · have hkz : decide ((k : Int) < (n : Int)) = true := by simp; omega
          have hkz2 : (k : Int) < (n : Int) := by omega
          have e0 : IntKind.i64.wrap ((k : Int) + 1) = (k : Int) + 1 := IntWalk.i64_in _ (by omega)
          obtain ⟨g8, hA8, cur, hB, hcs⟩ := HU.out (by omega)
          obtain ⟨x, hx⟩ := hcs k hkl
          subst hA8
          obtain ⟨y, hy⟩ : ∃ y, x + 1 = y := ⟨_, rfl⟩
          have hset := hB.set_ k (bv y)
          have c1 := hB.cell k
          have f1 := hB.frozen k
          have pl := hB.lt
          rw [hx] at c1
          have e1 : IntKind.u8.wrap ((x.toNat : Int) + 1) = (y.toNat : Int) := by
            rw [← hy, UInt8.toNat_add, IntKind.wrap_u8]
            rfl
          simp only [bv] at c1 hset
          have HSET := hide hset
          have HCS := hide (u8_set (y := y) hcs hkl)
          clear hset hcs hx HU hB
          go_wp2
          go_roundg (n - (k + 1))
          case rel => exact ⟨k + 1, by omega, rfl, by first | rfl | go_num, hide (fun _ => ⟨_, rfl, _, HSET.out, HCS.out⟩), hide (HT.out.trans (Tch.setCell (p := ⟨g8, k, none⟩) (fun _ => ⟨_, rfl, rfl⟩)))⟩
          case measure => have := HGH.out; omega
        · have hkz : decide ((k : Int) < (n : Int)) = false := by simp; omega
          have hkn : ¬ (k : Int) < (n : Int) := by omega
          clear HGH
          go_wp2_with fail
          clear hkz hkn hk hkl
          have hA : GAt wr i s7 gg u 0 G7 := HA8.out.apart HT.out fun x hx => by
            obtain ⟨a, h1, rfl⟩ := hx
            have h2 := HFR.out a h1
            have h3 := HLT.out
            exact ⟨HON.out _ h2, by omega, by omega⟩
          have hrd := read_file (num := 3) (off := 0) (many := n) (en := n) hA (by omega) (by rw [HGO.out.2.2]; omega) HF7.out.2.2 HF7.out.2.1 (by rw [HGO.out.2.1]; exact HF7.out.1) (by omega) (by omega) (by omega) (by omega)
          rw [Nat.sub_zero] at hrd
          rw [HLI.out, show ((3 : Nat) : Int) = 3 from rfl, show ((0 : Nat) : Int) = 0 from rfl] at hrd
          have HRD := hide hrd
          have HBT := hide (HB8.out.trans ((HT.out.mono HB8.out.size (S' := fun _ => False) (fun k hk h => by
            obtain ⟨a, h1, rfl⟩ := h
            have := HFR.out a h1
            have := HBR.out.size
            omega)).below fun _ _ h => h))
          clear hA hrd HU HT
          refine HRD.out.mono ?_
          rintro e w9 ⟨A9, c9, rfl, hR9, -, ht9, -⟩
          have HB9 := hide (HBT.out.trans (ht9.below_own HOWZ.out HBT.out HBT.out.size))
          have k5 : (convert 24 9 (.slice A9 n c9)).run Try.prog w9 = .ok (.string (str l)) w9 := run_string_rd _ _ _ Try.underlying24 Try.underlying5 Try.underlying9 hR9
          have hR := (HR.out.1.below HB9.out).more HB9.out.size
          have k6 : (convert 24 9 (.slice A n cc0)).run Try.prog w9 = .ok (.string (str l)) w9 := run_string_rd _ _ _ Try.underlying24 Try.underlying5 Try.underlying9 hR
          clear hR9 ht9 HRD hR
          go_wp2
          go_returns
          exact ⟨rfl, HB9.out⟩
/-- what is handed in stays, what is read is new -/
theorem own_all {w : World} {A : Option Addr} {n c : Nat} {l : List UInt8} (hr : Rd w w.heap.size 1 A n (bvs l)) :
    Calls Try.prog 6 #[.slice A n c] w fun e w' => e = .returned (.bool true) ∧ Below w.heap.size w w' := by
  rcases Nat.lt_or_ge 500 n with h | h
  · exact own_long w A n c h
  · exact own_short w A n c l h hr
end Go.Proofs.Ytoeejeieplhifaa
namespace Go.Proofs.Ytoeejeieplhifaa.lawFileOwn
open Go.ChangeShapes Go.WideShapes Go.ChangeAt Go.RowKit Go.Joins
open Go.ChangeMaps (open_string shut_string)
set_option linter.unusedVariables false

theorem own : ownKnob Try.prog.godebug = none := by kernel_rfl
theorem laidOut : laidOutB Try.prog = true := by kernel_rfl

set_option maxRecDepth 100000 in
theorem lifted (os : Os) (started : os.Started) (H0 : Type) (enc : TypeId × Value → H0) :
    ReturnsInHanded {} Try.checked os 6 .any (Rows.fileOwnSpec.pre6 enc Try.prog Try.f6 Rows.fileOwnRow.domain false) (Rows.fileOwnSpec.post enc Try.prog Try.f6 false true false false) := by
  refine returnsInHanded_of_change (C := Try.checked) own started (by kernel_rfl) Try.func6
    (ChangeSpec.witness6 (enc := enc) (C := Try.checked) false ⟨#[], #[.slice none 0 0], []⟩ 8 (by kernel_rfl) (by kernel_rfl) (by kernel_rfl) (by kernel_rfl)) ?_
  intro W base args ds gs before hval0 hW hcnd _
  have hval : ∀ (j : Nat) t v, Try.f6.params[j]? = some t → args[j]? = some v → Value.okWide Try.prog W .any base t v := hval0
  have hW' := hW
  obtain ⟨p, q, hA0, hV, rfl, hfz, hnd⟩ := hW
  have hA : DataW.TrodAll enc Try.prog W 0 (fun _ => true) true Try.f6.params.toList args.toList ds p := hA0
  rw [Try.params6] at hA hval
  obtain ⟨v0, vs0, d0, ds0, p0, q0, hargs, rfl, rfl, h0, r0⟩ := trodAll_cons hA
  obtain ⟨rfl, rfl, rfl⟩ := trodAll_nil r0
  obtain rfl : args = #[v0] := by cases args; simp_all
  obtain ⟨rfl, rfl⟩ := trodVars_none hV
  have k0 := h0
  have lt0 : ∀ x ∈ p0, x.block < W.heap.size := by obtain ⟨m, hm⟩ := k0; exact DataW.trod_lt m _ _ _ hm
  obtain ⟨A, n, c, l, rfl, hr, hnc⟩ := open_bytes Try.underlying24 Try.underlying5 (by kernel_rfl) (hval 0 24 v0 rfl rfl) h0
  clear hA0 hval0
  refine (own_all hr).mono fun e W' ⟨he, bel⟩ => ?_
  subst he
  exact ⟨_, rfl, _, _, _, [], _, [], hW', trodAll_mk1 (shut_bool Try.underlying4 _), (trodAll_cons_mk (Below.trod laidOut (by kernel_rfl) (of_decide_eq_true (by kernel_rfl)) k0 bel lt0) trodAll_mk0), rfl, bel.frame _, fun h => by cases h⟩

theorem over : Rows.fileOwnRow.holds Try.pinned (OpenSpec.ofChange Rows.fileOwnSpec) :=
  OpenClaim.holds_of_wide 6 Try.f6 rfl rfl rfl rfl rfl rfl rfl ⟨rfl, rfl, rfl, rfl, rfl⟩ rfl rfl rfl rfl rfl (by kernel_rfl) Try.func6 (by kernel_rfl)
    (of_decide_eq_true (by kernel_rfl)) (by unfold Func.isWrapper; first | (rw [if_pos (by decide +kernel)]; kernel_rfl) | (rw [if_neg (by decide +kernel)]; exact ⟨rfl, rfl⟩))
    (fun os started H0 enc _ => lifted os started H0 enc)

theorem proved : Rows.FileOwnSaid := over
#print axioms proved
end Go.Proofs.Ytoeejeieplhifaa.lawFileOwn

/- PipePlays: the walk. -/
import Derived.Test.YtkjgieehiimiiaaPipePlay
import Derived.Deep.LoopGhost
import Derived.Deep.Cut
import Derived.Deep.CutRange
import Derived.Deep.CutBlock
import Derived.BigQuiet
namespace Go.Proofs.Ytkjgieehiimiiaa
open Go.RowKit

theorem info_key : (Try.prog.info? 41).map (fun i => (i.zero, i.size, i.bytes)) = some (some (.agg #[.bool false, .int .u8 0, .int .u16 0, .int .u16 0]), 4, 8) := by kernel_rfl
def nx0 : List UInt16 := List.replicate 64 0
theorem build_refpipes (W : World) : (Instr.build 62 #[]).run Try.prog W = .ok (.agg (rcells (.slice none 0 0) nx0)) W := by kernel_rfl
theorem build_ino3 (W : World) (a b c : Int) : (Instr.build 39 #[(0, .int .u8 a), (1, .int .u16 b), (2, .int .u16 c)]).run Try.prog W = .ok (.agg #[.int .u8 a, .int .u16 b, .int .u16 c]) W := by kernel_rfl
theorem build_ino2 (W : World) (a b : Int) : (Instr.build 39 #[(0, .int .u8 a), (1, .int .u16 b)]).run Try.prog W = .ok (.agg #[.int .u8 a, .int .u16 b, .int .u16 0]) W := by kernel_rfl
theorem build_key1 (W : World) (a b c : Int) : (Instr.build 41 #[(1, .agg #[.int .u8 a, .int .u16 b, .int .u16 c])]).run Try.prog W = .ok (.agg #[.bool false, .int .u8 a, .int .u16 b, .int .u16 c]) W := by kernel_rfl
def key3 (i : Nat) : PKey := (true, UInt8.ofNat i, 7, UInt16.ofNat i)
def keys3 : List PKey := [key3 0, key3 1, key3 2]
theorem below_setRow {B g : Nat} {w w' : World} (h : Below B w w') (hg : B ≤ g) (cs : Array Value) : Below B w (w'.setRow g cs) :=
  ⟨h.os, h.tape, h.output, by rw [setRow_size]; exact h.size, fun k hk => (setRow_other w' g k cs (by omega)).trans (h.block k hk)⟩
theorem ref_new (w : World) : RefAt (w.alloc (.cells (rcells (.slice none 0 0) nx0) 62)) w.heap.size (· = w.heap.size) [] nx0 := by
  refine ⟨[], none, 0, 0, ⟨Blk.new _ _ _, World.ownsRow_nil _ _ _ _, rfl, (fun g hg => by cases hg), ?_, (fun e he => by cases he), List.Pairwise.nil⟩, rfl⟩
  rintro b rfl
  simp
theorem kcells3 {k : Nat} (h : k < 3) : flat4 [key3 k] = [.bool true, .int .u8 (k : Int), .int .u16 7, .int .u16 (k : Int)] := by
  rcases k with _ | _ | _ | k
  · rfl
  · rfl
  · rfl
  · omega
theorem of3 {k : Nat} (h : k < 3) (w : World) : Calls Try.prog 18 #[.agg #[.int .u8 (k : Int), .int .u16 7, .int .u16 (k : Int)]] w fun e w' => e = .returned (.agg #[.bool true, .int .u8 (k : Int), .int .u16 7, .int .u16 (k : Int)]) ∧ Below w.heap.size w w' := by
  rcases k with _ | _ | _ | k
  · exact of_ok 0 7 0 w
  · exact of_ok 1 7 1 w
  · exact of_ok 2 7 2 w
  · omega
theorem keys3_take {k : Nat} (h : k < 3) : keys3.take (k + 1) = keys3.take k ++ [key3 k] := by
  rcases k with _ | _ | _ | k
  · rfl
  · rfl
  · rfl
  · omega
theorem ok3 : PlOk [] nx0 keys3 0 := by
  refine ⟨(fun e he => by cases he), (fun x hx => .inl ?_), (fun i hi => ⟨0, ?_, by simp⟩), (fun e he => by cases he), by simp, by simp [keys3], by simp [keys3]⟩
  · simp only [keys3, List.mem_cons, List.not_mem_nil, or_false] at hx
    rcases hx with rfl | rfl | rfl <;> rfl
  · rcases i with _ | _ | _ | i
    · rfl
    · rfl
    · rfl
    · omega

section
attribute [-go_sem] Instr.build
attribute [local go_sem] build_refpipes build_ino3 build_ino2 build_key1
variable (A : Option Addr) (n c : Nat) (acs : List AV) (w : World)
set_option maxRecDepth 100000 in
set_option maxHeartbeats 200000000 in
theorem plays_ok (hr : Acts w A n acs) :
    Calls Try.prog 7 #[.slice A n c] w fun e w' => e = .returned (.bool true) ∧ Below w.heap.size w w' := by
  obtain ⟨k0, hk0, k1, k2, k3⟩ := info_parts info_key
  have hrl := hr.1
  have HR := hide hr
  clear hr
  go_enter Try.func7, Try.ntmps7
  go_wp2_with fail
  refine (awake_ok _).mono ?_
  rintro e w1 ⟨rfl, hb1⟩
  go_wp2_with fail
  refine (new_at _).mono ?_
  rintro e w2 ⟨p, F, rfl, hP, hF, hb2⟩
  have s2 : PSt w w2 p F _ _ := ⟨hP, fun b hb => Nat.le_trans hb1.size (hF b hb), hb1.trans (hb2.mono hb1.size)⟩
  clear hP hF hb2 hb1
  go_wp2_with fail
  refine at_world (fun W => ∃ q G, q = w2.heap.size ∧ Ph w W p q F G [] [] nx0 nx0 [] none 0) ⟨_, _, rfl, s2.alloc _, ref_new w2, (fun b hb => hb ▸ s2.bel.size), (fun b hf hg => s2.not (hg ▸ hf)), World.ownsRow_nil _ _ _ _, (fun g hg => by cases hg)⟩ (fun w3 h3 => ?_)
  obtain ⟨q, G, hq, ph0⟩ := h3
  rw [← hq]
  clear hq s2
  go_loopg [5, 6, 35] 3 (fun g x5 x6 x35 wr => ∃ (k : Nat) (Ak : Option Addr) (ck : Nat), k ≤ 3 ∧ g = 3 - k ∧ x35 = .int .i64 k ∧ x5 = .slice Ak k ck ∧ Aside (Ph w wr p q F G [] [] nx0 nx0 (keys3.take k) Ak ck))
  case atStart => exact ⟨0, none, 0, Nat.zero_le _, rfl, rfl, rfl, ph0⟩
  case round =>
    obtain ⟨k, Ak, ck, hk, hg, rfl, rfl, ph⟩ := hrel
    clear ph0
    by_cases hk3 : k < 3
    · have hkz : (k : Int) < 3 := by omega
      go_wp2_with fail
      refine (of3 hk3 _).mono ?_
      rintro e wo ⟨rfl, hbo⟩
      have pho := ph.below hbo
      have hb9 : Below wo.heap.size wo (wo.alloc (.cells #[.bool true, .int .u8 (k : Int), .int .u16 7, .int .u16 (k : Int)] 41)) := (Below.refl _ _).alloc (Nat.le_refl _) _
      have ra := own_lit (w := wo) (base := 0) (e := 41) (size := 4) (n := 1) (cs := #[.bool true, .int .u8 (k : Int), .int .u16 7, .int .u16 (k : Int)]) rfl rfl (Nat.zero_le _) (by simp [maxLen]) rfl
      have hkl : (keys3.take k).length = k := by simp [keys3]; omega
      have ph9 := pho.below hb9
      have row9 := ph9.row
      rw [hkl] at row9
      have HKL := hide hkl
      have KC := hide (kcells3 hk3)
      clear hkl
      go_wp2_with (refine wpList_append_rd _ rfl (.tmp 38) (.tmp 45) 63 (by rfl) w.heap.size 41 k0 (.agg #[.bool false, .int .u8 0, .int .u16 0, .int .u16 0]) 4 8 Try.underlying63 hk0 k1 k2 k3 rfl (by decide) (.slice Ak k ck) k (flat4 (keys3.take k)) (by rfl) row9 _ (some ⟨wo.heap.size, 0, none⟩) 1 1 (flat4 [key3 k]) (by rfl) (by rw [KC.out]; exact Rd.of_own ra) (flat4_one _) (by simp only [maxLen]; omega) (by omega) (by have := ph9.s.bel.size; omega) ?_; intro v' w5 ho5 hg5 _ hat5)
      rw [← flat4_append, ← keys3_take hk3] at ho5
      obtain ⟨A5, c5, rfl, hnc5, hcm5, hA5⟩ := own_form ho5
      have hkl2 : (keys3.take (k + 1)).length = k + 1 := by simp [keys3]; omega
      have ph5 : Ph w w5 p q F G [] [] nx0 nx0 (keys3.take (k + 1)) A5 c5 := ph9.krow (by rw [HKL.out]; exact hg5) (by rw [hkl2]; exact ho5) (by rw [hkl2, HKL.out]; exact hat5)
      clear hkl2 ho5 hg5 hat5 ra hb9 row9 ph9 pho hbo ph hnc5 hcm5 hA5
      go_wp2
      go_roundg (3 - (k + 1))
      case measure => omega
      case rel => exact ⟨k + 1, A5, c5, by omega, rfl, by go_num, rfl, ph5⟩
    · obtain rfl : k = 3 := by omega
      have ph3 : Ph w wr p q F G [] [] nx0 nx0 keys3 Ak ck := ph.out
      clear ph hg hk3 hk
      go_wp2_with fail
      have hrl' := hrl
      clear k1 k2 k3 hk0 hrl
      go_loopg [5, 50] n (fun g x5 x50 wr => ∃ (k : Nat) (ks : List PKey) (Ak : Option Addr) (ck : Nat), k ≤ n ∧ k ≤ 81 ∧ g = n - k ∧ x50 = .int .i64 k ∧ x5 = .slice Ak ks.length ck ∧ Aside (∃ F G L nx, Ph w wr p q F G L L nx nx ks Ak ck ∧ PlOk L nx ks k))
      case atStart => exact ⟨0, keys3, Ak, ck, Nat.zero_le _, by omega, rfl, rfl, rfl, F, G, [], nx0, ph3, ok3⟩
      case round =>
        clear ph3
        obtain ⟨k, ks, Ak, ck, hk, hk81, hg, rfl, rfl, hA⟩ := hrel
        by_cases hkn : k < n
        · have hkz : (k : Int) < n := by omega
          obtain ⟨a, ha⟩ : ∃ a, acs[k]? = some a := ⟨_, List.getElem?_eq_getElem (by omega)⟩
          obtain ⟨bb, oo, rfl, hbb, hca⟩ := HR.out.2 (by omega)
          obtain ⟨hcell, hbc, hrb⟩ := hca k a ha
          obtain ⟨F, G, L, nx, ph, ok⟩ := hA.out
          have a0 := (ph.s.bel.cell (p := ⟨bb, _, none⟩) hbb).trans (hcell 0 _ rfl)
          have a1 := (ph.s.bel.cell (p := ⟨bb, _, none⟩) hbb).trans (hcell 1 _ rfl)
          have a2 := (ph.s.bel.cell (p := ⟨bb, _, none⟩) hbb).trans (hcell 2 _ rfl)
          have a3 := (ph.s.bel.cell (p := ⟨bb, _, none⟩) hbb).trans (hcell 3 _ rfl)
          have a4 := (ph.s.bel.cell (p := ⟨bb, _, none⟩) hbb).trans (hcell 4 _ rfl)
          have a5 := (ph.s.bel.cell (p := ⟨bb, _, none⟩) hbb).trans (hcell 5 _ rfl)
          have a6 := (ph.s.bel.cell (p := ⟨bb, _, none⟩) hbb).trans (hcell 6 _ rfl)
          have hbw : bb < wr.heap.size := Nat.lt_of_lt_of_le hbb ph.s.bel.size
          have PH := hide ph
          have OK := hide ok
          clear hcell hca ha hA ph ok hbb
          obtain ⟨akd, awh, ard, awr, aA, ac, ab, aN, araw⟩ := a
          simp only at a0 a1 a2 a3 a4 a5 a6 hbc hrb
          simp only [← Nat.add_assoc, Nat.add_zero] at a0 a1 a2 a3 a4 a5 a6
          by_cases hbr : k > 80 ∨ ab.length > 400
          · have HE := hide (PH.out.alloc (.cells #[.int .u8 (akd.toNat : Int), .int .u8 (awh.toNat : Int), .bool ard, .bool awr, .slice aA ab.length ac, .int .i64 aN, .bool araw] 65)).s.bel
            clear PH OK
            by_cases h80 : k > 80
            · have hb1 : decide ((80 : Int) < k) = true := by simp; omega
              clear hbr h80
              go_wp2
              go_returns
              exact ⟨rfl, HE.out⟩
            · have hb1 : decide ((80 : Int) < k) = false := by simp; omega
              have hb2 : decide ((400 : Int) < ab.length) = true := by simp; omega
              clear hbr h80
              go_wp2
              go_returns
              exact ⟨rfl, HE.out⟩
          · have hb1 : decide ((80 : Int) < k) = false := by simp; omega
            have hb2 : decide ((400 : Int) < ab.length) = false := by simp; omega
            go_upto_region 14 with (fail)
            refine at_world (fun W => ∃ bx, bx = wr.heap.size ∧ Hid (Ph w W p q F G L L nx nx ks Ak ck) ∧ Bx W F G bx 65 #[.int .u8 (akd.toNat : Int), .int .u8 (awh.toNat : Int), .bool ard, .bool awr, .slice aA ab.length ac, .int .i64 aN, .bool araw]) ⟨_, rfl, PH.out.alloc _, PH.out.new _ _⟩ (fun w4 h4 => ?_)
            obtain ⟨bx, hbx, PH4, BX⟩ := h4
            rw [← hbx]
            have hkl : 0 < ks.length := by have := OK.out.k3; omega
            obtain ⟨t, ht, hti⟩ : ∃ t, t = awh.toNat % ks.length ∧ (awh.toNat : Int) % (ks.length : Int) = (t : Int) := ⟨_, rfl, by omega⟩
            have htl : t < ks.length := by rw [ht]; exact Nat.mod_lt _ hkl
            obtain ⟨gk, rfl, hgk, hkc⟩ := PH4.out.keys hkl
            obtain ⟨⟨nm, lb, nu, ge⟩, hkey⟩ : ∃ x, ks[t]? = some x := ⟨_, List.getElem?_eq_getElem htl⟩
            have c0 := hkc t _ hkey 0 _ rfl
            have c1 := hkc t _ hkey 1 _ rfl
            have c2 := hkc t _ hkey 2 _ rfl
            have c3 := hkc t _ hkey 3 _ rfl
            simp only [Nat.add_zero] at c0 c1 c2 c3
            have b1 := BX.is.cell 1
            have bl := BX.is.lt
            have hkz2 : (0 : Int) < ks.length := by omega
            have htz : (t : Int) < ks.length := by omega
            have HT := hide ht
            have HKEY := hide hkey
            have HBX := hide hbx
            clear a0 a1 a2 a3 a4 a5 a6 hkc hbx ht hkey hkl PH
            have hw8 : wrap64 (awh.toNat : Int) = (awh.toNat : Int) := IntWalk.wrap64_in _ (by have := awh.toNat_lt; omega)
            have htm : (awh.toNat : Int).tmod (ks.length : Int) = t := by rw [IntWalk.rem_in _ _ (by omega)]; exact hti
            go_upto_region 15 with (fail)
            refine at_world (fun W => ∃ bk, bk = w4.heap.size ∧ Hid (Ph w W p q F G L L nx nx ks (some ⟨gk, 0, none⟩) ck) ∧ Bx W F G bx 65 #[.int .u8 (akd.toNat : Int), .int .u8 (awh.toNat : Int), .bool ard, .bool awr, .slice aA ab.length ac, .int .i64 aN, .bool araw] ∧ Bx W F G bk 41 #[.bool nm, .int .u8 (lb.toNat : Int), .int .u16 (nu.toNat : Int), .int .u16 (ge.toNat : Int)]) ⟨_, rfl, hide (PH4.out.alloc _), BX.alloc _, PH4.out.new _ _⟩ (fun w5 h5 => ?_)
            obtain ⟨bk, hbk, PH, BX5, BK⟩ := h5
            rw [← hbk]
            clear hbk PH4 BX c0 c1 c2 c3 b1 bl htm hti hw8 htz hgk htl
            have BX := BX5
            clear BX5
            have x0 := BX.is.cell 0
            obtain ⟨d, hd⟩ : ∃ d, d = akd.toNat % 9 := ⟨_, rfl⟩
            have hd9 : d < 9 := by omega
            have hdi : (akd.toNat : Int) % 9 = d := by omega
            have hdm : (akd.toNat : Int).tmod 9 = d := by rw [IntWalk.rem_in _ _ (by omega)]; exact hdi
            have xl := BX.is.lt
            have HD := hide hd
            clear hd
            go_upto_block 4 with (fail)
            clear hdi hdm x0 xl
            have hmem : (nm, lb, nu, ge) ∈ ks := List.mem_of_getElem? HKEY.out
            go_cut [5, 10, 11, 12, 13, 14, 15, 16, 17, 18, 19, 20, 21, 22] from 75 to 224 (fun x5 x10 x11 x12 x13 x14 x15 x16 x17 x18 x19 x20 x21 x22 wc => ∃ (ks' : List PKey) (Ak' : Option Addr) (ck' : Nat), x5 = .slice Ak' ks'.length ck' ∧ Aside (∃ F G L nx, Ph w wc p q F G L L nx nx ks' Ak' ck' ∧ PlOk L nx ks' (k + 1)))
            case first =>
              clear hb1 hb2
              have hk8 : k ≤ 80 := by omega
              have hc1 : ((mget L (nm, lb, nu, ge)).getD ([], 0, 0)).2.1 < 60000 := by have := (OK.out.getD (nm, lb, nu, ge)).1; omega
              have hc2 : ((mget L (nm, lb, nu, ge)).getD ([], 0, 0)).2.2 < 60000 := by have := (OK.out.getD (nm, lb, nu, ge)).2; omega
              have hL6 : L.length ≤ 60000 := by have := OK.out.len; omega
              have hab : ab.length ≤ 400 := by omega
              clear hbr
              rcases d with _ | _ | _ | _ | _ | _ | _ | _ | _ | d
              · as_aux_lemma =>
                  obtain ⟨lv, hlv, hl3⟩ : ∃ lv : UInt8, (awh.toNat : Int) % 3 = (lv.toNat : Int) ∧ lv.toNat < 3 := ⟨UInt8.ofNat (awh.toNat % 3), by simp [UInt8.toNat_ofNat']; omega, by simp [UInt8.toNat_ofNat']; omega⟩
                  have hlm : (awh.toNat : Int).tmod 3 = (lv.toNat : Int) := by rw [IntWalk.rem_in _ _ (by omega)]; exact hlv
                  obtain ⟨y, hy, _⟩ := OK.out.nxs lv.toNat hl3
                  have HY := hide hy
                  have HT := hide (OK.out.tk hy)
                  clear hy
                  have x1 := BX.is.cell 1
                  have xl := BX.is.lt
                  go_wp2_with fail
                  clear hlv hlm x1 xl BX BK
                  refine (plain_at PH.out.s.is lv (by omega) y HY.out 0 y HT.out).mono ?_
                  rintro e w6 ⟨rfl, hP6, hW6⟩
                  have PH6 := hide (PH.out.pstep hP6 hW6)
                  clear PH hP6 hW6
                  have hl8 : IntKind.u8.wrap (lv.toNat : Int) = lv.toNat := IntWalk.u8_in _ (by omega)
                  have hl9 : (lv.toNat : Int) < 256 := by omega
                  go_wp2_with fail
                  refine (rplain_at (PH6.out.alloc _).r hL6 lv (by omega) y HY.out 0 y HT.out).mono ?_
                  rintro e w7 ⟨rfl, hP7, hW7⟩
                  have PH7 := hide ((PH6.out.alloc _).qstep hP7 hW7)
                  have B11 := (PH6.out.new 41 #[.bool false, .int .u8 (lv.toNat : Int), .int .u16 (y.toNat : Int), .int .u16 0]).qstep hW7
                  clear hP7 hW7
                  have z0 := B11.is.cell 0
                  have z1 := B11.is.cell 1
                  have z2 := B11.is.cell 2
                  have z3 := B11.is.cell 3
                  have zl := B11.is.lt
                  clear PH6
                  obtain ⟨k0, hk0, k1, k2, k3⟩ := info_parts info_key
                  have hb9 : Below w7.heap.size w7 ((w7.alloc (.cells #[.bool false, .int .u8 (lv.toNat : Int), .int .u16 (y.toNat : Int), .int .u16 0] 41)).alloc (.cells #[.bool false, .int .u8 (lv.toNat : Int), .int .u16 (y.toNat : Int), .int .u16 0] 41)) := ((Below.refl _ _).alloc (Nat.le_refl _) _).alloc (by simp) _
                  have PH9 := hide (PH7.out.below hb9)
                  have ra := own_lit (w := w7.alloc (.cells #[.bool false, .int .u8 (lv.toNat : Int), .int .u16 (y.toNat : Int), .int .u16 0] 41)) (g := w7.heap.size + 1) (base := 0) (e := 41) (size := 4) (n := 1) (cs := #[.bool false, .int .u8 (lv.toNat : Int), .int .u16 (y.toNat : Int), .int .u16 0]) rfl (by simp) (Nat.zero_le _) (by simp [maxLen]) rfl
                  have RA := hide ra
                  have hks : ks.length ≤ 84 := by have := OK.out.kn; omega
                  clear ra hb9
                  go_wp2_with (refine wpList_append_rd _ rfl (.tmp 118) (.tmp 120) 63 (by rfl) w.heap.size 41 k0 (.agg #[.bool false, .int .u8 0, .int .u16 0, .int .u16 0]) 4 8 Try.underlying63 hk0 k1 k2 k3 rfl (by decide) (.slice (some ⟨gk, 0, none⟩) ks.length ck) ks.length (flat4 ks) (by rfl) PH9.out.row _ (some ⟨w7.heap.size + 1, 0, none⟩) 1 1 (flat4 [(false, lv, y, 0)]) (by rfl) (Rd.of_own RA.out) (flat4_one _) (by simp only [maxLen]; omega) (by omega) (by have := PH9.out.s.bel.size; omega) ?_; intro v' w8 ho8 hg8 _ hat8; clear k0 hk0 k1 k2 k3)
                  rw [← flat4_append] at ho8
                  obtain ⟨A8, c8, rfl, hnc8, hcm8, hA8⟩ := own_form ho8
                  have hkl8 : (ks ++ [(false, lv, y, 0)]).length = ks.length + 1 := by simp
                  have PH8 := hide (PH9.out.krow (ks' := ks ++ [(false, lv, y, 0)]) (A' := A8) (c' := c8) hg8 (by rw [hkl8]; exact ho8) (by rw [hkl8]; exact hat8))
                  clear hkl8 ho8 hg8 hat8 PH9 PH7 RA B11 z0 z1 z2 z3 zl hnc8 hcm8 hA8 hl8 hl9
                  go_wp2
                  go_meet
                  case rel => exact ⟨ks ++ [(false, lv, y, 0)], A8, c8, by simp, F, _, _, _, PH8.out, OK.out.plain (by omega) hl3 HY.out⟩
              · as_aux_lemma =>
                  by_cases hrw : (ard || awr) = true
                  · have HRW := hide hrw
                    clear hrw
                    have x2 := BX.is.cell 2
                    have x3 := BX.is.cell 3
                    have x4 := BX.is.cell 4
                    have x5 := BX.is.cell 5
                    have x6 := BX.is.cell 6
                    have y0 := BK.is.cell 0
                    have y1 := BK.is.cell 1
                    have y2 := BK.is.cell 2
                    have y3 := BK.is.cell 3
                    have xl := BX.is.lt
                    have yl := BK.is.lt
                    go_wp2_with fail
                    refine (join_at PH.out.s.is nm lb nu ge ard awr HRW.out hc1 hc2).mono ?_
                    rintro e w6 ⟨rfl, F6, hP6, hW6⟩
                    have PH6 := hide (PH.out.pstep hP6 hW6)
                    have BX6 := BX.pstep hW6
                    have BK6 := BK.pstep hW6
                    clear hP6 hW6 PH BX BK
                    clear x2 x3 x4 x5 x6 y0 y1 y2 y3 xl yl
                    have x2 := BX6.is.cell 2
                    have x3 := BX6.is.cell 3
                    have x4 := BX6.is.cell 4
                    have x5 := BX6.is.cell 5
                    have x6 := BX6.is.cell 6
                    have y0 := BK6.is.cell 0
                    have y1 := BK6.is.cell 1
                    have y2 := BK6.is.cell 2
                    have y3 := BK6.is.cell 3
                    have xl := BX6.is.lt
                    have yl := BK6.is.lt
                    go_wp2_with fail
                    refine (rjoin_at PH6.out.r hL6 nm lb nu ge ard awr HRW.out hc1 hc2).mono ?_
                    rintro e w7 ⟨rfl, G7, hP7, hW7⟩
                    have PH7 := hide (PH6.out.qstep hP7 hW7)
                    clear PH6 hP7 hW7 BX6 BK6
                    clear x2 x3 x4 x5 x6 y0 y1 y2 y3 xl yl
                    go_wp2
                    go_meet
                    case rel => exact ⟨ks, _, _, rfl, F6, G7, _, _, PH7.out, OK.out.join hmem ard awr⟩
                  · obtain ⟨rfl, rfl⟩ : ard = false ∧ awr = false := by simpa using hrw
                    have x2 := BX.is.cell 2
                    have x3 := BX.is.cell 3
                    have x4 := BX.is.cell 4
                    have x5 := BX.is.cell 5
                    have x6 := BX.is.cell 6
                    have y0 := BK.is.cell 0
                    have y1 := BK.is.cell 1
                    have y2 := BK.is.cell 2
                    have y3 := BK.is.cell 3
                    have xl := BX.is.lt
                    have yl := BK.is.lt
                    go_wp2_with fail
                    refine (join_ p nm lb nu ge _).mono ?_
                    rintro e w6 ⟨rfl, hb6⟩
                    have PH6 := hide (PH.out.below hb6)
                    have BX6 := BX.below hb6
                    have BK6 := BK.below hb6
                    clear hb6 PH BX BK
                    clear x2 x3 x4 x5 x6 y0 y1 y2 y3 xl yl
                    have x2 := BX6.is.cell 2
                    have x3 := BX6.is.cell 3
                    have x4 := BX6.is.cell 4
                    have x5 := BX6.is.cell 5
                    have x6 := BX6.is.cell 6
                    have y0 := BK6.is.cell 0
                    have y1 := BK6.is.cell 1
                    have y2 := BK6.is.cell 2
                    have y3 := BK6.is.cell 3
                    have xl := BX6.is.lt
                    have yl := BK6.is.lt
                    go_wp2_with fail
                    refine (rjoin_no q nm lb nu ge _).mono ?_
                    rintro e w7 ⟨rfl, hb7⟩
                    have PH7 := hide (PH6.out.below hb7)
                    clear hb7 PH6 BX6 BK6
                    clear x2 x3 x4 x5 x6 y0 y1 y2 y3 xl yl
                    go_wp2
                    go_meet
                    case rel => exact ⟨ks, _, _, rfl, F, G, _, _, PH7.out, OK.out.up⟩
              · as_aux_lemma =>
                  by_cases hrw : (ard || awr) = true
                  · have HRW := hide hrw
                    clear hrw
                    have x2 := BX.is.cell 2
                    have x3 := BX.is.cell 3
                    have x4 := BX.is.cell 4
                    have x5 := BX.is.cell 5
                    have x6 := BX.is.cell 6
                    have y0 := BK.is.cell 0
                    have y1 := BK.is.cell 1
                    have y2 := BK.is.cell 2
                    have y3 := BK.is.cell 3
                    have xl := BX.is.lt
                    have yl := BK.is.lt
                    go_wp2_with fail
                    refine (join_at PH.out.s.is nm lb nu ge ard awr HRW.out hc1 hc2).mono ?_
                    rintro e w6 ⟨rfl, F6, hP6, hW6⟩
                    have PH6 := hide (PH.out.pstep hP6 hW6)
                    have BX6 := BX.pstep hW6
                    have BK6 := BK.pstep hW6
                    clear hP6 hW6 PH BX BK
                    clear x2 x3 x4 x5 x6 y0 y1 y2 y3 xl yl
                    have x2 := BX6.is.cell 2
                    have x3 := BX6.is.cell 3
                    have x4 := BX6.is.cell 4
                    have x5 := BX6.is.cell 5
                    have x6 := BX6.is.cell 6
                    have y0 := BK6.is.cell 0
                    have y1 := BK6.is.cell 1
                    have y2 := BK6.is.cell 2
                    have y3 := BK6.is.cell 3
                    have xl := BX6.is.lt
                    have yl := BK6.is.lt
                    go_wp2_with fail
                    refine (rjoin_at PH6.out.r hL6 nm lb nu ge ard awr HRW.out hc1 hc2).mono ?_
                    rintro e w7 ⟨rfl, G7, hP7, hW7⟩
                    have PH7 := hide (PH6.out.qstep hP7 hW7)
                    clear PH6 hP7 hW7 BX6 BK6
                    clear x2 x3 x4 x5 x6 y0 y1 y2 y3 xl yl
                    go_wp2
                    go_meet
                    case rel => exact ⟨ks, _, _, rfl, F6, G7, _, _, PH7.out, OK.out.join hmem ard awr⟩
                  · obtain ⟨rfl, rfl⟩ : ard = false ∧ awr = false := by simpa using hrw
                    have x2 := BX.is.cell 2
                    have x3 := BX.is.cell 3
                    have x4 := BX.is.cell 4
                    have x5 := BX.is.cell 5
                    have x6 := BX.is.cell 6
                    have y0 := BK.is.cell 0
                    have y1 := BK.is.cell 1
                    have y2 := BK.is.cell 2
                    have y3 := BK.is.cell 3
                    have xl := BX.is.lt
                    have yl := BK.is.lt
                    go_wp2_with fail
                    refine (join_ p nm lb nu ge _).mono ?_
                    rintro e w6 ⟨rfl, hb6⟩
                    have PH6 := hide (PH.out.below hb6)
                    have BX6 := BX.below hb6
                    have BK6 := BK.below hb6
                    clear hb6 PH BX BK
                    clear x2 x3 x4 x5 x6 y0 y1 y2 y3 xl yl
                    have x2 := BX6.is.cell 2
                    have x3 := BX6.is.cell 3
                    have x4 := BX6.is.cell 4
                    have x5 := BX6.is.cell 5
                    have x6 := BX6.is.cell 6
                    have y0 := BK6.is.cell 0
                    have y1 := BK6.is.cell 1
                    have y2 := BK6.is.cell 2
                    have y3 := BK6.is.cell 3
                    have xl := BX6.is.lt
                    have yl := BK6.is.lt
                    go_wp2_with fail
                    refine (rjoin_no q nm lb nu ge _).mono ?_
                    rintro e w7 ⟨rfl, hb7⟩
                    have PH7 := hide (PH6.out.below hb7)
                    clear hb7 PH6 BX6 BK6
                    clear x2 x3 x4 x5 x6 y0 y1 y2 y3 xl yl
                    go_wp2
                    go_meet
                    case rel => exact ⟨ks, _, _, rfl, F, G, _, _, PH7.out, OK.out.up⟩
              · as_aux_lemma =>
                  have x2 := BX.is.cell 2
                  have x3 := BX.is.cell 3
                  have x4 := BX.is.cell 4
                  have x5 := BX.is.cell 5
                  have x6 := BX.is.cell 6
                  have y0 := BK.is.cell 0
                  have y1 := BK.is.cell 1
                  have y2 := BK.is.cell 2
                  have y3 := BK.is.cell 3
                  have xl := BX.is.lt
                  have yl := BK.is.lt
                  go_wp2_with fail
                  refine (leave_at PH.out.s.is nm lb nu ge ard awr hc1 hc2).mono ?_
                  rintro e w6 ⟨rfl, F6, hP6, hW6⟩
                  have PH6 := hide (PH.out.pstep hP6 hW6)
                  have BX6 := BX.pstep hW6
                  have BK6 := BK.pstep hW6
                  clear hP6 hW6 PH BX BK
                  clear x2 x3 x4 x5 x6 y0 y1 y2 y3 xl yl
                  have x2 := BX6.is.cell 2
                  have x3 := BX6.is.cell 3
                  have x4 := BX6.is.cell 4
                  have x5 := BX6.is.cell 5
                  have x6 := BX6.is.cell 6
                  have y0 := BK6.is.cell 0
                  have y1 := BK6.is.cell 1
                  have y2 := BK6.is.cell 2
                  have y3 := BK6.is.cell 3
                  have xl := BX6.is.lt
                  have yl := BK6.is.lt
                  go_wp2_with fail
                  refine (rleave_at PH6.out.r hL6 nm lb nu ge ard awr hc1 hc2).mono ?_
                  rintro e w7 ⟨rfl, G7, hP7, hW7⟩
                  have PH7 := hide (PH6.out.qstep hP7 hW7)
                  clear PH6 hP7 hW7 BX6 BK6
                  clear x2 x3 x4 x5 x6 y0 y1 y2 y3 xl yl
                  go_wp2
                  go_meet
                  case rel => exact ⟨ks, _, _, rfl, F6, G7, _, _, PH7.out, OK.out.leave hmem ard awr⟩
              · as_aux_lemma =>
                  have x2 := BX.is.cell 2
                  have x3 := BX.is.cell 3
                  have x4 := BX.is.cell 4
                  have x5 := BX.is.cell 5
                  have x6 := BX.is.cell 6
                  have y0 := BK.is.cell 0
                  have y1 := BK.is.cell 1
                  have y2 := BK.is.cell 2
                  have y3 := BK.is.cell 3
                  have xl := BX.is.lt
                  have yl := BK.is.lt
                  go_wp2_with fail
                  refine (write_at PH.out.s.is nm lb nu ge _ _ _ ab ((hrb.below PH.out.s.bel).more PH.out.s.bel.size) hbc (by omega) hc1 hc2).mono ?_
                  rintro e w6 ⟨rfl, F6, hP6, hW6⟩
                  have PH6 := hide (PH.out.pstep hP6 hW6)
                  have BX6 := BX.pstep hW6
                  have BK6 := BK.pstep hW6
                  clear hP6 hW6 PH BX BK
                  clear x2 x3 x4 x5 x6 y0 y1 y2 y3 xl yl
                  have x2 := BX6.is.cell 2
                  have x3 := BX6.is.cell 3
                  have x4 := BX6.is.cell 4
                  have x5 := BX6.is.cell 5
                  have x6 := BX6.is.cell 6
                  have y0 := BK6.is.cell 0
                  have y1 := BK6.is.cell 1
                  have y2 := BK6.is.cell 2
                  have y3 := BK6.is.cell 3
                  have xl := BX6.is.lt
                  have yl := BK6.is.lt
                  go_wp2_with fail
                  refine (rwrite_at PH6.out.r hL6 nm lb nu ge _ _ _ ab _ (hrb.below PH6.out.s.bel) PH6.out.s.bel.size PH6.out.gb (by omega) hc1 hc2).mono ?_
                  rintro e w7 ⟨rfl, G7, hP7, hW7⟩
                  have PH7 := hide (PH6.out.qstep hP7 hW7)
                  clear PH6 hP7 hW7 BX6 BK6
                  clear x2 x3 x4 x5 x6 y0 y1 y2 y3 xl yl
                  go_wp2
                  go_meet
                  case rel => exact ⟨ks, _, _, rfl, F6, G7, _, _, PH7.out, OK.out.write hmem ab⟩
              · as_aux_lemma =>
                  have x2 := BX.is.cell 2
                  have x3 := BX.is.cell 3
                  have x4 := BX.is.cell 4
                  have x5 := BX.is.cell 5
                  have x6 := BX.is.cell 6
                  have y0 := BK.is.cell 0
                  have y1 := BK.is.cell 1
                  have y2 := BK.is.cell 2
                  have y3 := BK.is.cell 3
                  have xl := BX.is.lt
                  have yl := BK.is.lt
                  go_wp2_with fail
                  refine (write_at PH.out.s.is nm lb nu ge _ _ _ ab ((hrb.below PH.out.s.bel).more PH.out.s.bel.size) hbc (by omega) hc1 hc2).mono ?_
                  rintro e w6 ⟨rfl, F6, hP6, hW6⟩
                  have PH6 := hide (PH.out.pstep hP6 hW6)
                  have BX6 := BX.pstep hW6
                  have BK6 := BK.pstep hW6
                  clear hP6 hW6 PH BX BK
                  clear x2 x3 x4 x5 x6 y0 y1 y2 y3 xl yl
                  have x2 := BX6.is.cell 2
                  have x3 := BX6.is.cell 3
                  have x4 := BX6.is.cell 4
                  have x5 := BX6.is.cell 5
                  have x6 := BX6.is.cell 6
                  have y0 := BK6.is.cell 0
                  have y1 := BK6.is.cell 1
                  have y2 := BK6.is.cell 2
                  have y3 := BK6.is.cell 3
                  have xl := BX6.is.lt
                  have yl := BK6.is.lt
                  go_wp2_with fail
                  refine (rwrite_at PH6.out.r hL6 nm lb nu ge _ _ _ ab _ (hrb.below PH6.out.s.bel) PH6.out.s.bel.size PH6.out.gb (by omega) hc1 hc2).mono ?_
                  rintro e w7 ⟨rfl, G7, hP7, hW7⟩
                  have PH7 := hide (PH6.out.qstep hP7 hW7)
                  clear PH6 hP7 hW7 BX6 BK6
                  clear x2 x3 x4 x5 x6 y0 y1 y2 y3 xl yl
                  go_wp2
                  go_meet
                  case rel => exact ⟨ks, _, _, rfl, F6, G7, _, _, PH7.out, OK.out.write hmem ab⟩
              · as_aux_lemma =>
                  have x2 := BX.is.cell 2
                  have x3 := BX.is.cell 3
                  have x4 := BX.is.cell 4
                  have x5 := BX.is.cell 5
                  have x6 := BX.is.cell 6
                  have y0 := BK.is.cell 0
                  have y1 := BK.is.cell 1
                  have y2 := BK.is.cell 2
                  have y3 := BK.is.cell 3
                  have xl := BX.is.lt
                  have yl := BK.is.lt
                  go_wp2_with fail
                  refine (blind_at PH.out.s.is nm lb nu ge _ _ _ ab ((hrb.below PH.out.s.bel).more PH.out.s.bel.size) hc1 hc2).mono ?_
                  rintro e w6 ⟨rfl, F6, hP6, hW6⟩
                  have PH6 := hide (PH.out.pstep hP6 hW6)
                  have BX6 := BX.pstep hW6
                  have BK6 := BK.pstep hW6
                  clear hP6 hW6 PH BX BK
                  clear x2 x3 x4 x5 x6 y0 y1 y2 y3 xl yl
                  have x2 := BX6.is.cell 2
                  have x3 := BX6.is.cell 3
                  have x4 := BX6.is.cell 4
                  have x5 := BX6.is.cell 5
                  have x6 := BX6.is.cell 6
                  have y0 := BK6.is.cell 0
                  have y1 := BK6.is.cell 1
                  have y2 := BK6.is.cell 2
                  have y3 := BK6.is.cell 3
                  have xl := BX6.is.lt
                  have yl := BK6.is.lt
                  go_wp2_with fail
                  refine (rblind_at PH6.out.r hL6 nm lb nu ge _ _ _ ab _ (hrb.below PH6.out.s.bel) PH6.out.s.bel.size PH6.out.gb (by omega) hc1 hc2).mono ?_
                  rintro e w7 ⟨rfl, G7, hP7, hW7⟩
                  have PH7 := hide (PH6.out.qstep hP7 hW7)
                  clear PH6 hP7 hW7 BX6 BK6
                  clear x2 x3 x4 x5 x6 y0 y1 y2 y3 xl yl
                  go_wp2
                  go_meet
                  case rel => exact ⟨ks, _, _, rfl, F6, G7, _, _, PH7.out, OK.out.blind hmem ab⟩
              · as_aux_lemma =>
                  cases araw
                  all_goals
                    have x2 := BX.is.cell 2
                    have x3 := BX.is.cell 3
                    have x4 := BX.is.cell 4
                    have x5 := BX.is.cell 5
                    have x6 := BX.is.cell 6
                    have y0 := BK.is.cell 0
                    have y1 := BK.is.cell 1
                    have y2 := BK.is.cell 2
                    have y3 := BK.is.cell 3
                    have xl := BX.is.lt
                    have yl := BK.is.lt
                    go_wp2_with fail
                    refine (read_at PH.out.s.is nm lb nu ge _ hc1 hc2).mono ?_
                    rintro e w6 ⟨A1, n1, c1, rfl, ho6, F6, hP6, hW6, _⟩
                    have PH6 := hide (PH.out.pstep hP6 hW6)
                    have BX6 := BX.pstep hW6
                    have BK6 := BK.pstep hW6
                    have hdis : ∀ g, (Value.slice A1 n1 c1).ownBlock = some g → ¬ G g := fun g hg hf => by have := (ho6.lt g hg).1; have := PH.out.r.lt g hf; omega
                    clear hP6 hW6 PH BX BK
                    clear x2 x3 x4 x5 x6 y0 y1 y2 y3 xl yl
                    have x2 := BX6.is.cell 2
                    have x3 := BX6.is.cell 3
                    have x4 := BX6.is.cell 4
                    have x5 := BX6.is.cell 5
                    have x6 := BX6.is.cell 6
                    have y0 := BK6.is.cell 0
                    have y1 := BK6.is.cell 1
                    have y2 := BK6.is.cell 2
                    have y3 := BK6.is.cell 3
                    have xl := BX6.is.lt
                    have yl := BK6.is.lt
                    go_wp2_with fail
                    refine (rread_at PH6.out.r hL6 nm lb nu ge _ hc1 hc2).mono ?_
                    rintro e w7 ⟨A2, n2, c2, rfl, hr7, G7, hP7, hW7⟩
                    have PH7 := hide (PH6.out.qstep hP7 hW7)
                    have hs1 := run_string_rd (c := c1) 23 5 9 Try.underlying23 Try.underlying5 Try.underlying9 ((Rd.of_own ho6).went_ (c := c1) hW7 hdis)
                    have hs2 := run_string_rd (c := c2) 23 5 9 Try.underlying23 Try.underlying5 Try.underlying9 hr7
                    clear PH6 hP7 hW7 BX6 BK6 ho6 hr7 hdis
                    clear x2 x3 x4 x5 x6 y0 y1 y2 y3 xl yl
                    go_wp2
                    go_meet
                    case rel => exact ⟨ks, _, _, rfl, F6, G7, _, _, PH7.out, OK.out.read hmem _⟩
              · as_aux_lemma =>
                  cases araw
                  all_goals
                    have x2 := BX.is.cell 2
                    have x3 := BX.is.cell 3
                    have x4 := BX.is.cell 4
                    have x5 := BX.is.cell 5
                    have x6 := BX.is.cell 6
                    have y0 := BK.is.cell 0
                    have y1 := BK.is.cell 1
                    have y2 := BK.is.cell 2
                    have y3 := BK.is.cell 3
                    have xl := BX.is.lt
                    have yl := BK.is.lt
                    go_wp2_with fail
                    refine (read_at PH.out.s.is nm lb nu ge _ hc1 hc2).mono ?_
                    rintro e w6 ⟨A1, n1, c1, rfl, ho6, F6, hP6, hW6, _⟩
                    have PH6 := hide (PH.out.pstep hP6 hW6)
                    have BX6 := BX.pstep hW6
                    have BK6 := BK.pstep hW6
                    have hdis : ∀ g, (Value.slice A1 n1 c1).ownBlock = some g → ¬ G g := fun g hg hf => by have := (ho6.lt g hg).1; have := PH.out.r.lt g hf; omega
                    clear hP6 hW6 PH BX BK
                    clear x2 x3 x4 x5 x6 y0 y1 y2 y3 xl yl
                    have x2 := BX6.is.cell 2
                    have x3 := BX6.is.cell 3
                    have x4 := BX6.is.cell 4
                    have x5 := BX6.is.cell 5
                    have x6 := BX6.is.cell 6
                    have y0 := BK6.is.cell 0
                    have y1 := BK6.is.cell 1
                    have y2 := BK6.is.cell 2
                    have y3 := BK6.is.cell 3
                    have xl := BX6.is.lt
                    have yl := BK6.is.lt
                    go_wp2_with fail
                    refine (rread_at PH6.out.r hL6 nm lb nu ge _ hc1 hc2).mono ?_
                    rintro e w7 ⟨A2, n2, c2, rfl, hr7, G7, hP7, hW7⟩
                    have PH7 := hide (PH6.out.qstep hP7 hW7)
                    have hs1 := run_string_rd (c := c1) 23 5 9 Try.underlying23 Try.underlying5 Try.underlying9 ((Rd.of_own ho6).went_ (c := c1) hW7 hdis)
                    have hs2 := run_string_rd (c := c2) 23 5 9 Try.underlying23 Try.underlying5 Try.underlying9 hr7
                    clear PH6 hP7 hW7 BX6 BK6 ho6 hr7 hdis
                    clear x2 x3 x4 x5 x6 y0 y1 y2 y3 xl yl
                    go_wp2
                    go_meet
                    case rel => exact ⟨ks, _, _, rfl, F6, G7, _, _, PH7.out, OK.out.read hmem _⟩
              · omega
            case rest =>
              as_aux_lemma =>
                obtain ⟨ks', Ak', ck', rfl, hA'⟩ := hcut
                obtain ⟨F8, G8, L8, nx8, ph8, ok8⟩ := hA'.out
                obtain ⟨es, RA, rn, rc, hri, hrL, hrn⟩ := ph8.r.len
                have PH8 := hide ph8
                have OK8 := hide ok8
                have q0 : wc.cell? ⟨q, 0, none⟩ = some (.slice RA rn rc) := hri.blk.cell 0
                have ql := hri.blk.lt
                have HRI := hide hri
                have HRL := hide hrL
                have hk8 : k ≤ 80 := by omega
                clear hA' ph8 ok8 hri hrL PH BX BK hb1 hb2 hbr OK HKEY HT HD HBX
                subst hrn
                go_upto_region 46 with (fail)
                refine wp_region_ord [0, 2, 3, 4, 5, 6, 1, 7] [0, 0, 0, 0, 0, 0, 1, 0] (fun W => W.cell? ⟨q, 0, none⟩ = some (.slice RA L8.length rc)) (by kernel_rfl) (by kernel_rfl) q0 ?_
                iterate 6 (refine wpOrd_q (v := ?_) (by rfl) (fun W hW => ?_) ?_; rotate_left; (focus (go_simp; try with_reducible rfl)); try simp only [Act.put, List.setIfInBounds_toArray, List.set_cons_zero, List.set_cons_succ])
                refine wpOrd_x (by rfl) (fun K hK => ?_)
                go_simp
                refine (len_at PH8.out.s.is.drew).mono ?_
                rintro e w9 ⟨rfl, hb9⟩
                refine hK _ _ _ (fun _ h => h) ((hb9.cell (p := ⟨q, 0, none⟩) ql).trans q0) ?_
                clear hK K
                try simp only [Act.put, List.setIfInBounds_toArray, List.set_cons_zero, List.set_cons_succ]
                iterate 1 (refine wpOrd_q (v := ?_) (by rfl) (fun W hW => ?_) ?_; rotate_left; (focus (go_simp; try with_reducible rfl)); try simp only [Act.put, List.setIfInBounds_toArray, List.set_cons_zero, List.set_cons_succ])
                refine wpOrd_nil ?_
                have hb9' : Below wc.heap.size wc w9 := (Below.refl _ _).drew.trans hb9
                have PH9 := hide (PH8.out.below hb9')
                have HRI9 := hide (HRI.out.below hb9')
                clear hb9 hb9' PH8 HRI q0 ql
                have hkl : ks'.length ≤ 84 := by have := OK8.out.kn; omega
                have hkl0 : 0 < ks'.length := by have := OK8.out.k3; omega
                have hL84 : L8.length ≤ 81 := by have := OK8.out.len; omega
                go_wp2_with fail
                go_loopg [235] ks'.length (fun g x235 wr => ∃ j : Nat, j ≤ ks'.length ∧ g = ks'.length - j ∧ x235 = .int .i64 j ∧ Aside (Below w9.heap.size w9 wr))
                case atStart => exact ⟨0, Nat.zero_le _, rfl, rfl, Below.refl _ _⟩
                case round =>
                  obtain ⟨j, hj, hgj, rfl, hbA⟩ := hrel
                  by_cases hjk : j < ks'.length
                  · have hjz : (j : Int) < ks'.length := by omega
                    have PH := hide (PH9.out.below hbA.out)
                    have HRI := hide (HRI9.out.below hbA.out)
                    obtain ⟨gk', rfl, hgk', hkc⟩ := PH.out.keys hkl0
                    obtain ⟨⟨nm', lb', nu', ge'⟩, hkey⟩ : ∃ x, ks'[j]? = some x := ⟨_, List.getElem?_eq_getElem hjk⟩
                    have c0 := hkc j _ hkey 0 _ rfl
                    have c1 := hkc j _ hkey 1 _ rfl
                    have c2 := hkc j _ hkey 2 _ rfl
                    have c3 := hkc j _ hkey 3 _ rfl
                    simp only [Nat.add_zero] at c0 c1 c2 c3
                    clear hkc hkey
                    have hc1 : ((mget L8 (nm', lb', nu', ge')).getD ([], 0, 0)).2.1 < 60000 := by have := (OK8.out.getD (nm', lb', nu', ge')).1; omega
                    have hc2 : ((mget L8 (nm', lb', nu', ge')).getD ([], 0, 0)).2.2 < 60000 := by have := (OK8.out.getD (nm', lb', nu', ge')).2; omega
                    cases hp : pos es (nm', lb', nu', ge') with
                    | none =>
                      have he1 : pends L8 (nm', lb', nu', ge') = (0, 0, 0) := by unfold pends; rw [← HRL.out, mget_pos_none hp]; rfl
                      have he2 : posI es (nm', lb', nu', ge') = -1 := by unfold posI; rw [hp]
                      have HE1 := hide he1
                      have HE2 := hide he2
                      clear he1 he2 hp
                      have HC1 := hide hc1
                      have HC2 := hide hc2
                      clear hc1 hc2
                      go_wp2_with fail
                      clear c0 c1 c2 c3 hgk'
                      refine (ends_at (PH.out.s.alloc _).is nm' lb' nu' ge' HC1.out HC2.out).mono ?_
                      rw [HE1.out]
                      have K24 := PH.out.new 41 #[.bool nm', .int .u8 (lb'.toNat : Int), .int .u16 (nu'.toNat : Int), .int .u16 (ge'.toNat : Int)]
                      have hbn : Below wr.heap.size wr (wr.alloc (.cells #[.bool nm', .int .u8 (lb'.toNat : Int), .int .u16 (nu'.toNat : Int), .int .u16 (ge'.toNat : Int)] 41)) := (Below.refl _ _).alloc (Nat.le_refl _) _
                      have HR2 := hide (HRI.out.below hbn)
                      have HB2 := hide (hbA.out.trans (hbn.mono hbA.out.size))
                      clear PH HRI hbA hbn
                      rintro e w11 ⟨rfl, hb11⟩
                      have K11 := K24.below hb11
                      have HR11 := hide (HR2.out.below hb11)
                      have HB11 := hide (HB2.out.trans (hb11.mono HB2.out.size))
                      clear hb11 K24 HR2 HB2
                      have k0 := K11.is.cell 0
                      have k1 := K11.is.cell 1
                      have k2 := K11.is.cell 2
                      have k3 := K11.is.cell 3
                      have kl := K11.is.lt
                      go_wp2_with fail
                      clear k0 k1 k2 k3 kl K11
                      have hbn : Below w11.heap.size w11 (w11.alloc (.cells #[.bool false, .int .u8 0, .int .u16 0, .int .u16 0, .slice none 0 0, .int .i64 0, .int .i64 0] 75)) := (Below.refl _ _).alloc (Nat.le_refl _) _
                      have HR2 := hide (HR11.out.below hbn)
                      refine (ref_find q nm' lb' nu' ge' RA L8.length rc es _ (HR2.out.blk.cell 0) HR2.out.blk.lt (Rd.of_own HR2.out.row) (by omega)).mono ?_
                      rw [HE2.out]
                      rintro e w12 ⟨rfl, hb12⟩
                      have B28 := (Blk.new w11 75 #[.bool false, .int .u8 0, .int .u16 0, .int .u16 0, .slice none 0 0, .int .i64 0, .int .i64 0]).below hb12 (by simp)
                      have HRI12 := hide (HR2.out.below hb12)
                      have HB12 := hide (HB11.out.trans ((hbn.trans (hb12.mono hbn.size)).mono HB11.out.size))
                      have HZ := hide HB11.out.size
                      clear hb12 hbn HR2 HR11 HB11 HE1 HE2 HC1 HC2
                      have z4 := B28.cell 4
                      have z5 := B28.cell 5
                      have z6 := B28.cell 6
                      have zl := B28.lt
                      go_wp2
                      go_roundg (ks'.length - (j + 1))
                      case measure => omega
                      case rel => exact ⟨j + 1, by omega, rfl, by go_num, HB12.out⟩
                    | some i =>
                      obtain ⟨eA, el, ec, er, es', hei, hem, hel⟩ := HRI.out.at_ hp
                      have he1 : pends L8 (nm', lb', nu', ge') = (er, es', el.length) := by unfold pends; rw [← HRL.out, hem]; rfl
                      have he2 : posI es (nm', lb', nu', ge') = i := by unfold posI; rw [hp]
                      have HE1 := hide he1
                      have HE2 := hide he2
                      clear he1 he2 hp
                      have HC1 := hide hc1
                      have HC2 := hide hc2
                      clear hc1 hc2
                      go_wp2_with fail
                      clear c0 c1 c2 c3 hgk'
                      refine (ends_at (PH.out.s.alloc _).is nm' lb' nu' ge' HC1.out HC2.out).mono ?_
                      rw [HE1.out]
                      have K24 := PH.out.new 41 #[.bool nm', .int .u8 (lb'.toNat : Int), .int .u16 (nu'.toNat : Int), .int .u16 (ge'.toNat : Int)]
                      have hbn : Below wr.heap.size wr (wr.alloc (.cells #[.bool nm', .int .u8 (lb'.toNat : Int), .int .u16 (nu'.toNat : Int), .int .u16 (ge'.toNat : Int)] 41)) := (Below.refl _ _).alloc (Nat.le_refl _) _
                      have HR2 := hide (HRI.out.below hbn)
                      have HB2 := hide (hbA.out.trans (hbn.mono hbA.out.size))
                      clear PH HRI hbA hbn
                      rintro e w11 ⟨rfl, hb11⟩
                      have K11 := K24.below hb11
                      have HR11 := hide (HR2.out.below hb11)
                      have HB11 := hide (HB2.out.trans (hb11.mono HB2.out.size))
                      clear hb11 K24 HR2 HB2
                      have k0 := K11.is.cell 0
                      have k1 := K11.is.cell 1
                      have k2 := K11.is.cell 2
                      have k3 := K11.is.cell 3
                      have kl := K11.is.lt
                      go_wp2_with fail
                      clear k0 k1 k2 k3 kl K11
                      have hbn : Below w11.heap.size w11 (w11.alloc (.cells #[.bool false, .int .u8 0, .int .u16 0, .int .u16 0, .slice none 0 0, .int .i64 0, .int .i64 0] 75)) := (Below.refl _ _).alloc (Nat.le_refl _) _
                      have HR2 := hide (HR11.out.below hbn)
                      refine (ref_find q nm' lb' nu' ge' RA L8.length rc es _ (HR2.out.blk.cell 0) HR2.out.blk.lt (Rd.of_own HR2.out.row) (by omega)).mono ?_
                      rw [HE2.out]
                      rintro e w12 ⟨rfl, hb12⟩
                      have B28 := (Blk.new w11 75 #[.bool false, .int .u8 0, .int .u16 0, .int .u16 0, .slice none 0 0, .int .i64 0, .int .i64 0]).below hb12 (by simp)
                      have HRI12 := hide (HR2.out.below hb12)
                      have HB12 := hide (HB11.out.trans ((hbn.trans (hb12.mono hbn.size)).mono HB11.out.size))
                      have HZ := hide HB11.out.size
                      clear hb12 hbn HR2 HR11 HB11 HE1 HE2 HC1 HC2
                      have z4 := B28.cell 4
                      have z5 := B28.cell 5
                      have z6 := B28.cell 6
                      have zl := B28.lt
                      obtain ⟨gr, cur, rfl, _, hir, _, _, _, hec⟩ := HRI12.out.elem hei
                      have hiz : (i : Int) < L8.length := by omega
                      have e0 := hec 0 _ rfl
                      have e1 := hec 1 _ rfl
                      have e2 := hec 2 _ rfl
                      have e3 := hec 3 _ rfl
                      have e4 := hec 4 _ rfl
                      have e5 := hec 5 _ rfl
                      have e6 := hec 6 _ rfl
                      simp only [Nat.add_zero] at e0 e1 e2 e3 e4 e5 e6
                      have qh : w12.cell? ⟨q, 0, none⟩ = some (.slice (some ⟨gr, 0, none⟩) L8.length rc) := HRI12.out.blk.cell 0
                      have grl : gr < w12.heap.size := World.block_lt_of_cell? _ _ e0
                      have ql := HRI12.out.blk.lt
                      have hge : decide ((0 : Int) ≤ i) = true := by simp
                      clear hec hei z4 z5 z6
                      have HBL := hide B28
                      clear B28
                      go_wp2_with (refine wpList_store_row rfl 75 (.tmp 28) (.tmp 260) (by rfl) w11.heap.size #[.bool nm', .int .u8 (lb'.toNat : Int), .int .u16 (nu'.toNat : Int), .int .u16 (ge'.toNat : Int), .slice eA el.length ec, .int .i64 (er : Int), .int .i64 (es' : Int)] (by rfl) (by rfl) 75 _ HBL.out (by kernel_rfl) (by rfl) (by simp [Value.oneCell']) ?_; refine at_world (fun W => Below w9.heap.size w9 W ∧ ∃ bz, bz = w11.heap.size ∧ Blk W bz 75 #[.bool nm', .int .u8 (lb'.toNat : Int), .int .u16 (nu'.toNat : Int), .int .u16 (ge'.toNat : Int), .slice eA el.length ec, .int .i64 (er : Int), .int .i64 (es' : Int)]) ⟨below_setRow HB12.out HZ.out _, _, rfl, setRow_heap _ _ _ _ _ _ HBL.out⟩ (fun W13 h13 => ?_); obtain ⟨hb13, bz, hbz, B13⟩ := h13; rw [← hbz]; clear e0 e1 e2 e3 e4 e5 e6 qh grl ql zl hge HBL HZ hbz; have z4 := B13.cell 4; have z5 := B13.cell 5; have z6 := B13.cell 6; have zl := B13.lt; have HB13 := hide hb13; clear hb13)
                      go_roundg (ks'.length - (j + 1))
                      case measure => omega
                      case rel => exact ⟨j + 1, by omega, rfl, by go_num, HB13.out⟩
                  · have HBA := hide hbA.out
                    clear hbA
                    have hjz : ¬ (j : Int) < ks'.length := by omega
                    go_wp2
                    go_roundg (n - (k + 1))
                    case measure => omega
                    case rel => exact ⟨k + 1, ks', Ak', ck', by omega, by omega, rfl, by go_num, rfl, F8, G8, L8, nx8, PH9.out.below HBA.out, OK8.out⟩
        · obtain ⟨F, G, L, nx, ph, ok⟩ := hA.out
          have HE := hide ph.s.bel
          clear hA ph ok
          have hkz : ¬ (k : Int) < n := by omega
          go_wp2
          go_returns
          exact ⟨rfl, HE.out⟩
end
end Go.Proofs.Ytkjgieehiimiiaa

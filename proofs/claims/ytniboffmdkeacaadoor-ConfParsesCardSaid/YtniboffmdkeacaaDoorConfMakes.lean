/- ConfMakes: the walk of the law. -/
import Derived.Test.YtniboffmdkeacaaDoorConfSc
import Derived.Test.YtniboffmdkeacaaDoorConfAw
import Derived.Test.YtniboffmdkeacaaDoorConfSame
import Derived.Test.YtniboffmdkeacaaDoorConfRight
import Derived.Deep.Cut
import Derived.Deep.CutRange
import Derived.Deep.CutBlock
namespace Go.Proofs.YtniboffmdkeacaaDoor
open Go.RowKit Go.WideMaps
set_option linter.unusedSimpArgs false
set_option linter.unusedVariables false

theorem flat_set {α : Type} (f : α → List Value) (sz : Nat) (hf : ∀ a, (f a).length = sz) : ∀ (L : List α) (k : Nat) (x y : α) (j : Nat) (v : Value), L[k]? = some x → j < sz → f y = (f x).set j v → (L.flatMap f).set (k * sz + j) v = (L.set k y).flatMap f
  | [], _, _, _, _, _, h, _, _ => by simp at h
  | a :: r, 0, x, y, j, v, h, hj, he => by
    simp at h
    subst h
    rw [List.set_cons_zero, List.flatMap_cons, List.flatMap_cons, he, Nat.zero_mul, Nat.zero_add, List.set_append, if_pos (by rw [hf]; exact hj)]
  | a :: r, k + 1, x, y, j, v, h, hj, he => by
    simp at h
    have ih := flat_set f sz hf r k x y j v h hj he
    rw [List.set_cons_succ, List.flatMap_cons, List.flatMap_cons, ← ih, List.set_append, if_neg (by rw [hf, Nat.add_mul]; omega), hf]
    congr 2
    rw [Nat.add_mul]
    omega
theorem own_other {w : World} {B n c g d n' s s' : Nat} {A : Option Addr} {e e' : TypeId} {xs xs' : List Value} (h : w.ownsRow B e s (.slice (some ⟨g, 0, none⟩) n c) n xs) (h' : w.ownsRow B e' s' (.slice A n' d) n' xs') (hne : e ≠ e' := by decide) : (Value.slice A n' d).ownBlock ≠ some g := by
  rcases h.2 with ⟨h0, _⟩ | ⟨g1, cap, cur, hv, _, hh, _⟩
  · cases h0
  · simp only [Value.slice.injEq, Option.some.injEq, Addr.mk.injEq] at hv
    obtain ⟨⟨rfl, _, _⟩, _, _⟩ := hv
    exact blk_not_own (t := e) (cs := cur) hh h' hne
theorem flat_take {α : Type} (f : α → List Value) (sz : Nat) (hf : ∀ a, (f a).length = sz) : ∀ (L : List α) (k : Nat), (L.take k).flatMap f = (L.flatMap f).take (k * sz)
  | _, 0 => by simp
  | [], k + 1 => by simp
  | a :: r, k + 1 => by
    have e : (k + 1) * sz = sz + k * sz := by rw [Nat.add_mul]; omega
    rw [List.take_succ_cons, List.flatMap_cons, List.flatMap_cons, flat_take f sz hf r k, e, ← hf a, List.take_length_add_append, hf a]
theorem rows4 {W : World} {B1 : Nat} {A0 : Option Addr} {g5 c0 c1 : Nat} {R RB : List RegV} (hr : Rd W B1 9 A0 R.length (rcellsOf R)) (hB : B1 ≤ W.heap.size) (hR : R.length ≤ 70) (hb : Rd W W.heap.size 9 (some ⟨g5, 0, none⟩) RB.length (rcellsOf RB)) (h1 : 1 ≤ RB.length) (h70 : RB.length ≤ 70) :
    ∀ k, k < 4 → ∃ (L : List RegV) (A : Option Addr) (c : Nat), (#[.slice A0 R.length c0, .slice (some ⟨g5, 0, none⟩) RB.length c1, .slice (some ⟨g5, 0, none⟩) 1 c1, .slice none 0 0] : Array Value)[k]? = some (.slice A L.length c) ∧ Rd W W.heap.size 9 A L.length (rcellsOf L) ∧ L.length ≤ 70
  | 0, _ => ⟨R, A0, c0, rfl, hr.more hB, hR⟩
  | 1, _ => ⟨RB, _, c1, rfl, hb, h70⟩
  | 2, _ => by
    have hl : (RB.take 1).length = 1 := by simp; omega
    refine ⟨RB.take 1, some ⟨g5, 0, none⟩, c1, by rw [hl]; rfl, ?_, by omega⟩
    rw [hl]
    have := hb.take h1
    rwa [show rcellsOf (RB.take 1) = (rcellsOf RB).take (1 * 9) from flat_take RegV.cells 9 (fun _ => rfl) RB 1]
  | 3, _ => ⟨[], none, 0, rfl, Rd.nil _ _ _ _, by simp⟩
  | k + 4, h => absurd h (by omega)
theorem marks3 {W : World} {B1 : Nat} {A0 A2 : Option Addr} {c0 c1 : Nat} {K KK : List MarkV} (hr : Rd W B1 2 A0 K.length (mcellsOf K)) (hB : B1 ≤ W.heap.size) (hK : K.length ≤ 60) (hb : Rd W W.heap.size 2 A2 KK.length (mcellsOf KK)) (h60 : KK.length ≤ 60) :
    ∀ k, k < 3 → ∃ (L : List MarkV) (A : Option Addr) (c : Nat), (#[.slice A0 K.length c0, .slice A2 KK.length c1, .slice none 0 0] : Array Value)[k]? = some (.slice A L.length c) ∧ Rd W W.heap.size 2 A L.length (mcellsOf L) ∧ L.length ≤ 60
  | 0, _ => ⟨K, A0, c0, rfl, hr.more hB, hK⟩
  | 1, _ => ⟨KK, A2, c1, rfl, hb, h60⟩
  | 2, _ => ⟨[], none, 0, rfl, Rd.nil _ _ _ _, by simp⟩
  | k + 3, h => absurd h (by omega)
theorem marks_zero {R : List RegV} : ∀ {K old : List MarkV}, marksE R old K = 0 → ∀ m ∈ K, markB R m = true
  | [], _, _, _, h => by cases h
  | x :: rest, old, h, m, hm => by
    rw [marksE] at h
    by_cases h1 : markB R x = false
    · rw [if_pos h1] at h; cases h
    · rw [if_neg h1] at h
      by_cases h2 : x ∈ old
      · rw [if_pos h2] at h; cases h
      · rw [if_neg h2] at h
        rcases List.mem_cons.1 hm with rfl | hm
        · simpa using h1
        · exact marks_zero h m hm
theorem new_zero {R : List RegV} {K : List MarkV} (h : newE R K = 0) : R.length ≤ 64 ∧ ∀ m ∈ K, m.2.toNat ≤ 128 := by
  unfold newE at h
  split at h
  · cases h
  · rename_i r rest
    by_cases h64 : (r :: rest).length > 64
    · rw [if_pos h64] at h; cases h
    · rw [if_neg h64] at h
      by_cases ha : addsE [] (r :: rest) (r :: rest).length ≠ 0
      · rw [if_pos ha] at h; exact absurd h ha
      · rw [if_neg ha] at h
        by_cases hc : r.lev ≠ 0 ∨ r.cats ≠ 0
        · rw [if_pos hc] at h; cases h
        · rw [if_neg hc] at h
          by_cases hd : clearsE (r :: rest) 0 (r :: rest) ≠ 0
          · rw [if_pos hd] at h; exact absurd h hd
          · rw [if_neg hd] at h
            refine ⟨by omega, fun m hm => ?_⟩
            have hmb := marks_zero h m hm
            unfold markB at hmb
            split at hmb
            · rename_i q hq
              have hr := adds_right (by simpa using ha) q (List.mem_of_getElem? hq)
              simp only [rightB, soundB, inB, Bool.and_eq_true, decide_eq_true_eq] at hr hmb
              omega
            · cases hmb
/-- a size's labels and marks, with something turned -/
def Turned (M g d1 : Nat) (A2 : Option Addr) (c2 : Nat) (KK : List MarkV) (w2 wd : World) : Prop :=
  Below w2.heap.size w2 wd ∧ ∃ RA : List RegV, RA.length = M ∧ wd.ownsRow w2.heap.size 38 9 (.slice (some ⟨g, 0, none⟩) M d1) M (rcellsOf RA) ∧ wd.ownsRow w2.heap.size 48 2 (.slice A2 KK.length c2) KK.length (mcellsOf KK)

theorem turned_one {M g d1 p : Nat} {A2 : Option Addr} {c2 : Nat} {KK : List MarkV} {w2 wd : World} {RA : List RegV} {ra : RegV} (hb : Below w2.heap.size w2 wd) (hg : w2.heap.size ≤ g) (hl : RA.length = M) (o1 : wd.ownsRow w2.heap.size 38 9 (.slice (some ⟨g, 0, none⟩) M d1) M (rcellsOf RA)) (o2 : wd.ownsRow w2.heap.size 48 2 (.slice A2 KK.length c2) KK.length (mcellsOf KK))
    (hnb : (Value.slice A2 KK.length c2).ownBlock ≠ some g) (hra : RA[p]? = some ra) (j : Nat) (hj : j < 9) (v : Value) (y : RegV) (hy : y.cells = ra.cells.set j v) : Turned M g d1 A2 c2 KK w2 (wd.setCell ⟨g, p * 9 + j, none⟩ v) := by
  refine ⟨hb.setCell hg v, RA.set p y, by simpa using hl, ?_, ownsRow_setCell_other (a := ⟨g, p * 9 + j, none⟩) o2 hnb v⟩
  have h := own_set (i := p * 9 + j) (u := v) o1
  rw [show rcellsOf (RA.set p y) = (rcellsOf RA).set (p * 9 + j) v from (flat_set RegV.cells 9 (fun _ => rfl) RA p ra y j v hra hj hy).symm]
  exact h

theorem turned_two {M g d1 p : Nat} {A2 : Option Addr} {c2 : Nat} {KK : List MarkV} {w2 wd : World} {RA : List RegV} {ra : RegV} (hb : Below w2.heap.size w2 wd) (hg : w2.heap.size ≤ g) (hl : RA.length = M) (o1 : wd.ownsRow w2.heap.size 38 9 (.slice (some ⟨g, 0, none⟩) M d1) M (rcellsOf RA)) (o2 : wd.ownsRow w2.heap.size 48 2 (.slice A2 KK.length c2) KK.length (mcellsOf KK))
    (hnb : (Value.slice A2 KK.length c2).ownBlock ≠ some g) (hra : RA[p]? = some ra) (x : Int) : Turned M g d1 A2 c2 KK w2 ((wd.setCell ⟨g, p * 9 + 1, none⟩ (.int .u8 (x % 256))).setCell ⟨g, p * 9 + 1 + 1, none⟩ (.int .u16 (IntKind.u16.wrap (x / 256)))) := by
  obtain ⟨lv, e1⟩ : ∃ lv : UInt8, x % 256 = (lv.toNat : Int) := ⟨UInt8.ofNat (x % 256).toNat, by simp; omega⟩
  obtain ⟨ct, e2⟩ : ∃ ct : UInt16, IntKind.u16.wrap (x / 256) = (ct.toNat : Int) := ⟨UInt16.ofNat (x / 256 % 65536).toNat, by rw [IntKind.wrap_u16]; simp; omega⟩
  rw [e1, e2]
  have h1 := own_set (i := p * 9 + 1) (u := .int .u8 (lv.toNat : Int)) o1
  have k1 : rcellsOf (RA.set p { ra with lev := lv }) = (rcellsOf RA).set (p * 9 + 1) (.int .u8 (lv.toNat : Int)) := (flat_set RegV.cells 9 (fun _ => rfl) RA p ra { ra with lev := lv } 1 _ hra (by omega) rfl).symm
  rw [← k1] at h1
  have hp : p < RA.length := (List.getElem?_eq_some_iff.1 hra).1
  have hra2 : (RA.set p { ra with lev := lv })[p]? = some { ra with lev := lv } := by simp [hp]
  exact turned_one (hb.setCell hg _) hg (by simpa using hl) h1 (ownsRow_setCell_other (a := ⟨g, p * 9 + 1, none⟩) o2 hnb _) hnb hra2 2 (by omega) _ { ra with lev := lv, cats := ct } rfl

section
variable {m : UInt8} {H : List UInt8} {A : Option Addr} {n c : Nat} {T : List UInt8} {w : World} {R : List RegV} {K : List MarkV} {A0 A1 : Option Addr} {c0 c1 : Nat}
set_option maxRecDepth 100000 in
set_option maxHeartbeats 4000000 in
theorem makes_all (hL : Lw w) (hH : H.length = 25) (hT : Rd w w.heap.size 1 A n (bvs T)) (hnm : n ≤ 9223372036854775807) (hr : Rd w w.heap.size 9 A0 R.length (rcellsOf R)) (hm : Rd w w.heap.size 2 A1 K.length (mcellsOf K))
    (hR63 : R.length ≤ 9223372036854775807) (hK63 : K.length ≤ 9223372036854775807) (hRc : R.length ≤ c0) (hKc : K.length ≤ c1) (at_ wh : UInt8) (x : Int) (hx1 : -9223372036854775808 ≤ x) (hx2 : x < 9223372036854775808) :
    Calls Tryd.prog 4 #[.slice A0 R.length c0, .slice A1 K.length c1, .agg (szCells m H A n c), .int .u8 (at_.toNat : Int), .int .u8 (wh.toNat : Int), .int .i64 x] w fun e w' => e = .returned (.bool true) ∧ Below w.heap.size w w' := by
  have hsz : (szCells m H A n c).size = 27 := szCells_size hH
  go_enter Tryd.func4, Tryd.ntmps4
  go_upto_region 1 with (fail)
  refine at_world (fun W => ∃ bx, bx = w.heap.size ∧ Below w.heap.size w W ∧ Blk W bx 26 (szCells m H A n c)) ⟨_, rfl, (Below.refl _ _).alloc (Nat.le_refl _) _, Blk.new _ _ _⟩ (fun w1 h1 => ?_)
  obtain ⟨bx, hbx, hb1, hX1⟩ := h1
  rw [← hbx]
  have hS : ((Tryd.prog.info? 26).map (·.size)) = some (szCells m H A n c).size := by rw [hsz]; kernel_rfl
  have HS := hide hS
  have HB1 := hide hb1
  have HX1 := hide hX1
  have hL1 := hL.below' hb1
  clear hbx hX1 hS hsz hb1
  have HR := hide hr
  have HM := hide hm
  clear hr hm
  go_wp2_with fail
  refine (awake2_ok w1 hL1).mono ?_
  rintro e w2 ⟨rfl, hb2⟩
  have HX2 := hide (HX1.out.below hb2 HX1.out.lt)
  have HB2 := hide (HB1.out.trans (hb2.mono HB1.out.size))
  have hT2 := (hT.below HB2.out).more HB2.out.size
  clear hb2
  by_cases hbig : 70 < R.length
  · have t1 : decide ((70 : Int) < R.length) = true := by simp; omega
    go_wp2
    go_returns
    exact ⟨rfl, HB2.out⟩
  have t1 : decide ((70 : Int) < R.length) = false := by simp; omega
  by_cases hbk : 60 < K.length
  · have t2 : decide ((60 : Int) < K.length) = true := by simp; omega
    go_wp2
    go_returns
    exact ⟨rfl, HB2.out⟩
  have t2 : decide ((60 : Int) < K.length) = false := by simp; omega
  go_wp2_with (first | (refine wpList_load_row rfl 26 (.tmp 8) (by rfl) bx (by rfl) 26 (szCells m H A n c) (0, 0) _ HX2.out Tryd.underlying26 rfl HS.out ?_) | fail)
  refine (size_regs (w := w2) hH hT2 hnm).mono ?_
  rintro e w3 ⟨KB, B1, B2, d1, d2, rfl, hb3, o1, o2, hK⟩
  clear t1 t2 hL1
  have O1 := hide o1
  have O2 := hide o2
  have HKB := hide hK.2.2
  have hM2 := szMany_ge m
  have hM5 := szMany_le m
  have hRl := szRegs_length m H
  have hNL : ∀ r ∈ szRegs m H, r.name.length ≤ 5 := fun r hr => by
    obtain ⟨i, _, rfl⟩ := List.mem_map.1 hr
    show (szName i).length ≤ 5
    rcases i with _ | _ | _ | _ | i <;> simp [szName]
  have HNL := hide hNL
  clear hNL
  generalize szRegs m H = RA at *
  generalize szMany m = M at *
  have HBx := hide (HB2.out.trans (hb3.mono HB2.out.size))
  have HB3 := hide hb3
  clear hK hb3 o1 o2 hT2
  obtain ⟨mm, hmm⟩ : ∃ mm : Nat, mm = min K.length 2 := ⟨_, rfl⟩
  have hmmz : min (K.length : Int) 2 = (mm : Int) := by rw [hmm]; omega
  have hmm0 : max (mm : Int) 0 = (mm : Int) := by omega
  have hmK : mm ≤ K.length := by omega
  have hm2 : mm ≤ 2 := by omega
  clear hmm
  have HRL := hide hRl
  clear hRl
  go_wp2_with fail
  clear hmmz hmm0
  have HRm := hide (HM.out.take hmK)
  go_loopg [14, 46] mm (fun g x14 x46 wr => ∃ (i : Nat) (KK : List MarkV) (A2 : Option Addr) (c2 : Nat), i ≤ mm ∧ g = mm - i ∧ KK.length ≤ 9 + i ∧ x14 = .slice A2 KK.length c2 ∧ x46 = .int .i64 (i : Int) ∧ Below w2.heap.size w2 wr ∧
    wr.ownsRow w2.heap.size 38 9 (.slice B1 M d1) M (rcellsOf RA) ∧ wr.ownsRow w2.heap.size 48 2 (.slice A2 KK.length c2) KK.length (mcellsOf KK))
  case atStart => exact ⟨0, KB, B2, d2, Nat.zero_le _, rfl, HKB.out, rfl, rfl, HB3.out, O1.out, O2.out⟩
  case round =>
    obtain ⟨i, KK, A2, c2, hi, hg, hKK, rfl, rfl, hbr, o1, o2⟩ := hrel
    rcases Nat.lt_or_ge i mm with him | him
    · have hiz : (i : Int) < mm := by omega
      obtain ⟨x, hx⟩ : ∃ x, K[i]? = some x := ⟨_, List.getElem?_eq_getElem (by omega)⟩
      obtain ⟨bm, om, hA', hbm, hcm⟩ := rd_mark HM.out hx
      have hbw := HBx.out
      have hb4 := HB2.out.trans (hbr.mono HB2.out.size)
      have v0 := (hb4.cell (p := ⟨bm, om + (i * 2 + 0), none⟩) hbm).trans (hcm 0 _ rfl)
      have v1 := (hb4.cell (p := ⟨bm, om + (i * 2 + 1), none⟩) hbm).trans (hcm 1 _ rfl)
      simp only [← Nat.add_assoc, Nat.add_zero] at v0 v1
      have hbl := Nat.lt_of_lt_of_le hbm hb4.size
      subst hA'
      have BR := hide hbr
      clear hcm hbm hx hb4 hbw hbr
      go_upto_region 9 with (fail)
      refine at_world (fun W => ∃ b16, b16 = wr.heap.size ∧ Below wr.heap.size wr W ∧ Blk W b16 48 #[.int .u8 (x.1.toNat : Int), .int .u16 (x.2.toNat : Int)]) ⟨_, rfl, (Below.refl _ _).alloc (Nat.le_refl _) _, Blk.new _ _ _⟩ (fun w7 h7 => ?_)
      obtain ⟨b16, e16, hb7, k16⟩ := h7
      rw [← e16]
      have q1 := own_below o1 hb7
      have q2 := own_below o2 hb7
      have hbs := hide ((BR.out.trans (hb7.mono BR.out.size)))
      have z0 := k16.cell 0
      have z1 := k16.cell 1
      have zl := k16.lt
      obtain ⟨m0, hm0, m1, m2, m3⟩ := info_parts info_mark
      have hKK6 : KK.length ≤ 1000000 := by omega
      have hBW := hbs.out.size
      have Q1 := hide q1
      have Q2 := hide q2
      clear e16 hb7 k16 q1 q2 o1 o2 v0 v1 hbl
      go_wp2_with (at_builtin; refine wpList_append_one rfl (.tmp 50) (.tmp 52) 44 rfl w2.heap.size 48 m0 (.agg #[.int .u8 0, .int .u16 0]) 2 4 Tryd.underlying44 hm0 m1 m2 m3 rfl (by decide) A2 c2 KK.length (mcellsOf KK) [.int .u8 (x.1.toNat : Int), .int .u16 (x.2.toNat : Int)] w7 rfl Q2.out rfl rfl rfl (by simp [Value.oneCell']) hKK6 (by decide) hBW ?_; intro A' c' w34 hown hg3 hb3 hat3)
      go_roundg (mm - (i + 1))
      case measure => omega
      case rel => exact ⟨i + 1, KK ++ [x], A', c', by omega, rfl, by simp; omega, by simp, by go_num, hbs.out.trans hb3, own_besides Q1.out Q2.out (by decide) hg3, by rw [mcellsOf_snoc, List.length_append, List.length_singleton]; exact hown⟩
    · obtain rfl : i = mm := by omega
      have BR := hide hbr
      have P1 := hide o1
      have P2 := hide o2
      obtain ⟨p, hp⟩ : ∃ p, p = at_.toNat % M := ⟨_, rfl⟩
      obtain ⟨q, hq⟩ : ∃ q, q = wh.toNat % 12 := ⟨_, rfl⟩
      have hpM : p < M := by rw [hp]; exact Nat.mod_lt _ (by omega)
      have hq12 : q < 12 := by rw [hq]; exact Nat.mod_lt _ (by omega)
      have u1 : (at_.toNat : Int).tmod (M : Int) = (p : Int) := by rw [IntWalk.rem_in _ _ (by omega), hp]; rfl
      have u2 : (wh.toNat : Int).tmod 12 = (q : Int) := by rw [IntWalk.rem_in _ _ (by omega), hq]; rfl
      have u3 : ((M : Int) == 0) = false := beq_eq_false_iff_ne.2 (by omega)
      have u4 : IntKind.i64.wrap (at_.toNat : Int) = (at_.toNat : Int) := IntWalk.i64_in _ (by have := at_.toNat_lt; omega)
      have u5 : wrap64 (at_.toNat : Int) = (at_.toNat : Int) := IntWalk.wrap64_in _ (by have := at_.toNat_lt; omega)
      obtain ⟨g5, hA5, hg5b, hg5, hcr5⟩ := own_base o1 (by omega)
      subst hA5
      clear hp hq hbr o1 o2
      have hra : RA[p]? = some (RA[p]'(by rw [HRL.out]; exact hpM)) := List.getElem?_eq_getElem _
      generalize RA[p]'(by rw [HRL.out]; exact hpM) = ra at hra
      have hr0 : RA[0]? = some (RA[0]'(by rw [HRL.out]; omega)) := List.getElem?_eq_getElem _
      generalize RA[0]'(by rw [HRL.out]; omega) = r0 at hr0
      have y0 := hcr5 _ _ (flat_get RegV.cells 9 (fun _ => rfl) RA p ra hra 0 _ rfl)
      have y1 := hcr5 _ _ (flat_get RegV.cells 9 (fun _ => rfl) RA p ra hra 1 _ rfl)
      have y2 := hcr5 _ _ (flat_get RegV.cells 9 (fun _ => rfl) RA p ra hra 2 _ rfl)
      have y3 := hcr5 _ _ (flat_get RegV.cells 9 (fun _ => rfl) RA p ra hra 3 _ rfl)
      have y4 := hcr5 _ _ (flat_get RegV.cells 9 (fun _ => rfl) RA p ra hra 4 _ rfl)
      have y5 := hcr5 _ _ (flat_get RegV.cells 9 (fun _ => rfl) RA p ra hra 5 _ rfl)
      have y6 := hcr5 _ _ (flat_get RegV.cells 9 (fun _ => rfl) RA p ra hra 6 _ rfl)
      have y7 := hcr5 _ _ (flat_get RegV.cells 9 (fun _ => rfl) RA p ra hra 7 _ rfl)
      have y8 := hcr5 _ _ (flat_get RegV.cells 9 (fun _ => rfl) RA p ra hra 8 _ rfl)
      have yy := hcr5 _ _ (flat_get RegV.cells 9 (fun _ => rfl) RA 0 r0 hr0 0 _ rfl)
      simp only [Nat.zero_mul, Nat.zero_add, Nat.add_zero] at y0 yy
      have y2' : wr.cell? ⟨g5, p * 9 + 1 + 1, none⟩ = _ := y2
      have hnb := own_other P1.out P2.out
      have HNB := hide hnb
      have HRA := hide hra
      have hf := fun j => own_frozen (i := p * 9 + j) P1.out
      have f0 := hf 0
      have f1 := hf 1
      have f2 := hf 2
      have f3 := hf 3
      have f4 := hf 4
      have f5 := hf 5
      have f6 := hf 6
      have f7 := hf 7
      have f8 := hf 8
      have f2' : wr.frozen? ⟨g5, p * 9 + 1 + 1, none⟩ = false := f2
      have ff := own_frozen (i := 0) P1.out
      simp only [Nat.add_zero] at f0
      have hpz : (p : Int) < M := by omega
      have hMz : (0 : Int) < M := by omega
      clear hf hcr5 hnb hra hr0
      go_upto_block 2 with (fail)
      have hMd : (1 : Int) ≤ d1 := by obtain ⟨_, _, hv, hc, _⟩ := own_form P1.out; cases hv; omega
      have hnl := hide (HNL.out ra (List.mem_of_getElem? HRA.out))
      go_cut [] from 64 to 128 (fun wd => Turned M g5 d1 A2 c2 KK w2 wd)
      case first =>
        have hnl2 : ¬ 9223372036854775807 < ra.name.length + 1 := by have := hnl.out; omega
        have KEY := hide (turned_one BR.out hg5b HRL.out P1.out P2.out HNB.out HRA.out)
        by_cases q0 : q = 0
        · subst q0
          go_wp2
          go_meet
          case rel => exact KEY.out 3 (by omega) (.int .i64 x) { ra with blocks := x } rfl
        by_cases q1 : q = 1
        · subst q1
          go_wp2
          go_meet
          case rel => exact KEY.out 4 (by omega) (.int .i64 x) { ra with nodes := x } rfl
        by_cases q2 : q = 2
        · subst q2
          go_wp2
          go_meet
          case rel => exact KEY.out 5 (by omega) (.int .i64 x) { ra with frames := x } rfl
        by_cases q3 : q = 3
        · subst q3
          go_wp2
          go_meet
          case rel => exact KEY.out 6 (by omega) (.int .i64 x) { ra with procs := x } rfl
        by_cases q4 : q = 4
        · subst q4
          go_wp2
          go_meet
          case rel => exact KEY.out 7 (by omega) (.int .i64 x) { ra with opens := x } rfl
        by_cases q5 : q = 5
        · subst q5
          go_wp2
          go_meet
          case rel => exact KEY.out 8 (by omega) (.int .i64 x) { ra with clear := x } rfl
        by_cases q6 : q = 6
        · subst q6
          go_wp2
          go_meet
          case rel => exact turned_two BR.out hg5b HRL.out P1.out P2.out HNB.out HRA.out x
        by_cases q7 : q = 7
        · subst q7
          go_wp2
          go_meet
          case rel => exact KEY.out 0 (by omega) (.string (⟨ra.name.toArray⟩ ++ ⟨#[120]⟩)) { ra with name := ra.name ++ [120] } (by simp [RegV.cells]; rfl)
        by_cases q8 : q = 8
        · subst q8
          go_wp2
          go_meet
          case rel => exact KEY.out 0 (by omega) (.string ⟨r0.name.toArray⟩) { ra with name := r0.name } rfl
        have s0 : ((q : Int) == 0) = false := beq_eq_false_iff_ne.2 (by omega)
        have s1 : ((q : Int) == 1) = false := beq_eq_false_iff_ne.2 (by omega)
        have s2 : ((q : Int) == 2) = false := beq_eq_false_iff_ne.2 (by omega)
        have s3 : ((q : Int) == 3) = false := beq_eq_false_iff_ne.2 (by omega)
        have s4 : ((q : Int) == 4) = false := beq_eq_false_iff_ne.2 (by omega)
        have s5 : ((q : Int) == 5) = false := beq_eq_false_iff_ne.2 (by omega)
        have s6 : ((q : Int) == 6) = false := beq_eq_false_iff_ne.2 (by omega)
        have s7 : ((q : Int) == 7) = false := beq_eq_false_iff_ne.2 (by omega)
        have s8 : ((q : Int) == 8) = false := beq_eq_false_iff_ne.2 (by omega)
        go_wp2
        go_meet
        case rel => exact ⟨BR.out, RA, HRL.out, P1.out, P2.out⟩
      case rest =>
        obtain ⟨hbd, RB, hRB, o1, o2⟩ := hcut
        have BD := hide hbd
        have Q1 := hide o1
        have Q2 := hide o2
        have hRB' := hRB.symm
        have HBx0 := hide HB2.out
        clear hbd o1 o2 hRB y0 y1 y2 y3 y4 y5 y6 y7 y8 yy y2' f0 f1 f2 f3 f4 f5 f6 f7 f8 f2' ff u1 u2 u3 u4 u5
        subst hRB'
        go_wp2_with fail
        refine at_world (fun W => ∃ gr, gr = wc.heap.size ∧ Below wc.heap.size wc W ∧ Blk W gr 43 #[.slice A0 R.length c0, .slice (some ⟨g5, 0, none⟩) RB.length d1, .slice (some ⟨g5, 0, none⟩) 1 d1, .slice none 0 0]) ⟨_, rfl, (Below.refl _ _).alloc (Nat.le_refl _) _, Blk.new _ _ _⟩ (fun wE hE => ?_)
        obtain ⟨gr, egr, hbE, kE⟩ := hE
        rw [← egr]
        have HBE := hide (HBx0.out.trans ((BD.out.trans (hbE.mono BD.out.size)).mono HBx0.out.size))
        have KE := hide kE
        have HROWS := hide (rows4 (W := wE) (c0 := c0) (c1 := d1) (HR.out.below HBE.out) HBE.out.size (by omega) (Rd.of_own (own_below Q1.out hbE)) (by omega) (by omega))
        have HMKS := hide (marks3 (W := wE) (c0 := c1) (c1 := c2) (HM.out.below HBE.out) HBE.out.size (by omega) (Rd.of_own (own_below Q2.out hbE)) (by omega))
        clear egr hbE kE
        go_loopg [135] 4 (fun g x135 wr => ∃ k : Nat, k ≤ 4 ∧ g = 4 - k ∧ x135 = .int .i64 (k : Int) ∧ Below wE.heap.size wE wr)
        case atStart => exact ⟨0, by omega, rfl, rfl, Below.refl _ _⟩
        case round =>
          obtain ⟨k, hk, hg, rfl, hbr⟩ := hrel
          rcases Nat.lt_or_ge k 4 with hk4 | hk4
          · have hkz : (k : Int) < 4 := by omega
            obtain ⟨L, AL, cL, hcell, hrL, hL70⟩ := HROWS.out k hk4
            have kr := KE.out.below hbr KE.out.lt
            have zk := (kr.cell k).trans hcell
            have zl := kr.lt
            have HRL2 := hide hrL
            have BR1 := hide hbr
            clear hcell hrL kr hbr
            go_wp2_with fail
            clear zk zl
            refine at_world (fun W => ∃ gm, gm = wr.heap.size ∧ Below wr.heap.size wr W ∧ Blk W gm 44 #[.slice A1 K.length c1, .slice A2 KK.length c2, .slice none 0 0]) ⟨_, rfl, (Below.refl _ _).alloc (Nat.le_refl _) _, Blk.new _ _ _⟩ (fun wF hF => ?_)
            obtain ⟨gm, egm, hbF, kF⟩ := hF
            rw [← egm]
            have HBF := hide (BR1.out.trans (hbF.mono BR1.out.size))
            have KF := hide kF
            clear egm hbF kF
            go_loopg [143] 3 (fun g x143 wr => ∃ j : Nat, j ≤ 3 ∧ g = 3 - j ∧ x143 = .int .i64 (j : Int) ∧ Below wF.heap.size wF wr)
            case atStart => exact ⟨0, by omega, rfl, rfl, Below.refl _ _⟩
            case round =>
              obtain ⟨j, hj, hg2, rfl, hbr2⟩ := hrel
              rcases Nat.lt_or_ge j 3 with hj3 | hj3
              · have hjz : (j : Int) < 3 := by omega
                obtain ⟨Q, AQ, cQ, hcell, hrQ, hQ70⟩ := HMKS.out j hj3
                have kr := KF.out.below hbr2 KF.out.lt
                have zk := (kr.cell j).trans hcell
                have zl := kr.lt
                have BR2 := hide (HBF.out.trans (hbr2.mono HBF.out.size))
                have BR3 := hide hbr2
                have hL1 := (HRL2.out.below BR2.out).more BR2.out.size
                have hQ1 := (hrQ.below BR2.out).more BR2.out.size
                have HQ := hide hrQ
                have hnew := hide (new_ok (cA := cL) (cA' := cQ) hL1 hQ1 (by omega) (by omega))
                clear hcell kr hbr2 hL1 hQ1 hrQ
                go_wp2_with fail
                refine hnew.out.mono ?_
                rintro e w6 ⟨hb6, h0, h1⟩
                have HB6 := hide (BR2.out.trans (hb6.mono BR2.out.size))
                have HB7 := hide (BR3.out.trans (hb6.mono BR3.out.size))
                have hL2 := (HRL2.out.below HB6.out).more HB6.out.size
                have hQ2 := (HQ.out.below HB6.out).more HB6.out.size
                have hright := hide (right_ok (cA := cL) (cA' := cQ) hL2 hQ2 (by omega) (by omega))
                clear zk zl hb6 hL2 hQ2 hnew
                by_cases hz : newE L Q = 0
                · obtain ⟨cc, tb, nb, lb, C1, C2, C3, f1, f2, f3, rfl, hin⟩ := h0 hz
                  have hlen := new_zero hz
                  have HIN := hide hin
                  have HZ := hide hz
                  clear h0 h1 hz hin
                  go_wp2_with fail
                  refine hright.out.mono ?_
                  rintro e w8 ⟨rfl, hb8⟩
                  rw [HZ.out]
                  have HB8 := hide (HB6.out.trans (hb8.mono HB6.out.size))
                  have HB9 := hide (HB7.out.trans (hb8.mono HB7.out.size))
                  have hsame := hide (same_ok (cA := cL) (cA' := cQ) (HIN.out.below hb8) ((HRL2.out.below HB8.out).more HB8.out.size) ((HQ.out.below HB8.out).more HB8.out.size) hlen.1 (by omega) hlen.2)
                  clear hb8 hright HIN hlen
                  go_wp2_with fail
                  refine hsame.out.mono ?_
                  rintro e w10 ⟨rfl, hb10⟩
                  have HB10 := hide (HB9.out.trans (hb10.mono HB9.out.size))
                  clear hb10 hsame
                  go_wp2
                  go_roundg (3 - (j + 1))
                  case measure => omega
                  case rel => exact ⟨j + 1, by omega, rfl, by go_num, HB10.out⟩
                · have he := h1 hz
                  subst he
                  generalize newE L Q = ev at *
                  have hz1 : (ev == 0) = false := beq_eq_false_iff_ne.2 hz
                  clear h0 h1
                  go_wp2_with fail
                  refine hright.out.mono ?_
                  rintro e w8 ⟨rfl, hb8⟩
                  have HB9 := hide (HB7.out.trans (hb8.mono HB7.out.size))
                  clear hb8 hright
                  go_wp2
                  go_roundg (3 - (j + 1))
                  case measure => omega
                  case rel => exact ⟨j + 1, by omega, rfl, by go_num, HB9.out⟩
              · obtain rfl : j = 3 := by omega
                have BR2 := hide (HBF.out.trans (hbr2.mono HBF.out.size))
                clear hbr2
                go_wp2
                go_roundg (4 - (k + 1))
                case measure => omega
                case rel => exact ⟨k + 1, by omega, rfl, by go_num, BR2.out⟩
          · obtain rfl : k = 4 := by omega
            have BR2 := hide (HBE.out.trans (hbr.mono HBE.out.size))
            clear hbr
            go_wp2
            go_returns
            exact ⟨rfl, BR2.out⟩
end
end Go.Proofs.YtniboffmdkeacaaDoor

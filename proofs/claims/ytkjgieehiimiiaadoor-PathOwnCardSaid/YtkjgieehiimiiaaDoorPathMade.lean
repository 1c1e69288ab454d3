/- Paths: the law's own paths: the walk of made. Printed by pathmade.py. -/
import Derived.Test.YtkjgieehiimiiaaDoorPathJoin
import Derived.OneCell
namespace Go.Proofs.YtkjgieehiimiiaaDoor
open Go.RowKit

def nm6 : List BL := [[97], [98, 98], [46], [46, 46], [99, 45, 100], [101]]
def at3 : List BL := [[108, 111, 119], [114, 101, 100], [116, 111, 112]]
/-- the first label of a byte's part -/
def madeAt (x : UInt8) : BL := if x.toNat % 6 ≠ 2 ∧ x.toNat % 6 ≠ 3 ∧ 100 < x.toNat then at3.getD (x.toNat % 3) [] else []
/-- a byte's part -/
def madeP (x : UInt8) : BL × BL := if 240 < x.toNat then ([], [98, 108, 117, 101]) else (nm6.getD (x.toNat % 6) [], madeAt x)
def madeL (l : List UInt8) : List (BL × BL) := (l.take 9).map madeP

theorem madeL_snoc {l : List UInt8} {k : Nat} {x : UInt8} (h : l[k]? = some x) : (l.take (k + 1)).map madeP = (l.take k).map madeP ++ [madeP x] := by
  rw [List.take_add_one, h]; simp

/-- where made's loop stands -/
structure Md (w0 w : World) (a : Bool) (A : Option Addr) (n c : Nat) (done : List (BL × BL)) : Prop where
  bel : Below w0.heap.size w0 w
  rB : Blk w w0.heap.size 27 #[.bool false, .slice none 0 0]
  pB : Blk w (w0.heap.size + 1) 27 #[.bool a, .slice A n c]
  nB : Blk w (w0.heap.size + 1 + 1) 9 #[.string ⟨#[97]⟩, .string ⟨#[98, 98]⟩, .string ⟨#[46]⟩, .string ⟨#[46, 46]⟩, .string ⟨#[99, 45, 100]⟩, .string ⟨#[101]⟩]
  own : w.ownsRow (w0.heap.size + 3) 34 2 (.slice A n c) n (flat done)
theorem Md.below {w0 w w' : World} {a : Bool} {A : Option Addr} {n c : Nat} {done : List (BL × BL)} (h : Md w0 w a A n c done) (hb : Below w.heap.size w w') : Md w0 w' a A n c done :=
  ⟨h.bel.trans (hb.mono h.bel.size), h.rB.below hb h.rB.lt, h.pB.below hb h.pB.lt, h.nB.below hb h.nB.lt, own_below h.own hb⟩
theorem Md.setQ {w0 w : World} {a : Bool} {A : Option Addr} {n c g : Nat} {done : List (BL × BL)} (h : Md w0 w a A n c done) (hg : w0.heap.size + 3 ≤ g) (hng : (Value.slice A n c).ownBlock ≠ some g) (i : Nat) (v : Value) : Md w0 (w.setCell ⟨g, i, none⟩ v) a A n c done :=
  ⟨h.bel.setCell (by show _ ≤ g; omega) _, h.rB.far (by show _ ≠ g; omega) _, h.pB.far (by show _ ≠ g; omega) _, h.nB.far (by show _ ≠ g; omega) _, ownsRow_setCell_other h.own hng _⟩
theorem nm6_at {j : Nat} (h : j < 6) : (#[.string ⟨#[97]⟩, .string ⟨#[98, 98]⟩, .string ⟨#[46]⟩, .string ⟨#[46, 46]⟩, .string ⟨#[99, 45, 100]⟩, .string ⟨#[101]⟩] : Array Value)[j]? = some (.string ⟨(nm6.getD j []).toArray⟩) := by
  match j, h with
  | 0, _ => rfl
  | 1, _ => rfl
  | 2, _ => rfl
  | 3, _ => rfl
  | 4, _ => rfl
  | 5, _ => rfl
theorem at3_at {j : Nat} (h : j < 3) : (#[.string ⟨#[108, 111, 119]⟩, .string ⟨#[114, 101, 100]⟩, .string ⟨#[116, 111, 112]⟩] : Array Value)[j]? = some (.string ⟨(at3.getD j []).toArray⟩) := by
  match j, h with
  | 0, _ => rfl
  | 1, _ => rfl
  | 2, _ => rfl

section
variable (a : Bool) (A : Option Addr) (n c : Nat) (l : List UInt8) (w : World)
set_option maxRecDepth 100000 in
set_option maxHeartbeats 8000000 in
theorem made_ok (hr : Rd w w.heap.size 1 A n (bvs l)) :
    Calls Tryd.prog 16 #[.bool a, .slice A n c] w fun e w' => ∃ R k e', e = .returned (.agg #[.bool a, .slice R k e']) ∧
      w'.ownsRow w.heap.size 34 2 (.slice R k e') k (flat (madeL l)) ∧ Below w.heap.size w w' := by
  have ll : l.length = n := by have := hr.1; simpa [bvs] using this
  have LL := hide ll
  clear ll
  obtain ⟨i0, hi0, hq0, hq1, hq2⟩ := info_parts info_part
  go_enter Tryd.func16, Tryd.ntmps16
  go_wp2
  refine at_world (fun W => Md w W a none 0 0 []) ⟨by go_grown, ((Blk.new w 27 #[.bool false, .slice none 0 0]).alloc _).alloc _, by simpa using (Blk.new (w.alloc (.cells #[.bool false, .slice none 0 0] 27)) 27 #[.bool a, .slice none 0 0]).alloc (.cells #[.string ⟨#[97]⟩, .string ⟨#[98, 98]⟩, .string ⟨#[46]⟩, .string ⟨#[46, 46]⟩, .string ⟨#[99, 45, 100]⟩, .string ⟨#[101]⟩] 9),
    by simpa using Blk.new ((w.alloc (.cells #[.bool false, .slice none 0 0] 27)).alloc (.cells #[.bool a, .slice none 0 0] 27)) 9 #[.string ⟨#[97]⟩, .string ⟨#[98, 98]⟩, .string ⟨#[46]⟩, .string ⟨#[46, 46]⟩, .string ⟨#[99, 45, 100]⟩, .string ⟨#[101]⟩], World.ownsRow_nil _ _ _ _⟩ (fun w1 p0 => ?_)
  go_loopg [15] n (fun g i wr => ∃ k : Nat, k ≤ n ∧ k ≤ 9 ∧ g = n - k ∧ i = .int .i64 k ∧ Aside (∃ R m e', Md w wr a R m e' ((l.take k).map madeP) ∧ m ≤ k))
  case atStart => exact ⟨0, Nat.zero_le _, Nat.zero_le _, rfl, rfl, none, 0, 0, p0, Nat.le_refl _⟩
  case round =>
    obtain ⟨k, hk, hk9, hg, rfl, hH⟩ := hrel
    clear p0
    by_cases hkn : k < n
    · have hkz : (k : Int) < n := by omega
      obtain ⟨R, m, e', md, hmk⟩ := hH.out
      clear hH
      obtain ⟨bb, oo, rfl, hbb, hc⟩ := hr.byte hkn
      have ck := (md.bel.cell (p := ⟨bb, oo + k, none⟩) hbb).trans (hc k hkn)
      have hlk : l[k]? = some (l.getD k 0) := by rw [List.getD_eq_getElem?_getD, List.getElem?_eq_getElem (by rw [LL.out]; exact hkn)]; rfl
      have hbw : bb < wr.heap.size := Nat.lt_of_lt_of_le hbb md.bel.size
      generalize l.getD k 0 = x at ck hlk
      have HLK := hide hlk
      clear hc hr hlk
      by_cases h9 : k < 9
      · have h9' : decide ((9 : Int) ≤ k) = false := by simp; omega
        have j6 : ((x.toNat : Int).tmod 6) = ((x.toNat % 6 : Nat) : Int) := by rw [Int.tmod_eq_emod_of_nonneg (by omega)]; omega
        have j3 : ((x.toNat : Int).tmod 3) = ((x.toNat % 3 : Nat) : Int) := by rw [Int.tmod_eq_emod_of_nonneg (by omega)]; omega
        have j6' : ((x.toNat : Int) % 6) = ((x.toNat % 6 : Nat) : Int) := by omega
        have j3' : ((x.toNat : Int) % 3) = ((x.toNat % 3 : Nat) : Int) := by omega
        have hMA : madeAt x = if x.toNat % 6 ≠ 2 ∧ x.toNat % 6 ≠ 3 ∧ 100 < x.toNat then at3.getD (x.toNat % 3) [] else [] := rfl
        have hMP : madeP x = if 240 < x.toNat then ([], [98, 108, 117, 101]) else (nm6.getD (x.toNat % 6) [], madeAt x) := rfl
        obtain ⟨u6, hu6⟩ : ∃ u, x.toNat % 6 = u := ⟨_, rfl⟩
        obtain ⟨u3, hu3⟩ : ∃ u, x.toNat % 3 = u := ⟨_, rfl⟩
        have hl6 : u6 < 6 := by omega
        have hl3 : u3 < 3 := by omega
        have hc6 : (u6 : Int) < 6 := by omega
        have hc3 : (u3 : Int) < 3 := by omega
        rw [hu6] at j6 j6' hMA hMP
        rw [hu3] at j3 j3' hMA
        clear hu6 hu3
        have HMP := hide hMP
        have HMA := hide hMA
        clear hMP hMA
        generalize madeAt x = ma at HMA HMP
        have cn := (md.nB.cell u6).trans (nm6_at hl6)
        have ln := md.nB.lt
        generalize nm6.getD u6 [] = na at cn HMP
        have MD := hide md
        clear md
        go_upto_region 8 with (fail)
        refine at_world (fun W => Md w W a R m e' ((l.take k).map madeP) ∧ wr.heap.size ≤ W.heap.size ∧ Blk W wr.heap.size 34 #[.string ⟨na.toArray⟩, .string ⟨#[]⟩]) ⟨MD.out.below ((Below.refl _ _).alloc (Nat.le_refl _) _), by simp, Blk.new _ _ _⟩ (fun w2 hX => ?_)
        obtain ⟨md2, hsz2, qB⟩ := hX
        have hqs : w.heap.size + 3 ≤ wr.heap.size := MD.out.nB.lt
        have hng : (Value.slice R m e').ownBlock ≠ some wr.heap.size := fun h => by have := (MD.out.own.lt _ h).2; omega
        clear MD ck cn ln hbw
        obtain ⟨cT, hcT⟩ : ∃ cT : Bool, decide (u6 ≠ 2 ∧ u6 ≠ 3 ∧ 100 < x.toNat) = cT := ⟨_, rfl⟩
        have HCT := hide hcT
        clear hcT
        go_cut [39] from 28 to 40 (fun c39 wc => wc = w2 ∧ c39 = .bool cT)
        case first =>
          by_cases h2 : u6 = 2
          · have t2 : ((u6 : Int) != 2) = false := by simp [h2]
            have e : decide (u6 ≠ 2 ∧ u6 ≠ 3 ∧ 100 < x.toNat) = false := by simp [h2]
            have e' := HCT.out.symm.trans e
            subst e'
            clear h2 e
            go_wp2
            go_meet
            case rel => exact ⟨rfl, rfl⟩
          · have t2 : ((u6 : Int) != 2) = true := by simp; omega
            by_cases h3 : u6 = 3
            · have t3 : ((u6 : Int) != 3) = false := by simp [h3]
              have e : decide (u6 ≠ 2 ∧ u6 ≠ 3 ∧ 100 < x.toNat) = false := by simp [h3]
              have e' := HCT.out.symm.trans e
              clear h2 h3 e
              subst e'
              go_wp2
              go_meet
              case rel => exact ⟨rfl, rfl⟩
            · have t3 : ((u6 : Int) != 3) = true := by simp; omega
              have e : decide (u6 ≠ 2 ∧ u6 ≠ 3 ∧ 100 < x.toNat) = decide ((100 : Int) < x.toNat) := by
                rw [decide_eq_decide]; constructor
                · intro h; omega
                · intro h; exact ⟨h2, h3, by omega⟩
              have e' := HCT.out.symm.trans e
              clear h2 h3 e
              subst e'
              go_wp2
              go_meet
              case rel => exact ⟨rfl, rfl⟩
        case rest =>
          obtain ⟨rfl, rfl⟩ := hcut
          go_upto_if 39 with (fail)
          go_cut [] from 28 to 46 (fun wd => Md w wd a R m e' ((l.take k).map madeP) ∧ Blk wd wr.heap.size 34 #[.string ⟨na.toArray⟩, .string ⟨ma.toArray⟩])
          case first =>
            by_cases hT : u6 ≠ 2 ∧ u6 ≠ 3 ∧ 100 < x.toNat
            · have e : cT = true := HCT.out.symm.trans (decide_eq_true hT)
              subst e
              have hma := HMA.out
              rw [if_pos hT] at hma
              have aB := Blk.new wc 9 #[.string ⟨#[108, 111, 119]⟩, .string ⟨#[114, 101, 100]⟩, .string ⟨#[116, 111, 112]⟩]
              have ca := (aB.cell u3).trans (at3_at hl3)
              rw [← hma] at ca
              have hlw := aB.lt
              have q0 := qB.cell 0
              have q1 := qB.cell 1
              have f1 := qB.frozen 1
              have lq := qB.lt
              clear hT hma aB
              go_wp2
              go_meet
              case rel => exact ⟨(md2.setQ hqs hng 1 _).below ((Below.refl _ _).alloc (Nat.le_refl _) _), (qB.set_ 1 _).alloc _⟩
            · have e : cT = false := HCT.out.symm.trans (decide_eq_false hT)
              subst e
              have hma := HMA.out
              rw [if_neg hT] at hma
              have HM := hide hma
              clear hT hma
              go_wp2
              go_meet
              case rel => exact ⟨md2, by rw [HM.out]; exact qB⟩
          case rest =>
            clear md2 qB hsz2
            obtain ⟨md2, qB⟩ := hcut
            go_upto_if 47 with (fail)
            go_cut [] from 28 to 49 (fun wd => Md w wd a R m e' ((l.take k).map madeP) ∧ Blk wd wr.heap.size 34 #[.string ⟨(madeP x).1.toArray⟩, .string ⟨(madeP x).2.toArray⟩])
            case first =>
              by_cases hT : 240 < x.toNat
              · have t1 : decide ((240 : Int) < x.toNat) = true := by simp; omega
                have hmp := HMP.out
                rw [if_pos hT] at hmp
                have HM := hide hmp
                have q0 := qB.cell 0
                have q1 := qB.cell 1
                have f0 := qB.frozen 0
                have f1 := qB.frozen 1
                have lq := qB.lt
                clear hmp
                go_wp2
                go_meet
                case rel => exact ⟨(md2.setQ hqs hng 0 _).setQ hqs hng 1 _, by rw [HM.out]; exact (qB.set_ 0 _).set_ 1 _⟩
              · have t1 : decide ((240 : Int) < x.toNat) = false := by simp; omega
                have hmp := HMP.out
                rw [if_neg hT] at hmp
                have HM := hide hmp
                clear hmp
                go_wp2
                go_meet
                case rel => exact ⟨md2, by rw [HM.out]; exact qB⟩
            case rest =>
              clear md2 qB
              obtain ⟨md2, qB⟩ := hcut
              clear HMP HMA
              have hsn := madeL_snoc HLK.out
              have HSN := hide hsn
              clear hsn
              generalize madeP x = q at qB HSN
              have q0 := qB.cell 0
              have q1 := qB.cell 1
              have lq := qB.lt
              have p0 := md2.pB.cell 0
              have p1 := md2.pB.cell 1
              have lp := md2.pB.lt
              have mdW := md2.below ((Below.refl _ _).alloc (Nat.le_refl _) (.cells #[.string ⟨q.1.toArray⟩, .string ⟨q.2.toArray⟩] 34))
              have RD : Rd (wc.alloc (.cells #[.string ⟨q.1.toArray⟩, .string ⟨q.2.toArray⟩] 34)) (wc.heap.size + 1) 2 (some ⟨wc.heap.size, 0, none⟩) 1 [.string ⟨q.1.toArray⟩, .string ⟨q.2.toArray⟩] := Rd.lit2 (Blk.new wc 34 #[.string ⟨q.1.toArray⟩, .string ⟨q.2.toArray⟩])
              have hsz : w.heap.size + 3 ≤ (wc.alloc (.cells #[.string ⟨q.1.toArray⟩, .string ⟨q.2.toArray⟩] 34)).heap.size := mdW.nB.lt
              have MD := hide mdW
              clear mdW md2
              go_wp2_with (at_builtin; refine wpList_append_rd _ rfl (.tmp 50) (.tmp 52) 25 rfl (w.heap.size + 3) 34 i0 (.agg #[.string ByteArray.empty, .string ByteArray.empty]) 2 32 Tryd.underlying25 hi0 hq0 hq1 hq2 rfl (by decide) (.slice R m e') m _ rfl MD.out.own _ _ 1 1 _ rfl RD (by simp [Value.oneCell']) (by simp only [maxLen]; omega) (by omega) hsz ?_; intro v' w5 hown hg2 hnil hat; obtain ⟨A2, c2, rfl, hnc, hcm, -⟩ := own_form hown; have pB2 := MD.out.pB.grown hg2 (fun e => blk_not_own MD.out.pB MD.out.own (by decide) e.symm); have q12 := pB2.cell 1; have f12 := pB2.frozen 1; have hl2 := pB2.lt; clear q0 q1 lq p0 p1 lp)
              have rB2 := MD.out.rB.grown hg2 (fun e => blk_not_own MD.out.rB MD.out.own (by decide) e.symm)
              have nB2 := MD.out.nB.grown hg2 (fun e => blk_not_own MD.out.nB MD.out.own (by decide) e.symm)
              go_roundg (n - (k + 1))
              case measure => omega
              case rel => exact ⟨k + 1, by omega, by omega, by omega, by go_num, A2, m + 1, c2, ⟨(MD.out.bel.grown hg2 (by omega) (fun g hg => Nat.le_trans (by omega) (own_ge MD.out.own hg))).setCell (by simp) _, rB2.far (by simp) _, (pB2.set_ 1 _), nB2.far (by simp) _, ownsRow_setCell_below (by rw [HSN.out, flat_snoc]; exact hown) (by simp) _⟩, by omega⟩
      · have h9' : decide ((9 : Int) ≤ k) = true := by simp; omega
        have hd : (l.take k).map madeP = madeL l := by
          have e9 : k = 9 := by omega
          rw [e9]; rfl
        rw [hd] at md
        clear hd
        have p0 := md.pB.cell 0
        have p1 := md.pB.cell 1
        have lp := md.pB.lt
        have r0 := md.rB.cell 0
        have r1 := md.rB.cell 1
        have f0 := md.rB.frozen 0
        have f1 := md.rB.frozen 1
        have lr := md.rB.lt
        have MD := hide md
        clear md
        go_wp2
        have B2 : Blk _ w.heap.size 27 #[.bool a, .slice R m e'] := (MD.out.rB.set_ 0 (.bool a)).set_ 1 (.slice R m e')
        refine bodyPost_ret (results_run1 rfl (ResV.struct rfl B2 Tryd.underlying27 (by kernel_rfl))) rfl ?_
        exact ⟨R, m, e', rfl, own_low (ownsRow_setCell_below (ownsRow_setCell_below MD.out.own (by simp) _) (by simp) _) (by omega), (MD.out.bel.setCell (by simp) _).setCell (by simp) _⟩
    · have hkz : decide ((k : Int) < n) = false := by simp; omega
      obtain ⟨R, m, e', md, hmk⟩ := hH.out
      have hd : (l.take k).map madeP = madeL l := by
        unfold madeL
        rw [List.take_of_length_le (by rw [LL.out]; omega), List.take_of_length_le (by rw [LL.out]; omega)]
      rw [hd] at md
      clear hH
      clear hd
      have p0 := md.pB.cell 0
      have p1 := md.pB.cell 1
      have lp := md.pB.lt
      have r0 := md.rB.cell 0
      have r1 := md.rB.cell 1
      have f0 := md.rB.frozen 0
      have f1 := md.rB.frozen 1
      have lr := md.rB.lt
      have MD := hide md
      clear md
      go_wp2
      have B2 : Blk _ w.heap.size 27 #[.bool a, .slice R m e'] := (MD.out.rB.set_ 0 (.bool a)).set_ 1 (.slice R m e')
      refine bodyPost_ret (results_run1 rfl (ResV.struct rfl B2 Tryd.underlying27 (by kernel_rfl))) rfl ?_
      exact ⟨R, m, e', rfl, own_low (ownsRow_setCell_below (ownsRow_setCell_below MD.out.own (by simp) _) (by simp) _) (by omega), (MD.out.bel.setCell (by simp) _).setCell (by simp) _⟩
end
end Go.Proofs.YtkjgieehiimiiaaDoor

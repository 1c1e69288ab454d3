/- Configurations: in which group a block lies; turns. -/
import Derived.Test.YtniboffmdkeacaaDoorConfUse
import Derived.Test.YtniboffmdkeacaaDoorConfGr
import Derived.Deep.LoopGhost
import Derived.BigQuiet
namespace Go.Proofs.YtniboffmdkeacaaDoor
open Go.RowKit Go.WideMaps
set_option linter.unusedSimpArgs false
set_option linter.unusedVariables false

theorem geos_get : ∀ (a : Int) (R : List RegV) (i : Nat), (geosOf a R)[i]? = (R[i]?).map (geoOf (totalOf a (R.take i)))
  | _, [], i => by simp [geosOf]
  | a, r :: rest, 0 => by simp [geosOf, totalOf]
  | a, r :: rest, i + 1 => by
    simp only [geosOf, List.getElem?_cons_succ, List.take_succ_cons, totalOf]
    exact geos_get _ rest i
theorem total_take (a : Int) (R : List RegV) {i : Nat} {r : RegV} (h : R[i]? = some r) : totalOf a (R.take (i + 1)) = (geoOf (totalOf a (R.take i)) r).end_ := by
  rw [List.take_add_one, h]
  exact totalOf_snoc a _ r
def grAns (r : Option (Nat × Int)) : Ending :=
  match r with
  | none => .returned (.tuple #[.int .i64 0, .int .i64 0, .bool false])
  | some (j, k) => .returned (.tuple #[.int .i64 (j : Int), .int .i64 k, .bool true])

section
variable {B : Nat} {w w' : World} {c : Nat} {R : List RegV} {K : List MarkV} {tb nb lb : Nat} {A1 A2 A3 : Option Addr} {c1 c2 c3 : Nat}
set_option maxRecDepth 100000 in
set_option maxHeartbeats 1000000 in
theorem group_ok (h : ConfIn B w c R K tb nb lb A1 A2 A3 c1 c2 c3) (hl : R.length ≤ 64) (b : Int) :
    Calls Tryd.prog 10 #[.pointer (some ⟨c, 0, none⟩), .int .i64 b] w fun e w' => e = grAns (grFrom 0 32 R b) ∧ Below w.heap.size w w' := by
  go_enter Tryd.func10, Tryd.ntmps10
  go_wp2_with fail
  refine (len_ok h).mono ?_
  rintro e w1 ⟨rfl, rfl⟩
  have H := hide h
  clear h
  go_wp2_with fail
  go_loopg [11] R.length (fun g x11 wr => ∃ i : Nat, i ≤ R.length ∧ g = R.length - i ∧ x11 = .int .i64 (i : Int) ∧ Below w1.heap.size w1 wr ∧ Hid (grFrom i (totalOf 32 (R.take i)) (R.drop i) b = grFrom 0 32 R b))
  case atStart => exact ⟨0, Nat.zero_le _, rfl, rfl, Below.refl _ _, hide rfl⟩
  case round =>
    obtain ⟨i, hi, hg, rfl, hbr, hG⟩ := hrel
    rcases Nat.lt_or_ge i R.length with hiR | hiR
    · have hiz : (i : Int) < R.length := by omega
      obtain ⟨r, hr⟩ : ∃ r, R[i]? = some r := ⟨_, List.getElem?_eq_getElem hiR⟩
      have hgeo : (geosOf 32 R)[i]? = some (geoOf (totalOf 32 (R.take i)) r) := by rw [geos_get, hr]; rfl
      have h1 := H.out.below hbr
      obtain ⟨g, hA, hgl, hcc⟩ := h1.geoc hgeo
      have kc := h1.blk.cell 5
      have kl := h1.blk.lt
      have hrb := H.out.ok r (List.mem_of_getElem? hr)
      have htb := total_bounds (R := R.take i) (fun x hx => H.out.ok x (List.mem_of_mem_take hx)) 32 (by omega)
      have htl : ((R.take i).length : Int) ≤ 64 := by rw [List.length_take]; omega
      have hstep : grFrom i (totalOf 32 (R.take i)) (R.drop i) b = if totalOf 32 (R.take i) ≤ b ∧ b < (geoOf (totalOf 32 (R.take i)) r).end_ then some (i, if b < (geoOf (totalOf 32 (R.take i)) r).data then 0 else b - (geoOf (totalOf 32 (R.take i)) r).data + 1) else grFrom (i + 1) (totalOf 32 (R.take (i + 1))) (R.drop (i + 1)) b := by
        rw [total_take 32 R hr]
        obtain ⟨hlt, rfl⟩ := List.getElem?_eq_some_iff.1 hr
        rw [List.drop_eq_getElem_cons hlt, grFrom]
      have hG2 := hG.out
      rw [hstep] at hG2
      have HG := hide hG2
      have hend : (geoOf (totalOf 32 (R.take i)) r).end_ = (geoOf (totalOf 32 (R.take i)) r).data + (geoOf (totalOf 32 (R.take i)) r).blocks := rfl
      have hbase : (geoOf (totalOf 32 (R.take i)) r).base = totalOf 32 (R.take i) := rfl
      have hdat : (geoOf (totalOf 32 (R.take i)) r).data = totalOf 32 (R.take i) + (r.blocks + 511) / 512 + (r.nodes * 32 + 63) / 64 := rfl
      have hblk : (geoOf (totalOf 32 (R.take i)) r).blocks = r.blocks := rfl
      obtain ⟨_, q1, q2, q3, q4⟩ := hrb
      have y0 := hcc 0 _ rfl
      have y1 := hcc 1 _ rfl
      have y2 := hcc 2 _ rfl
      have y3 := hcc 3 _ rfl
      have y4 := hcc 4 _ rfl
      have y5 := hcc 5 _ rfl
      simp only [Nat.add_zero, geosOf_length] at y0 kc
      rw [hend] at HG
      generalize hgv : geoOf (totalOf 32 (R.take i)) r = gv at *
      obtain ⟨gb, gm, gt, gd, gn, go⟩ := gv
      simp only at y0 y1 y2 y3 y4 y5 hbase hdat hblk HG
      have hw : IntKind.i64.wrap (gd + gn) = gd + gn := IntWalk.i64_in _ (by omega)
      have HBX := hide (hbr.alloc hbr.size (.cells #[.int .i64 gb, .int .i64 gm, .int .i64 gt, .int .i64 gd, .int .i64 gn, .int .i64 go] 69))
      have HEQ := hide (And.intro hbase (And.intro hdat hblk))
      subst hA
      clear hcc hgeo hstep hG2 hG hend hr hbr h1 hbase hdat hblk
      by_cases b1 : b < gb
      · have t1 : decide (b < gb) = true := by simpa using b1
        have HG2 := HG.out
        obtain ⟨hbase, hdat, hblk⟩ := HEQ.out
        rw [if_neg (by omega)] at HG2
        have HG3 := hide HG2
        clear HG2 hdat htb hbase hblk
        go_wp2
        go_roundg (R.length - (i + 1))
        case measure => omega
        case rel => exact ⟨i + 1, by omega, rfl, by go_num, HBX.out, HG3⟩
      · have t1 : decide (b < gb) = false := by simpa using b1
        by_cases b2 : gd + gn ≤ b
        · have t2 : decide (gd + gn ≤ b) = true := by simpa using b2
          have HG2 := HG.out
          obtain ⟨hbase, hdat, hblk⟩ := HEQ.out
          rw [if_neg (by omega)] at HG2
          have HG3 := hide HG2
          clear HG2 hdat htb hbase hblk
          go_wp2
          go_roundg (R.length - (i + 1))
          case measure => omega
          case rel => exact ⟨i + 1, by omega, rfl, by go_num, HBX.out, HG3⟩
        · have t2 : decide (gd + gn ≤ b) = false := by simpa using b2
          have HG2 := HG.out
          obtain ⟨hbase, hdat, hblk⟩ := HEQ.out
          rw [if_pos (by omega)] at HG2
          by_cases b3 : b < gd
          · have t3 : decide (b < gd) = true := by simpa using b3
            rw [if_pos b3] at HG2
            have HG3 := hide HG2
            clear HG2 hdat htb hbase hblk
            go_wp2
            go_returns
            exact ⟨by rw [← HG3.out]; rfl, HBX.out⟩
          · have t3 : decide (b < gd) = false := by simpa using b3
            rw [if_neg b3] at HG2
            have HG3 := hide HG2
            have e1 : IntKind.i64.wrap (b - gd) = b - gd := IntWalk.i64_in _ (by omega)
            have e2 : IntKind.i64.wrap (b - gd + 1) = b - gd + 1 := IntWalk.i64_in _ (by omega)
            clear HG2 hdat htb hbase hblk
            go_wp2
            go_quiet (fail)
            go_wp2
            go_returns
            exact ⟨by rw [← HG3.out]; rfl, below_drewN HBX.out _⟩
    · obtain rfl : i = R.length := by omega
      have hG2 := hG.out
      rw [List.drop_length] at hG2
      have HG3 := hide hG2
      clear hG2
      go_wp2
      go_returns
      exact ⟨by rw [← HG3.out]; rfl, hbr⟩

theorem slot_ok (h : ConfIn B w c R K tb nb lb A1 A2 A3 c1 c2 c3) (hl : R.length ≤ 64) (h0 : 0 < R.length) (n : Nat) (hn : n < 18446744073709551616) :
    Calls Tryd.prog 13 #[.pointer (some ⟨c, 0, none⟩), .int .u64 (n : Int)] w fun e w' => e = .returned (.int .i64 ((n % R.length : Nat) : Int)) ∧ w' = w := by
  have H := hide h
  have t1 : ((R.length : Int) == 0) = false := beq_eq_false_iff_ne.2 (by omega)
  have e1 : IntKind.u64.wrap (R.length : Int) = (R.length : Int) := by rw [IntKind.wrap_u64]; omega
  obtain ⟨q, hq⟩ : ∃ q, q = n % R.length := ⟨_, rfl⟩
  have hql : q < R.length := by rw [hq]; exact Nat.mod_lt _ h0
  have e2 : (n : Int).tmod (R.length : Int) = (q : Int) := by rw [IntWalk.rem_in _ _ (by omega), hq]; rfl
  have e3 : IntKind.i64.wrap (q : Int) = (q : Int) := IntWalk.i64_in _ (by omega)
  have HQ := hide hq
  clear h hq
  go_enter Tryd.func13, Tryd.ntmps13
  go_wp2_with (first | (refine (len_ok H.out).mono ?_; rintro e w' ⟨rfl, rfl⟩) | fail)
  go_returns
  exact ⟨by rw [← HQ.out]; rfl, rfl⟩
end
end Go.Proofs.YtniboffmdkeacaaDoor

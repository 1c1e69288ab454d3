/- Configurations' texts: labels, read. -/
import Derived.Test.YtniboffmdkeacaaDoorConfLab
import Derived.Deep.CutBlock
import Derived.Laws.BitsAllLaws
namespace Go.Proofs.YtniboffmdkeacaaDoor
open Go.RowKit Go.WideMaps
set_option linter.unusedSimpArgs false
set_option linter.unusedVariables false

def bit16 (c : Nat) : UInt16 := UInt16.ofNat (1 <<< c)
/-- label.Make's categories -/
def orsP : UInt16 → List Nat → Option UInt16
  | a, [] => some a
  | a, c :: l => if 15 < c then none else orsP (a ||| bit16 c) l
def makeP (lv : Nat) (cats : List Nat) : Option (UInt8 × UInt16) := if 15 < lv then none else (orsP 0 cats).map fun c => (UInt8.ofNat lv, c)
def ivs (l : List Nat) : List Value := l.map fun n => Value.int .i64 ((n : Nat) : Int)
theorem ivs_get (l : List Nat) (i : Nat) : (ivs l)[i]? = (l[i]?).map fun n => .int .i64 (n : Int) := by simp [ivs]
theorem ivs_snoc (l : List Nat) (n : Nat) : ivs (l ++ [n]) = ivs l ++ [.int .i64 (n : Int)] := by simp [ivs]
theorem ivs_length (l : List Nat) : (ivs l).length = l.length := by simp [ivs]
def labAns (r : Option (UInt8 × UInt16)) (err : Int) : Ending :=
  match r with
  | none => .returned (.tuple #[.agg #[.int .u8 0, .int .u16 0], .int .i64 err])
  | some (l, c) => .returned (.tuple #[.agg #[.int .u8 (l.toNat : Int), .int .u16 (c.toNat : Int)], .int .i64 0])
theorem rd_iv {w : World} {B : Nat} {A : Option Addr} {l : List Nat} (h : Rd w B 1 A l.length (ivs l)) {k n : Nat} (hk : l[k]? = some n) :
    ∃ b o, A = some ⟨b, o, none⟩ ∧ b < B ∧ w.cell? ⟨b, o + k, none⟩ = some (.int .i64 (n : Int)) := by
  have hl := (List.getElem?_eq_some_iff.1 hk).1
  obtain ⟨b, o, hA, hb, hc⟩ := h.2 (by omega)
  exact ⟨b, o, hA, hb, hc k _ (by rw [ivs_get, hk]; rfl)⟩
theorem build_labl (W : World) (a : Int) : (Instr.build 36 #[(0, .int .u8 a)]).run Tryd.prog W = .ok (.agg #[.int .u8 a, .int .u16 0]) W := by kernel_rfl

theorem bit16_toNat {c : Nat} (h : ¬ 15 < c) : IntKind.u16.wrap (2 ^ c) = ((2 ^ c : Nat) : Int) ∧ (bit16 c).toNat = 2 ^ c ∧ 2 ^ c < 65536 := by
  have h16 : c < 16 := by omega
  exact (by decide : ∀ c, c < 16 → IntKind.u16.wrap (2 ^ c) = ((2 ^ c : Nat) : Int) ∧ (bit16 c).toNat = 2 ^ c ∧ 2 ^ c < 65536) c h16
theorem or_bit (acc : UInt16) {c : Nat} (h : ¬ 15 < c) : bits .or .u16 (acc.toNat : Int) (IntKind.u16.wrap (2 ^ c)) = ((acc ||| bit16 c).toNat : Int) := by
  obtain ⟨h1, h2, h3⟩ := bit16_toNat h
  rw [h1, u16_or_nat _ _ acc.toNat_lt h3, UInt16.toNat_or, h2]

section
attribute [-go_sem] Instr.build
attribute [local go_sem] build_labl build_lab0
variable {A : Option Addr} {cA : Nat} {l : List Nat} {w : World}
set_option maxRecDepth 100000 in
set_option maxHeartbeats 2000000 in
theorem make_ok (lv : Nat) (h9 : lv ≤ 99) (hl9 : ∀ c ∈ l, c ≤ 99) (hn : l.length ≤ 60000) (hr : Rd w w.heap.size 1 A l.length (ivs l)) :
    Calls Tryd.prog 74 #[.int .i64 (lv : Int), .slice A l.length cA] w fun e w' => e = labAns (makeP lv l) 27 ∧ Below w.heap.size w w' := by
  go_enter Tryd.func74, Tryd.ntmps74
  by_cases hlv : 15 < lv
  · have t1 : decide ((lv : Int) < 0) = false := by simp
    have t2 : decide ((15 : Int) < (lv : Int)) = true := by simp; omega
    have hm : Hid (makeP lv l = none) := if_pos hlv
    go_wp2
    refine bodyPost_ret (results_run2 rfl (ResV.struct rfl (Blk.new _ _ _) Tryd.underlying36 (by kernel_rfl)) rfl) rfl ?_
    rw [hm.out]
    exact ⟨rfl, (Below.refl _ _).alloc (Nat.le_refl _) _⟩
  · have t1 : decide ((lv : Int) < 0) = false := by simp
    have t2 : decide ((15 : Int) < (lv : Int)) = false := by simp; omega
    have hm : Hid (makeP lv l = (orsP 0 l).map fun c => (UInt8.ofNat lv, c)) := if_neg hlv
    have hlv8 : ((lv : Int)) % 256 = lv := by omega
    go_wp2_with fail
    refine at_world (fun W => ∃ b4 b6, b4 = w.heap.size ∧ b6 = w.heap.size + 1 ∧ Below w.heap.size w W ∧ Blk W b4 36 #[.int .u8 0, .int .u16 0] ∧ Blk W b6 36 #[.int .u8 (lv : Int), .int .u16 0]) ⟨_, _, rfl, rfl, ((Below.refl _ _).alloc (Nat.le_refl _) _).alloc (by simp) _, (Blk.new w _ _).alloc _, by have := Blk.new (w.alloc (.cells #[.int .u8 0, .int .u16 0] 36)) 36 #[.int .u8 (lv : Int), .int .u16 0]; simpa using this⟩ (fun w4 h4 => ?_)
    obtain ⟨b4, b6, e4, e6, hb, h4, h6⟩ := h4
    rw [← e6, ← e4]
    have ne : b4 ≠ b6 := by omega
    have H4 := hide h4
    have E4 := hide e4
    have E6 := hide e6
    clear e4 e6 h4
    go_loopg [8, 21] l.length (fun g x8 x21 wr => ∃ (k : Nat) (acc : UInt16), k ≤ l.length ∧ g = l.length - k ∧ x21 = .int .i64 (k : Int) ∧ Below w.heap.size w wr ∧ Blk wr b4 36 #[.int .u8 0, .int .u16 0] ∧ Blk wr b6 36 #[.int .u8 (lv : Int), .int .u16 (acc.toNat : Int)] ∧ Hid (orsP acc (l.drop k) = orsP 0 l))
    case atStart => exact ⟨0, 0, Nat.zero_le _, rfl, rfl, hb, H4.out, h6, hide rfl⟩
    case round =>
      obtain ⟨k, acc, hk, hg, rfl, hbr, h4, h6, hO⟩ := hrel
      by_cases hkl : k < l.length
      · have hkz : (k : Int) < l.length := by omega
        obtain ⟨c, hc⟩ : ∃ c, l[k]? = some c := ⟨_, List.getElem?_eq_getElem hkl⟩
        have hc99 := hl9 c (List.mem_of_getElem? hc)
        obtain ⟨b, o, rfl, hbb, hcell⟩ := rd_iv (hr.below hbr) hc
        have a0 := hcell
        have hblt := Nat.lt_of_lt_of_le hbb hbr.size
        have HBR := hide hbr
        clear hcell hbr
        by_cases h15 : 15 < c
        · have t3 : decide ((c : Int) < 0) = false := by simp
          have t4 : decide ((16 : Int) ≤ (c : Int)) = true := by simp; omega
          have hm2 : Hid (makeP lv l = none) := by
            rw [hm.out, ← hO.out, List.drop_eq_getElem_cons hkl]
            rw [List.getElem?_eq_getElem hkl] at hc
            injection hc with hc
            rw [hc, orsP, if_pos h15]; rfl
          clear hO hc
          have l4 := h4.lt
          have c40 := h4.cell 0
          have c41 := h4.cell 1
          have z40 := h4.frozen 0
          have z41 := h4.frozen 1
          go_wp2
          refine bodyPost_ret (results_run2 rfl (ResV.struct rfl ((h4.set_ 0 _).set_ 1 _) Tryd.underlying36 (by kernel_rfl)) rfl) rfl ?_
          rw [hm2.out]
          exact ⟨rfl, (HBR.out.setCell (Nat.le_of_eq E4.out.symm) _).setCell (Nat.le_of_eq E4.out.symm) _⟩
        · have t3 : decide ((c : Int) < 0) = false := by simp
          have t4 : decide ((16 : Int) ≤ (c : Int)) = false := by simp; omega
          have hm2 : Hid (orsP (acc ||| bit16 c) (l.drop (k + 1)) = orsP 0 l) := by
            have := hO.out
            rw [List.drop_eq_getElem_cons hkl] at this
            rw [List.getElem?_eq_getElem hkl] at hc
            injection hc with hc
            rw [hc, orsP, if_neg h15] at this
            exact this
          clear hO hc
          have l6 := h6.lt
          have c61 := h6.cell 1
          have z61 := h6.frozen 1
          go_wp2
          go_region
          go_wp2
          rw [or_bit acc h15]
          go_roundg (l.length - (k + 1))
          case measure => omega
          case rel => exact ⟨k + 1, acc ||| bit16 c, by omega, rfl, by go_num, (HBR.out.setCell (show w.heap.size ≤ b6 by have := E6.out; omega) _).drew, (h4.far (by have := E4.out; have := E6.out; show b4 ≠ b6; omega) _).drew, (h6.set_ 1 _).drew, hm2⟩
      · obtain rfl : k = l.length := by omega
        have c60 := h6.cell 0
        have c61 := h6.cell 1
        have l6 := h6.lt
        have l4 := h4.lt
        have c40 := h4.cell 0
        have c41 := h4.cell 1
        have z40 := h4.frozen 0
        have z41 := h4.frozen 1
        have hm2 : Hid (makeP lv l = some (UInt8.ofNat lv, acc)) := by
          rw [hm.out, ← hO.out, List.drop_length]; rfl
        go_wp2
        refine bodyPost_ret (results_run2 rfl (ResV.struct rfl ((h4.set_ 0 _).set_ 1 _) Tryd.underlying36 (by kernel_rfl)) rfl) rfl ?_
        rw [hm2.out]
        have e8 : (UInt8.ofNat lv).toNat = lv := by simp; omega
        exact ⟨by simp only [labAns, e8]; rfl, (hbr.setCell (Nat.le_of_eq E4.out.symm) _).setCell (Nat.le_of_eq E4.out.symm) _⟩
end
end Go.Proofs.YtniboffmdkeacaaDoor

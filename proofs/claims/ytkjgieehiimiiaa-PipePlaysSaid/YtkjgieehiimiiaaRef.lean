/- Layer 21, pipes, the document's answer: the walks of garrisonref21.Pipes' methods. -/
import Derived.Test.YtkjgieehiimiiaaPipeAt
import Derived.Test.YtkjgieehiimiiaaOrd
import Derived.BigQuiet
namespace Go.Proofs.Ytkjgieehiimiiaa
open Go.RowKit

/-- a pipe of the document's: its key, the slice of its bytes, the bytes, its ends -/
structure RE where
  k : PKey
  A : Option Addr
  l : List UInt8
  c : Nat
  r : Nat
  s : Nat
def recells (e : RE) : List Value := [.bool e.k.1, .int .u8 (e.k.2.1.toNat : Int), .int .u16 (e.k.2.2.1.toNat : Int), .int .u16 (e.k.2.2.2.toNat : Int), .slice e.A e.l.length e.c, .int .i64 (e.r : Int), .int .i64 (e.s : Int)]
def flat7 (es : List RE) : List Value := es.flatMap recells
theorem flat7_length (es : List RE) : (flat7 es).length = es.length * 7 := by
  induction es with
  | nil => rfl
  | cons q r ih => simp [flat7, recells] at ih ⊢; omega
theorem flat7_get : ∀ {es : List RE} {k j : Nat} {e : RE}, es[k]? = some e → j < 7 → (flat7 es)[k * 7 + j]? = (recells e)[j]?
  | [], k, j, e, h, _ => by simp at h
  | p :: r, 0, j, e, h, hj => by
    obtain rfl : p = e := by simpa using h
    unfold flat7
    rw [List.flatMap_cons, Nat.zero_mul, Nat.zero_add, List.getElem?_append_left (by simp [recells]; omega)]
  | p :: r, k + 1, j, e, h, hj => by
    have ih := flat7_get (es := r) (k := k) (j := j) (e := e) (by simpa using h) hj
    unfold flat7 at ih ⊢
    rw [List.flatMap_cons, List.getElem?_append_right (by simp [recells]; omega)]
    rw [← ih]
    congr 1
    simp [recells]; omega
theorem Rd.elem {w : World} {N n : Nat} {A : Option Addr} {es : List RE} (h : Rd w N 7 A n (flat7 es)) (hn : 0 < n) :
    ∃ b o, A = some ⟨b, o, none⟩ ∧ b < N ∧ ∀ k e, es[k]? = some e → ∀ j v, (recells e)[j]? = some v → w.cell? ⟨b, o + (k * 7 + j), none⟩ = some v := by
  obtain ⟨b, o, rfl, hb, hc⟩ := h.2 hn
  refine ⟨b, o, rfl, hb, fun k e he j v hv => ?_⟩
  have hj : j < 7 := by
    rcases Nat.lt_or_ge j 7 with h | h
    · exact h
    · rw [List.getElem?_eq_none (by simpa [recells] using h)] at hv; cases hv
  exact hc _ _ ((flat7_get he hj).trans hv)
theorem Rd.elems {w : World} {N n : Nat} {A : Option Addr} {es : List RE} (h : Rd w N 7 A n (flat7 es)) : es.length = n := by
  have := h.1; rw [flat7_length] at this; omega

/-- where a key stands -/
def pos (es : List RE) (k : PKey) : Option Nat := es.findIdx? fun e => decide (e.k = k)
def posI (es : List RE) (k : PKey) : Int := match pos es k with | some i => i | none => -1

section
variable (p : Nat) (nm : Bool) (lb : UInt8) (nu ge : UInt16) (A : Option Addr) (n c : Nat) (es : List RE) (w : World)
set_option maxRecDepth 100000 in
set_option maxHeartbeats 4000000 in
theorem ref_find (hp : w.cell? ⟨p, 0, none⟩ = some (.slice A n c)) (hpl : p < w.heap.size) (hr : Rd w w.heap.size 7 A n (flat7 es)) (hn : n ≤ 60000) :
    Calls Try.prog 30 #[.pointer (some ⟨p, 0, none⟩), .bool nm, .agg #[.int .u8 (lb.toNat : Int), .int .u16 (nu.toNat : Int), .int .u16 (ge.toNat : Int)]] w fun e w' =>
      e = .returned (.int .i64 (posI es (nm, lb, nu, ge))) ∧ Below w.heap.size w w' := by
  have LL := hide hr.elems
  go_enter Try.func30, Try.ntmps30
  go_wp2
  refine at_world (fun W => Below w.heap.size w W ∧ Blk W w.heap.size 39 #[.int .u8 (lb.toNat : Int), .int .u16 (nu.toNat : Int), .int .u16 (ge.toNat : Int)]) ⟨(Below.refl _ _).alloc (Nat.le_refl _) _, Blk.new _ _ _⟩ (fun w1 h1 => ?_)
  obtain ⟨hb1, kB1⟩ := h1
  go_loopg [7] n (fun g i wr => ∃ k : Nat, k ≤ n ∧ g = n - k ∧ i = .int .i64 k ∧ Aside (Below w.heap.size w wr ∧ Blk wr w.heap.size 39 #[.int .u8 (lb.toNat : Int), .int .u16 (nu.toNat : Int), .int .u16 (ge.toNat : Int)] ∧ ∀ j e, j < k → es[j]? = some e → e.k ≠ (nm, lb, nu, ge)))
  case atStart => exact ⟨0, Nat.zero_le _, rfl, rfl, hb1, kB1, fun j e hj => absurd hj (Nat.not_lt_zero _)⟩
  case round =>
    obtain ⟨k, hk, hg, rfl, hH⟩ := hrel
    clear hb1 kB1
    obtain ⟨hb, kB, hno⟩ := hH.out
    clear hH
    have p0 := (hb.cell (p := ⟨p, 0, none⟩) hpl).trans hp
    have hpw : p < wr.heap.size := Nat.lt_of_lt_of_le hpl hb.size
    by_cases hkn : k < n
    · have hkz : (k : Int) < n := by omega
      obtain ⟨bb, oo, rfl, hbb, hc⟩ := hr.elem (by omega)
      obtain ⟨e, he⟩ : ∃ e, es[k]? = some e := ⟨_, List.getElem?_eq_getElem (by rw [LL.out]; exact hkn)⟩
      have hce := hc k e he
      have c0 := (hb.cell (p := ⟨bb, oo + (k * 7 + 0), none⟩) hbb).trans (hce 0 _ rfl)
      have c1 := (hb.cell (p := ⟨bb, oo + (k * 7 + 1), none⟩) hbb).trans (hce 1 _ rfl)
      have c2 := (hb.cell (p := ⟨bb, oo + (k * 7 + 2), none⟩) hbb).trans (hce 2 _ rfl)
      have c3 := (hb.cell (p := ⟨bb, oo + (k * 7 + 3), none⟩) hbb).trans (hce 3 _ rfl)
      simp only [← Nat.add_assoc, Nat.add_zero] at c0 c1 c2 c3
      have hbw : bb < wr.heap.size := Nat.lt_of_lt_of_le hbb hb.size
      have k0 := kB.cell 0
      have k1 := kB.cell 1
      have k2 := kB.cell 2
      have lk := kB.lt
      have HN := hide hno
      have HE := hide he
      clear hce hc hno he hr hp
      obtain ⟨⟨em, el, eu, eg⟩, eA, en, ec, er, es2⟩ := e
      simp only at c0 c1 c2 c3
      have HE2 : True := trivial
      by_cases hm : em = nm
      · subst hm
        by_cases hl : el = lb
        · subst hl
          by_cases hu : eu = nu
          · subst hu
            by_cases hgg : eg = ge
            · subst hgg
              have hpos : posI es (em, el, eu, eg) = k := by
                have h := HE.out
                unfold posI pos
                have hlt : k < es.length := by rw [LL.out]; exact hkn
                have hf : es.findIdx? (fun e => decide (e.k = (em, el, eu, eg))) = some k := by
                  rw [List.findIdx?_eq_some_iff_getElem]
                  refine ⟨hlt, ?_, fun j hj => ?_⟩
                  · rw [List.getElem?_eq_getElem hlt] at h
                    rw [Option.some.inj h]; simp
                  · have := HN.out j es[j] hj (List.getElem?_eq_getElem (by omega))
                    simpa using this
                rw [hf]
              have HP := hide hpos
              clear hpos
              go_upto_region 4 with (fail)
              go_quiet (fail)
              go_wp2
              go_returns
              exact ⟨by rw [HP.out]; rfl, below_drewN hb _⟩
            · have HNE : Hid ((em, el, eu, eg) ≠ (em, el, eu, ge)) := hide (by simpa using hgg)
              have ihgg : ¬ eg.toNat = ge.toNat := fun h => hgg (UInt16.toNat_inj.1 h)
              have jhgg : ¬ (eg.toNat : Int) = (ge.toNat : Int) := fun h => ihgg (by omega)
              clear HE2
              go_upto_region 4 with (fail)
              go_quiet (fail)
              go_wp2
              go_roundg (n - (k + 1))
              case measure => omega
              case rel =>
                refine ⟨k + 1, by omega, rfl, by go_num, below_drewN hb _, kB.drewN _, fun j e hj he => ?_⟩
                rcases Nat.lt_succ_iff_lt_or_eq.1 hj with h | rfl
                · exact HN.out j e h he
                · rw [HE.out] at he
                  obtain rfl := Option.some.inj he
                  exact HNE.out
          · have HNE : Hid ((em, el, eu, eg) ≠ (em, el, nu, ge)) := hide (by simp [hu])
            have ihu : ¬ eu.toNat = nu.toNat := fun h => hu (UInt16.toNat_inj.1 h)
            have jhu : ¬ (eu.toNat : Int) = (nu.toNat : Int) := fun h => ihu (by omega)
            clear HE2
            go_upto_region 4 with (fail)
            go_quiet (fail)
            go_wp2
            go_roundg (n - (k + 1))
            case measure => omega
            case rel =>
              refine ⟨k + 1, by omega, rfl, by go_num, below_drewN hb _, kB.drewN _, fun j e hj he => ?_⟩
              rcases Nat.lt_succ_iff_lt_or_eq.1 hj with h | rfl
              · exact HN.out j e h he
              · rw [HE.out] at he
                obtain rfl := Option.some.inj he
                exact HNE.out
        · have HNE : Hid ((em, el, eu, eg) ≠ (em, lb, nu, ge)) := hide (by simp [hl])
          have ihl : ¬ el.toNat = lb.toNat := fun h => hl (UInt8.toNat_inj.1 h)
          have jhl : ¬ (el.toNat : Int) = (lb.toNat : Int) := fun h => ihl (by omega)
          clear HE2
          go_upto_region 4 with (fail)
          go_quiet (fail)
          go_wp2
          go_roundg (n - (k + 1))
          case measure => omega
          case rel =>
            refine ⟨k + 1, by omega, rfl, by go_num, below_drewN hb _, kB.drewN _, fun j e hj he => ?_⟩
            rcases Nat.lt_succ_iff_lt_or_eq.1 hj with h | rfl
            · exact HN.out j e h he
            · rw [HE.out] at he
              obtain rfl := Option.some.inj he
              exact HNE.out
      · have HNE : Hid ((em, el, eu, eg) ≠ (nm, lb, nu, ge)) := hide (by simp [hm])
        have b1 : (em == nm) = false := by simpa using hm
        clear HE2
        go_upto_region 4 with (fail)
        go_quiet (fail)
        go_wp2
        go_roundg (n - (k + 1))
        case measure => omega
        case rel =>
          refine ⟨k + 1, by omega, rfl, by go_num, below_drewN hb _, kB.drewN _, fun j e hj he => ?_⟩
          rcases Nat.lt_succ_iff_lt_or_eq.1 hj with h | rfl
          · exact HN.out j e h he
          · rw [HE.out] at he
            obtain rfl := Option.some.inj he
            exact HNE.out
    · have hkz : decide ((k : Int) < n) = false := by simp; omega
      have hpos : posI es (nm, lb, nu, ge) = -1 := by
        unfold posI pos
        have hf : es.findIdx? (fun e => decide (e.k = (nm, lb, nu, ge))) = none := by
          rw [List.findIdx?_eq_none_iff]
          intro e he
          obtain ⟨j, hj, rfl⟩ := List.mem_iff_getElem.1 he
          have := hno j es[j] (by have := LL.out; omega) (List.getElem?_eq_getElem hj)
          simpa using this
        rw [hf]
      have HP := hide hpos
      clear hpos hno hr hp
      go_wp2
      go_returns
      exact ⟨by rw [HP.out]; rfl, hb⟩
end
end Go.Proofs.Ytkjgieehiimiiaa

/- What comes in, opened: bytes, numbers. No program in sight. -/
import Derived.Test.YtmhlokehdjnldaaDoorBase
import Derived.ProofKit
import Derived.OpenShut
import Derived.Lib.SmallJoins
namespace Go.Proofs.YtmhlokehdjnldaaDoor
open Go.RowKit Go.ChangeShapes Go.WideShapes Go.ChangeAt Go.Joins Go.Deep
set_option linter.unusedSimpArgs false
set_option linter.unusedVariables false

section
variable {H : Type} {enc : TypeId × Value → H} {P : Program} {w : World} {base : Nat} {held : Bool} {fuel : Nat} {t e : TypeId} {v : Value} {y : DataW H × List MemPlace}

theorem awf_u8 {n : Int} (h : (Lit.int .u8 n).wf = true) : ∃ k : Nat, n = k ∧ k < 256 := by
  have h : IntKind.u8.min ≤ n ∧ n ≤ IntKind.u8.max := by simpa [Lit.wf] using h
  have h1 : IntKind.u8.min = 0 := by decide
  have h2 : IntKind.u8.max = 255 := by decide
  exact ⟨n.toNat, by omega, by omega⟩
theorem awf_u16 {n : Int} (h : (Lit.int .u16 n).wf = true) : ∃ k : Nat, n = k ∧ k < 65536 := by
  have h : IntKind.u16.min ≤ n ∧ n ≤ IntKind.u16.max := by simpa [Lit.wf] using h
  have h1 : IntKind.u16.min = 0 := by decide
  have h2 : IntKind.u16.max = 65535 := by decide
  exact ⟨n.toNat, by omega, by omega⟩
theorem awf_u32 {n : Int} (h : (Lit.int .u32 n).wf = true) : ∃ k : Nat, n = k ∧ k < 4294967296 := by
  have h : IntKind.u32.min ≤ n ∧ n ≤ IntKind.u32.max := by simpa [Lit.wf] using h
  have h1 : IntKind.u32.min = 0 := by decide
  have h2 : IntKind.u32.max = 4294967295 := by decide
  exact ⟨n.toNat, by omega, by omega⟩
theorem awf_i64 {n : Int} (h : (Lit.int .i64 n).wf = true) : -9223372036854775808 ≤ n ∧ n < 9223372036854775808 := by
  have h : IntKind.i64.min ≤ n ∧ n ≤ IntKind.i64.max := by simpa [Lit.wf] using h
  have h1 : IntKind.i64.min = -9223372036854775808 := by decide
  have h2 : IntKind.i64.max = 9223372036854775807 := by decide
  omega

theorem open_u8_cell (ht : P.underlying t = some (.int .u8)) (h : DataW.trod enc P w base (fun _ => true) held fuel t [v] = some y) : ∃ k : Nat, v = .int .u8 k ∧ k < 256 := by
  obtain ⟨n, h1, _, hw⟩ := DataW.trod_int ht h
  obtain ⟨k, rfl, hk⟩ := awf_u8 hw
  exact ⟨k, by simpa using h1, hk⟩
theorem open_u16_cell (ht : P.underlying t = some (.int .u16)) (h : DataW.trod enc P w base (fun _ => true) held fuel t [v] = some y) : ∃ k : Nat, v = .int .u16 k ∧ k < 65536 := by
  obtain ⟨n, h1, _, hw⟩ := DataW.trod_int ht h
  obtain ⟨k, rfl, hk⟩ := awf_u16 hw
  exact ⟨k, by simpa using h1, hk⟩
theorem open_u32_cell (ht : P.underlying t = some (.int .u32)) (h : DataW.trod enc P w base (fun _ => true) held fuel t [v] = some y) : ∃ k : Nat, v = .int .u32 k ∧ k < 4294967296 := by
  obtain ⟨n, h1, _, hw⟩ := DataW.trod_int ht h
  obtain ⟨k, rfl, hk⟩ := awf_u32 hw
  exact ⟨k, by simpa using h1, hk⟩
theorem open_i64_cell (ht : P.underlying t = some (.int .i64)) (h : DataW.trod enc P w base (fun _ => true) held fuel t [v] = some y) : ∃ k : Int, v = .int .i64 k ∧ -9223372036854775808 ≤ k ∧ k < 9223372036854775808 := by
  obtain ⟨n, h1, _, hw⟩ := DataW.trod_int ht h
  exact ⟨n, by simpa using h1, awf_i64 hw⟩

theorem open_bytes_cell (ht : P.underlying t = some (.slice e)) (he : P.underlying e = some (.int .u8)) (hc : P.cellsOf e = 1) (h : DataW.trod enc P w base (fun _ => true) held fuel t [v] = some y) :
    ∃ (A : Option Addr) (n c : Nat) (l : List UInt8), v = .slice A n c ∧ Rd w w.heap.size 1 A n (bvs l) ∧ n ≤ c := by
  rcases open_ints ht he hc h with ⟨hcs, _⟩ | ⟨x, n, c, zs, hcs, _, hl, _, hz, _, hcell, hwz⟩
  · exact ⟨none, 0, 0, [], by simpa using hcs, Rd.nil _ _ _ _, Nat.le_refl _⟩
  · simp only [if_true] at hz
    refine ⟨some x, n, c, (zs.take n).map fun z => UInt8.ofNat z.toNat, by simpa using hcs, ⟨by simp [bvs]; omega, fun hn => ?_⟩, hl⟩
    have h0 := hcell 0 (by omega)
    have hspot : x.spot = none := by simpa [Addr.add] using World.cell?_spot h0
    obtain ⟨b, o, spot⟩ := x
    simp only at hspot
    subst hspot
    have hb : b < w.heap.size := by
      have := World.block_lt_of_cell? w _ h0
      simpa [Addr.add] using this
    refine ⟨b, o, rfl, hb, fun j u hu => ?_⟩
    have hj : j < n := by
      rcases Nat.lt_or_ge j n with h | h
      · exact h
      · rw [List.getElem?_eq_none (by simp [bvs]; omega)] at hu; cases hu
    have hc := hcell j (by omega)
    have hadd : (⟨b, o, none⟩ : Addr).add j = ⟨b, o + j, none⟩ := by unfold Addr.add; split <;> simp_all
    rw [hadd] at hc
    rw [hc, ← hu]
    have hjz : j < zs.length := by omega
    have hw := hwz (zs[j]) (List.getElem_mem hjz)
    obtain ⟨k, hk, hk2⟩ := awf_u8 hw
    have e1 : zs.getD j 0 = (k : Int) := by simp [List.getD_eq_getElem?_getD, List.getElem?_eq_getElem hjz, hk]
    rw [e1]
    rw [bvs_get, List.getElem?_map, List.getElem?_take, if_pos hj, List.getElem?_eq_getElem hjz, hk]
    simp only [Option.map_some, Int.toNat_natCast]
    rw [bv_ofNat hk2]

variable {r : Reach} {b0 : Nat} {d : DataW H} {ps : List MemPlace}
theorem open_u8 (ht : P.underlying t = some (.int .u8)) (hval : Value.okWide P w r b0 t v) (h : DataW.Trod enc P w base (fun _ => true) held t v d ps) : ∃ k : Nat, v = .int .u8 k ∧ k < 256 := by
  obtain ⟨n, rfl, _, _, hw⟩ := open_int ht hval h
  obtain ⟨k, rfl, hk⟩ := awf_u8 hw
  exact ⟨k, rfl, hk⟩
theorem open_i64 (ht : P.underlying t = some (.int .i64)) (hval : Value.okWide P w r b0 t v) (h : DataW.Trod enc P w base (fun _ => true) held t v d ps) : ∃ k : Int, v = .int .i64 k ∧ -9223372036854775808 ≤ k ∧ k < 9223372036854775808 := by
  obtain ⟨n, rfl, _, _, hw⟩ := open_int ht hval h
  exact ⟨n, rfl, awf_i64 hw⟩
theorem open_bytes (ht : P.underlying t = some (.slice e)) (he : P.underlying e = some (.int .u8)) (hc : P.cellsOf e = 1) (hval : Value.okWide P w r b0 t v) (h : DataW.Trod enc P w base (fun _ => true) held t v d ps) :
    ∃ (A : Option Addr) (n c : Nat) (l : List UInt8), v = .slice A n c ∧ Rd w w.heap.size 1 A n (bvs l) ∧ n ≤ c := by
  obtain ⟨A, n, c, rfl⟩ := okWide_slice ht hval
  obtain ⟨fuel, hf⟩ := h
  exact open_bytes_cell ht he hc (by simpa [Value.cells] using hf)
/-- a struct of a bool and a struct of (uint8, uint16, uint16) -/
theorem open_key {f0 f1 g0 g1 g2 : Field} (hs : P.underlying t = some (.struct #[f0, f1])) (ho0 : f0.offset = 0) (ho1 : f1.offset = 1) (hc0 : P.cellsOf f0.type = 1) (hc1 : P.cellsOf f1.type = 3) (hC : P.cellsOf t = 4)
    (hb : P.underlying f0.type = some .bool) (hs1 : P.underlying f1.type = some (.struct #[g0, g1, g2])) (hone : oneCellFields P #[g0, g1, g2] = true)
    (t0 : P.underlying g0.type = some (.int .u8)) (t1 : P.underlying g1.type = some (.int .u16)) (t2 : P.underlying g2.type = some (.int .u16))
    (hval : Value.okWide P w r b0 t v) (h : DataW.Trod enc P w base (fun _ => true) held t v d ps) :
    ∃ (nm : Bool) (lb : UInt8) (nu ge : UInt16), v = .agg #[.bool nm, .int .u8 (lb.toNat : Int), .int .u16 (nu.toNat : Int), .int .u16 (ge.toNat : Int)] := by
  obtain ⟨cs, rfl, hsz⟩ := okWide_struct hs hval
  obtain ⟨c0, c1, c2, c3, rfl⟩ := array4 (hsz.trans hC)
  obtain ⟨fuel, hf⟩ := h
  obtain ⟨y0, y1, n, _, _, h0, h1⟩ := trod_struct2 hs hf
  rw [ho0, hc0] at h0
  rw [ho1, hc1] at h1
  have h0' : DataW.trod enc P w base (fun _ => true) held n f0.type [c0] = some y0 := by simpa [Value.cells] using h0
  have h1' : DataW.trod enc P w base (fun _ => true) held n f1.type [c1, c2, c3] = some y1 := by simpa [Value.cells] using h1
  obtain ⟨z0, z1, z2, n', _, _, g0', g1', g2'⟩ := trod_struct3 hs1 h1'
  obtain ⟨o0, k0⟩ := hone_of hone 0 g0 rfl
  obtain ⟨o1, k1⟩ := hone_of hone 1 g1 rfl
  obtain ⟨o2, k2⟩ := hone_of hone 2 g2 rfl
  obtain ⟨nm, hb', _⟩ := DataW.trod_bool hb h0'
  obtain rfl : c0 = .bool nm := by simpa using hb'
  obtain ⟨a, rfl, ha⟩ := open_u8_cell (enc := enc) (held := held) t0 (by simpa [o0, k0] using g0')
  obtain ⟨b, rfl, hb⟩ := open_u16_cell (enc := enc) (held := held) t1 (by simpa [o1, k1] using g1')
  obtain ⟨c, rfl, hc⟩ := open_u16_cell (enc := enc) (held := held) t2 (by simpa [o2, k2] using g2')
  refine ⟨nm, UInt8.ofNat a, UInt16.ofNat b, UInt16.ofNat c, ?_⟩
  have e1 : (UInt8.ofNat a).toNat = a := by simp [UInt8.toNat_ofNat']; omega
  have e2 : (UInt16.ofNat b).toNat = b := by simp [UInt16.toNat_ofNat']; omega
  have e3 : (UInt16.ofNat c).toNat = c := by simp [UInt16.toNat_ofNat']; omega
  rw [e1, e2, e3]
end

end Go.Proofs.YtmhlokehdjnldaaDoor

/- What comes in, opened: bytes, numbers. No program in sight. What comes in, opened: sizes of configurations, small numbers. No program in sight. -/
import Derived.Test.YthmkgohfeahdhaaGreatMKit
import Derived.ProofKit
import Derived.OpenShut
import Derived.Lib.SmallJoins
import Derived.Test.YthmkgohfeahdhaaGreatMCfb
import Derived.Deep.Slices
import Derived.Deep.Strs
import Derived.Handed
namespace Go.Proofs.YthmkgohfeahdhaaGreat
open Go.RowKit Go.ChangeShapes Go.WideShapes Go.ChangeAt Go.Joins Go.Deep
set_option linter.unusedSimpArgs false
set_option linter.unusedVariables false

section
variable {H : Type} {enc : TypeId × Value → H} {P : Program} {w : World} {base : Nat} {held : Bool} {fuel : Nat} {t e : TypeId} {v : Value} {y : DataW H × List MemPlace}

theorem awf_u8 {n : Int} (h : (Lit.int .u8 n).wf = true) : ∃ k : Nat, n = k ∧ k < 256 := by
  have h : IntKind.u8.min ≤ n ∧ n ≤ IntKind.u8.max := by simpa [Lit.wf] using h
  have h1 : IntKind.u8.min = 0 := by decide
  have h2 : IntKind.u8.max = 255 := by decide
  exact ⟨n.toNat, by omega, by omega⟩
theorem awf_u16 {n : Int} (h : (Lit.int .u16 n).wf = true) : ∃ k : Nat, n = k ∧ k < 65536 := by
  have h : IntKind.u16.min ≤ n ∧ n ≤ IntKind.u16.max := by simpa [Lit.wf] using h
  have h1 : IntKind.u16.min = 0 := by decide
  have h2 : IntKind.u16.max = 65535 := by decide
  exact ⟨n.toNat, by omega, by omega⟩
theorem awf_u32 {n : Int} (h : (Lit.int .u32 n).wf = true) : ∃ k : Nat, n = k ∧ k < 4294967296 := by
  have h : IntKind.u32.min ≤ n ∧ n ≤ IntKind.u32.max := by simpa [Lit.wf] using h
  have h1 : IntKind.u32.min = 0 := by decide
  have h2 : IntKind.u32.max = 4294967295 := by decide
  exact ⟨n.toNat, by omega, by omega⟩
theorem awf_i64 {n : Int} (h : (Lit.int .i64 n).wf = true) : -9223372036854775808 ≤ n ∧ n < 9223372036854775808 := by
  have h : IntKind.i64.min ≤ n ∧ n ≤ IntKind.i64.max := by simpa [Lit.wf] using h
  have h1 : IntKind.i64.min = -9223372036854775808 := by decide
  have h2 : IntKind.i64.max = 9223372036854775807 := by decide
  omega

theorem open_u8_cell (ht : P.underlying t = some (.int .u8)) (h : DataW.trod enc P w base (fun _ => true) held fuel t [v] = some y) : ∃ k : Nat, v = .int .u8 k ∧ k < 256 := by
  obtain ⟨n, h1, _, hw⟩ := DataW.trod_int ht h
  obtain ⟨k, rfl, hk⟩ := awf_u8 hw
  exact ⟨k, by simpa using h1, hk⟩
theorem open_u16_cell (ht : P.underlying t = some (.int .u16)) (h : DataW.trod enc P w base (fun _ => true) held fuel t [v] = some y) : ∃ k : Nat, v = .int .u16 k ∧ k < 65536 := by
  obtain ⟨n, h1, _, hw⟩ := DataW.trod_int ht h
  obtain ⟨k, rfl, hk⟩ := awf_u16 hw
  exact ⟨k, by simpa using h1, hk⟩
theorem open_u32_cell (ht : P.underlying t = some (.int .u32)) (h : DataW.trod enc P w base (fun _ => true) held fuel t [v] = some y) : ∃ k : Nat, v = .int .u32 k ∧ k < 4294967296 := by
  obtain ⟨n, h1, _, hw⟩ := DataW.trod_int ht h
  obtain ⟨k, rfl, hk⟩ := awf_u32 hw
  exact ⟨k, by simpa using h1, hk⟩
theorem open_i64_cell (ht : P.underlying t = some (.int .i64)) (h : DataW.trod enc P w base (fun _ => true) held fuel t [v] = some y) : ∃ k : Int, v = .int .i64 k ∧ -9223372036854775808 ≤ k ∧ k < 9223372036854775808 := by
  obtain ⟨n, h1, _, hw⟩ := DataW.trod_int ht h
  exact ⟨n, by simpa using h1, awf_i64 hw⟩

theorem open_bytes_cell (ht : P.underlying t = some (.slice e)) (he : P.underlying e = some (.int .u8)) (hc : P.cellsOf e = 1) (h : DataW.trod enc P w base (fun _ => true) held fuel t [v] = some y) :
    ∃ (A : Option Addr) (n c : Nat) (l : List UInt8), v = .slice A n c ∧ Rd w w.heap.size 1 A n (bvs l) ∧ n ≤ c := by
  rcases open_ints ht he hc h with ⟨hcs, _⟩ | ⟨x, n, c, zs, hcs, _, hl, _, hz, _, hcell, hwz⟩
  · exact ⟨none, 0, 0, [], by simpa using hcs, Rd.nil _ _ _ _, Nat.le_refl _⟩
  · simp only [if_true] at hz
    refine ⟨some x, n, c, (zs.take n).map fun z => UInt8.ofNat z.toNat, by simpa using hcs, ⟨by simp [bvs]; omega, fun hn => ?_⟩, hl⟩
    have h0 := hcell 0 (by omega)
    have hspot : x.spot = none := by simpa [Addr.add] using World.cell?_spot h0
    obtain ⟨b, o, spot⟩ := x
    simp only at hspot
    subst hspot
    have hb : b < w.heap.size := by
      have := World.block_lt_of_cell? w _ h0
      simpa [Addr.add] using this
    refine ⟨b, o, rfl, hb, fun j u hu => ?_⟩
    have hj : j < n := by
      rcases Nat.lt_or_ge j n with h | h
      · exact h
      · rw [List.getElem?_eq_none (by simp [bvs]; omega)] at hu; cases hu
    have hc := hcell j (by omega)
    have hadd : (⟨b, o, none⟩ : Addr).add j = ⟨b, o + j, none⟩ := by unfold Addr.add; split <;> simp_all
    rw [hadd] at hc
    rw [hc, ← hu]
    have hjz : j < zs.length := by omega
    have hw := hwz (zs[j]) (List.getElem_mem hjz)
    obtain ⟨k, hk, hk2⟩ := awf_u8 hw
    have e1 : zs.getD j 0 = (k : Int) := by simp [List.getD_eq_getElem?_getD, List.getElem?_eq_getElem hjz, hk]
    rw [e1]
    rw [bvs_get, List.getElem?_map, List.getElem?_take, if_pos hj, List.getElem?_eq_getElem hjz, hk]
    simp only [Option.map_some, Int.toNat_natCast]
    rw [bv_ofNat hk2]

variable {r : Reach} {b0 : Nat} {d : DataW H} {ps : List MemPlace}
theorem open_u8 (ht : P.underlying t = some (.int .u8)) (hval : Value.okWide P w r b0 t v) (h : DataW.Trod enc P w base (fun _ => true) held t v d ps) : ∃ k : Nat, v = .int .u8 k ∧ k < 256 := by
  obtain ⟨n, rfl, _, _, hw⟩ := open_int ht hval h
  obtain ⟨k, rfl, hk⟩ := awf_u8 hw
  exact ⟨k, rfl, hk⟩
theorem open_i64 (ht : P.underlying t = some (.int .i64)) (hval : Value.okWide P w r b0 t v) (h : DataW.Trod enc P w base (fun _ => true) held t v d ps) : ∃ k : Int, v = .int .i64 k ∧ -9223372036854775808 ≤ k ∧ k < 9223372036854775808 := by
  obtain ⟨n, rfl, _, _, hw⟩ := open_int ht hval h
  exact ⟨n, rfl, awf_i64 hw⟩
theorem open_bytes (ht : P.underlying t = some (.slice e)) (he : P.underlying e = some (.int .u8)) (hc : P.cellsOf e = 1) (hval : Value.okWide P w r b0 t v) (h : DataW.Trod enc P w base (fun _ => true) held t v d ps) :
    ∃ (A : Option Addr) (n c : Nat) (l : List UInt8), v = .slice A n c ∧ Rd w w.heap.size 1 A n (bvs l) ∧ n ≤ c := by
  obtain ⟨A, n, c, rfl⟩ := okWide_slice ht hval
  obtain ⟨fuel, hf⟩ := h
  exact open_bytes_cell ht he hc (by simpa [Value.cells] using hf)
/-- a struct of a bool and a struct of (uint8, uint16, uint16) -/
theorem open_key {f0 f1 g0 g1 g2 : Field} (hs : P.underlying t = some (.struct #[f0, f1])) (ho0 : f0.offset = 0) (ho1 : f1.offset = 1) (hc0 : P.cellsOf f0.type = 1) (hc1 : P.cellsOf f1.type = 3) (hC : P.cellsOf t = 4)
    (hb : P.underlying f0.type = some .bool) (hs1 : P.underlying f1.type = some (.struct #[g0, g1, g2])) (hone : oneCellFields P #[g0, g1, g2] = true)
    (t0 : P.underlying g0.type = some (.int .u8)) (t1 : P.underlying g1.type = some (.int .u16)) (t2 : P.underlying g2.type = some (.int .u16))
    (hval : Value.okWide P w r b0 t v) (h : DataW.Trod enc P w base (fun _ => true) held t v d ps) :
    ∃ (nm : Bool) (lb : UInt8) (nu ge : UInt16), v = .agg #[.bool nm, .int .u8 (lb.toNat : Int), .int .u16 (nu.toNat : Int), .int .u16 (ge.toNat : Int)] := by
  obtain ⟨cs, rfl, hsz⟩ := okWide_struct hs hval
  obtain ⟨c0, c1, c2, c3, rfl⟩ := array4 (hsz.trans hC)
  obtain ⟨fuel, hf⟩ := h
  obtain ⟨y0, y1, n, _, _, h0, h1⟩ := trod_struct2 hs hf
  rw [ho0, hc0] at h0
  rw [ho1, hc1] at h1
  have h0' : DataW.trod enc P w base (fun _ => true) held n f0.type [c0] = some y0 := by simpa [Value.cells] using h0
  have h1' : DataW.trod enc P w base (fun _ => true) held n f1.type [c1, c2, c3] = some y1 := by simpa [Value.cells] using h1
  obtain ⟨z0, z1, z2, n', _, _, g0', g1', g2'⟩ := trod_struct3 hs1 h1'
  obtain ⟨o0, k0⟩ := hone_of hone 0 g0 rfl
  obtain ⟨o1, k1⟩ := hone_of hone 1 g1 rfl
  obtain ⟨o2, k2⟩ := hone_of hone 2 g2 rfl
  obtain ⟨nm, hb', _⟩ := DataW.trod_bool hb h0'
  obtain rfl : c0 = .bool nm := by simpa using hb'
  obtain ⟨a, rfl, ha⟩ := open_u8_cell (enc := enc) (held := held) t0 (by simpa [o0, k0] using g0')
  obtain ⟨b, rfl, hb⟩ := open_u16_cell (enc := enc) (held := held) t1 (by simpa [o1, k1] using g1')
  obtain ⟨c, rfl, hc⟩ := open_u16_cell (enc := enc) (held := held) t2 (by simpa [o2, k2] using g2')
  refine ⟨nm, UInt8.ofNat a, UInt16.ofNat b, UInt16.ofNat c, ?_⟩
  have e1 : (UInt8.ofNat a).toNat = a := by simp [UInt8.toNat_ofNat']; omega
  have e2 : (UInt16.ofNat b).toNat = b := by simp [UInt16.toNat_ofNat']; omega
  have e3 : (UInt16.ofNat c).toNat = c := by simp [UInt16.toNat_ofNat']; omega
  rw [e1, e2, e3]
end

end Go.Proofs.YthmkgohfeahdhaaGreat
namespace Go.Proofs.YthmkgohfeahdhaaGreat
open Go.RowKit Go.ChangeShapes Go.WideShapes Go.ChangeAt Go.Joins Go.Deep
set_option linter.unusedSimpArgs false
set_option linter.unusedVariables false

section
variable {H : Type} {enc : TypeId × Value → H} {P : Program} {w : World} {base : Nat} {held : Bool} {t e : TypeId} {v : Value} {r : Reach} {b0 : Nat} {d : DataW H} {ps : List MemPlace}
theorem slice_max {A : Option Addr} {n c fuel : Nat} {y : DataW H × List MemPlace} (ht : P.underlying t = some (.slice e)) (hf : DataW.trod enc P w base (fun _ => true) held fuel t [.slice A n c] = some y) : n ≤ 9223372036854775807 := by
  rcases open_slice ht hf with ⟨hcs, _⟩ | ⟨a, len, cap, m, n', D, Pl, hcs, _, hl, hm, _⟩
  · obtain ⟨_, rfl, _⟩ : A = none ∧ n = 0 ∧ c = 0 := by simpa using hcs
    exact Nat.zero_le _
  · obtain ⟨_, rfl, _⟩ : A = some a ∧ n = len ∧ c = cap := by simpa using hcs
    unfold maxLen at hm
    omega
theorem open_yes (ht : P.underlying t = some .bool) (hval : Value.okWide P w r b0 t v) (h : DataW.Trod enc P w base (fun _ => true) held t v d ps) : ∃ b : Bool, v = .bool b := by
  obtain ⟨b, hb, _⟩ := Go.RowKit.open_bool ht hval h
  exact ⟨b, hb⟩
theorem bvs_of {M : List Value} (h : ∀ x ∈ M, ∃ b : UInt8, x = bv b) : ∃ H, M = bvs H := by
  induction M with
  | nil => exact ⟨[], rfl⟩
  | cons x rest ih =>
    obtain ⟨b, hb⟩ := h x (by simp)
    obtain ⟨H, hH⟩ := ih fun y hy => h y (by simp [hy])
    exact ⟨b :: H, by rw [hb, hH]; rfl⟩
theorem drop_take_one {M : List Value} {i : Nat} {x : Value} (h : (M.drop i).take 1 = [x]) : M[i]? = some x := by
  have := congrArg (·[0]?) h
  simpa [List.getElem?_take, List.getElem?_drop] using this
/-- five times five bytes -/
theorem open_five {fuel : Nat} {M : List Value} {y : DataW H × List MemPlace} {b : TypeId} (ht : P.underlying t = some (.array 5 e)) (he : P.underlying e = some (.array 5 b)) (hb : P.underlying b = some (.int .u8)) (hce : P.cellsOf e = 5) (hcb : P.cellsOf b = 1) (hct : P.cellsOf t = 25)
    (h : DataW.trod enc P w base (fun _ => true) held fuel t M = some y) : ∃ H, M = bvs H ∧ H.length = 25 := by
  obtain ⟨xs, m, _, _, hl, hxs, hx⟩ := DataW.trod_array ht h
  rw [hct] at hl
  have hall : ∀ x ∈ M, ∃ b : UInt8, x = bv b := by
    intro x hm
    obtain ⟨p, hp, rfl⟩ := List.mem_iff_getElem.1 hm
    have hi : p / 5 < 5 := by omega
    have h1 := hx (p / 5) hi
    rw [hce, List.getElem?_eq_getElem (by omega)] at h1
    obtain ⟨ys, m2, _, _, hl2, hys, hy⟩ := DataW.trod_array he h1
    have h2 := hy (p % 5) (Nat.mod_lt _ (by omega))
    rw [hcb, List.getElem?_eq_getElem (by have := Nat.mod_lt p (show 0 < 5 by omega); omega)] at h2
    obtain ⟨n, hn, _, hw⟩ := DataW.trod_int hb h2
    obtain ⟨k, rfl, hk⟩ := awf_u8 hw
    have h3 := drop_take_one hn
    rw [Nat.mul_one, List.getElem?_take, if_pos (Nat.mod_lt _ (by omega)), List.getElem?_drop] at h3
    have e5 : p / 5 * 5 + p % 5 = p := by omega
    rw [e5, List.getElem?_eq_getElem hp] at h3
    injection h3 with h3
    exact ⟨UInt8.ofNat k, by rw [h3, bv_ofNat hk]⟩
  obtain ⟨H, rfl⟩ := bvs_of hall
  exact ⟨H, rfl, by rw [bvs_length] at hl; exact hl⟩

/-- a size -/
theorem open_size {f0 f1 f2 : Field} {a5 b b2 : TypeId} (hs : P.underlying t = some (.struct #[f0, f1, f2])) (ho0 : f0.offset = 0) (ho1 : f1.offset = 1) (ho2 : f2.offset = 26) (hc0 : P.cellsOf f0.type = 1) (hc1 : P.cellsOf f1.type = 25) (hc2 : P.cellsOf f2.type = 1) (hC : P.cellsOf t = 27)
    (t0 : P.underlying f0.type = some (.int .u8)) (t1 : P.underlying f1.type = some (.array 5 a5)) (t1a : P.underlying a5 = some (.array 5 b)) (t1b : P.underlying b = some (.int .u8)) (hca : P.cellsOf a5 = 5) (hcb : P.cellsOf b = 1)
    (t2 : P.underlying f2.type = some (.slice b2)) (t2b : P.underlying b2 = some (.int .u8)) (hcb2 : P.cellsOf b2 = 1)
    (hval : Value.okWide P w r b0 t v) (h : DataW.Trod enc P w base (fun _ => true) held t v d ps) :
    ∃ (m : UInt8) (H : List UInt8) (A : Option Addr) (n c : Nat) (T : List UInt8), v = .agg (szCells m H A n c) ∧ H.length = 25 ∧ Rd w w.heap.size 1 A n (bvs T) ∧ n ≤ 9223372036854775807 := by
  obtain ⟨cs, rfl, hsz⟩ := okWide_struct hs hval
  obtain ⟨fuel, hf⟩ := h
  obtain ⟨y0, y1, y2, k, _, hl, h0, h1, h2⟩ := trod_struct3 hs hf
  obtain ⟨l⟩ := cs
  simp only [Value.cells] at hl h0 h1 h2
  rw [hC] at hl
  rw [ho0, hc0] at h0
  rw [ho1, hc1] at h1
  rw [ho2, hc2] at h2
  obtain ⟨n0, e0, _, hw0⟩ := DataW.trod_int t0 h0
  obtain ⟨k0, rfl, hk0⟩ := awf_u8 hw0
  obtain ⟨H, e1, hH⟩ := open_five t1 t1a t1b hca hcb hc1 h1
  obtain ⟨z, hz⟩ : ∃ z, (l.drop 26).take 1 = [z] := by
    have hl2 : l.length = 27 := by simpa using hl
    exact ⟨l[26], by rw [List.drop_eq_getElem_cons (by omega)]; rfl⟩
  have h2' : DataW.trod enc P w base (fun _ => true) held k f2.type [z] = some y2 := by
    have : (List.take 1 (List.drop 26 l)) = [z] := hz
    simpa [this] using h2
  obtain ⟨A, n, c, T, rfl, hr, hnc⟩ := open_bytes_cell t2 t2b hcb2 h2'
  refine ⟨UInt8.ofNat k0, H, A, n, c, T, ?_, hH, hr, slice_max t2 h2'⟩
  congr 1
  unfold szCells
  have hl2 : l.length = 27 := by simpa using hl
  have e0' : l.take 1 = [.int .u8 (k0 : Int)] := by simpa using e0
  have e1' : (l.drop 1).take 25 = bvs H := by simpa using e1
  have e3 : l = l.take 1 ++ ((l.drop 1).take 25 ++ (l.drop 26).take 1) := by
    have a1 : l = l.take 1 ++ l.drop 1 := (List.take_append_drop 1 l).symm
    have a2 : l.drop 1 = (l.drop 1).take 25 ++ (l.drop 1).drop 25 := (List.take_append_drop 25 _).symm
    have a3 : (l.drop 1).drop 25 = (l.drop 26).take 1 := by rw [List.drop_drop, List.take_of_length_le (by simp; omega)]
    rw [← a3, ← a2, ← a1]
  rw [e3, e0', e1', hz]
  have hb := bv_ofNat hk0
  simp only [bv] at hb
  rw [hb]
  rfl
theorem open_u16 (ht : P.underlying t = some (.int .u16)) (hval : Value.okWide P w r b0 t v) (h : DataW.Trod enc P w base (fun _ => true) held t v d ps) : ∃ k : Nat, v = .int .u16 (k : Int) ∧ k < 65536 := by
  obtain ⟨n, rfl, _, _, hw⟩ := open_int ht hval h
  obtain ⟨k, rfl, hk⟩ := awf_u16 hw
  exact ⟨k, rfl, hk⟩
theorem open_u64 (ht : P.underlying t = some (.int .u64)) (hval : Value.okWide P w r b0 t v) (h : DataW.Trod enc P w base (fun _ => true) held t v d ps) : ∃ k : Nat, v = .int .u64 (k : Int) ∧ k < 18446744073709551616 := by
  obtain ⟨n, rfl, _, _, hw⟩ := open_int ht hval h
  have hb : 0 ≤ n ∧ n ≤ 18446744073709551615 := by
    simp [Lit.wf, IntKind.min, IntKind.max, IntKind.signed, IntKind.bits] at hw
    omega
  obtain ⟨k, rfl⟩ := Int.eq_ofNat_of_zero_le hb.1
  exact ⟨k, rfl, by omega⟩
end
end Go.Proofs.YthmkgohfeahdhaaGreat

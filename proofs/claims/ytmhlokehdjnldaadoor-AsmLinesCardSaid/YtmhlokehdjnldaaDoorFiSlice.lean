/- Slices of arrays and of rows of bytes: operations. No program in sight. -/
import Derived.Test.YtmhlokehdjnldaaDoorFsOps
namespace Go.Proofs.YtmhlokehdjnldaaDoor
open Go.RowKit
set_option linter.unusedSimpArgs false
set_option linter.unusedVariables false

section
variable {P : Program} {w : World}
theorem run_slice_arr (t e : TypeId) (g n l : Nat) (k : IntKind) (hu : P.underlying t = some (.array n e)) (hs : (P.info? e).map (·.size) = some 1) (hl : l < n) :
    (Instr.sliceAt t (.pointer (some ⟨g, 0, none⟩)) (some (.int k (l : Int))) none none).run P w = .ok (.slice (some ⟨g, l, none⟩) (n - l) (n - l)) w := by
  cases hq : P.info? e with
  | none => simp [hq] at hs
  | some i =>
    have hi : i.size = 1 := by simpa [hq] using hs
    have h1 : (l : Int) ≤ (n : Int) := by omega
    have h2 : ¬ n = l := by omega
    simp [Instr.sliceAt, Instr.sureAddr, run_underlying hu, Instr.sliceBounds, run_sliceBound, h1, sizeOf, typeInfo, hq, hi, Addr.add_mid, h2, Result.andThen]
theorem run_slice_hi (t e : TypeId) (A : Option Addr) (len cap h : Nat) (k : IntKind) (hu : P.underlying t = some (.slice e)) (hs : (P.info? e).map (·.size) = some 1) (hl : h ≤ cap) :
    (Instr.sliceAt t (.slice A len cap) none (some (.int k (h : Int))) none).run P w = .ok (.slice A h cap) w := by
  cases hq : P.info? e with
  | none => simp [hq] at hs
  | some i =>
    have hi : i.size = 1 := by simpa [hq] using hs
    have h1 : (h : Int) ≤ (cap : Int) := by omega
    cases A <;> simp [Instr.sliceAt, Instr.slice, run_underlying hu, Instr.sliceBounds, run_sliceBound, h1, sizeOf, typeInfo, hq, hi, sliced, Addr.add, Result.andThen]
theorem run_slice_lo (t e : TypeId) (b o len cap l : Nat) (k : IntKind) (hu : P.underlying t = some (.slice e)) (hs : (P.info? e).map (·.size) = some 1) (hl : l ≤ len) (hc : l < cap) :
    (Instr.sliceAt t (.slice (some ⟨b, o, none⟩) len cap) (some (.int k (l : Int))) none none).run P w = .ok (.slice (some ⟨b, o + l, none⟩) (len - l) (cap - l)) w := by
  cases hq : P.info? e with
  | none => simp [hq] at hs
  | some i =>
    have hi : i.size = 1 := by simpa [hq] using hs
    have h1 : (l : Int) ≤ (len : Int) := by omega
    have h2 : ¬ cap = l := by omega
    simp [Instr.sliceAt, Instr.slice, run_underlying hu, Instr.sliceBounds, run_sliceBound, h1, sizeOf, typeInfo, hq, hi, sliced, Addr.add_mid, h2, Result.andThen]
end
section
variable {P : Program} {ops : Array Oper} {rest : List Oper} {o : Oper} {a : Act} {w : World} {Q : Exit → Act → World → Prop}
theorem at_slice (ty : TypeId) (x : Operand) (lo hi : Option Operand) {d : Option Tmp} {k : TypeId} {p : String} {f : Array Edge} {g : Option (Nat × Bool)} (h : wpList P ops Q (⟨d, .slice ty x lo hi none, k, p, f, g⟩ :: rest) a w) : wpList P ops Q (⟨d, .slice ty x lo hi none, k, p, f, g⟩ :: rest) a w := h
theorem exec_slice (ty : TypeId) (x : Operand) (lo hi : Option Operand) (ho : o.op = .slice ty x lo hi none) {v : Value} (hr : (Instr.sliceAt ty (a.eval x) (lo.map a.eval) (hi.map a.eval) none).run P w = .ok v w) : (execOp a.eval o).run P w = .ok (.value v) w := by
  unfold execOp
  simp only [ho, Option.map_none, Sem.run_bind, hr, Result.andThen_ok, Sem.run_pure]
theorem exec_slice_arr (ty e : TypeId) (x lo : Operand) (ho : o.op = .slice ty x (some lo) none none) (g n l : Nat) (k : IntKind) (hx : a.eval x = .pointer (some ⟨g, 0, none⟩)) (hlo : a.eval lo = .int k (l : Int))
    (hu : P.underlying ty = some (.array n e)) (hs : (P.info? e).map (·.size) = some 1) (hl : l < n) : (execOp a.eval o).run P w = .ok (.value (.slice (some ⟨g, l, none⟩) (n - l) (n - l))) w :=
  exec_slice ty x (some lo) none ho (by rw [hx, Option.map_some, hlo]; exact run_slice_arr ty e g n l k hu hs hl)
theorem exec_slice_hi (ty e : TypeId) (x hi : Operand) (ho : o.op = .slice ty x none (some hi) none) (A : Option Addr) (len cap h : Nat) (k : IntKind) (hx : a.eval x = .slice A len cap) (hhi : a.eval hi = .int k (h : Int))
    (hu : P.underlying ty = some (.slice e)) (hs : (P.info? e).map (·.size) = some 1) (hl : h ≤ cap) : (execOp a.eval o).run P w = .ok (.value (.slice A h cap)) w :=
  exec_slice ty x none (some hi) ho (by rw [hx, Option.map_some, hhi]; exact run_slice_hi ty e A len cap h k hu hs hl)
theorem exec_slice_lo (ty e : TypeId) (x lo : Operand) (ho : o.op = .slice ty x (some lo) none none) (b q len cap l : Nat) (k : IntKind) (hx : a.eval x = .slice (some ⟨b, q, none⟩) len cap) (hlo : a.eval lo = .int k (l : Int))
    (hu : P.underlying ty = some (.slice e)) (hs : (P.info? e).map (·.size) = some 1) (hl : l ≤ len) (hc : l < cap) : (execOp a.eval o).run P w = .ok (.value (.slice (some ⟨b, q + l, none⟩) (len - l) (cap - l))) w :=
  exec_slice ty x (some lo) none ho (by rw [hx, Option.map_some, hlo]; exact run_slice_lo ty e b q len cap l k hu hs hl hc)
end
/-- where a slice's part begins -/
def slA (A : Option Addr) (c l : Nat) : Option Addr := if c = l then A else A.map (·.add (l * 1))
section
variable {P : Program} {w : World}
theorem run_slice_lh (t e : TypeId) (A : Option Addr) (len cap l h : Nat) (k1 k2 : IntKind) (hu : P.underlying t = some (.slice e)) (hs : (P.info? e).map (·.size) = some 1) (hl : l ≤ h) (hh : h ≤ cap) :
    (Instr.sliceAt t (.slice A len cap) (some (.int k1 (l : Int))) (some (.int k2 (h : Int))) none).run P w = .ok (.slice (slA A cap l) (h - l) (cap - l)) w := by
  cases hq : P.info? e with
  | none => simp [hq] at hs
  | some i =>
    have hi : i.size = 1 := by simpa [hq] using hs
    have h1 : (l : Int) ≤ (h : Int) := by omega
    have h2 : (h : Int) ≤ (cap : Int) := by omega
    cases A <;> simp [Instr.sliceAt, Instr.slice, run_underlying hu, Instr.sliceBounds, run_sliceBound, h1, h2, sizeOf, typeInfo, hq, hi, sliced, slA, Result.andThen]
theorem run_slice_from (t e : TypeId) (A : Option Addr) (len cap l : Nat) (k1 : IntKind) (hu : P.underlying t = some (.slice e)) (hs : (P.info? e).map (·.size) = some 1) (hl : l ≤ len) :
    (Instr.sliceAt t (.slice A len cap) (some (.int k1 (l : Int))) none none).run P w = .ok (.slice (slA A cap l) (len - l) (cap - l)) w := by
  cases hq : P.info? e with
  | none => simp [hq] at hs
  | some i =>
    have hi : i.size = 1 := by simpa [hq] using hs
    have h1 : (l : Int) ≤ (len : Int) := by omega
    cases A <;> simp [Instr.sliceAt, Instr.slice, run_underlying hu, Instr.sliceBounds, run_sliceBound, h1, sizeOf, typeInfo, hq, hi, sliced, slA, Result.andThen]
end
section
variable {P : Program} {o : Oper} {a : Act} {w : World}
theorem exec_slice_lh (ty e : TypeId) (x lo hi : Operand) (ho : o.op = .slice ty x (some lo) (some hi) none) (A : Option Addr) (len cap l h : Nat) (k1 k2 : IntKind) (hx : a.eval x = .slice A len cap) (hlo : a.eval lo = .int k1 (l : Int)) (hhi : a.eval hi = .int k2 (h : Int))
    (hu : P.underlying ty = some (.slice e)) (hs : (P.info? e).map (·.size) = some 1) (hl : l ≤ h) (hh : h ≤ cap) : (execOp a.eval o).run P w = .ok (.value (.slice (slA A cap l) (h - l) (cap - l))) w :=
  exec_slice ty x (some lo) (some hi) ho (by rw [hx, Option.map_some, hlo, Option.map_some, hhi]; exact run_slice_lh ty e A len cap l h k1 k2 hu hs hl hh)
theorem exec_slice_from (ty e : TypeId) (x lo : Operand) (ho : o.op = .slice ty x (some lo) none none) (A : Option Addr) (len cap l : Nat) (k1 : IntKind) (hx : a.eval x = .slice A len cap) (hlo : a.eval lo = .int k1 (l : Int))
    (hu : P.underlying ty = some (.slice e)) (hs : (P.info? e).map (·.size) = some 1) (hl : l ≤ len) : (execOp a.eval o).run P w = .ok (.value (.slice (slA A cap l) (len - l) (cap - l))) w :=
  exec_slice ty x (some lo) none ho (by rw [hx, Option.map_some, hlo]; exact run_slice_from ty e A len cap l k1 hu hs hl)
/-- bytes as a string -/
theorem exec_str (src dst e : TypeId) (x : Operand) (ho : o.op = .convert src dst x) (A : Option Addr) (n c : Nat) (l : List UInt8) (B : Nat) (hx : a.eval x = .slice A n c) (hs : P.underlying src = some (.slice e)) (he : P.underlying e = some (.int .u8)) (hd : P.underlying dst = some .string)
    (h : Rd w B 1 A n (bvs l)) : (execOp a.eval o).run P w = .ok (.value (.string (str l))) w := by
  have hr := run_string_rd (P := P) (w := w) src e dst hs he hd (c := c) h
  unfold execOp
  simp only [ho, hx, Sem.run_bind, hr, Result.andThen_ok, Sem.run_pure]
end
theorem Rd.part {w : World} {B n c : Nat} {A : Option Addr} {l : List UInt8} (h : Rd w B 1 A n (bvs l)) (hc : n ≤ c) {lo hi : Nat} (h1 : lo ≤ hi) (h2 : hi ≤ n) : Rd w B 1 (slA A c lo) (hi - lo) (bvs ((l.drop lo).take (hi - lo))) := by
  have hn : l.length = n := by have := h.1; rw [bvs_length] at this; omega
  refine ⟨by rw [bvs_length, List.length_take, List.length_drop]; omega, fun hp => ?_⟩
  obtain ⟨b, o, rfl, hb, hcs⟩ := h.2 (by omega)
  unfold slA
  rw [if_neg (by omega)]
  refine ⟨b, o + lo, by simp [Addr.add_mid], hb, fun j u hu => ?_⟩
  have hj : j < hi - lo := by
    have := (List.getElem?_eq_some_iff.1 hu).1
    rw [bvs_length, List.length_take] at this
    omega
  rw [bvs_get, List.getElem?_take, if_pos hj, List.getElem?_drop, ← bvs_get] at hu
  have := hcs _ _ hu
  rw [show o + lo + j = o + (lo + j) from by omega]
  exact this
theorem Rd.head {w : World} {B n : Nat} {A : Option Addr} {l : List UInt8} (h : Rd w B 1 A n (bvs l)) {hi : Nat} (h2 : hi ≤ n) : Rd w B 1 A hi (bvs (l.take hi)) := by
  have hn : l.length = n := by have := h.1; rw [bvs_length] at this; omega
  refine ⟨by rw [bvs_length, List.length_take]; omega, fun hp => ?_⟩
  obtain ⟨b, o, rfl, hb, hcs⟩ := h.2 (by omega)
  refine ⟨b, o, rfl, hb, fun j u hu => ?_⟩
  have hj : j < hi := by
    have := (List.getElem?_eq_some_iff.1 hu).1
    rw [bvs_length, List.length_take] at this
    omega
  rw [bvs_get, List.getElem?_take, if_pos hj, ← bvs_get] at hu
  exact hcs _ _ hu
end Go.Proofs.YtmhlokehdjnldaaDoor

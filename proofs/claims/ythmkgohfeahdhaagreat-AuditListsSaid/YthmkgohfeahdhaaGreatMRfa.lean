/- The document's groups: how they lie in memory, how much they take. The document's groups: what they take; bytes written, cut: walked. The document's groups: made, written into, cut: walked. -/
import Derived.Test.YthmkgohfeahdhaaGreatMFic
namespace Go.Proofs.YthmkgohfeahdhaaGreat
open Go.RowKit
set_option linter.unusedSimpArgs false
set_option linter.unusedVariables false

/-- an entry of a directory -/
structure EntV where
  name : ByteArray
  num : UInt16
def EntV.cells (e : EntV) : List Value := [.string e.name, .int .u16 (e.num.toNat : Int)]
def flat2 (l : List EntV) : List Value := l.flatMap EntV.cells
/-- a node as it is meant, as it lies -/
structure RNd where
  kind : UInt8
  links : Nat
  gen : UInt16
  A : Option Addr
  l : List UInt8
  c : Nat
  P : Option Addr
  ps : List EntV
  pc : Nat
def RNd.cells (n : RNd) : List Value := [.int .u8 (n.kind.toNat : Int), .int .i64 (n.links : Int), .int .u16 (n.gen.toNat : Int), .slice n.A n.l.length n.c, .slice n.P n.ps.length n.pc]
def flat5 (L : List RNd) : List Value := L.flatMap RNd.cells
def RNd.zero : RNd := ⟨0, 0, 0, none, [], 0, none, [], 0⟩
theorem flat5_length (L : List RNd) : (flat5 L).length = L.length * 5 := by
  induction L with
  | nil => rfl
  | cons n r ih => unfold flat5 at ih ⊢; rw [List.flatMap_cons, List.length_append, ih, List.length_cons]; simp [RNd.cells]; omega
theorem flat5_get : ∀ {L : List RNd} {k j : Nat} {n : RNd}, L[k]? = some n → j < 5 → (flat5 L)[k * 5 + j]? = n.cells[j]?
  | [], k, j, n, h, _ => by simp at h
  | a :: r, 0, j, n, h, hj => by
    obtain rfl : a = n := by simpa using h
    unfold flat5
    rw [List.flatMap_cons, Nat.zero_mul, Nat.zero_add, List.getElem?_append_left (by simp [RNd.cells]; omega)]
  | a :: r, k + 1, j, n, h, hj => by
    have := flat5_get (L := r) (k := k) (j := j) (n := n) (by simpa using h) hj
    unfold flat5 at this ⊢
    rw [List.flatMap_cons, List.getElem?_append_right (by simp [RNd.cells]; omega), ← this]
    congr 1
    simp [RNd.cells]; omega
theorem flat5_set : ∀ {L : List RNd} {k j : Nat} {n n' : RNd} {u : Value}, L[k]? = some n → j < 5 → n.cells.set j u = n'.cells → (flat5 L).set (k * 5 + j) u = flat5 (L.set k n')
  | [], k, j, n, n', u, h, _, _ => by simp at h
  | a :: r, 0, j, n, n', u, h, hj, hu => by
    obtain rfl : a = n := by simpa using h
    unfold flat5
    rw [Nat.zero_mul, Nat.zero_add, List.set_cons_zero, List.flatMap_cons, List.flatMap_cons, ← hu, List.set_append_left]
    simp [RNd.cells]; omega
  | a :: r, k + 1, j, n, n', u, h, hj, hu => by
    have := flat5_set (L := r) (k := k) (j := j) (n := n) (n' := n') (u := u) (by simpa using h) hj hu
    unfold flat5 at this ⊢
    rw [List.set_cons_succ, List.flatMap_cons, List.flatMap_cons, ← this, List.set_append_right _ _ (by simp [RNd.cells]; omega)]
    congr 2
    simp [RNd.cells]; omega
/-- a node's bytes and places lie in memory -/
structure RNd.At (w : World) (n : RNd) : Prop where
  b : w.ownsRow 0 5 1 (.slice n.A n.l.length n.c) n.l.length (bvs n.l)
  p : w.ownsRow 0 125 2 (.slice n.P n.ps.length n.pc) n.ps.length (flat2 n.ps)
theorem own_from {w w' : World} {n sz : Nat} {e : TypeId} {v : Value} {xs : List Value} {S : Nat → Prop} (h : w.ownsRow 0 e sz v n xs) (ht : Tch w.heap.size S w w') (hS : ∀ g cur, Blk w g e cur → ¬ S g) : w'.ownsRow 0 e sz v n xs :=
  own_keep h fun g hg => by
    rcases h.2 with ⟨rfl, _⟩ | ⟨g', cap, cur, rfl, _, hh, _⟩
    · cases hg
    · have e : g' = g := by simpa [Value.ownBlock] using hg
      subst e
      exact ht.block g' (Array.getElem?_eq_some_iff.1 hh).1 (hS g' cur hh)
theorem RNd.At.tch {w w' : World} {n : RNd} {S : Nat → Prop} (h : n.At w) (ht : Tch w.heap.size S w w') (h1 : ∀ g cur, Blk w g 5 cur → ¬ S g) (h2 : ∀ g cur, Blk w g 125 cur → ¬ S g) : n.At w' :=
  ⟨own_from h.b ht h1, own_from h.p ht h2⟩
theorem RNd.At.zero (w : World) : RNd.zero.At w := ⟨World.ownsRow_nil _ _ _ _, World.ownsRow_nil _ _ _ _⟩
/-- a group's nodes lie in a row -/
structure Row5 (w : World) (nb : Nat) (L : List RNd) (cN : Nat) : Prop where
  row : w.ownsRow 0 62 5 (.slice (some ⟨nb, 0, none⟩) L.length cN) L.length (flat5 L)
  all : ∀ n ∈ L, n.At w
/-- a group as it is meant -/
structure GrAt (w : World) (mb nb : Nat) (L : List RNd) (cN : Nat) (T : Option Addr) (tn tc blocks : Nat) : Prop where
  m : Blk w mb 47 #[.slice (some ⟨nb, 0, none⟩) L.length cN, .slice T tn tc, .int .i64 (blocks : Int)]
  r : Row5 w nb L cN
section
variable {w w' : World} {mb nb cN tn tc blocks : Nat} {L : List RNd} {T : Option Addr} {S : Nat → Prop}
theorem Row5.tch (h : Row5 w nb L cN) (ht : Tch w.heap.size S w w') (h0 : ∀ g cur, Blk w g 62 cur → ¬ S g) (h1 : ∀ g cur, Blk w g 5 cur → ¬ S g) (h2 : ∀ g cur, Blk w g 125 cur → ¬ S g) : Row5 w' nb L cN :=
  ⟨own_from h.row ht h0, fun n hn => (h.all n hn).tch ht h1 h2⟩
theorem Row5.below (h : Row5 w nb L cN) (hb : Below w.heap.size w w') : Row5 w' nb L cN := h.tch (Tch.of_below (S := fun _ => False) hb) (fun _ _ _ h => h) (fun _ _ _ h => h) (fun _ _ _ h => h)
theorem GrAt.below (h : GrAt w mb nb L cN T tn tc blocks) (hb : Below w.heap.size w w') : GrAt w' mb nb L cN T tn tc blocks := ⟨h.m.below hb h.m.lt, h.r.below hb⟩
/-- a transaction's calls leave it -/
theorem GrAt.own {i : Ids} {s : Sto} (h : GrAt w mb nb L cN T tn tc blocks) (hx : TxAt w i s) (ht : Tch w.heap.size i.own w w') : GrAt w' mb nb L cN T tn tc blocks :=
  ⟨h.m.tch ht h.m.lt (hx.other h.m (by decide) (by decide) (by decide)), h.r.tch ht (fun g cur hB => hx.other hB (by decide) (by decide) (by decide)) (fun g cur hB => hx.other hB (by decide) (by decide) (by decide)) (fun g cur hB => hx.other hB (by decide) (by decide) (by decide))⟩
theorem Row5.blk (h : Row5 w nb L cN) : ∃ cur : Array Value, Blk w nb 62 cur ∧ ∀ (j : Nat) (v : Value), (flat5 L)[j]? = some v → cur[j]? = some v := by
  rcases h.row.2 with ⟨h0, _⟩ | ⟨g, cap, cur, hv, _, hh, _, _, _, htake⟩
  · cases h0
  · simp only [Value.slice.injEq, Option.some.injEq, Addr.mk.injEq] at hv
    obtain ⟨⟨rfl, _⟩, _, rfl⟩ := hv
    refine ⟨cur, hh, fun j v hj => ?_⟩
    have hjl : j < L.length * 5 := by rw [← flat5_length]; exact (List.getElem?_eq_some_iff.1 hj).1
    have h2 : (cur.toList.take (L.length * 5))[j]? = some v := by rw [htake]; exact hj
    rw [List.getElem?_take, if_pos hjl, Array.getElem?_toList] at h2
    exact h2
theorem Row5.cell (h : Row5 w nb L cN) {k j : Nat} {n : RNd} (hk : L[k]? = some n) (hj : j < 5) : w.cell? ⟨nb, k * 5 + j, none⟩ = n.cells[j]? := by
  obtain ⟨cur, hB, hc⟩ := h.blk
  have h1 := flat5_get hk hj
  have h2 : j < n.cells.length := by simp [RNd.cells]; omega
  rw [List.getElem?_eq_getElem h2] at h1 ⊢
  rw [hB.cell]
  exact hc _ _ h1
theorem Row5.lt (h : Row5 w nb L cN) : nb < w.heap.size := by
  obtain ⟨cur, hB, _⟩ := h.blk
  exact hB.lt
theorem Row5.frozen (h : Row5 w nb L cN) (i : Nat) : w.frozen? ⟨nb, i, none⟩ = false := by
  obtain ⟨cur, hB, _⟩ := h.blk
  exact hB.frozen i
theorem Row5.range (h : Row5 w nb L cN) {k : Nat} {n : RNd} (hk : L[k]? = some n) : w.rangeAt nb (k * 5) n.cells := fun j v hj => by
  have h2 : j < 5 := by have := (List.getElem?_eq_some_iff.1 hj).1; simpa [RNd.cells] using this
  rw [h.cell hk h2]; exact hj
theorem Row5.cap (h : Row5 w nb L cN) : L.length ≤ cN := own_le_cap h.row
end
/-- how long a node is -/
def RNd.size (n : RNd) : Nat := if n.kind = 2 then 16 * n.ps.length else n.l.length
/-- how many blocks a length takes, of pointers too -/
def need2 (len : Nat) : Nat := nkeys (blks len)
def useN (tn k : Nat) (n : RNd) : Nat := if n.kind = 0 then 0 else need2 (if k = 2 then 8 * tn else n.size)
def usedTo (tn : Nat) (L : List RNd) : Nat → Nat
  | 0 => 0
  | k + 1 => usedTo tn L k + if k = 0 then 0 else match L[k]? with
    | none => 0
    | some n => useN tn k n
def nodesTo (L : List RNd) : Nat → Nat
  | 0 => 0
  | k + 1 => nodesTo L k + if k = 0 then 0 else match L[k]? with
    | none => 0
    | some n => if n.kind = 0 then 0 else 1
theorem usedTo_next {tn : Nat} {L : List RNd} {k : Nat} {n : RNd} (hk : 1 ≤ k) (hn : L[k]? = some n) : usedTo tn L (k + 1) = usedTo tn L k + useN tn k n := by
  rw [usedTo, if_neg (by omega), hn]
theorem nodesTo_next {L : List RNd} {k : Nat} {n : RNd} (hk : 1 ≤ k) (hn : L[k]? = some n) : nodesTo L (k + 1) = nodesTo L k + if n.kind = 0 then 0 else 1 := by
  rw [nodesTo, if_neg (by omega), hn]
theorem usedTo_set {tn : Nat} {L : List RNd} {j : Nat} {n n' : RNd} (hj : 1 ≤ j) (hn : L[j]? = some n) : ∀ k, usedTo tn (L.set j n') k + (if j < k then useN tn j n else 0) = usedTo tn L k + (if j < k then useN tn j n' else 0)
  | 0 => by simp [usedTo]
  | k + 1 => by
    have ih := usedTo_set (tn := tn) (n' := n') hj hn k
    have hjl : j < L.length := (List.getElem?_eq_some_iff.1 hn).1
    rw [usedTo, usedTo, List.getElem?_set]
    by_cases e : j = k
    · subst e
      rw [if_neg (show ¬ j < j by omega), if_neg (show ¬ j < j by omega)] at ih
      rw [if_neg (show ¬ j = 0 by omega), if_neg (show ¬ j = 0 by omega), if_pos rfl, if_pos hjl, hn, if_pos (show j < j + 1 by omega), if_pos (show j < j + 1 by omega)]
      simp only
      omega
    · rw [if_neg e]
      have h1 : (j < k + 1) = (j < k) := by rw [eq_iff_iff]; omega
      simp only [h1]
      omega
theorem nodesTo_set {L : List RNd} {j : Nat} {n n' : RNd} (hj : 1 ≤ j) (hn : L[j]? = some n) : ∀ k, nodesTo (L.set j n') k + (if j < k then (if n.kind = 0 then 0 else 1) else 0) = nodesTo L k + (if j < k then (if n'.kind = 0 then 0 else 1) else 0)
  | 0 => by simp [nodesTo]
  | k + 1 => by
    have ih := nodesTo_set (n' := n') hj hn k
    have hjl : j < L.length := (List.getElem?_eq_some_iff.1 hn).1
    rw [nodesTo, nodesTo, List.getElem?_set]
    by_cases e : j = k
    · subst e
      rw [if_neg (show ¬ j < j by omega), if_neg (show ¬ j < j by omega)] at ih
      rw [if_neg (show ¬ j = 0 by omega), if_neg (show ¬ j = 0 by omega), if_pos rfl, if_pos hjl, hn, if_pos (show j < j + 1 by omega), if_pos (show j < j + 1 by omega)]
      simp only
      omega
    · rw [if_neg e]
      have h1 : (j < k + 1) = (j < k) := by rw [eq_iff_iff]; omega
      simp only [h1]
      omega
theorem blks_le (n : Nat) : 64 * blks n < n + 64 ∧ n ≤ 64 * blks n := by unfold blks; omega
set_option maxRecDepth 100000 in
/-- how many blocks a length takes, as the document has it -/
theorem rspread_ok (w : World) {n : Nat} (hn : n ≤ 100000) : Calls Tryz.prog 38 #[.int .i64 (n : Int)] w fun e w' => e = .returned (.tuple #[.int .i64 (blks n : Int), .int .i64 ((nkeys (blks n) - blks n : Nat) : Int)]) ∧ w = w' := by
  obtain ⟨c, hc⟩ : ∃ c, blks n = c := ⟨_, rfl⟩
  have hcv : 64 * c < n + 64 ∧ n ≤ 64 * c := by rw [← hc]; exact blks_le n
  obtain ⟨k, hk⟩ : ∃ k, nkeys c - c = k := ⟨_, rfl⟩
  rw [hc, hk]
  have HC := hide (And.intro hcv hk)
  have hnz : (n : Int) ≤ 100000 := by omega
  clear hc hk hcv
  go_enter Tryz.func38, Tryz.ntmps38
  go_upto_region 2 with (fail)
  go_loopg [4] c (fun gh x4 wr => ∃ d : Nat, d ≤ c ∧ gh = c - d ∧ x4 = .int .i64 (d : Int) ∧ Hid (w = wr))
  case atStart => exact ⟨0, Nat.zero_le _, rfl, rfl, hide rfl⟩
  case round =>
    obtain ⟨d, hd, hgh, rfl, HW⟩ := hrel
    have hww := HW.out
    subst hww
    have HGH := hide hgh
    clear hgh
    have hdz : (d : Int) ≤ 2000 := by have := HC.out.1; omega
    have e1 : IntKind.i64.wrap ((d : Int) * 64) = (d : Int) * 64 := IntWalk.i64_in _ (by omega)
    rcases Nat.lt_or_ge d c with hlt | hge
    · have t1 : decide ((d : Int) * 64 < (n : Int)) = true := by have := HC.out.1; simp; omega
      have t1' : (d : Int) * 64 < (n : Int) := by have := HC.out.1; omega
      have e2 : IntKind.i64.wrap ((d : Int) + 1) = (d : Int) + 1 := IntWalk.i64_in _ (by omega)
      have HL := hide hlt
      clear hlt
      go_wp2
      go_roundg (c - (d + 1))
      case rel => exact ⟨d + 1, by have := HL.out; omega, rfl, by first | rfl | go_num, hide rfl⟩
      case measure => have := HGH.out; have := HL.out; omega
    · have hdc : d = c := by omega
      subst hdc
      have t1 : decide ((d : Int) * 64 < (n : Int)) = false := by have := HC.out.1; simp; omega
      have t1' : ¬ (d : Int) * 64 < (n : Int) := by have := HC.out.1; omega
      have hkk := HC.out.2
      unfold nkeys at hkk
      by_cases h6 : d ≤ 6
      · have t2 : decide (d ≤ 6) = true := by simp; omega
        have t3 : (d : Int) ≤ 6 := by omega
        have hk0 : k = 0 := by rw [if_neg (show ¬ 6 < d by omega), if_neg (show ¬ 38 < d by omega)] at hkk; omega
        clear hkk hge hd h6
        subst hk0
        go_wp2
        go_returns
        exact ⟨rfl, rfl⟩
      · by_cases h38 : d ≤ 38
        · have t2 : decide ((d : Int) ≤ 6) = false := by simp; omega
          have t2' : ¬ (d : Int) ≤ 6 := by omega
          have t3 : (d : Int) ≤ 38 := by omega
          have hk0 : k = 1 := by rw [if_pos (show 6 < d by omega), if_neg (show ¬ 38 < d by omega)] at hkk; omega
          clear hkk hge hd h6 h38
          subst hk0
          go_wp2
          go_returns
          exact ⟨rfl, rfl⟩
        · have t2 : ¬ (d : Int) ≤ 6 := by omega
          have t3 : ¬ (d : Int) ≤ 38 := by omega
          obtain ⟨x, hx⟩ : ∃ x : Nat, (d - 38 + 31) / 32 = x := ⟨_, rfl⟩
          have hk0 : k = 2 + x := by rw [if_pos (show 6 < d by omega), if_pos (show 38 < d by omega)] at hkk; omega
          have HX := hide (And.intro hx hk0)
          have hdg : (38 : Int) < (d : Int) := by omega
          have e3 : IntKind.i64.wrap ((d : Int) - 38) = (d : Int) - 38 := IntWalk.i64_in _ (by omega)
          have hxz : (x : Int) ≤ 2000 := by omega
          clear hkk hge hd h6 h38 hx hk0 HC
          go_wp2_with fail
          go_loopg [5] x (fun gh x5 wr => ∃ m : Nat, m ≤ x ∧ gh = x - m ∧ x5 = .int .i64 (m : Int) ∧ Hid (w = wr))
          case atStart => exact ⟨0, Nat.zero_le _, rfl, rfl, hide rfl⟩
          case round =>
            obtain ⟨m, hm, hgh, rfl, HW⟩ := hrel
            have hww := HW.out
            subst hww
            have HGH := hide hgh
            clear hgh
            have hmz : (m : Int) ≤ 2000 := by omega
            have e4 : IntKind.i64.wrap ((m : Int) * 32) = (m : Int) * 32 := IntWalk.i64_in _ (by omega)
            rcases Nat.lt_or_ge m x with hlt | hge
            · have t4 : (m : Int) * 32 < (d : Int) - 38 := by have := HX.out.1; omega
              have t4' : decide ((m : Int) * 32 < (d : Int) - 38) = true := by simp; omega
              have e5 : IntKind.i64.wrap ((m : Int) + 1) = (m : Int) + 1 := IntWalk.i64_in _ (by omega)
              have HL := hide hlt
              clear hlt
              go_wp2
              go_roundg (x - (m + 1))
              case rel => exact ⟨m + 1, by have := HL.out; omega, rfl, by first | rfl | go_num, hide rfl⟩
              case measure => have := HGH.out; have := HL.out; omega
            · have hmx : m = x := by omega
              subst hmx
              have t4 : ¬ (m : Int) * 32 < (d : Int) - 38 := by have := HX.out.1; omega
              have t4' : decide ((m : Int) * 32 < (d : Int) - 38) = false := by simp; omega
              have hk2 := HX.out.2
              have e5 : IntKind.i64.wrap (2 + (m : Int)) = (k : Int) := by rw [IntWalk.i64_in _ (by omega)]; omega
              clear hk2 hge hm
              go_wp2
              go_returns
              exact ⟨rfl, rfl⟩
end Go.Proofs.YthmkgohfeahdhaaGreat
namespace Go.Proofs.YthmkgohfeahdhaaGreat
open Go.RowKit
set_option linter.unusedSimpArgs false
set_option linter.unusedVariables false

theorem list_seg_take {α : Type} (A vs : List α) (o m : Nat) (h : o + vs.length ≤ m) (hA : m ≤ A.length) : (A.take o ++ vs ++ A.drop (o + vs.length)).take m = (A.take m).take o ++ vs ++ (A.take m).drop (o + vs.length) := by
  apply List.ext_getElem?
  intro j
  have e1 : (A.take o).length = o := by rw [List.length_take]; omega
  have e2 : ((A.take m).take o).length = o := by rw [List.length_take, List.length_take]; omega
  rw [List.getElem?_take]
  rw [List.append_assoc, List.append_assoc]
  by_cases hj : j < m
  · rw [if_pos hj]
    by_cases h1 : j < o
    · rw [List.getElem?_append_left (by omega), List.getElem?_append_left (by omega), List.getElem?_take, List.getElem?_take, List.getElem?_take, if_pos h1, if_pos h1, if_pos hj]
    · rw [List.getElem?_append_right (l₁ := A.take o) (by omega), List.getElem?_append_right (l₁ := (A.take m).take o) (by omega), e1, e2]
      by_cases h2 : j - o < vs.length
      · rw [List.getElem?_append_left h2, List.getElem?_append_left h2]
      · rw [List.getElem?_append_right (by omega), List.getElem?_append_right (by omega), List.getElem?_drop, List.getElem?_drop, List.getElem?_take, if_pos (by omega)]
  · rw [if_neg hj, List.getElem?_eq_none]
    simp only [List.length_append, List.length_take, List.length_drop]
    omega
/-- cells written in an own row -/
theorem own_cells {w : World} {B g n c sz o : Nat} {e : TypeId} {xs vs : List Value} (h : w.ownsRow B e sz (.slice (some ⟨g, 0, none⟩) n c) n xs) (ho : o + vs.length ≤ n * sz) :
    (w.setCells g o vs).ownsRow B e sz (.slice (some ⟨g, 0, none⟩) n c) n (xs.take o ++ vs ++ xs.drop (o + vs.length)) := by
  obtain ⟨hl, h | ⟨g', cap, cur, hv, hg, hh, hn, hcm, hsz, ht⟩⟩ := h
  · cases h.1
  · simp only [Value.slice.injEq, Option.some.injEq, Addr.mk.injEq] at hv
    obtain ⟨⟨rfl, _⟩, _, rfl⟩ := hv
    have hnc : n * sz ≤ c * sz := Nat.mul_le_mul_right _ hn
    have hB : Blk w g e cur := hh
    have h2 := hB.setCells o vs (by omega)
    refine ⟨by simp only [List.length_append, List.length_take, List.length_drop]; omega, .inr ⟨g, c, _, rfl, hg, h2, hn, hcm, ?_, ?_⟩⟩
    · simp only [List.size_toArray, List.length_append, List.length_take, List.length_drop, Array.length_toList]
      omega
    · rw [← ht]
      exact list_seg_take cur.toList vs o (n * sz) ho (by rw [Array.length_toList]; omega)
theorem own_cell1 {w : World} {B g n c sz o : Nat} {e : TypeId} {xs : List Value} {u : Value} (h : w.ownsRow B e sz (.slice (some ⟨g, 0, none⟩) n c) n xs) (ho : o < n * sz) :
    (w.setCell ⟨g, o, none⟩ u).ownsRow B e sz (.slice (some ⟨g, 0, none⟩) n c) n (xs.set o u) := by
  have := own_cells (o := o) (vs := [u]) h (by simp only [List.length_cons, List.length_nil]; omega)
  have e1 : xs.take o ++ [u] ++ xs.drop (o + [u].length) = xs.set o u := by
    rw [List.set_eq_take_append_cons_drop, if_pos (by rw [h.1]; exact ho)]
    simp
  rw [e1] at this
  exact this
theorem flat5_seg {L : List RNd} {k : Nat} (n' : RNd) (hk : k < L.length) : (flat5 L).take (k * 5) ++ n'.cells ++ (flat5 L).drop (k * 5 + n'.cells.length) = flat5 (L.set k n') := by
  induction L generalizing k with
  | nil => simp at hk
  | cons a r ih =>
    have ha : a.cells.length = 5 := rfl
    have hn : n'.cells.length = 5 := rfl
    cases k with
    | zero =>
      unfold flat5
      rw [Nat.zero_mul, List.take_zero, List.nil_append, Nat.zero_add, hn, List.set_cons_zero, List.flatMap_cons, List.flatMap_cons, List.drop_append, ← ha, List.drop_length, Nat.sub_self, List.drop_zero, List.nil_append]
    | succ k =>
      have := ih (k := k) (by simpa using hk)
      unfold flat5 at this ⊢
      rw [List.set_cons_succ, List.flatMap_cons, List.flatMap_cons, ← this, List.take_append, List.drop_append, List.take_of_length_le (by rw [ha]; omega), List.drop_of_length_le (by rw [ha]; omega), List.nil_append]
      rw [show (k + 1) * 5 - a.cells.length = k * 5 from by rw [ha]; omega, show (k + 1) * 5 + n'.cells.length - a.cells.length = k * 5 + n'.cells.length from by rw [ha]; omega]
      simp only [List.append_assoc]
section
variable {w w' : World} {mb nb cN tn tc blocks : Nat} {L : List RNd} {T : Option Addr}
theorem Row5.set1 (h : Row5 w nb L cN) {k j : Nat} {n n' : RNd} {u : Value} (hk : L[k]? = some n) (hj : j < 5) (hu : n.cells.set j u = n'.cells) (hn : n'.At w) : Row5 (w.setCell ⟨nb, k * 5 + j, none⟩ u) nb (L.set k n') cN := by
  have hkl : k < L.length := (List.getElem?_eq_some_iff.1 hk).1
  obtain ⟨cur, hB, _⟩ := h.blk
  have ht : Tch w.heap.size (· = nb) w (w.setCell ⟨nb, k * 5 + j, none⟩ u) := Tch.setCell fun _ => rfl
  have hx : ∀ m : RNd, m.At w → m.At (w.setCell ⟨nb, k * 5 + j, none⟩ u) := fun m hm => hm.tch ht (fun g cur' hB' e => by subst e; exact hB.ne hB' (by decide) rfl) (fun g cur' hB' e => by subst e; exact hB.ne hB' (by decide) rfl)
  refine ⟨?_, fun m hm => ?_⟩
  · have := own_cell1 (u := u) (o := k * 5 + j) h.row (by omega)
    rw [flat5_set hk hj hu] at this
    rw [List.length_set]
    exact this
  · rcases List.mem_or_eq_of_mem_set hm with hm | rfl
    · exact hx m (h.all m hm)
    · exact hx _ hn
theorem Row5.setN (h : Row5 w nb L cN) {k : Nat} {n' : RNd} (hk : k < L.length) (hn : n'.At w) : Row5 (w.setCells nb (k * 5) n'.cells) nb (L.set k n') cN := by
  obtain ⟨cur, hB, _⟩ := h.blk
  have ht : Tch w.heap.size (· = nb) w (w.setCells nb (k * 5) n'.cells) := Tch.setCells (S := (· = nb)) (fun _ => rfl) _ _ _
  have hx : ∀ m : RNd, m.At w → m.At (w.setCells nb (k * 5) n'.cells) := fun m hm => hm.tch ht (fun g cur' hB' e => by subst e; exact hB.ne hB' (by decide) rfl) (fun g cur' hB' e => by subst e; exact hB.ne hB' (by decide) rfl)
  refine ⟨?_, fun m hm => ?_⟩
  · have := own_cells (vs := n'.cells) (o := k * 5) h.row (by have : n'.cells.length = 5 := rfl; omega)
    rw [flat5_seg n' hk] at this
    rw [List.length_set]
    exact this
  · rcases List.mem_or_eq_of_mem_set hm with hm | rfl
    · exact hx m (h.all m hm)
    · exact hx _ hn
theorem Row5.there (h : Row5 w nb L cN) {k : Nat} (hk : k < L.length) : w.there nb (k * 5) 5 := by
  obtain ⟨cur, hB, hc⟩ := h.blk
  refine hB.there ?_
  have h1 := flat5_get (List.getElem?_eq_getElem hk) (show 4 < 5 by omega)
  have h2 := hc _ _ h1
  have := (Array.getElem?_eq_some_iff.1 h2).1
  omega
end
theorem size_rnode (n : RNd) : (Tryz.prog.info? 62).map (·.size) = some n.cells.toArray.size := by
  have : (Tryz.prog.info? 62).map (·.size) = some 5 := by kernel_rfl
  rw [this]; rfl
theorem rnode_one (n : RNd) : n.cells.toArray.all (·.oneCell') = true := by simp [RNd.cells, Value.oneCell']
theorem zero_rnode (w : World) : (zeroValue 62).run Tryz.prog w = .ok (.agg RNd.zero.cells.toArray) w := by kernel_rfl
set_option maxRecDepth 100000 in
theorem rsize_ok (w : World) (n : RNd) (h1 : n.l.length ≤ 100000) (h2 : n.ps.length ≤ 6000) :
    Calls Tryz.prog 154 #[.agg n.cells.toArray] w fun e w' => e = .returned (.int .i64 (n.size : Int)) ∧ Below w.heap.size w w' := by
  obtain ⟨sz, hsz⟩ : ∃ sz, n.size = sz := ⟨_, rfl⟩
  rw [hsz]
  obtain ⟨cs, hcs⟩ : ∃ cs, n.cells.toArray = cs := ⟨_, rfl⟩
  have k0 : cs[0]? = some (.int .u8 (n.kind.toNat : Int)) := by rw [← hcs]; rfl
  have k3 : cs[3]? = some (.slice n.A n.l.length n.c) := by rw [← hcs]; rfl
  have k4 : cs[4]? = some (.slice n.P n.ps.length n.pc) := by rw [← hcs]; rfl
  have hss : (Tryz.prog.info? 62).map (·.size) = some cs.size := by rw [← hcs]; exact size_rnode n
  rw [hcs]
  unfold RNd.size at hsz
  generalize n.l.length = ll at *
  generalize n.ps.length = pl at *
  have hk : (n.kind = 2) ↔ (n.kind.toNat : Int) = 2 := by
    constructor
    · intro h; rw [h]; rfl
    · intro h; exact UInt8.toNat_inj.1 (by have : (2 : UInt8).toNat = 2 := rfl; omega)
  generalize n.kind.toNat = kk at *
  have HS := hide hss
  go_enter Tryz.func154, Tryz.ntmps154
  go_upto_region 1 with (fail)
  refine at_world (fun W => ∃ p, p = w.heap.size ∧ Below w.heap.size w W ∧ Blk W p 62 cs) ⟨_, rfl, (Below.refl _ _).alloc (Nat.le_refl _) _, Blk.new _ _ _⟩ (fun w1 hw1 => ?_)
  obtain ⟨p, hp, hb1, hP⟩ := hw1
  rw [← hp]
  have HB := hide hb1
  have y0 := (hP.cell 0).trans k0
  have y3 := (hP.cell 3).trans k3
  have y4 := (hP.cell 4).trans k4
  have yl := hP.lt
  clear hp hb1 hP k0 k3 k4 hss hcs
  by_cases h : n.kind = 2
  · rw [if_pos h] at hsz
    have t1 : ((kk : Int) == 2) = true := by rw [beq_iff_eq]; exact hk.1 h
    have e1 : IntKind.i64.wrap (16 * (pl : Int)) = (sz : Int) := by rw [IntWalk.i64_in _ (by omega)]; omega
    clear h hk hsz
    go_wp2
    go_returns
    exact ⟨rfl, HB.out⟩
  · rw [if_neg h] at hsz
    have t1 : ((kk : Int) == 2) = false := by rw [beq_eq_false_iff_ne]; exact fun e => h (hk.2 e)
    subst hsz
    clear h hk
    go_wp2
    go_returns
    exact ⟨rfl, HB.out⟩
/-- bounds that a group keeps -/
def Small (L : List RNd) : Prop := L.length ≤ 200 ∧ ∀ n ∈ L, n.l.length ≤ 60000 ∧ n.ps.length ≤ 3000
theorem usedTo_le {tn : Nat} {L : List RNd} (h : Small L) (ht : tn ≤ 6000) : ∀ k, usedTo tn L k ≤ 2000 * k
  | 0 => by simp [usedTo]
  | k + 1 => by
    have ih := usedTo_le h ht k
    rw [usedTo]
    split
    · omega
    · split
      · omega
      · rename_i n hn
        obtain ⟨h1, h2⟩ := h.2 n (List.mem_of_getElem? hn)
        have : useN tn k n ≤ 1100 := by
          unfold useN
          split
          · omega
          · have h3 : (if k = 2 then 8 * tn else n.size) ≤ 60000 := by
              split
              · omega
              · unfold RNd.size; split <;> omega
            generalize (if k = 2 then 8 * tn else n.size) = x at h3
            unfold need2 nkeys blks
            split <;> split <;> omega
        omega
theorem nodesTo_le (L : List RNd) : ∀ k, nodesTo L k ≤ k
  | 0 => Nat.le_refl _
  | k + 1 => by
    have := nodesTo_le L k
    rw [nodesTo]
    split
    · omega
    · split
      · omega
      · split <;> omega
set_option maxRecDepth 100000 in
set_option maxHeartbeats 2000000 in
/-- how much a group takes -/
theorem rused_ok {nb cN tn tc : Nat} {L : List RNd} {T : Option Addr} (w : World) (b : Int) (hR : Row5 w nb L cN) (hS : Small L) (ht : tn ≤ 6000) (hL : 1 ≤ L.length) :
    Calls Tryz.prog 105 #[.agg #[.slice (some ⟨nb, 0, none⟩) L.length cN, .slice T tn tc, .int .i64 b]] w fun e w' => e = .returned (.tuple #[.int .i64 (usedTo tn L L.length : Int), .int .i64 (nodesTo L L.length : Int)]) ∧ Below w.heap.size w w' := by
  obtain ⟨N, hN⟩ : ∃ N, L.length = N := ⟨_, rfl⟩
  have HR := hide hR
  have HS := hide hS
  have HN := hide hN
  have HT := hide ht
  have hN200 : N ≤ 200 := by have := hS.1; omega
  rw [hN] at hL ⊢
  clear hR hS hN ht
  go_enter Tryz.func105, Tryz.ntmps105
  go_upto_region 3 with (fail)
  refine at_world (fun W => ∃ p, p = w.heap.size ∧ Below w.heap.size w W ∧ Blk W p 47 #[.slice (some ⟨nb, 0, none⟩) N cN, .slice T tn tc, .int .i64 b]) ⟨_, rfl, (Below.refl _ _).alloc (Nat.le_refl _) _, Blk.new _ _ _⟩ (fun w1 hw1 => ?_)
  obtain ⟨p, hp, hb1, hP⟩ := hw1
  rw [← hp]
  have HB1 := hide hb1
  have HP1 := hide hP
  have HPW := hide (show w.heap.size ≤ p from Nat.le_of_eq hp.symm)
  clear hp hb1 hP
  go_loopg [4, 5, 6] (N - 1) (fun gh x4 x5 x6 wr => ∃ k : Nat, 1 ≤ k ∧ k ≤ N ∧ gh = N - k ∧ x6 = .int .i64 (k : Int) ∧ x4 = .int .i64 (usedTo tn L k : Int) ∧ x5 = .int .i64 (nodesTo L k : Int) ∧ Hid (Blk wr p 47 #[.slice (some ⟨nb, 0, none⟩) N cN, .slice T tn tc, .int .i64 b]) ∧ Hid (Below w.heap.size w wr))
  case atStart => exact ⟨1, Nat.le_refl _, hL, rfl, rfl, rfl, rfl, HP1, HB1⟩
  case round =>
    obtain ⟨k, hk1, hk, hgh, rfl, rfl, rfl, HP, HB⟩ := hrel
    have HGH := hide hgh
    clear hgh
    have c0 := HP.out.cell 0
    have c1 := HP.out.cell 1
    have pl := HP.out.lt
    rcases Nat.lt_or_ge k N with hlt | hge
    · have t1 : decide ((k : Int) < (N : Int)) = true := by simp; omega
      have t1' : (k : Int) < (N : Int) := by omega
      obtain ⟨n, hn⟩ : ∃ n, L[k]? = some n := ⟨_, List.getElem?_eq_getElem (by rw [HN.out]; exact hlt)⟩
      have hRr := HR.out.below HB.out
      have hn5 := usedTo_next (tn := tn) hk1 hn
      have hn6 := nodesTo_next hk1 hn
      obtain ⟨hs1, hs2⟩ := HS.out.2 n (List.mem_of_getElem? hn)
      have hu := usedTo_le HS.out (tn := tn) (by have := HT.out; omega) k
      have hu2 := nodesTo_le L k
      have hrg := hRr.range hn
      obtain ⟨U, hU⟩ : ∃ U, usedTo tn L k = U := ⟨_, rfl⟩
      obtain ⟨M, hM⟩ : ∃ M, nodesTo L k = M := ⟨_, rfl⟩
      rw [hU] at hn5 hu ⊢
      rw [hM] at hn6 hu2 ⊢
      have HRG := hide hrg
      have HNX := hide (And.intro hn5 hn6)
      have HSS := hide (And.intro hs1 hs2)
      have HUU := hide (And.intro hu hu2)
      have nbl := hRr.lt
      clear hRr hn5 hn6 hs1 hs2 hu hu2 hrg hU hM hn
      go_upto_region 6 with (first | ((with_reducible refine at_load 62 (.tmp 21) ?_); refine wpList_load_mid rfl 62 (.tmp 21) rfl nb (k * 5) (by rfl) n.cells _ HRG.out Tryz.underlying62 rfl (size_rnode n) ?_) | ((with_reducible refine at_alloc 62 ?_); refine wpList_alloc_as rfl 62 rfl _ (zero_rnode _) ?_) | ((with_reducible refine at_store 62 (.tmp 7) (.tmp 22) ?_); refine wpList_store_blk rfl 62 (.tmp 7) (.tmp 22) rfl wr.heap.size _ _ _ (by rfl) (by rfl) (Blk.new _ _ _) (size_rnode n) rfl (rnode_one n) (fun _ => ?_)) | fail)
      refine at_world (fun W => ∃ q, q = wr.heap.size ∧ Below wr.heap.size wr W ∧ Blk W q 62 n.cells.toArray) ⟨_, rfl, below_setRow ((Below.refl _ _).alloc (Nat.le_refl _) _) (Nat.le_refl _) _, (Blk.new _ _ _).setRow_same _⟩ (fun w2 hw2 => ?_)
      obtain ⟨q, hq, hb2, hQ2⟩ := hw2
      rw [← hq]
      have HP2 := hide (HP.out.below hb2 HP.out.lt)
      have HB2 := hide (HB.out.trans (hb2.mono HB.out.size))
      have HQ2 := hide hQ2
      have q0 := hQ2.cell 0
      have ql := hQ2.lt
      have c0 := HP2.out.cell 0
      have c1 := HP2.out.cell 1
      have pl := HP2.out.lt
      rw [show n.cells.toArray[0]? = some (.int .u8 (n.kind.toNat : Int)) from rfl] at q0
      have hk0 : (n.kind = 0) ↔ (n.kind.toNat : Int) = 0 := by
        constructor
        · intro h; rw [h]; rfl
        · intro h; exact UInt8.toNat_inj.1 (by have : (0 : UInt8).toNat = 0 := rfl; omega)
      have e1 : IntKind.i64.wrap ((k : Int) + 1) = (k : Int) + 1 := IntWalk.i64_in _ (by omega)
      clear hq hb2 hQ2 HP HB nbl
      by_cases hk : n.kind = 0
      · have t2 : ((n.kind.toNat : Int) == 0) = true := by rw [beq_iff_eq]; exact hk0.1 hk
        have hnx := HNX.out
        unfold useN at hnx
        rw [if_pos hk, if_pos hk] at hnx
        have HNX2 := hide hnx
        clear hnx hk hk0 HNX hlt
        go_wp2
        go_roundg (N - (k + 1))
        case rel => exact ⟨k + 1, by omega, by omega, rfl, by first | rfl | go_num, by rw [HNX2.out.1]; rfl, by rw [HNX2.out.2]; rfl, HP2, HB2⟩
        case measure => have := HGH.out; omega
      · have t2 : ((n.kind.toNat : Int) == 0) = false := by rw [beq_eq_false_iff_ne]; exact fun e => hk (hk0.2 e)
        have hnx := HNX.out
        unfold useN at hnx
        rw [if_neg hk, if_neg hk] at hnx
        have HNX2 := hide hnx
        have e2 : IntKind.i64.wrap ((M : Int) + 1) = (M : Int) + 1 := IntWalk.i64_in _ (by have := HUU.out; omega)
        clear hnx hk hk0 HNX
        go_wp2_with (first | ((with_reducible refine at_load 62 (.tmp 7) ?_); refine wpList_load_blk rfl 62 (.tmp 7) rfl q _ _ _ (by rfl) HQ2.out Tryz.underlying62 rfl (size_rnode n) ?_) | fail)
        refine (rsize_ok w2 n (by have := HSS.out; omega) (by have := HSS.out; omega)).mono ?_
        rintro e w3 ⟨rfl, hb3⟩
        have HP3 := hide (HP2.out.below hb3 HP2.out.lt)
        have HB3 := hide (HB2.out.trans (hb3.mono HB2.out.size))
        have c0 := HP3.out.cell 0
        have c1 := HP3.out.cell 1
        have pl := HP3.out.lt
        clear hb3 q0 ql HP2 HB2 HQ2
        obtain ⟨x, hx⟩ : ∃ x, (if k = 2 then 8 * tn else n.size) = x := ⟨_, rfl⟩
        rw [hx] at HNX2
        have hx6 : x ≤ 60000 := by
          rw [← hx]
          have := HT.out
          have := HSS.out
          split
          · omega
          · unfold RNd.size; split <;> omega
        have hsp := rspread_ok w3 (n := x) (by omega)
        have hn2 : blks x + (nkeys (blks x) - blks x) = need2 x := by unfold need2; have : blks x ≤ nkeys (blks x) := by unfold nkeys; omega
                                                                      omega
        have hbx : blks x ≤ 1000 := by unfold blks; omega
        have hnx2 : need2 x ≤ 1100 := by unfold need2 nkeys; split <;> split <;> omega
        have HSP := hide hsp
        have HN2 := hide (And.intro hn2 (And.intro hbx hnx2))
        by_cases h2 : k = 2
        · have t3 : ((k : Int) == 2) = true := by simp [h2]
          rw [if_pos h2] at hx
          have e3 : IntKind.i64.wrap (8 * (tn : Int)) = (x : Int) := by rw [IntWalk.i64_in _ (by omega)]; omega
          clear hx hx6 hsp hn2 hbx hnx2 h2 hlt
          go_wp2_with fail
          refine HSP.out.mono ?_
          rintro e w_ ⟨rfl, hw_⟩
          subst hw_
          obtain ⟨hn2, hbx, hnx2⟩ := HN2.out
          have e4 : IntKind.i64.wrap ((U : Int) + (blks x : Int)) = (U : Int) + (blks x : Int) := IntWalk.i64_in _ (by have := HUU.out; omega)
          have e5 : IntKind.i64.wrap ((U : Int) + (blks x : Int) + ((nkeys (blks x) - blks x : Nat) : Int)) = (U : Int) + (need2 x : Int) := by rw [IntWalk.i64_in _ (by have := HUU.out; omega)]; omega
          clear hn2 hbx hnx2
          generalize blks x = bx at *
          go_wp2
          go_roundg (N - (k + 1))
          case rel => exact ⟨k + 1, by omega, by omega, rfl, by first | rfl | go_num, by rw [HNX2.out.1]; rfl, by rw [HNX2.out.2]; rfl, HP3, HB3⟩
          case measure => have := HGH.out; omega
        · have t3 : ((k : Int) == 2) = false := by rw [beq_eq_false_iff_ne]; omega
          rw [if_neg h2] at hx
          clear hx6 hsp hn2 hbx hnx2 h2 hlt
          subst hx
          go_wp2_with fail
          refine HSP.out.mono ?_
          rintro e w_ ⟨rfl, hw_⟩
          subst hw_
          obtain ⟨hn2, hbx, hnx2⟩ := HN2.out
          generalize n.size = x at *
          have e4 : IntKind.i64.wrap ((U : Int) + (blks x : Int)) = (U : Int) + (blks x : Int) := IntWalk.i64_in _ (by have := HUU.out; omega)
          have e5 : IntKind.i64.wrap ((U : Int) + (blks x : Int) + ((nkeys (blks x) - blks x : Nat) : Int)) = (U : Int) + (need2 x : Int) := by rw [IntWalk.i64_in _ (by have := HUU.out; omega)]; omega
          clear hn2 hbx hnx2
          generalize blks x = bx at *
          go_wp2
          go_roundg (N - (k + 1))
          case rel => exact ⟨k + 1, by omega, by omega, rfl, by first | rfl | go_num, by rw [HNX2.out.1]; rfl, by rw [HNX2.out.2]; rfl, HP3, HB3⟩
          case measure => have := HGH.out; omega
    · have hkn : k = N := by omega
      subst hkn
      have t1 : decide ((k : Int) < (k : Int)) = false := by simp
      clear hge hk hL
      go_wp2
      go_returns
      exact ⟨rfl, HB.out⟩
end Go.Proofs.YthmkgohfeahdhaaGreat
namespace Go.Proofs.YthmkgohfeahdhaaGreat
open Go.RowKit
set_option linter.unusedSimpArgs false
set_option linter.unusedVariables false

set_option maxRecDepth 100000 in
/-- has a group more than it may have? -/
theorem rfull_ok {nb cN tn tc blocks : Nat} {L : List RNd} {T : Option Addr} (w : World) (hR : Row5 w nb L cN) (hS : Small L) (ht : tn ≤ 6000) (hL : 1 ≤ L.length) :
    Calls Tryz.prog 82 #[.agg #[.slice (some ⟨nb, 0, none⟩) L.length cN, .slice T tn tc, .int .i64 (blocks : Int)]] w fun e w' => e = .returned (.bool (decide (blocks < usedTo tn L L.length))) ∧ Below w.heap.size w w' := by
  have hu := fun W (hW : Row5 W nb L cN) => rused_ok (T := T) (tc := tc) W (blocks : Int) hW hS ht hL
  generalize L.length = N at *
  generalize usedTo tn L N = U at *
  generalize nodesTo L N = M at *
  have HU := hide hu
  have HR := hide hR
  clear hu hS hR
  go_enter Tryz.func82, Tryz.ntmps82
  go_upto_region 1 with (fail)
  refine at_world (fun W => ∃ p, p = w.heap.size ∧ Below w.heap.size w W ∧ Blk W p 47 #[.slice (some ⟨nb, 0, none⟩) N cN, .slice T tn tc, .int .i64 (blocks : Int)]) ⟨_, rfl, (Below.refl _ _).alloc (Nat.le_refl _) _, Blk.new _ _ _⟩ (fun w1 hw1 => ?_)
  obtain ⟨p, hp, hb1, hP⟩ := hw1
  rw [← hp]
  have HB1 := hide hb1
  have HP1 := hide hP
  have HR1 := hide (HR.out.below hb1)
  have hsz : (Tryz.prog.info? 47).map (·.size) = some (#[Value.slice (some ⟨nb, 0, none⟩) N cN, .slice T tn tc, .int .i64 (blocks : Int)] : Array Value).size := by kernel_rfl
  have HSZ := hide hsz
  clear hp hb1 hP HR hsz
  go_wp2_with (first | ((with_reducible refine at_load 47 (.tmp 1) ?_); refine wpList_load_blk rfl 47 (.tmp 1) rfl p _ _ _ (by rfl) HP1.out Tryz.underlying47 rfl HSZ.out ?_) | fail)
  refine (HU.out w1 HR1.out).mono ?_
  rintro e w2 ⟨rfl, hb2⟩
  have hP2 := HP1.out.below hb2 HP1.out.lt
  have c2 := hP2.cell 2
  have pl := hP2.lt
  have HF := hide (HB1.out.trans (hb2.mono HB1.out.size))
  clear hb2 hP2
  go_wp2
  go_returns
  exact ⟨by first | rfl | (congr 2; simp), HF.out⟩
/-- a group's own node -/
def RNd.own (k : UInt8) : RNd := ⟨k, 1, 1, none, [], 0, none, [], 0⟩
theorem build_rown (w : World) (k : UInt8) : (Instr.build 62 #[(0, .int .u8 (k.toNat : Int)), (1, .int .i64 1), (2, .int .u16 1)]).run Tryz.prog w = .ok (.agg (RNd.own k).cells.toArray) w := by kernel_rfl
def rnewL (nodes : Nat) : List RNd := (((List.replicate (nodes + 1) RNd.zero).set 1 (RNd.own 2)).set 2 (RNd.own 1)).set 3 (RNd.own 1)
theorem rnewL_length (nodes : Nat) : (rnewL nodes).length = nodes + 1 := by simp [rnewL]
theorem info_rnode : ∃ i, Tryz.prog.info? 62 = some i ∧ i.zero = some (.agg RNd.zero.cells.toArray) ∧ i.size = 5 ∧ i.bytes = 72 := by
  have h : (Tryz.prog.info? 62).map (fun i => (i.zero, i.size, i.bytes)) = some (some (.agg RNd.zero.cells.toArray), 5, 72) := by kernel_rfl
  cases hi : Tryz.prog.info? 62 with
  | none => rw [hi] at h; cases h
  | some i =>
    rw [hi] at h
    simp only [Option.map_some, Option.some.injEq, Prod.mk.injEq] at h
    exact ⟨i, rfl, h.1, h.2.1, h.2.2⟩
theorem flat5_rep (n : Nat) : (madeCells (Value.agg RNd.zero.cells.toArray).cells (n * 5)).toList = flat5 (List.replicate n RNd.zero) := by
  apply List.ext_getElem?
  intro j
  by_cases hj : j < n * 5
  · have h1 : (flat5 (List.replicate n RNd.zero))[j]? = RNd.zero.cells[j % 5]? := by
      have := flat5_get (L := List.replicate n RNd.zero) (k := j / 5) (j := j % 5) (n := RNd.zero) (by rw [List.getElem?_replicate, if_pos (by omega)]) (by omega)
      rw [show j / 5 * 5 + j % 5 = j from by omega] at this
      exact this
    rw [h1]
    have h5 : j % 5 = 0 ∨ j % 5 = 1 ∨ j % 5 = 2 ∨ j % 5 = 3 ∨ j % 5 = 4 := by omega
    rcases h5 with h | h | h | h | h <;> simp [madeCells, Value.cells, hj, h, RNd.cells, RNd.zero]
  · rw [List.getElem?_eq_none (by simp [madeCells]; omega), List.getElem?_eq_none (by rw [flat5_length, List.length_replicate]; omega)]
theorem zero_group (w : World) : (zeroValue 47).run Tryz.prog w = .ok (.agg #[.slice none 0 0, .slice none 0 0, .int .i64 0]) w := by kernel_rfl
theorem build_rgroup (w : World) (nb n c : Nat) (b : Int) : (Instr.build 47 #[(0, .slice (some ⟨nb, 0, none⟩) n c), (2, .int .i64 b)]).run Tryz.prog w = .ok (.agg #[.slice (some ⟨nb, 0, none⟩) n c, .slice none 0 0, .int .i64 b]) w := by kernel_rfl
theorem size_rgroup (a b c : Value) : (Tryz.prog.info? 47).map (·.size) = some (#[a, b, c] : Array Value).size := by
  have : (Tryz.prog.info? 47).map (·.size) = some 3 := by kernel_rfl
  rw [this]; rfl
theorem rown_at (w : World) (k : UInt8) : (RNd.own k).At w := ⟨World.ownsRow_nil _ _ _ _, World.ownsRow_nil _ _ _ _⟩
set_option maxRecDepth 100000 in
set_option maxHeartbeats 1000000 in
/-- a group with its own nodes -/
theorem rnew_ok (w : World) {nodes : Nat} (b : Int) (h3 : 3 ≤ nodes) (h200 : nodes ≤ 128) :
    Calls Tryz.prog 19 #[.int .i64 b, .int .i64 (nodes : Int)] w fun e w' => ∃ nb, e = .returned (.agg #[.slice (some ⟨nb, 0, none⟩) (nodes + 1) (nodes + 1), .slice none 0 0, .int .i64 b]) ∧ Row5 w' nb (rnewL nodes) (nodes + 1) ∧ w.heap.size ≤ nb ∧ Below w.heap.size w w' := by
  obtain ⟨i0, hi0, i1, i2, i3⟩ := info_rnode
  have HI := hide (And.intro hi0 (And.intro i1 (And.intro i2 i3)))
  have e1 : IntKind.i64.wrap ((nodes : Int) + 1) = ((nodes + 1 : Nat) : Int) := by rw [IntWalk.i64_in _ (by omega)]; omega
  have HN := hide (And.intro h3 h200)
  obtain ⟨N, hN⟩ : ∃ N, nodes + 1 = N := ⟨_, rfl⟩
  rw [hN] at e1
  have HNN := hide hN
  clear hi0 i1 i2 i3
  rw [hN]
  clear hN h3 h200
  go_enter Tryz.func19, Tryz.ntmps19
  go_upto_region 1 with (first | ((with_reducible refine at_alloc 47 ?_); refine wpList_alloc_as rfl 47 rfl _ (zero_group _) ?_) | fail)
  refine at_world (fun W => ∃ rb, rb = w.heap.size ∧ Below w.heap.size w W ∧ Blk W rb 47 #[.slice none 0 0, .slice none 0 0, .int .i64 0]) ⟨_, rfl, (Below.refl _ _).alloc (Nat.le_refl _) _, Blk.new _ _ _⟩ (fun w1 hw1 => ?_)
  obtain ⟨rb, hrb, hb1, hR1⟩ := hw1
  rw [← hrb]
  have HB1 := hide hb1
  have HR1 := hide hR1
  have HRB := hide (show w.heap.size ≤ rb from Nat.le_of_eq hrb.symm)
  clear hrb hb1 hR1
  go_upto_region 2 with (first | (refine wpList_make_full w1 rfl (.tmp 7) (.tmp 7) 44 rfl w1.heap.size 62 i0 (.agg RNd.zero.cells.toArray) 5 Tryz.underlying44 HI.out.1 HI.out.2.1 HI.out.2.2.1 .i64 .i64 N N N (by rfl) (by rfl) rfl rfl (by rw [HI.out.2.2.2]; have := HN.out; have := HNN.out; omega) (by have := HN.out; have := HNN.out; unfold maxLen; omega) (Nat.le_refl _) (fun w2 ho hg => ?_)) | fail)
  have hb2 : Below w1.heap.size w1 w2 := grown_none hg
  rw [flat5_rep] at ho
  have hR2 : Row5 w2 w1.heap.size (List.replicate N RNd.zero) N := ⟨by rw [List.length_replicate]; exact own_mono ho (Nat.zero_le _), fun n hn => by rw [(List.mem_replicate.1 hn).2]; exact RNd.At.zero _⟩
  refine at_world (fun W => ∃ nb gb, nb = w1.heap.size ∧ gb = w2.heap.size ∧ w1.heap.size ≤ gb ∧ Below w1.heap.size w1 W ∧ Row5 W nb (List.replicate N RNd.zero) N ∧ Blk W gb 47 #[.slice (some ⟨w1.heap.size, 0, none⟩) N N, .slice none 0 0, .int .i64 b]) ⟨_, _, rfl, rfl, hb2.size, hb2.alloc hb2.size _, hR2.below ((Below.refl _ _).alloc (Nat.le_refl _) _), Blk.new _ _ _⟩ (fun w3 hw3 => ?_)
  obtain ⟨nb, gb, hnb, hgb, hgb1, hb3, hR3, hG3⟩ := hw3
  rw [← hgb]
  rw [← hnb] at hG3 ⊢
  have HB3 := hide (HB1.out.trans (hb3.mono HB1.out.size))
  have HR3 := hide hR3
  have HG3 := hide hG3
  have HNB := hide (show w.heap.size ≤ nb from by have := HB1.out.size; omega)
  have HRB3 := hide (HR1.out.below hb3 HR1.out.lt)
  have hGN := hG3.ne (HR3.out.blk.choose_spec.1) (by decide)
  have hRN := HRB3.out.ne (HR3.out.blk.choose_spec.1) (by decide)
  have HNE := hide (And.intro hGN (And.intro hRN (show rb ≠ gb from by have := HR1.out.lt; omega)))
  clear ho hg hb2 hR2 hnb hgb hgb1 hb3 hR3 hG3 HB1 HR1 hGN hRN
  have hN3 : 4 ≤ N := by have := HN.out; have := HNN.out; omega
  have bo2 := fun W => build_rown W 2
  have bo1 := fun W => build_rown W 1
  have z1 : (1 : Int) < (N : Int) := by omega
  have z2 : (2 : Int) < (N : Int) := by omega
  have z3 : (3 : Int) < (N : Int) := by omega
  have c0 := HG3.out.cell 0
  have gl := HG3.out.lt
  go_upto_region 3 with (first | ((with_reducible refine at_build 62 #[(0, .const (.int .u8 2)), (1, .const (.int .i64 1)), (2, .const (.int .u16 1))] ?_); refine wpList_run rfl _ (exec_build 62 #[(0, .const (.int .u8 2)), (1, .const (.int .i64 1)), (2, .const (.int .u16 1))] rfl #[(0, .int .u8 2), (1, .int .i64 1), (2, .int .u16 1)] (by simp only [List.map_toArray, List.map_cons, List.map_nil]; rfl) _ (bo2 _)) ?_) | ((with_reducible refine at_store 62 (.tmp 14) (.tmp 13) ?_); refine wpList_store_mid rfl 62 (.tmp 14) (.tmp 13) rfl nb 5 (RNd.own 2).cells.toArray (by rfl) (by rfl) (HR3.out.there (k := 1) (by simp only [List.length_set, List.length_replicate]; omega)) (size_rnode _) (rnode_one _) ?_) | fail)
  refine at_world (fun W => Below w.heap.size w W ∧ Row5 W nb ((List.replicate N RNd.zero).set 1 (RNd.own 2)) N ∧ Blk W gb 47 #[.slice (some ⟨nb, 0, none⟩) N N, .slice none 0 0, .int .i64 b] ∧ Blk W rb 47 #[.slice none 0 0, .slice none 0 0, .int .i64 0])
    ⟨HB3.out.trans ((((Tch.setCells (S := fun k => w.heap.size ≤ k) (B := w3.heap.size) (fun _ => HNB.out) _ _ _).mono HB3.out.size (S' := fun _ => False) (fun k hk h => by omega))).below fun _ _ h => h), HR3.out.setN (k := 1) (by simp only [List.length_set, List.length_replicate]; omega) (rown_at _ _), HG3.out.tch (Tch.setCells (S := (· = nb)) (fun _ => rfl) _ _ _) HG3.out.lt HNE.out.1, HRB3.out.tch (Tch.setCells (S := (· = nb)) (fun _ => rfl) _ _ _) HRB3.out.lt HNE.out.2.1⟩ (fun w4 hw => ?_)
  obtain ⟨k1, k2, k3, k4⟩ := hw
  have HB4 := hide k1
  have HR4 := hide k2
  have HG4 := hide k3
  have HRB4 := hide k4
  clear k1 k2 k3 k4 c0 gl HB3 HR3 HG3 HRB3
  have c0 := HG4.out.cell 0
  have gl := HG4.out.lt
  go_upto_region 4 with (first | ((with_reducible refine at_build 62 #[(0, .const (.int .u8 1)), (1, .const (.int .i64 1)), (2, .const (.int .u16 1))] ?_); refine wpList_run rfl _ (exec_build 62 #[(0, .const (.int .u8 1)), (1, .const (.int .i64 1)), (2, .const (.int .u16 1))] rfl #[(0, .int .u8 1), (1, .int .i64 1), (2, .int .u16 1)] (by simp only [List.map_toArray, List.map_cons, List.map_nil]; rfl) _ (bo1 _)) ?_) | ((with_reducible refine at_store 62 (.tmp 18) (.tmp 17) ?_); refine wpList_store_mid rfl 62 (.tmp 18) (.tmp 17) rfl nb 10 (RNd.own 1).cells.toArray (by rfl) (by rfl) (HR4.out.there (k := 2) (by simp only [List.length_set, List.length_replicate]; omega)) (size_rnode _) (rnode_one _) ?_) | fail)
  refine at_world (fun W => Below w.heap.size w W ∧ Row5 W nb (((List.replicate N RNd.zero).set 1 (RNd.own 2)).set 2 (RNd.own 1)) N ∧ Blk W gb 47 #[.slice (some ⟨nb, 0, none⟩) N N, .slice none 0 0, .int .i64 b] ∧ Blk W rb 47 #[.slice none 0 0, .slice none 0 0, .int .i64 0])
    ⟨HB4.out.trans ((((Tch.setCells (S := fun k => w.heap.size ≤ k) (B := w4.heap.size) (fun _ => HNB.out) _ _ _).mono HB4.out.size (S' := fun _ => False) (fun k hk h => by omega))).below fun _ _ h => h), HR4.out.setN (k := 2) (by simp only [List.length_set, List.length_replicate]; omega) (rown_at _ _), HG4.out.tch (Tch.setCells (S := (· = nb)) (fun _ => rfl) _ _ _) HG4.out.lt HNE.out.1, HRB4.out.tch (Tch.setCells (S := (· = nb)) (fun _ => rfl) _ _ _) HRB4.out.lt HNE.out.2.1⟩ (fun w5 hw => ?_)
  obtain ⟨k1, k2, k3, k4⟩ := hw
  have HB5 := hide k1
  have HR5 := hide k2
  have HG5 := hide k3
  have HRB5 := hide k4
  clear k1 k2 k3 k4 c0 gl HB4 HR4 HG4 HRB4
  have c0 := HG5.out.cell 0
  have gl := HG5.out.lt
  go_upto_region 5 with (first | ((with_reducible refine at_build 62 #[(0, .const (.int .u8 1)), (1, .const (.int .i64 1)), (2, .const (.int .u16 1))] ?_); refine wpList_run rfl _ (exec_build 62 #[(0, .const (.int .u8 1)), (1, .const (.int .i64 1)), (2, .const (.int .u16 1))] rfl #[(0, .int .u8 1), (1, .int .i64 1), (2, .int .u16 1)] (by simp only [List.map_toArray, List.map_cons, List.map_nil]; rfl) _ (bo1 _)) ?_) | ((with_reducible refine at_store 62 (.tmp 22) (.tmp 21) ?_); refine wpList_store_mid rfl 62 (.tmp 22) (.tmp 21) rfl nb 15 (RNd.own 1).cells.toArray (by rfl) (by rfl) (HR5.out.there (k := 3) (by simp only [List.length_set, List.length_replicate]; omega)) (size_rnode _) (rnode_one _) ?_) | fail)
  refine at_world (fun W => Below w.heap.size w W ∧ Row5 W nb ((((List.replicate N RNd.zero).set 1 (RNd.own 2)).set 2 (RNd.own 1)).set 3 (RNd.own 1)) N ∧ Blk W gb 47 #[.slice (some ⟨nb, 0, none⟩) N N, .slice none 0 0, .int .i64 b] ∧ Blk W rb 47 #[.slice none 0 0, .slice none 0 0, .int .i64 0])
    ⟨HB5.out.trans ((((Tch.setCells (S := fun k => w.heap.size ≤ k) (B := w5.heap.size) (fun _ => HNB.out) _ _ _).mono HB5.out.size (S' := fun _ => False) (fun k hk h => by omega))).below fun _ _ h => h), HR5.out.setN (k := 3) (by simp only [List.length_set, List.length_replicate]; omega) (rown_at _ _), HG5.out.tch (Tch.setCells (S := (· = nb)) (fun _ => rfl) _ _ _) HG5.out.lt HNE.out.1, HRB5.out.tch (Tch.setCells (S := (· = nb)) (fun _ => rfl) _ _ _) HRB5.out.lt HNE.out.2.1⟩ (fun w6 hw => ?_)
  obtain ⟨k1, k2, k3, k4⟩ := hw
  have HB6 := hide k1
  have HR6 := hide k2
  have HG6 := hide k3
  have HRB6 := hide k4
  clear k1 k2 k3 k4 c0 gl HB5 HR5 HG5 HRB5
  have hL : (((List.replicate N RNd.zero).set 1 (RNd.own 2)).set 2 (RNd.own 1)).set 3 (RNd.own 1) = rnewL nodes := by rw [← HNN.out]; rfl
  rw [hL] at HR6
  have hszg := size_rgroup (.slice (some ⟨nb, 0, none⟩) N N) (.slice none 0 0) (.int .i64 b)
  clear hL bo1 bo2
  go_wp2_with (first | ((with_reducible refine at_load 47 (.tmp 5) ?_); refine wpList_load_blk rfl 47 (.tmp 5) rfl gb _ _ _ (by rfl) HG6.out Tryz.underlying47 rfl hszg ?_) | ((with_reducible refine at_store 47 (.tmp 4) (.tmp 23) ?_); refine wpList_store_blk rfl 47 (.tmp 4) (.tmp 23) rfl rb _ _ _ (by rfl) (by rfl) HRB6.out hszg rfl (by simp [Value.oneCell']) (fun hB7 => ?_)) | ((with_reducible refine at_end ?_); refine bodyPost_ret (v := .agg #[.slice (some ⟨nb, 0, none⟩) N N, .slice none 0 0, .int .i64 b]) (results_run1 rfl (ResV.row rfl hB7 Tryz.underlying47 rfl hszg)) rfl ⟨nb, rfl, ?_, HNB.out, below_setRow HB6.out HRB.out _⟩) | fail)
  exact HR6.out.tch (Tch.setRow (S := (· = rb)) (fun _ => rfl)) (fun g cur hB e => by subst e; exact HRB6.out.ne hB (by decide) rfl) (fun g cur hB e => by subst e; exact HRB6.out.ne hB (by decide) rfl) (fun g cur hB e => by subst e; exact HRB6.out.ne hB (by decide) rfl)
/-- a node with other bytes -/
def RNd.with (n : RNd) (A : Option Addr) (l : List UInt8) (c : Nat) : RNd := { n with A := A, l := l, c := c }
section
variable {w w' : World} {mb nb cN tn tc blocks : Nat} {L : List RNd} {T : Option Addr}
theorem rcode_val (b : Nat) (u : Nat) : (if decide (b < u) = true then (10 : Int) else 0) = if b < u then 10 else 0 := by simp
set_option maxRecDepth 100000 in
set_option maxHeartbeats 4000000 in
/-- bytes written at a file's end -/
theorem rwrite_ok {k off cap : Nat} {n : RNd} {A : Option Addr} {data : List UInt8} (h : GrAt w mb nb L cN T tn tc blocks) (hS : Small L) (ht : tn ≤ 6000) (hk : L[k]? = some n) (hk0 : n.kind ≠ 0) (hoff : off ≤ n.l.length) (hend : n.l.length ≤ off + data.length) (hlen : off + data.length ≤ 16384)
    (hR : Rd w w.heap.size 1 A data.length (bvs data)) :
    Calls Tryz.prog 23 #[.pointer (some ⟨mb, 0, none⟩), .int .i64 (k : Int), .int .i64 (off : Int), .slice A data.length cap] w fun e w' => ∃ A' c',
      e = .returned (.int .i64 (if blocks < usedTo tn (L.set k (n.with A' (n.l.take off ++ data) c')) L.length then 10 else 0)) ∧ GrAt w' mb nb (L.set k (n.with A' (n.l.take off ++ data) c')) cN T tn tc blocks ∧ Tch w.heap.size (· = nb) w w' := by
  obtain ⟨i0, hi0, i1, i2, i3⟩ := info_byte
  have HI := hide (And.intro hi0 (And.intro i1 (And.intro i2 i3)))
  have hkl : k < L.length := (List.getElem?_eq_some_iff.1 hk).1
  have hns := hS.2 n (List.mem_of_getElem? hk)
  have hnat := h.r.all n (List.mem_of_getElem? hk)
  have hcap := own_le_cap hnat.b
  have c0 : w.cell? ⟨nb, k * 5, none⟩ = some (.int .u8 (n.kind.toNat : Int)) := h.r.cell hk (j := 0) (by omega)
  have c3 : w.cell? ⟨nb, k * 5 + 3, none⟩ = some (.slice n.A n.l.length n.c) := h.r.cell hk (j := 3) (by omega)
  have nbl := h.r.lt
  have m0 := h.m.cell 0
  have ml := h.m.lt
  obtain ⟨N, hN⟩ : ∃ N, L.length = N := ⟨_, rfl⟩
  have hL200 := hS.1
  rw [hN] at hkl m0 hL200
  obtain ⟨nl, hnl⟩ : ∃ nl, n.l.length = nl := ⟨_, rfl⟩
  rw [hnl] at c3 hoff hend hns hcap
  obtain ⟨dl, hdl⟩ : ∃ dl, data.length = dl := ⟨_, rfl⟩
  rw [hdl] at hend hlen hR ⊢
  have hrn : Rd w w.heap.size 1 n.A off (bvs (n.l.take off)) := by
    have h1 := Rd.of_own hnat.b
    exact h1.head (by omega)
  have H := hide h
  have HS := hide hS
  have HK := hide hk
  have HT := hide ht
  have HNN := hide (And.intro hN (And.intro hnl hdl))
  have HR := hide hR
  have HRN := hide hrn
  have HNP := hide hnat.p
  have kz : ((n.kind.toNat : Int) == 0) = false := by
    rw [beq_eq_false_iff_ne]
    intro e
    exact hk0 (UInt8.toNat_inj.1 (by have : (0 : UInt8).toNat = 0 := rfl; omega))
  have t1 : decide ((off : Int) < 0) = false := by simp
  have t2 : decide (nl < off) = false := by simp; omega
  have e1 : IntKind.i64.wrap (16384 - (off : Int)) = 16384 - (off : Int) := IntWalk.i64_in _ (by omega)
  have t3 : decide (16384 - (off : Int) < (dl : Int)) = false := by simp; omega
  have e2 : IntKind.i64.wrap ((off : Int) + (dl : Int)) = (off : Int) + (dl : Int) := IntWalk.i64_in _ (by omega)
  have t4 : decide ((off : Int) + (dl : Int) < (nl : Int)) = false := by simp; omega
  have hcap2 : off ≤ n.c := by omega
  have HC := hide (And.intro hlen hcap2)
  have hkz : (k : Int) < (N : Int) := by omega
  clear h hS hk ht hN hnl hdl hR hrn hnat hi0 i1 i2 i3 hk0 hns
  go_enter Tryz.func23, Tryz.ntmps23
  go_upto_region 11 with (fail)
  go_upto_region 12 with (first | ((with_reducible refine at_slice 24 (.tmp 77) none (some (.tmp 78)) ?_); refine wpList_run rfl _ (exec_slice_hi 24 5 (.tmp 77) (.tmp 78) rfl n.A nl n.c off .i64 (by rfl) (by rfl) Tryz.underlying24 (by kernel_rfl) HC.out.2) ?_) |
    (at_builtin; refine wpList_append_rd _ rfl (.tmp 73) (.tmp 79) 24 rfl w.heap.size 5 i0 (.int .u8 0) 1 1 Tryz.underlying24 HI.out.1 HI.out.2.1 HI.out.2.2.1 HI.out.2.2.2 rfl (by decide) (.slice (some ⟨w.heap.size, 0, none⟩) 0 0) 0 _ rfl (own_lit rfl (by simp) (by simp) (by simp [maxLen]) rfl) w.heap.size n.A off n.c (bvs (n.l.take off)) rfl (HRN.out.alloc (by simp) _) (bvs_one _) (by have := HC.out; simp only [maxLen]; omega) (by have := HC.out; omega) (by simp) ?_; intro v5 w5 hown5 hg5 hnil5 hat5; obtain ⟨A5, c5, rfl, hnc5, _, _⟩ := own_form hown5; have hb5 : Below w.heap.size w w5 := (((Below.refl _ _).alloc (Nat.le_refl _) _).grown hg5 (by simp) (by simp [Value.ownBlock])); rw [Nat.zero_add, List.nil_append] at hown5; clear hg5 hnil5 hat5) |
    (at_builtin; refine wpList_append_rd _ rfl (.tmp 80) (.tmp 81) 24 rfl w.heap.size 5 i0 (.int .u8 0) 1 1 Tryz.underlying24 HI.out.1 HI.out.2.1 HI.out.2.2.1 HI.out.2.2.2 rfl (by decide) (.slice A5 off c5) off _ (by first | rfl | simp [Act.eval]) hown5 w.heap.size A dl cap (bvs data) rfl (HR.out.below hb5) (bvs_one _) (by have := HC.out; simp only [maxLen]; omega) (by have := HC.out; omega) (by have := hb5.size; omega) ?_; intro v6 w6 hown6 hg6 hnil6 hat6; obtain ⟨A6, c6, rfl, hnc6, _, _⟩ := own_form hown6; have hb6 : Below w.heap.size w w6 := hb5.grown hg6 hb5.size (fun k hk => (hown5.lt k hk).1); have f3 := (hb6.frozen (p := ⟨nb, k * 5 + 3, none⟩) nbl).trans (H.out.r.frozen (k * 5 + 3)); have cc6 := (hb6.cell (p := ⟨nb, k * 5 + 3, none⟩) nbl).trans c3; have m6 := Nat.lt_of_lt_of_le nbl hb6.size; clear hg6 hnil6 hat6) | fail)
  rw [← bvs_append] at hown6
  obtain ⟨hN, hnl, hdl⟩ := HNN.out
  have hlen2 : (n.l.take off ++ data).length = off + dl := by rw [List.length_append, List.length_take, hdl]; omega
  have hcells : n.cells.set 3 (.slice A6 (off + dl) c6) = (n.with A6 (n.l.take off ++ data) c6).cells := by rw [← hlen2]; rfl
  have hat' : (n.with A6 (n.l.take off ++ data) c6).At w6 := ⟨by
    show w6.ownsRow 0 5 1 (.slice A6 (n.l.take off ++ data).length c6) (n.l.take off ++ data).length (bvs (n.l.take off ++ data))
    rw [hlen2]; exact own_mono hown6 (Nat.zero_le _), own_below HNP.out hb6⟩
  have hr7 := (H.out.r.below hb6).set1 HK.out (j := 3) (by omega) hcells hat'
  have hmn := H.out.m.ne H.out.r.blk.choose_spec.1 (by decide)
  have hm7 := (H.out.m.below hb6 H.out.m.lt).far (p := ⟨nb, k * 5 + 3, none⟩) hmn (.slice A6 (off + dl) c6)
  have ht7 : Tch w.heap.size (· = nb) w (w6.setCell ⟨nb, k * 5 + 3, none⟩ (.slice A6 (off + dl) c6)) := (Tch.of_below hb6).trans (Tch.setCell fun _ => rfl)
  obtain ⟨n', hn'⟩ : ∃ n', n.with A6 (n.l.take off ++ data) c6 = n' := ⟨_, rfl⟩
  rw [hn'] at hr7 hcells
  have hS7 : Small (L.set k n') := by
    refine ⟨by rw [List.length_set]; exact HS.out.1, fun m hm => ?_⟩
    rcases List.mem_or_eq_of_mem_set hm with hm | rfl
    · exact HS.out.2 m hm
    · rw [← hn']
      have hx := HS.out.2 n (List.mem_of_getElem? HK.out)
      exact ⟨by show (n.l.take off ++ data).length ≤ 60000; have := HC.out; omega, hx.2⟩
  have hlen7 : (L.set k n').length = N := by rw [List.length_set]; exact hN
  have HRES : Hid (∀ W, Below (w6.setCell ⟨nb, k * 5 + 3, none⟩ (.slice A6 (off + dl) c6)).heap.size (w6.setCell ⟨nb, k * 5 + 3, none⟩ (.slice A6 (off + dl) c6)) W → GrAt W mb nb (L.set k n') cN T tn tc blocks ∧ Tch w.heap.size (· = nb) w W) := hide (fun W hb => by
    refine ⟨⟨?_, hr7.below hb⟩, ht7.trans ((Tch.of_below hb).mono ht7.size fun _ _ h => h)⟩
    rw [hlen7, ← hN]
    exact hm7.below hb hm7.lt)
  rw [hN] at hm7
  have hfu := rfull_ok (T := T) (tc := tc) (blocks := blocks) (w6.setCell ⟨nb, k * 5 + 3, none⟩ (.slice A6 (off + dl) c6)) hr7 hS7 HT.out (by rw [hlen7]; omega)
  rw [hlen7] at hfu
  obtain ⟨W7, hW7⟩ : ∃ W7, w6.setCell ⟨nb, k * 5 + 3, none⟩ (.slice A6 (off + dl) c6) = W7 := ⟨_, rfl⟩
  rw [hW7] at hm7 hfu HRES ⊢
  have HM7 := hide hm7
  have HFU := hide hfu
  have HN' := hide hn'
  have hszg := size_rgroup (.slice (some ⟨nb, 0, none⟩) N cN) (.slice T tn tc) (.int .i64 (blocks : Int))
  have HSZ := hide hszg
  have hres : Hid (N = L.length) := hide hN.symm
  clear hown6 hlen2 hcells hat' hr7 hmn hm7 ht7 hS7 hlen7 hfu hn' hN hnl hdl hW7 hszg cc6 f3 m6 hb6 hown5 hb5 hcap c0 c3 nbl m0 ml hoff hend hlen
  go_wp2_with (first | ((with_reducible refine at_load 47 (.tmp 86) ?_); refine wpList_load_blk rfl 47 (.tmp 86) rfl mb _ _ _ (by rfl) HM7.out Tryz.underlying47 rfl HSZ.out ?_) | fail)
  refine HFU.out.mono ?_
  rintro e w8 ⟨rfl, hb8⟩
  obtain ⟨r1, r2⟩ := HRES.out w8 hb8
  have HR1 := hide r1
  have HR2 := hide r2
  clear r1 r2 hb8 HRES HFU HM7
  obtain ⟨u, hu⟩ : ∃ u, usedTo tn (L.set k n') N = u := ⟨_, rfl⟩
  have HU := hide hu
  rw [hu]
  by_cases hlt : blocks < u
  · have t9 : decide (blocks < u) = true := by simpa using hlt
    have HL := hide hlt
    clear hu hlt
    go_wp2
    go_returns
    exact ⟨A6, c6, by rw [HN'.out, ← hres.out, HU.out, if_pos HL.out]; rfl, by rw [HN'.out]; exact HR1.out, HR2.out⟩
  · have t9 : decide (blocks < u) = false := by simpa using hlt
    have HL := hide hlt
    clear hu hlt
    go_wp2
    go_returns
    exact ⟨A6, c6, by rw [HN'.out, ← hres.out, HU.out, if_neg HL.out]; rfl, by rw [HN'.out]; exact HR1.out, HR2.out⟩
set_option maxRecDepth 100000 in
set_option maxHeartbeats 2000000 in
/-- a file is cut -/
theorem rcut_ok {k size : Nat} {n : RNd} (h : GrAt w mb nb L cN T tn tc blocks) (hL : L.length ≤ 200) (hk : L[k]? = some n) (hk0 : n.kind ≠ 0) (hsz : size ≤ n.l.length) (hl : n.l.length ≤ 60000) :
    Calls Tryz.prog 35 #[.pointer (some ⟨mb, 0, none⟩), .int .i64 (k : Int), .int .i64 (size : Int)] w fun e w' => ∃ A' c', e = .returned (.int .i64 0) ∧ GrAt w' mb nb (L.set k (n.with A' (n.l.take size) c')) cN T tn tc blocks ∧ Tch w.heap.size (· = nb) w w' := by
  obtain ⟨i0, hi0, i1, i2, i3⟩ := info_byte
  have HI := hide (And.intro hi0 (And.intro i1 (And.intro i2 i3)))
  have hkl : k < L.length := (List.getElem?_eq_some_iff.1 hk).1
  have hnat := h.r.all n (List.mem_of_getElem? hk)
  have hcap := own_le_cap hnat.b
  have c0 : w.cell? ⟨nb, k * 5, none⟩ = some (.int .u8 (n.kind.toNat : Int)) := h.r.cell hk (j := 0) (by omega)
  have c3 : w.cell? ⟨nb, k * 5 + 3, none⟩ = some (.slice n.A n.l.length n.c) := h.r.cell hk (j := 3) (by omega)
  have nbl := h.r.lt
  have m0 := h.m.cell 0
  have ml := h.m.lt
  obtain ⟨N, hN⟩ : ∃ N, L.length = N := ⟨_, rfl⟩
  rw [hN] at hkl m0 hL
  obtain ⟨nl, hnl⟩ : ∃ nl, n.l.length = nl := ⟨_, rfl⟩
  rw [hnl] at c3 hsz hcap hl
  have hrn : Rd w w.heap.size 1 n.A size (bvs (n.l.take size)) := (Rd.of_own hnat.b).head (by omega)
  have H := hide h
  have HK := hide hk
  have HNN := hide (And.intro hN hnl)
  have HRN := hide hrn
  have HNP := hide hnat.p
  have kz : ((n.kind.toNat : Int) == 0) = false := by
    rw [beq_eq_false_iff_ne]
    intro e
    exact hk0 (UInt8.toNat_inj.1 (by have : (0 : UInt8).toNat = 0 := rfl; omega))
  have t1 : decide ((size : Int) < 0) = false := by simp
  have t2 : decide (nl < size) = false := by simp; omega
  have hcap2 : size ≤ n.c := by omega
  have HC := hide (And.intro hl (And.intro hcap2 hsz))
  have hkz : (k : Int) < (N : Int) := by omega
  clear h hk hN hnl hrn hnat hi0 i1 i2 i3 hk0
  go_enter Tryz.func35, Tryz.ntmps35
  go_upto_region 6 with (fail)
  go_upto_region 7 with (first | ((with_reducible refine at_slice 24 (.tmp 37) none (some (.tmp 38)) ?_); refine wpList_run rfl _ (exec_slice_hi 24 5 (.tmp 37) (.tmp 38) rfl n.A nl n.c size .i64 (by rfl) (by rfl) Tryz.underlying24 (by kernel_rfl) HC.out.2.1) ?_) |
    (at_builtin; refine wpList_append_rd _ rfl (.tmp 33) (.tmp 39) 24 rfl w.heap.size 5 i0 (.int .u8 0) 1 1 Tryz.underlying24 HI.out.1 HI.out.2.1 HI.out.2.2.1 HI.out.2.2.2 rfl (by decide) (.slice (some ⟨w.heap.size, 0, none⟩) 0 0) 0 _ rfl (own_lit rfl (by simp) (by simp) (by simp [maxLen]) rfl) w.heap.size n.A size n.c (bvs (n.l.take size)) rfl (HRN.out.alloc (by simp) _) (bvs_one _) (by have := HC.out; simp only [maxLen]; omega) (by have := HC.out; omega) (by simp) ?_; intro v5 w5 hown5 hg5 hnil5 hat5; obtain ⟨A5, c5, rfl, hnc5, _, _⟩ := own_form hown5; have hb5 : Below w.heap.size w w5 := (((Below.refl _ _).alloc (Nat.le_refl _) _).grown hg5 (by simp) (by simp [Value.ownBlock])); rw [Nat.zero_add, List.nil_append] at hown5; have f3 := (hb5.frozen (p := ⟨nb, k * 5 + 3, none⟩) nbl).trans (H.out.r.frozen (k * 5 + 3)); have cc6 := (hb5.cell (p := ⟨nb, k * 5 + 3, none⟩) nbl).trans c3; have m6 := Nat.lt_of_lt_of_le nbl hb5.size; clear hg5 hnil5 hat5) | fail)
  obtain ⟨hN, hnl⟩ := HNN.out
  have hlen2 : (n.l.take size).length = size := by rw [List.length_take]; have := HC.out; omega
  have hcells : n.cells.set 3 (.slice A5 size c5) = (n.with A5 (n.l.take size) c5).cells := by
    have : (n.with A5 (n.l.take size) c5).cells = [.int .u8 (n.kind.toNat : Int), .int .i64 (n.links : Int), .int .u16 (n.gen.toNat : Int), .slice A5 (n.l.take size).length c5, .slice n.P n.ps.length n.pc] := rfl
    rw [this, hlen2]; rfl
  have hat' : (n.with A5 (n.l.take size) c5).At w5 := ⟨by
    show w5.ownsRow 0 5 1 (.slice A5 (n.l.take size).length c5) (n.l.take size).length (bvs (n.l.take size))
    rw [hlen2]; exact own_mono hown5 (Nat.zero_le _), own_below HNP.out hb5⟩
  have hr7 := (H.out.r.below hb5).set1 HK.out (j := 3) (by omega) hcells hat'
  have hmn := H.out.m.ne H.out.r.blk.choose_spec.1 (by decide)
  have hm7 := (H.out.m.below hb5 H.out.m.lt).far (p := ⟨nb, k * 5 + 3, none⟩) hmn (.slice A5 size c5)
  have ht7 : Tch w.heap.size (· = nb) w (w5.setCell ⟨nb, k * 5 + 3, none⟩ (.slice A5 size c5)) := (Tch.of_below hb5).trans (Tch.setCell fun _ => rfl)
  have HRES : Hid (GrAt (w5.setCell ⟨nb, k * 5 + 3, none⟩ (.slice A5 size c5)) mb nb (L.set k (n.with A5 (n.l.take size) c5)) cN T tn tc blocks ∧ Tch w.heap.size (· = nb) w (w5.setCell ⟨nb, k * 5 + 3, none⟩ (.slice A5 size c5))) := hide ⟨⟨by rw [List.length_set]; exact hm7, hr7⟩, ht7⟩
  clear hown5 hlen2 hcells hat' hr7 hmn hm7 ht7 hN hnl cc6 f3 m6 hb5 hcap c0 c3 nbl m0 ml
  go_wp2
  go_returns
  exact ⟨A5, c5, rfl, HRES.out.1, HRES.out.2⟩
end
end Go.Proofs.YthmkgohfeahdhaaGreat

/- Configurations: what one answers of names, labels, marks; its sum. -/
import Derived.Test.YtniboffmdkeacaaDoorConfUse
import Derived.Test.YtniboffmdkeacaaDoorConfNew
import Derived.Deep.LoopGhost
import Derived.BigQuiet
namespace Go.Proofs.YtniboffmdkeacaaDoor
open Go.RowKit Go.WideMaps
set_option linter.unusedSimpArgs false
set_option linter.unusedVariables false

theorem namesFrom_at : ∀ (j : Nat) (R : List RegV) (i : Nat) (r : RegV), R[i]? = some r → (namesFrom j R)[i]? = some (skey r.name, .int .i64 ((j + i : Nat) : Int))
  | _, [], _, _, h => by simp at h
  | j, x :: rest, 0, r, h => by simp at h; subst h; simp [namesFrom]
  | j, x :: rest, i + 1, r, h => by
    simp at h
    have := namesFrom_at (j + 1) rest i r h
    simp only [namesFrom, List.getElem?_cons_succ]
    rw [this]
    congr 3
    omega
theorem labelsFrom_at : ∀ (j : Nat) (R : List RegV) (i : Nat) (r : RegV), R[i]? = some r → (labelsFrom j R)[i]? = some ((r.lev, r.cats), .int .i64 ((j + i : Nat) : Int))
  | _, [], _, _, h => by simp at h
  | j, x :: rest, 0, r, h => by simp at h; subst h; simp [labelsFrom]
  | j, x :: rest, i + 1, r, h => by
    simp at h
    have := labelsFrom_at (j + 1) rest i r h
    simp only [labelsFrom, List.getElem?_cons_succ]
    rw [this]
    congr 3
    omega

section
variable {B : Nat} {w w' : World} {c : Nat} {R : List RegV} {K : List MarkV} {tb nb lb : Nat} {A1 A2 A3 : Option Addr} {c1 c2 c3 : Nat}
set_option maxRecDepth 100000 in
theorem named_at (h : ConfIn B w c R K tb nb lb A1 A2 A3 c1 c2 c3) {i : Nat} {r : RegV} (hi : R[i]? = some r) :
    Calls Tryd.prog 33 #[.pointer (some ⟨c, 0, none⟩), .string ⟨r.name.toArray⟩] w fun e w' => e = .returned (.tuple #[.int .i64 (i : Int), .bool true]) ∧ w' = w := by
  have h8 := name_short (h.ok r (List.mem_of_getElem? hi)).1
  have hsz : (⟨r.name.toArray⟩ : ByteArray).size ≤ maxLen := by simp [ByteArray.size, maxLen]; omega
  have hg : mget (namesFrom 0 R) (sk ⟨r.name.toArray⟩ hsz) = some (.int .i64 (i : Int)) := by
    rw [sk_skey]
    have := mget_at h.nm.nodup (namesFrom_at 0 R i r hi)
    simpa using this
  have hlk := look_names h.nm ⟨r.name.toArray⟩ hsz (v := .int .i64 (i : Int)) (b := true) (by rw [hg]; rfl) (by rw [hg]; rfl) w (Below.refl _ _)
  have k3 := h.blk.cell 3
  have kl := h.blk.lt
  clear hg h8 hi h
  go_enter Tryd.func33, Tryd.ntmps33
  go_wp2
  go_returns
  exact ⟨rfl, rfl⟩
set_option maxRecDepth 100000 in
theorem find_at (h : ConfIn B w c R K tb nb lb A1 A2 A3 c1 c2 c3) {i : Nat} {r : RegV} (hi : R[i]? = some r) :
    Calls Tryd.prog 34 #[.pointer (some ⟨c, 0, none⟩), .agg #[.int .u8 (r.lev.toNat : Int), .int .u16 (r.cats.toNat : Int)]] w fun e w' => e = .returned (.tuple #[.int .i64 (i : Int), .bool true]) ∧ Below w.heap.size w w' := by
  have hg : mget (labelsFrom 0 R) (r.lev, r.cats) = some (.int .i64 (i : Int)) := by
    have := mget_at h.lm.nodup (labelsFrom_at 0 R i r hi)
    simpa using this
  have h0 := h
  clear hi h
  go_enter Tryd.func34, Tryd.ntmps34
  go_wp2
  refine at_world (fun W => ∃ g, g = w.heap.size ∧ Below w.heap.size w W ∧ Blk W g 36 #[.int .u8 (r.lev.toNat : Int), .int .u16 (r.cats.toNat : Int)]) ⟨_, rfl, (Below.refl _ _).alloc (Nat.le_refl _) _, Blk.new _ _ _⟩ (fun w1 h1 => ?_)
  obtain ⟨g, eg, hb1, hk⟩ := h1
  rw [← eg]
  have hc1 := h0.below hb1
  have hlk : ∀ W, Below w1.heap.size w1 W → _ := fun W hW => look_labels hc1.lm r.lev r.cats (v := .int .i64 (i : Int)) (b := true) (by rw [hg]; rfl) (by rw [hg]; rfl) W hW
  have k4 := hc1.blk.cell 4
  have kl := hc1.blk.lt
  have z0 := hk.cell 0
  have z1 := hk.cell 1
  have zl := hk.lt
  have HB := hide hb1
  clear hg h0 hc1 hb1 hk eg
  refine wp_region_text [0, 0, 0, 0, 0, 0, 0, 0, 0, 0, 0] (Below w1.heap.size w1) (by kernel_rfl) (by kernel_rfl) (Below.refl _ _).drew ?_
  iterate 11 (refine wpOrd_q (v := ?_) (by rfl) (fun W hW => ?_) ?_; rotate_left; (focus ((obtain ⟨hWc, hWf⟩ := bcell hW); have hq := hlk W hW; go_simp; try with_reducible rfl)); try simp only [Act.put, List.setIfInBounds_toArray, List.set_cons_zero, List.set_cons_succ])
  refine wpOrd_nil ?_
  go_wp2
  go_returns
  exact ⟨rfl, HB.out.drew⟩
set_option maxRecDepth 100000 in
theorem trusted_ok (h : ConfIn B w c R K tb nb lb A1 A2 A3 c1 c2 c3) (m : MarkV) :
    Calls Tryd.prog 35 #[.pointer (some ⟨c, 0, none⟩), .agg #[.int .u8 (m.1.toNat : Int), .int .u16 (m.2.toNat : Int)]] w fun e w' => e = .returned (.bool (decide (m ∈ K))) ∧ Below w.heap.size w w' := by
  have h0 := h
  obtain ⟨dk, hdk⟩ : ∃ dk, decide (m ∈ K) = dk := ⟨_, rfl⟩
  have HDK := hide hdk
  clear h hdk
  go_enter Tryd.func35, Tryd.ntmps35
  go_wp2
  refine at_world (fun W => ∃ g, g = w.heap.size ∧ Below w.heap.size w W ∧ Blk W g 48 #[.int .u8 (m.1.toNat : Int), .int .u16 (m.2.toNat : Int)]) ⟨_, rfl, (Below.refl _ _).alloc (Nat.le_refl _) _, Blk.new _ _ _⟩ (fun w1 h1 => ?_)
  obtain ⟨g, eg, hb1, hk⟩ := h1
  rw [← eg]
  have hc1 := h0.below hb1
  have hlk : ∀ W, Below w1.heap.size w1 W → _ := fun W hW => look_trust hc1.tr m.1 m.2 (b := dk) HDK.out W hW
  have k1 := hc1.blk.cell 1
  have kl := hc1.blk.lt
  have z0 := hk.cell 0
  have z1 := hk.cell 1
  have zl := hk.lt
  have HB := hide hb1
  clear h0 hc1 hb1 hk eg
  cases dk <;>
  ( refine wp_region_text [0, 0, 0, 0, 0, 0, 0, 0, 0, 0, 0] (Below w1.heap.size w1) (by kernel_rfl) (by kernel_rfl) (Below.refl _ _).drew ?_
    iterate 11 (refine wpOrd_q (v := ?_) (by rfl) (fun W hW => ?_) ?_; rotate_left; (focus ((obtain ⟨hWc, hWf⟩ := bcell hW); have hq := hlk W hW; go_simp; try with_reducible rfl)); try simp only [Act.put, List.setIfInBounds_toArray, List.set_cons_zero, List.set_cons_succ])
    refine wpOrd_nil ?_
    go_wp2
    go_returns
    exact ⟨by rw [HDK.out]; rfl, HB.out.drew⟩)
end
end Go.Proofs.YtniboffmdkeacaaDoor

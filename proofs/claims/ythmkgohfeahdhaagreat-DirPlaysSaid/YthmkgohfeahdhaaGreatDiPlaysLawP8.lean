/- Files: bytes written into a file: what comes of it. Files: Write and Read over a file as it is meant. Files: blocks less, plain. Files: the last block goes: walked. Files: Cut: walked. The document's groups: how they lie in memory, how much they take. -/
import Derived.Test.YthmkgohfeahdhaaGreatDiPlaysLawP7
namespace Go.Proofs.YthmkgohfeahdhaaGreat
open Go.RowKit
set_option linter.unusedSimpArgs false
set_option linter.unusedVariables false

/-- a file lies in a group: so many data blocks, where they are, so many bytes -/
structure FileAt (G : GS) (m : Nat) (n : NodeV) (c : Nat) (κ : Nat → Nat) (len : Nat) (f : Nat → UInt8) : Prop where
  tree : Tree G m n (prOf c) κ
  cle : c ≤ 256
  fit : len ≤ 64 * c
  byte : ∀ j, j < len → (G.by_ (κ (j / 64))).getD (j % 64) 0 = f j
/-- so many blocks a length takes -/
def blks (len : Nat) : Nat := (len + 63) / 64
theorem FileAt.rdy {G : GS} {m c len : Nat} {n : NodeV} {κ : Nat → Nat} {f : Nat → UInt8} (h : FileAt G m n c κ len f) {b : Nat} (hb : b < c) : Rdy G m n b ∧ dataP G n b = κ b + 1 :=
  tree_data (by have := h.cle; omega) h.tree (pr_old hb h.cle)
theorem FileAt.fbyte {G : GS} {m c len : Nat} {n : NodeV} {κ : Nat → Nat} {f : Nat → UInt8} (h : FileAt G m n c κ len f) {j : Nat} (hj : j < len) : fbyte G n j = f j := by
  have := h.fit
  unfold Go.Proofs.YthmkgohfeahdhaaGreat.fbyte
  rw [(h.rdy (b := j / 64) (by omega)).2]
  exact h.byte j hj
theorem FileAt.bytes {G : GS} {m c len : Nat} {n : NodeV} {κ : Nat → Nat} {f : Nat → UInt8} (h : FileAt G m n c κ len f) {off l : Nat} (hl : off + l ≤ len) : fbytes G n off l = (List.range l).map fun k => f (off + k) := by
  unfold fbytes
  apply List.map_congr_left
  intro k hk
  exact h.fbyte (by have := List.mem_range.1 hk; omega)
/-- bytes written into bytes, at each place -/
def over (f : Nat → UInt8) (off : Nat) (data : List UInt8) (a j : Nat) : UInt8 := if off ≤ j ∧ j < off + a then data.getD (j - off) 0 else f j
/-- the blocks that may be touched, from one of data on -/
def tkeys (lo n : Nat) : List Nat := 256 :: 257 :: (258 + (lo - 38) / 32) :: (258 + (lo - 38) / 32 + 1) :: (List.range n).map fun k => lo + k
def KL (g : GeoN) (K0 : List Nat) (lo n c : Nat) (κ : Nat → Nat) : List Nat := K0 ++ g.base :: ((tkeys lo n).filter (prOf c)).map fun k => g.data + κ k
theorem tkeys_path {lo n b : Nat} (h1 : lo ≤ b) (h2 : b < lo + n) (hn : n ≤ 32) : ∀ k ∈ pathK b, k ∈ tkeys lo n := by
  have hb : ∀ k, k = b → k ∈ (List.range n).map (fun k => lo + k) := fun k hk => List.mem_map.2 ⟨b - lo, List.mem_range.2 (by omega), by omega⟩
  intro k hk
  rw [pathK_eq] at hk
  unfold tkeys
  simp only [List.mem_cons]
  split at hk
  · simp only [List.mem_cons, List.not_mem_nil, or_false] at hk
    exact .inr (.inr (.inr (.inr (hb k hk))))
  · split at hk
    · simp only [List.mem_cons, List.not_mem_nil, or_false] at hk
      rcases hk with hk | hk
      · exact .inl hk
      · exact .inr (.inr (.inr (.inr (hb k hk))))
    · simp only [List.mem_cons, List.not_mem_nil, or_false] at hk
      rcases hk with hk | hk | hk
      · exact .inr (.inl hk)
      · have : k = 258 + (lo - 38) / 32 ∨ k = 258 + (lo - 38) / 32 + 1 := by omega
        rcases this with h | h
        · exact .inr (.inr (.inl h))
        · exact .inr (.inr (.inr (.inl h)))
      · exact .inr (.inr (.inr (.inr (hb k hk))))
theorem tkeys_more {lo n n' : Nat} (h : n ≤ n') : ∀ k ∈ tkeys lo n, k ∈ tkeys lo n' := by
  intro k hk
  unfold tkeys at hk ⊢
  simp only [List.mem_cons, List.mem_map, List.mem_range] at hk ⊢
  rcases hk with hk | hk | hk | hk | ⟨j, hj, e⟩
  · exact .inl hk
  · exact .inr (.inl hk)
  · exact .inr (.inr (.inl hk))
  · exact .inr (.inr (.inr (.inl hk)))
  · exact .inr (.inr (.inr (.inr ⟨j, by omega, e⟩)))
theorem KL_length (g : GeoN) (K0 : List Nat) (lo n c : Nat) (κ : Nat → Nat) : (KL g K0 lo n c κ).length ≤ K0.length + 1 + (if c ≤ 38 then 1 else 4) + n := by
  unfold KL
  rw [List.length_append, List.length_cons, List.length_map]
  have h1 : ((tkeys lo n).filter (prOf c)).length ≤ (if c ≤ 38 then 1 else 4) + n := by
    unfold tkeys
    have hl := List.length_filter_le (prOf c) ((List.range n).map fun k => lo + k)
    rw [List.length_map, List.length_range] at hl
    by_cases h : c ≤ 38
    · have e1 : prOf c 257 = false := by unfold prOf; rw [decide_eq_false_iff_not]; omega
      have e2 : prOf c (258 + (lo - 38) / 32) = false := by unfold prOf; rw [decide_eq_false_iff_not]; omega
      have e3 : prOf c (258 + (lo - 38) / 32 + 1) = false := by unfold prOf; rw [decide_eq_false_iff_not]; omega
      rw [if_pos h]
      simp only [List.filter_cons, e1, e2, e3]
      cases prOf c 256 <;> simp <;> omega
    · rw [if_neg h]
      simp only [List.filter_cons]
      cases prOf c 256 <;> cases prOf c 257 <;> cases prOf c (258 + (lo - 38) / 32) <;> cases prOf c (258 + (lo - 38) / 32 + 1) <;> simp <;> omega
  omega
theorem KL_more {g : GeoN} {K0 : List Nat} {lo n n' c c' : Nat} {κ κ' : Nat → Nat} (hn : n ≤ n') (he : ∀ k, prOf c k = true → κ' k = κ k ∧ prOf c' k = true) : ∀ x ∈ KL g K0 lo n c κ, x ∈ KL g K0 lo n' c' κ' := by
  intro x hx
  unfold KL at hx ⊢
  simp only [List.mem_append, List.mem_cons, List.mem_map, List.mem_filter] at hx ⊢
  rcases hx with hx | hx | ⟨k, ⟨h1, h2⟩, h3⟩
  · exact .inl hx
  · exact .inr (.inl hx)
  · exact .inr (.inr ⟨k, ⟨tkeys_more hn k h1, (he k h2).2⟩, by rw [(he k h2).1]; exact h3⟩)
theorem needL_KL {g : GeoN} {K0 : List Nat} {lo n n' c c' b : Nat} {κ κ' : Nat → Nat} (hn : n ≤ n') (he : ∀ k, prOf c k = true → κ' k = κ k ∧ prOf c' k = true) (h1 : lo ≤ b) (h2 : b < lo + n') (h32 : n' ≤ 32) (hp : ∀ k ∈ pathK b, prOf c' k = true) :
    ∀ x ∈ needL g (KL g K0 lo n c κ) ((pathK b).map fun k => κ' k + 1), x ∈ KL g K0 lo n' c' κ' := by
  intro x hx
  simp only [needL, List.mem_append, List.mem_cons, List.mem_map] at hx
  rcases hx with hx | hx | ⟨p, ⟨k, hk, rfl⟩, hx⟩
  · exact KL_more hn he x hx
  · unfold KL; rw [hx]; simp
  · unfold KL
    simp only [List.mem_append, List.mem_cons, List.mem_map, List.mem_filter]
    exact .inr (.inr ⟨k, ⟨tkeys_path h1 h2 h32 k hk, hp k hk⟩, by omega⟩)
theorem wrB_getD {bs l : List UInt8} {a j : Nat} (h : a + l.length ≤ bs.length) : (wrB bs a l).getD j 0 = if a ≤ j ∧ j < a + l.length then l.getD (j - a) 0 else bs.getD j 0 := by
  have ht : (bs.take a).length = a := by rw [List.length_take]; omega
  unfold wrB
  simp only [List.getD_eq_getElem?_getD]
  by_cases h1 : j < a
  · rw [if_neg (by omega), List.append_assoc, List.getElem?_append_left (by omega), List.getElem?_take, if_pos h1]
  · by_cases h2 : j < a + l.length
    · rw [if_pos ⟨by omega, h2⟩, List.append_assoc, List.getElem?_append_right (by omega), ht, List.getElem?_append_left (by omega)]
    · rw [if_neg (by omega), List.getElem?_append_right (by simp only [List.length_append]; omega), List.getElem?_drop]
      congr 2
      simp only [List.length_append]
      omega
theorem nkeys_mono {a b : Nat} (h : a ≤ b) : nkeys a ≤ nkeys b := by
  unfold nkeys
  by_cases h1 : 6 < a <;> by_cases h2 : 38 < a <;> by_cases h3 : 6 < b <;> by_cases h4 : 38 < b <;> simp only [h1, h2, h3, h4, if_true, if_false] <;> omega
/-- how far writing has come -/
structure WrAt (G0 : GS) (m : Nat) (n0 : NodeV) (c sz : Nat) (κ0 : Nat → Nat) (f : Nat → UInt8) (off : Nat) (data : List UInt8) (g : GeoN) (K0 : List Nat) (a : Nat) (G : GS) (n : NodeV) (K : List Nat) (κ : Nat → Nat) : Prop where
  file : FileAt G m n (max c (blks (off + a))) κ (max sz (off + a)) (over f off data a)
  kept : Kept G0 G (prOf c) (prOf (max c (blks (off + a)))) κ0 κ
  fresh : ∀ k, prOf (max c (blks (off + a))) k = true → prOf c k = false → G0.tk (κ k) = false
  same : n0.same n
  cnt : G.cnt m + nkeys c = G0.cnt m + nkeys (max c (blks (off + a)))
  keys : K = KL g K0 (off / 64) (blks (off + a) - off / 64) (max c (blks (off + a))) κ
  al : a = data.length ∨ a = 0 ∨ (off + a) % 64 = 0
  ale : a ≤ data.length
theorem NodeV.same.trans {a b c : NodeV} (h : a.same b) (h' : b.same c) : a.same c := ⟨h'.1.trans h.1, h'.2.1.trans h.2.1, h'.2.2.1.trans h.2.2.1, h'.2.2.2.trans h.2.2.2⟩
theorem wr_step {G0 G : GS} {m c sz off a : Nat} {n0 n : NodeV} {κ0 κ : Nat → Nat} {f : Nat → UInt8} {data : List UInt8} {g : GeoN} {K0 K : List Nat} (h : WrAt G0 m n0 c sz κ0 f off data g K0 a G n K κ) (ha : a < data.length)
    (hm : m ≤ 512) (h32 : blks (off + data.length) - off / 64 ≤ 32) (hl : off + data.length ≤ 16384) (hos : off ≤ sz) (hsc : sz ≤ 64 * c) :
    needROk m n (wayOf ((off + a) / 64)) G ∧ ∀ e V G1 n1, needR m n (wayOf ((off + a) / 64)) G = (e, V, G1, n1) →
      (e ≠ 0 → e = 10 ∧ m + nkeys c < G0.cnt m + nkeys (max c (blks (off + data.length)))) ∧
      (e = 0 → 1 ≤ lastP V ∧ lastP V ≤ m ∧ lastP V ∈ V ∧ ∃ K' κ', (∀ x ∈ needL g K V, x ∈ K') ∧ WrAt G0 m n0 c sz κ0 f off data g K0 (a + wrK off data.length a) (wrG G1 off data a (lastP V)) n1 K' κ') := by
  have hb256 : (off + a) / 64 < 256 := by omega
  obtain ⟨hok, hres⟩ := need_tree hm hb256 h.file.tree h.kept.ok
  refine ⟨hok, fun e V G1 n1 he => ?_⟩
  obtain ⟨C, hC⟩ : ∃ C, max c (blks (off + a)) = C := ⟨_, rfl⟩
  obtain ⟨kk, hkk⟩ : ∃ kk, wrK off data.length a = kk := ⟨_, rfl⟩
  obtain ⟨C', hC'⟩ : ∃ C', max c (blks (off + (a + kk))) = C' := ⟨_, rfl⟩
  have hk2 : kk = min (64 - (off + a) % 64) (data.length - a) := by rw [← hkk]; rfl
  have hbC : (off + a) / 64 ≤ C := by
    rcases h.al with h1 | h1 | h1 <;> unfold blks at hC <;> omega
  have hcase : ((off + a) / 64 < C ∧ C' = C) ∨ ((off + a) / 64 = C ∧ C' = C + 1 ∧ (off + a) % 64 = 0) := by
    unfold blks at hC hC'
    rcases h.al with h1 | h1 | h1
    · omega
    · rcases Nat.lt_or_ge ((off + a) / 64) C with h2 | h2
      · left; omega
      · right; omega
    · rcases Nat.lt_or_ge ((off + a) / 64) C with h2 | h2
      · left; omega
      · right; omega
  have hC256 : C' ≤ 256 := by
    have := h.file.cle
    rw [hC] at this
    rcases hcase with h1 | h1 <;> omega
  have hCm : C' ≤ max c (blks (off + data.length)) := by unfold blks at hC' ⊢; omega
  have hmiss : missing (prOf C) (pathK ((off + a) / 64)) + nkeys C = nkeys C' := by
    rcases hcase with ⟨h1, h2⟩ | ⟨h1, h2, -⟩
    · rw [missing_zero (pr_old h1 (by omega)), h2]; omega
    · rw [h1, h2]; have := missing_new (c := C) (by omega); omega
  have hpr : ∀ k, prOf C' k = (prOf C k || decide (k ∈ pathK ((off + a) / 64))) := fun k => by
    rcases hcase with ⟨h1, h2⟩ | ⟨h1, h2, -⟩
    · rw [h2]
      by_cases hk : k ∈ pathK ((off + a) / 64)
      · rw [pr_old h1 (by omega) k hk]; rfl
      · simp [hk]
    · rw [h1, h2]; exact pr_new (by omega) k
  have hcnt := h.cnt
  have hfile := h.file
  have hfresh := h.fresh
  have hkept := h.kept
  have hkeys := h.keys
  rw [hC] at hres hcnt hfile hfresh hkept hkeys
  obtain ⟨b, hb⟩ : ∃ b, (off + a) / 64 = b := ⟨_, rfl⟩
  rw [hb] at hres hcase hmiss hpr hbC hb256 he
  rcases hres e V G1 n1 he with ⟨h1, h2⟩ | ⟨h1, pr', κ1, hT, hgr, hp', hnew, hV, hc1, hsame⟩
  · refine ⟨fun _ => ⟨h1, ?_⟩, fun h0 => by omega⟩
    have hcl := cnt_le_ G m
    have := nkeys_mono hCm
    omega
  · refine ⟨fun h0 => absurd h1 h0, fun _ => ?_⟩
    have hpe : pr' = prOf C' := by funext k; rw [hp', hpr]
    subst hpe
    have hbK : b ∈ pathK b := by rw [pathK_eq]; split; simp; split <;> simp
    have hpb : prOf C' b = true := by rw [hpr]; simp [hbK]
    have hlast : lastP V = κ1 b + 1 := by rw [hV, lastP_path]
    have hown := (hT.own b hpb).1
    have hbl : (G1.by_ (κ1 b)).length = 64 := hgr.ok.len _
    have hchl : ((data.drop a).take kk).length = kk := by rw [List.length_take, List.length_drop]; omega
    have hwl : (wrB (G1.by_ (κ1 b)) ((off + a) % 64) ((data.drop a).take kk)).length = 64 := by rw [wrB_length (by rw [hchl]; omega)]; exact hbl
    have hwg : wrG G1 off data a (lastP V) = G1.put (κ1 b) (wrB (G1.by_ (κ1 b)) ((off + a) % 64) ((data.drop a).take kk)) := by unfold wrG; rw [hlast, hkk]; rfl
    have hfr2 : ∀ k, prOf C' k = true → prOf c k = false → G0.tk (κ1 k) = false := fun k k1 k2 => by
      cases hx : prOf C k with
      | true => rw [(hgr.eq k hx).1]; exact hfresh k hx k2
      | false =>
        have := (hnew k k1 hx).1
        cases hy : G0.tk (κ1 k) with
        | false => rfl
        | true => rw [hkept.tk _ hy] at this; cases this
    have hk1 := hkept.grown hfresh hgr
    have hold : ∀ q, q < C → G1.by_ (κ1 q) = G.by_ (κ q) := fun q hq => by
      have hpq : prOf C q = true := by unfold prOf; rw [decide_eq_true_iff]; exact .inl hq
      rw [(hgr.eq q hpq).1]
      exact hgr.by_ _ ((hfile.tree.own q hpq).2) (fun k k1 k2 e => by have := hfile.tree.inj k q k1 hpq e; omega)
    refine ⟨by omega, by omega, by rw [hlast, hV]; exact List.mem_map.2 ⟨b, hbK, rfl⟩, KL g K0 (off / 64) (blks (off + (a + kk)) - off / 64) C' κ1, κ1, ?_, ?_⟩
    · rw [hkeys, hV]
      refine needL_KL (by unfold blks; omega) (fun k hk => hgr.eq k hk) (by omega) ?_ (by unfold blks at h32 ⊢; omega) (fun k hk => by rw [hpr]; simp [hk])
      unfold blks
      omega
    · rw [hwg, hkk]
      refine ⟨⟨?_, ?_, ?_, fun j hj => ?_⟩, ?_, ?_, h.same.trans hsame, ?_, ?_, ?_, by omega⟩
      · rw [hC']; exact hT.putData hb256 hpb _
      · rw [hC']; exact hC256
      · rw [hC']; unfold blks at hC'; omega
      · have hj64 : j / 64 < C' := by unfold blks at hC'; omega
        have hpj : prOf C' (j / 64) = true := by unfold prOf; rw [decide_eq_true_iff]; exact .inl hj64
        by_cases hjb : j / 64 = b
        · rw [hjb]
          have e1 : (G1.put (κ1 b) (wrB (G1.by_ (κ1 b)) ((off + a) % 64) ((data.drop a).take kk))).by_ (κ1 b) = wrB (G1.by_ (κ1 b)) ((off + a) % 64) ((data.drop a).take kk) := upd_same _ _ _
          rw [e1, wrB_getD (by rw [hchl]; omega), hchl]
          unfold over
          by_cases hin : (off + a) % 64 ≤ j % 64 ∧ j % 64 < (off + a) % 64 + kk
          · rw [if_pos hin, if_pos (by omega)]
            simp only [List.getD_eq_getElem?_getD]
            rw [List.getElem?_take, if_pos (by omega), List.getElem?_drop]
            congr 2
            omega
          · rw [if_neg hin]
            rcases hcase with ⟨k1, k2⟩ | ⟨k1, k2, k3⟩
            · rw [hold b k1, ← hjb, hfile.byte j (by omega)]
              unfold over
              by_cases hx : off ≤ j ∧ j < off + a
              · rw [if_pos hx, if_pos (by omega)]
              · rw [if_neg hx, if_neg (by omega)]
            · exfalso; omega
        · have hne : κ1 (j / 64) ≠ κ1 b := fun e => hjb (hT.inj _ _ hpj hpb e)
          have e1 : (G1.put (κ1 b) (wrB (G1.by_ (κ1 b)) ((off + a) % 64) ((data.drop a).take kk))).by_ (κ1 (j / 64)) = G1.by_ (κ1 (j / 64)) := upd_other _ _ hne
          have hjC : j / 64 < C := by rcases hcase with ⟨k1, k2⟩ | ⟨k1, k2, k3⟩ <;> omega
          rw [e1, hold _ hjC, hfile.byte j (by omega)]
          unfold over
          by_cases hx : off ≤ j ∧ j < off + a
          · rw [if_pos hx, if_pos (by omega)]
          · rw [if_neg hx, if_neg (by omega)]
      · rw [hC']; exact hk1.put hfr2 hpb hwl
      · rw [hC']; exact hfr2
      · rw [hC', put_cnt]; omega
      · rw [hC']
      · unfold wrK at hkk; omega
end Go.Proofs.YthmkgohfeahdhaaGreat
namespace Go.Proofs.YthmkgohfeahdhaaGreat
open Go.RowKit
set_option linter.unusedSimpArgs false
set_option linter.unusedVariables false

theorem Tree.grow {G : GS} {m : Nat} {n : NodeV} {pr : Nat → Bool} {κ : Nat → Nat} (h : Tree G m n pr κ) (num x : Nat) : Tree (G.set num (n.grow x)) m (n.grow x) pr κ :=
  ⟨h.dir, h.rng, h.cls, h.top, h.sub, h.own, h.inj⟩
/-- what a call on a file leaves of the group's other blocks and nodes -/
structure Left (G G' : GS) (num : Nat) (pr pr' : Nat → Bool) (κ κ' : Nat → Nat) : Prop where
  nd : ∀ k, k ≠ num → G'.nd k = G.nd k
  by_ : ∀ x, G.tk x = true → (∀ c, pr c = true → κ c ≠ x) → G'.by_ x = G.by_ x
  tk : ∀ x, G.tk x = true → G'.tk x = true
  new : ∀ x, G'.tk x = true → G.tk x = true ∨ ∃ c, pr' c = true ∧ pr c = false ∧ κ' c = x
  fresh : ∀ c, pr' c = true → pr c = false → G.tk (κ' c) = false
  old : ∀ c, pr c = true → κ' c = κ c ∧ pr' c = true
/-- what a call in a transaction leaves of it -/
structure Stay (s s' : Sto) (g : GeoN) : Prop where
  D : s'.D = s.D
  bad : s'.bad = s.bad
  far : ∀ m, (m < g.base ∨ g.data + g.blocks ≤ m) → s'.at_ m = s.at_ m
theorem grow_size {n : NodeV} {x : Nat} (h : max n.size.toNat x < 4294967296) : (n.grow x).size.toNat = max n.size.toNat x := by
  unfold NodeV.grow
  simp only
  rw [UInt32.toNat_ofNat', Nat.mod_eq_of_lt (by omega)]
section
variable {w w' : World} {i : Ids} {s : Sto} {gg : Nat} {g : GeoN} {lab : Int} {G : GS} {K0 : List Nat}
theorem write_file {num off cap c sz : Nat} {A : Option Addr} {data : List UInt8} {κ : Nat → Nat} {f : Nat → UInt8} (h : GAt w i s gg g lab G) (hK0 : s.In K0) (h1 : 1 ≤ num) (h2 : num ≤ g.nodes) (hb5 : g.blocks ≤ 512)
    (hk : (G.nd num).kind ≠ 0) (hsz : (G.nd num).size.toNat = sz) (hf : FileAt G g.blocks (G.nd num) c κ sz f) (hoff : off ≤ sz) (hlen : off + data.length ≤ 16384) (hs16 : sz ≤ 16384) (hc : data.length ≤ cap) (hR : Rd w w.heap.size 1 A data.length (bvs data)) (hA : ∀ b, A = some b → ¬ i.own b.block)
    (h32 : blks (off + data.length) - off / 64 ≤ 32) (hKl : K0.length + 1 + (if max c (blks (off + data.length)) ≤ 38 then 1 else 4) + (blks (off + data.length) - off / 64) ≤ 22)
    (hcb : blks off ≤ c) (hck : ∀ n', (G.nd num).same n' → n'.dir.length = 6 → checkN (n'.grow (off + data.length)) = true) :
    Calls Tryz.prog 33 #[.pointer (some ⟨gg, 0, none⟩), .int .i64 (num : Int), .int .i64 (off : Int), .slice A data.length cap] w fun e w' =>
      (e = .returned (.int .i64 10) ∧ g.blocks + nkeys c < G.cnt g.blocks + nkeys (max c (blks (off + data.length))) ∧ ∃ s' G', GAt w' i s' gg g lab G' ∧ Stay s s' g ∧ Tch w.heap.size i.own w w') ∨
      (e = .returned (.int .i64 0) ∧ ∃ s' G' κ', GAt w' i s' gg g lab G' ∧ FileAt G' g.blocks (G'.nd num) (max c (blks (off + data.length))) κ' (max sz (off + data.length)) (over f off data data.length) ∧ (G'.nd num).size.toNat = max sz (off + data.length) ∧ (G'.nd num).kind = (G.nd num).kind ∧ (G'.nd num).links = (G.nd num).links ∧ (G'.nd num).gen = (G.nd num).gen ∧
        Left G G' num (prOf c) (prOf (max c (blks (off + data.length)))) κ κ' ∧ G'.cnt g.blocks + nkeys c = G.cnt g.blocks + nkeys (max c (blks (off + data.length))) ∧
        s'.In (KL g K0 (off / 64) (blks (off + data.length) - off / 64) (max c (blks (off + data.length))) κ' ++ [g.base + g.bitmap + (num - 1) / 2]) ∧ Stay s s' g ∧ Tch w.heap.size i.own w w') := by
  have hfit := hf.fit
  have hc0 : max c (blks (off + 0)) = c := by rw [Nat.add_zero]; omega
  have hm0 : max sz (off + 0) = sz := by omega
  have hst : WrAt G g.blocks (G.nd num) c sz κ f off data g K0 0 G (G.nd num) (KL g K0 (off / 64) (blks (off + 0) - off / 64) (max c (blks (off + 0))) κ) κ := by
    refine ⟨?_, ?_, fun k k1 k2 => ?_, ⟨rfl, rfl, rfl, rfl⟩, ?_, rfl, .inr (.inl rfl), Nat.zero_le _⟩
    · rw [hc0, hm0]
      exact ⟨hf.tree, hf.cle, hf.fit, fun j hj => by rw [hf.byte j hj]; unfold over; rw [if_neg (by omega)]⟩
    · rw [hc0]; exact Kept.refl h.gok _ _
    · rw [hc0, k2] at k1; cases k1
    · rw [hc0]
  have hKlen : ∀ a, a ≤ data.length → ∀ κ', (KL g K0 (off / 64) (blks (off + a) - off / 64) (max c (blks (off + a))) κ').length ≤ 22 := fun a ha κ' => by
    have := KL_length g K0 (off / 64) (blks (off + a) - off / 64) (max c (blks (off + a))) κ'
    have h1 : blks (off + a) ≤ blks (off + data.length) := by unfold blks; omega
    by_cases hx : max c (blks (off + data.length)) ≤ 38
    · rw [if_pos hx] at hKl
      rw [if_pos (by omega)] at this
      omega
    · rw [if_neg hx] at hKl
      split at this <;> omega
  refine (write_walk (K0 := KL g K0 (off / 64) (blks (off + 0) - off / 64) (max c (blks (off + 0))) κ) (fun a G' n K => ∃ κ', WrAt G g.blocks (G.nd num) c sz κ f off data g K0 a G' n K κ') (fun e => e = 10 ∧ g.blocks + nkeys c < G.cnt g.blocks + nkeys (max c (blks (off + data.length))))
    h (hK0.mono fun x hx => by unfold KL; exact List.mem_append_left _ hx) h1 h2 hb5 hk (by rw [hsz]; exact hoff) (by rw [hsz]; exact hs16) hlen hc hR hA ⟨κ, hst⟩ ?_ ?_ ?_).mono ?_
  · rintro a G' n K ha ⟨κ', hw⟩
    exact ⟨(wr_step hw ha hb5 h32 hlen hoff hfit).1, hw.file.tree.dir, by rw [hw.keys]; exact hKlen a hw.ale κ'⟩
  · rintro a G' n K e V G1 n1 ha ⟨κ', hw⟩ he
    obtain ⟨k1, k2⟩ := (wr_step hw ha hb5 h32 hlen hoff hfit).2 e V G1 n1 he
    refine ⟨k1, fun h0 => ?_⟩
    obtain ⟨p1, p2, p3, K', κ'', p4, p5⟩ := k2 h0
    exact ⟨p1, p2, p3, K', p4, κ'', p5⟩
  · rintro G' n K ⟨κ', hw⟩
    exact ⟨hw.file.tree.dir, hw.same.2.2.2, by rw [hw.keys]; have := hKlen data.length (Nat.le_refl _) κ'; omega, hck n hw.same hw.file.tree.dir⟩
  · rintro e w' (⟨x, ⟨rfl, hx⟩, he, s', G', k1, k2, k3, k4, k5⟩ | ⟨he, s', G', n', K', ⟨κ', hw⟩, k1, k2, k3, k4, k5, k6⟩)
    · exact .inl ⟨he, hx, s', G', k1, ⟨k2, k3, k4⟩, k5⟩
    · refine .inr ⟨he, s', _, κ', k1, ?_, ?_, ?_, ?_, ?_, ⟨fun k hk => ?_, hw.kept.by_, hw.kept.tk, hw.kept.new, hw.fresh, hw.kept.eq⟩, hw.cnt, ?_, ⟨k3, k4, k5⟩, k6⟩
      · have e1 : (G'.set num (n'.grow (off + data.length))).nd num = n'.grow (off + data.length) := upd_same _ _ _
        rw [e1]
        exact ⟨hw.file.tree.grow num _, hw.file.cle, hw.file.fit, hw.file.byte⟩
      · have e1 : (G'.set num (n'.grow (off + data.length))).nd num = n'.grow (off + data.length) := upd_same _ _ _
        rw [e1, grow_size (by rw [hw.same.2.2.2, hsz]; omega), hw.same.2.2.2, hsz]
      · exact (congrArg NodeV.kind (upd_same _ _ _)).trans hw.same.1
      · exact (congrArg NodeV.links (upd_same _ _ _)).trans hw.same.2.1
      · exact (congrArg NodeV.gen (upd_same _ _ _)).trans hw.same.2.2.1
      · have : (G'.set num (n'.grow (off + data.length))).nd k = G'.nd k := upd_other _ _ hk
        rw [this, hw.kept.nd]
      · rw [hw.keys] at k2; exact k2
theorem read_file {num off many en c sz : Nat} {κ : Nat → Nat} {f : Nat → UInt8} (h : GAt w i s gg g lab G) (h1 : 1 ≤ num) (h2 : num ≤ g.nodes) (hk : (G.nd num).kind ≠ 0) (hsz : (G.nd num).size.toNat = sz) (hf : FileAt G g.blocks (G.nd num) c κ sz f)
    (hoff : off ≤ 65536) (hmany : many ≤ 4611686018427387904) (hs16 : sz ≤ 16384) (hen : en = min sz (off + min many 16384)) :
    Calls Tryz.prog 36 #[.pointer (some ⟨gg, 0, none⟩), .int .i64 (num : Int), .int .i64 (off : Int), .int .i64 (many : Int)] w fun e w' => ∃ (A : Option Addr) (cp : Nat), e = .returned (.tuple #[.slice A (en - off) cp, .int .i64 0]) ∧ Rd w' w'.heap.size 1 A (en - off) (bvs ((List.range (en - off)).map fun k => f (off + k))) ∧ GAt w' i s gg g lab G ∧ Tch w.heap.size i.own w w' ∧ (∀ b, A = some b → w.heap.size ≤ b.block) ∧ en - off ≤ cp ∧ w'.ownsRow w.heap.size 5 1 (.slice A (en - off) cp) (en - off) (bvs ((List.range (en - off)).map fun k => f (off + k))) := by
  have hfit := hf.fit
  have := read_walk (num := num) (en := en) (n := G.nd num) h h1 h2 rfl hk hoff hmany (by rw [hsz]; exact hen) (by rw [hsz]; exact hs16) (fun b hb1 hb2 => (hf.rdy (b := b) (by omega)).1)
  have e : fbytes G (G.nd num) off (en - off) = (List.range (en - off)).map fun k => f (off + k) := by
    rcases Nat.lt_or_ge off en with h1 | h1
    · exact hf.bytes (by omega)
    · rw [show en - off = 0 from by omega]; rfl
  rw [e] at this
  exact this
end
end Go.Proofs.YthmkgohfeahdhaaGreat
namespace Go.Proofs.YthmkgohfeahdhaaGreat
open Go.RowKit
set_option linter.unusedSimpArgs false
set_option linter.unusedVariables false

theorem give_cnt {G : GS} {k : Nat} (hk : G.tk k = true) : ∀ m, (G.give k).cnt m + (if k < m then 1 else 0) = G.cnt m
  | 0 => rfl
  | m + 1 => by
    have ih := give_cnt hk m
    unfold GS.cnt at ih ⊢
    rw [List.range_succ, List.filter_append, List.filter_append, List.length_append, List.length_append]
    by_cases e : m = k
    · subst e
      have h1 : (G.give m).tk m = false := by simp [GS.give, upd]
      rw [if_neg (show ¬ m < m by omega)] at ih
      rw [if_pos (show m < m + 1 by omega)]
      simp only [List.filter_cons, h1, hk, List.filter_nil]
      simp
      omega
    · have h1 : (G.give k).tk m = G.tk m := by simp [GS.give, upd, e]
      simp only [List.filter_cons, h1, List.filter_nil]
      by_cases h2 : k < m
      · rw [if_pos h2] at ih
        rw [if_pos (show k < m + 1 by omega)]
        omega
      · rw [if_neg h2] at ih
        rw [if_neg (show ¬ k < m + 1 by omega)]
        omega
/-- a block goes, its pointer in a block -/
theorem Tree.del {G : GS} {m : Nat} {n : NodeV} {pr : Nat → Bool} {κ : Nat → Nat} {c p j : Nat} (h : Tree G m n pr κ) (hG : G.Ok) (hc : c < 265) (hpc : pr c = true) (hp : par c = some (p, j))
    (hch : ∀ c' j', c' < 265 → par c' = some (c, j') → pr c' = false) : Tree ((G.give (κ c)).put (κ p) (pointB (G.by_ (κ p)) j 0)) m n (upd pr c false) κ := by
  have hpp := h.cls c p j hpc hp
  obtain ⟨hp5, hj, hp256, hpc'⟩ := par_lt hc hp
  have hby : ∀ x, ((G.give (κ c)).put (κ p) (pointB (G.by_ (κ p)) j 0)).by_ x = if x = κ p then pointB (G.by_ (κ p)) j 0 else G.by_ x := fun x => rfl
  have htk : ∀ x, ((G.give (κ c)).put (κ p) (pointB (G.by_ (κ p)) j 0)).tk x = if x = κ c then false else G.tk x := fun x => rfl
  have hne : ∀ {c'}, upd pr c false c' = true → c' ≠ c ∧ pr c' = true := fun {c'} h' => by
    simp only [upd] at h'
    split at h'
    · cases h'
    · rename_i e; exact ⟨e, h'⟩
  refine ⟨h.dir, fun c' h' => h.rng c' (hne h').2, fun c' p' j' h' hp' => ?_, fun c' hc' hp' => ?_, fun c' p' j' hc' hp' hpr => ?_, fun c' h' => ?_, fun c1 c2 h1 h2 he => h.inj c1 c2 (hne h1).2 (hne h2).2 he⟩
  · have h1 := h.cls c' p' j' (hne h').2 hp'
    have h2 : p' ≠ c := fun e => by subst e; have := hch c' j' (h.rng c' (hne h').2) hp'; rw [(hne h').2] at this; cases this
    rw [upd_other _ _ h2]; exact h1
  · have : c' ≠ c := fun e => by rw [e, hp] at hp'; cases hp'
    rw [upd_other _ _ this]
    exact h.top c' hc' hp'
  · obtain ⟨h1, h2⟩ := hne hpr
    rw [hby]
    by_cases e2 : p' = p
    · subst e2
      rw [if_pos rfl, ptr_point (hG.len _) hj (by omega)]
      by_cases e3 : j' = j
      · subst e3
        have := par_inj hc' hc hp' hp
        subst this
        rw [if_pos rfl, upd_same]
        rfl
      · have : c' ≠ c := fun e => by subst e; rw [hp] at hp'; cases hp'; exact e3 rfl
        rw [if_neg e3, upd_other _ _ this]
        exact h.sub c' p' j' hc' hp' h2
    · have e4 : κ p' ≠ κ p := fun e => e2 (h.inj p' p h2 hpp e)
      have : c' ≠ c := fun e => by subst e; rw [hp] at hp'; cases hp'; exact e2 rfl
      rw [if_neg e4, upd_other _ _ this]
      exact h.sub c' p' j' hc' hp' h2
  · obtain ⟨h1, h2⟩ := hne h'
    rw [htk, if_neg (fun e => h1 (h.inj c' c h2 hpc e))]
    exact h.own c' h2
/-- a block goes, its pointer in the node -/
theorem Tree.delTop {G : GS} {m : Nat} {n n' : NodeV} {pr : Nat → Bool} {κ : Nat → Nat} {c : Nat} (h : Tree G m n pr κ) (hc : c < 265) (hpc : pr c = true) (hp : par c = none)
    (hch : ∀ c' j', c' < 265 → par c' = some (c, j') → pr c' = false) (hd : n'.dir.length = 6) (hn : ∀ c', c' < 265 → par c' = none → n'.slot c' = if c' = c then 0 else n.slot c') : Tree (G.give (κ c)) m n' (upd pr c false) κ := by
  have htk : ∀ x, (G.give (κ c)).tk x = if x = κ c then false else G.tk x := fun x => rfl
  have hne : ∀ {c'}, upd pr c false c' = true → c' ≠ c ∧ pr c' = true := fun {c'} h' => by
    simp only [upd] at h'
    split at h'
    · cases h'
    · rename_i e; exact ⟨e, h'⟩
  refine ⟨hd, fun c' h' => h.rng c' (hne h').2, fun c' p' j' h' hp' => ?_, fun c' hc' hp' => ?_, fun c' p' j' hc' hp' hpr => ?_, fun c' h' => ?_, fun c1 c2 h1 h2 he => h.inj c1 c2 (hne h1).2 (hne h2).2 he⟩
  · have h1 := h.cls c' p' j' (hne h').2 hp'
    have h2 : p' ≠ c := fun e => by subst e; have := hch c' j' (h.rng c' (hne h').2) hp'; rw [(hne h').2] at this; cases this
    rw [upd_other _ _ h2]; exact h1
  · rw [hn c' hc' hp']
    by_cases e : c' = c
    · subst e; rw [if_pos rfl, upd_same]; rfl
    · rw [if_neg e, upd_other _ _ e]
      exact h.top c' hc' hp'
  · obtain ⟨h1, h2⟩ := hne hpr
    have : c' ≠ c := fun e => by subst e; rw [hp] at hp'; cases hp'
    rw [upd_other _ _ this]
    exact h.sub c' p' j' hc' hp' h2
  · obtain ⟨h1, h2⟩ := hne h'
    rw [htk, if_neg (fun e => h1 (h.inj c' c h2 hpc e))]
    exact h.own c' h2
theorem slot_zero {b c : Nat} (hb : b < 256) {n : NodeV} (hd : n.dir.length = 6) (hc : c < 265) (hp : par c = none) : (n.setRoot (wayOf b) 0).slot c = if c = rootK b then 0 else n.slot c := by
  have hc2 : c < 6 ∨ c = 256 ∨ c = 257 := by
    unfold par at hp
    split at hp
    · left; assumption
    · split at hp
      · cases hp
      · split at hp
        · cases hp
        · split at hp
          · right; omega
          · cases hp
  unfold NodeV.setRoot wayOf rootK
  by_cases h6 : b < 6
  · simp only [if_pos h6]
    simp only [if_true]
    unfold NodeV.slot
    rcases hc2 with h | rfl | rfl
    · simp only [if_pos h, List.getD_eq_getElem?_getD, List.getElem?_set]
      by_cases e : b = c
      · subst e; simp [hd, h6]
      · have e2 : ¬ c = b := fun h => e h.symm
        simp [e, e2]
    · have e : ¬ 256 = b := by omega
      simp [e]
    · have e : ¬ 257 = b := by omega
      simp [e]
  · simp only [if_neg h6]
    by_cases h38 : b < 38
    · simp only [if_pos h38]
      unfold NodeV.slot
      rcases hc2 with h | rfl | rfl
      · have e : ¬ c = 256 := by omega
        simp [h, e]
      · simp
      · simp
    · simp only [if_neg h38]
      unfold NodeV.slot
      rcases hc2 with h | rfl | rfl
      · have e : ¬ c = 257 := by omega
        simp [h, e]
      · simp
      · simp
/-- what goes of a file's blocks, and what else stays -/
structure Del (G0 G : GS) (m : Nat) (n0 n : NodeV) (pr0 pr : Nat → Bool) (κ : Nat → Nat) (d : Nat) : Prop where
  tree : Tree G m n pr κ
  ok : G.Ok
  nd : G.nd = G0.nd
  same : n0.same n
  sub : ∀ k, pr k = true → pr0 k = true
  by_ : ∀ x, (∀ k, pr0 k = true → 256 ≤ k → κ k ≠ x) → G.by_ x = G0.by_ x
  tk : ∀ x, (∀ k, pr0 k = true → κ k ≠ x) → G.tk x = G0.tk x
  cnt : G.cnt m + d = G0.cnt m
theorem Del.refl {G : GS} {m : Nat} {n : NodeV} {pr : Nat → Bool} {κ : Nat → Nat} (h : Tree G m n pr κ) (hG : G.Ok) : Del G G m n n pr pr κ 0 :=
  ⟨h, hG, rfl, ⟨rfl, rfl, rfl, rfl⟩, fun _ h => h, fun _ _ => rfl, fun _ _ => rfl, rfl⟩
theorem upd_sub {pr pr0 : Nat → Bool} {c : Nat} (h : ∀ k, pr k = true → pr0 k = true) : ∀ k, upd pr c false k = true → pr0 k = true := fun k hk => by
  simp only [upd] at hk
  split at hk
  · cases hk
  · exact h k hk
theorem Del.step {G0 G : GS} {m : Nat} {n0 n : NodeV} {pr0 pr : Nat → Bool} {κ : Nat → Nat} {d c p j : Nat} (h : Del G0 G m n0 n pr0 pr κ d) (hc : c < 265) (hpc : pr c = true) (hp : par c = some (p, j))
    (hch : ∀ c' j', c' < 265 → par c' = some (c, j') → pr c' = false) : Del G0 ((G.give (κ c)).put (κ p) (pointB (G.by_ (κ p)) j 0)) m n0 n pr0 (upd pr c false) κ (d + 1) where
  tree := h.tree.del h.ok hc hpc hp hch
  ok := (h.ok.give _).put _ (by rw [pointB_length]; exact h.ok.len _)
  nd := h.nd
  same := h.same
  sub := upd_sub h.sub
  by_ x hx := by
    have hpp := h.tree.cls c p j hpc hp
    have : x ≠ κ p := fun e => hx p (h.sub p hpp) (par_lt hc hp).2.2.1 e.symm
    exact (upd_other _ _ this).trans (h.by_ x hx)
  tk x hx := by
    have : x ≠ κ c := fun e => hx c (h.sub c hpc) e.symm
    exact (upd_other _ _ this).trans (h.tk x hx)
  cnt := by
    have h1 := h.tree.own c hpc
    have h2 := give_cnt h1.2 m
    rw [if_pos h1.1] at h2
    have := h.cnt
    rw [put_cnt]
    omega
theorem Del.stepTop {G0 G : GS} {m : Nat} {n0 n n' : NodeV} {pr0 pr : Nat → Bool} {κ : Nat → Nat} {d c : Nat} (h : Del G0 G m n0 n pr0 pr κ d) (hc : c < 265) (hpc : pr c = true) (hp : par c = none)
    (hch : ∀ c' j', c' < 265 → par c' = some (c, j') → pr c' = false) (hs : n.same n') (hd : n'.dir.length = 6) (hn : ∀ c', c' < 265 → par c' = none → n'.slot c' = if c' = c then 0 else n.slot c') :
    Del G0 (G.give (κ c)) m n0 n' pr0 (upd pr c false) κ (d + 1) where
  tree := h.tree.delTop hc hpc hp hch hd hn
  ok := h.ok.give _
  nd := h.nd
  same := h.same.trans hs
  sub := upd_sub h.sub
  by_ x hx := h.by_ x hx
  tk x hx := by
    have : x ≠ κ c := fun e => hx c (h.sub c hpc) e.symm
    exact (upd_other _ _ this).trans (h.tk x hx)
  cnt := by
    have h1 := h.tree.own c hpc
    have h2 := give_cnt h1.2 m
    rw [if_pos h1.1] at h2
    have := h.cnt
    omega
theorem upd_false {pr : Nat → Bool} {c x : Nat} : upd pr c false x = (pr x && decide (x ≠ c)) := by
  unfold upd
  by_cases e : x = c <;> simp [e]
theorem prOf_true {c k : Nat} : prOf c k = true ↔ (k < c ∨ (k = 256 ∧ 6 < c) ∨ (k = 257 ∧ 38 < c) ∨ (258 ≤ k ∧ k < 265 ∧ 38 + 32 * (k - 258) < c)) := by
  unfold prOf; rw [decide_eq_true_iff]
theorem prOf_false {c k : Nat} : prOf c k = false ↔ ¬ (k < c ∨ (k = 256 ∧ 6 < c) ∨ (k = 257 ∧ 38 < c) ∨ (258 ≤ k ∧ k < 265 ∧ 38 + 32 * (k - 258) < c)) := by
  unfold prOf; rw [decide_eq_false_iff_not]
/-- whose block of pointers a block is -/
theorem par_child {c c' j : Nat} (hc' : c' < 265) (h : par c' = some (c, j)) : (c = 256 ∧ 6 ≤ c' ∧ c' < 38 ∧ j = c' - 6) ∨ (c = 257 ∧ 258 ≤ c' ∧ j = c' - 258) ∨ (38 ≤ c' ∧ c' < 256 ∧ c = 258 + (c' - 38) / 32 ∧ j = (c' - 38) % 32) := by
  unfold par at h
  split at h
  · cases h
  · split at h
    · simp only [Option.some.injEq, Prod.mk.injEq] at h; left; omega
    · split at h
      · simp only [Option.some.injEq, Prod.mk.injEq] at h; right; right; omega
      · split at h
        · cases h
        · simp only [Option.some.injEq, Prod.mk.injEq] at h; right; left; omega
theorem par_dir {b : Nat} (h : b < 6) : par b = none := by unfold par; rw [if_pos h]
theorem par_single {b : Nat} (h6 : 6 ≤ b) (h : b < 38) : par b = some (256, b - 6) := by unfold par; rw [if_neg (by omega), if_pos h]
theorem par_double {b : Nat} (h6 : 38 ≤ b) (h : b < 256) : par b = some (258 + (b - 38) / 32, (b - 38) % 32) := by unfold par; rw [if_neg (by omega), if_neg (by omega), if_pos h]
theorem par_mid {b : Nat} (h6 : 258 ≤ b) (h : b < 265) : par b = some (257, b - 258) := by unfold par; rw [if_neg (by omega), if_neg (by omega), if_neg (by omega), if_neg (by omega)]
theorem par_mid' {q : Nat} (h : q < 7) : par (258 + q) = some (257, q) := by have := par_mid (b := 258 + q) (by omega) (by omega); rwa [Nat.add_sub_cancel_left] at this
theorem par_256 : par 256 = none := by decide
theorem par_257 : par 257 = none := by decide
/-- the last data block has no blocks below it -/
theorem no_child {pr : Nat → Bool} {b : Nat} (hb : b < 256) : ∀ c' j', c' < 265 → par c' = some (b, j') → pr c' = false := fun c' j' hc' h => by
  have := par_child hc' h
  omega
/-- one data block less: below the node's own pointers -/
theorem del_dir {G : GS} {m b : Nat} {n : NodeV} {κ : Nat → Nat} (h : Tree G m n (prOf (b + 1)) κ) (hG : G.Ok) (hb : b < 6) :
    Del G (G.give (κ b)) m n (n.setRoot (wayOf b) 0) (prOf (b + 1)) (prOf b) κ 1 := by
  have hr : rootK b = b := by unfold rootK; rw [if_pos hb]
  have hs := (Del.refl h hG).stepTop (n' := n.setRoot (wayOf b) 0) (c := b) (by omega) (prOf_true.2 (by omega)) (par_dir hb) (no_child (by omega)) (setRoot_same _ _ _) (by rw [NodeV.setRoot_dir]; exact h.dir)
    (fun c' h1 h2 => by have := slot_zero (b := b) (by omega) h.dir h1 h2; rw [hr] at this; exact this)
  have e : upd (prOf (b + 1)) b false = prOf b := by
    funext k
    rw [Bool.eq_iff_iff, upd_false, Bool.and_eq_true, prOf_true, prOf_true, decide_eq_true_iff]
    omega
  rw [e] at hs
  exact hs
/-- one data block less: not the first of its block of pointers -/
theorem del_more {G : GS} {m b p j : Nat} {n : NodeV} {κ : Nat → Nat} (h : Tree G m n (prOf (b + 1)) κ) (hG : G.Ok) (hb6 : 6 < b) (hb : b < 256) (hf : 38 ≤ b → (b - 38) % 32 ≠ 0) (hp : par b = some (p, j)) :
    Del G ((G.give (κ b)).put (κ p) (pointB (G.by_ (κ p)) j 0)) m n n (prOf (b + 1)) (prOf b) κ 1 := by
  have hs := (Del.refl h hG).step (c := b) (by omega) (prOf_true.2 (by omega)) hp (no_child hb)
  have e : upd (prOf (b + 1)) b false = prOf b := by
    funext k
    rw [Bool.eq_iff_iff, upd_false, Bool.and_eq_true, prOf_true, prOf_true, decide_eq_true_iff]
    omega
  rw [e] at hs
  exact hs
theorem del_six {G : GS} {m : Nat} {n : NodeV} {κ : Nat → Nat} (h : Tree G m n (prOf 7) κ) (hG : G.Ok) :
    Del G (((G.give (κ 6)).put (κ 256) (pointB (G.by_ (κ 256)) 0 0)).give (κ 256)) m n (n.setRoot (wayOf 6) 0) (prOf 7) (prOf 6) κ 2 := by
  have h1 := (Del.refl h hG).step (c := 6) (p := 256) (j := 0) (by omega) (prOf_true.2 (by omega)) (by decide) (no_child (by omega))
  have h2 := h1.stepTop (n' := n.setRoot (wayOf 6) 0) (c := 256) (by omega) (by rw [upd_other _ _ (by omega)]; exact prOf_true.2 (by omega)) par_256 (fun c' j' hc' hp => by
      rw [upd_false, Bool.and_eq_false_iff, prOf_false, decide_eq_false_iff_not]
      have := par_child hc' hp
      omega) (setRoot_same _ _ _) (by rw [NodeV.setRoot_dir]; exact h.dir)
    (fun c' h1 h2 => slot_zero (b := 6) (by omega) h.dir h1 h2)
  have e : upd (upd (prOf 7) 6 false) 256 false = prOf 6 := by
    funext k
    rw [Bool.eq_iff_iff, upd_false, upd_false, Bool.and_eq_true, Bool.and_eq_true, prOf_true, prOf_true, decide_eq_true_iff, decide_eq_true_iff]
    omega
  rw [e] at h2
  exact h2
/-- the first of a block of pointers, not of the first one -/
theorem del_first {G : GS} {m b q : Nat} {n : NodeV} {κ : Nat → Nat} (h : Tree G m n (prOf (b + 1)) κ) (hG : G.Ok) (hb : b < 256) (hq : b = 38 + 32 * q) (hq0 : 0 < q) :
    Del G (((((G.give (κ b)).put (κ (258 + q)) (pointB (G.by_ (κ (258 + q))) 0 0)).give (κ (258 + q))).put (κ 257) (pointB (G.by_ (κ 257)) q 0))) m n n (prOf (b + 1)) (prOf b) κ 2 := by
  have hp1 : par b = some (258 + q, 0) := by rw [par_double (by omega) hb]; simp only [Option.some.injEq, Prod.mk.injEq]; omega
  have h1 := (Del.refl h hG).step (c := b) (by omega) (prOf_true.2 (by omega)) hp1 (no_child hb)
  have hne : κ 257 ≠ κ (258 + q) := fun e => by have := h.inj 257 (258 + q) (prOf_true.2 (by omega)) (prOf_true.2 (by omega)) e; omega
  have h2 := h1.step (c := 258 + q) (p := 257) (j := q) (by omega) (by rw [upd_other _ _ (by omega)]; exact prOf_true.2 (by omega)) (par_mid' (by omega)) (fun c' j' hc' hp => by
      rw [upd_false, Bool.and_eq_false_iff, prOf_false, decide_eq_false_iff_not]
      have := par_child hc' hp
      omega)
  have e2 : ((G.give (κ b)).put (κ (258 + q)) (pointB (G.by_ (κ (258 + q))) 0 0)).by_ (κ 257) = G.by_ (κ 257) := upd_other _ _ hne
  have e : upd (upd (prOf (b + 1)) b false) (258 + q) false = prOf b := by
    funext k
    rw [Bool.eq_iff_iff, upd_false, upd_false, Bool.and_eq_true, Bool.and_eq_true, prOf_true, prOf_true, decide_eq_true_iff, decide_eq_true_iff]
    omega
  rw [e, e2] at h2
  exact h2
theorem del_38 {G : GS} {m : Nat} {n : NodeV} {κ : Nat → Nat} (h : Tree G m n (prOf 39) κ) (hG : G.Ok) :
    Del G ((((((G.give (κ 38)).put (κ 258) (pointB (G.by_ (κ 258)) 0 0)).give (κ 258)).put (κ 257) (pointB (G.by_ (κ 257)) 0 0))).give (κ 257)) m n (n.setRoot (wayOf 38) 0) (prOf 39) (prOf 38) κ 3 := by
  have h1 := (Del.refl h hG).step (c := 38) (p := 258) (j := 0) (by omega) (prOf_true.2 (by omega)) (by decide) (no_child (by omega))
  have hne : κ 257 ≠ κ 258 := fun e => by have := h.inj 257 258 (prOf_true.2 (by omega)) (prOf_true.2 (by omega)) e; omega
  have h2 := h1.step (c := 258) (p := 257) (j := 0) (by omega) (by rw [upd_other _ _ (by omega)]; exact prOf_true.2 (by omega)) (by decide) (fun c' j' hc' hp => by
      rw [upd_false, Bool.and_eq_false_iff, prOf_false, decide_eq_false_iff_not]
      have := par_child hc' hp
      omega)
  have e2 : ((G.give (κ 38)).put (κ 258) (pointB (G.by_ (κ 258)) 0 0)).by_ (κ 257) = G.by_ (κ 257) := upd_other _ _ hne
  rw [e2] at h2
  have h3 := h2.stepTop (n' := n.setRoot (wayOf 38) 0) (c := 257) (by omega) (by rw [upd_other _ _ (by omega), upd_other _ _ (by omega)]; exact prOf_true.2 (by omega)) par_257 (fun c' j' hc' hp => by
      rw [upd_false, upd_false, Bool.and_eq_false_iff, Bool.and_eq_false_iff, prOf_false, decide_eq_false_iff_not, decide_eq_false_iff_not]
      have := par_child hc' hp
      omega) (setRoot_same _ _ _) (by rw [NodeV.setRoot_dir]; exact h.dir)
    (fun c' h1 h2 => slot_zero (b := 38) (by omega) h.dir h1 h2)
  have e : upd (upd (upd (prOf 39) 38 false) 258 false) 257 false = prOf 38 := by
    funext k
    rw [Bool.eq_iff_iff, upd_false, upd_false, upd_false, Bool.and_eq_true, Bool.and_eq_true, Bool.and_eq_true, prOf_true, prOf_true, decide_eq_true_iff, decide_eq_true_iff, decide_eq_true_iff]
    omega
  rw [e] at h3
  exact h3
end Go.Proofs.YthmkgohfeahdhaaGreat
namespace Go.Proofs.YthmkgohfeahdhaaGreat
open Go.RowKit
set_option linter.unusedSimpArgs false
set_option linter.unusedVariables false

section
variable {w0 w w' : World} {i : Ids} {s0 s : Sto} {gg : Nat} {g : GeoN} {lab : Int} {G G' : GS} {K : List Nat}
theorem Stay.trans {s1 s2 s3 : Sto} (h : Stay s1 s2 g) (h' : Stay s2 s3 g) : Stay s1 s3 g := ⟨h'.D.trans h.D, h'.bad.trans h.bad, fun m hm => (h'.far m hm).trans (h.far m hm)⟩
/-- how a group lies open behind calls on a file's blocks: those to be written are among a list's -/
def CutR (w0 w : World) (i : Ids) (s0 : Sto) (gg : Nat) (g : GeoN) (lab : Int) (G : GS) (K : List Nat) : Prop :=
  ∃ s, GAt w i s gg g lab G ∧ Stay s0 s g ∧ s.In K ∧ Tch w0.heap.size i.own w0 w
theorem CutR.refl (h : GAt w i s gg g lab G) (hK : s.In K) : CutR w w i s gg g lab G K := ⟨s, h, ⟨rfl, rfl, fun _ _ => rfl⟩, hK, Tch.refl _ _ _⟩
theorem CutR.below (h : CutR w0 w i s0 gg g lab G K) (hb : Below w.heap.size w w') : CutR w0 w' i s0 gg g lab G K := by
  obtain ⟨s', h1, h2, h3, h4⟩ := h
  exact ⟨s', h1.below hb, h2, h3, h4.trans ((Tch.of_below hb).mono h4.size fun _ _ h => h)⟩
theorem CutR.drew (h : CutR w0 w i s0 gg g lab G K) : CutR w0 w.drew i s0 gg g lab G K := h.below (Below.refl _ _).drew
theorem CutR.tch (h : CutR w0 w i s0 gg g lab G K) : Tch w0.heap.size i.own w0 w := by
  obtain ⟨s', h1, h2, h3, h4⟩ := h
  exact h4
theorem CutR.gok (h : CutR w0 w i s0 gg g lab G K) : G.Ok := by
  obtain ⟨s', h1, h2, h3, h4⟩ := h
  exact h1.gok
theorem CutR.new_own (h : CutR w0 w i s0 gg g lab G K) : ¬ i.own w.heap.size := fun hk => by
  obtain ⟨s', h1, h2, h3, h4⟩ := h
  exact h1.tx.other_new (Nat.le_refl _) hk
theorem CutR.step {L : List Nat} (h : CutR w0 w i s0 gg g lab G K) (hg : GAt w' i s gg g lab G') (hs : ∃ s1, s1.In K ∧ Stay s0 s1 g ∧ s1.Step s g L) (hL : ∀ x ∈ L, x ∈ K) (ht : Tch w.heap.size i.own w w') : CutR w0 w' i s0 gg g lab G' K := by
  obtain ⟨s', h1, h2, h3, h4⟩ := h
  obtain ⟨s1, k1, k2, k3⟩ := hs
  exact ⟨s, hg, k2.trans ⟨k3.D, k3.bad, k3.far⟩, (k3.in_ k1).mono (fun x hx => by rcases List.mem_append.1 hx with h | h; exact h; exact hL x h), h4.trans (ht.mono h4.size fun _ _ h => h)⟩
/-- taking a block off, in a transaction -/
theorem cut_give {k : Nat} (h : CutR w0 w i s0 gg g lab G K) (hKl : K.length ≤ 28) (hb5 : g.blocks ≤ 512) (hK1 : g.base ∈ K) (hk : k < g.blocks) (hb : G.tk k = true) :
    Calls Tryz.prog 103 #[.pointer (some ⟨gg, 0, none⟩), .int .u16 ((k + 1 : Nat) : Int)] w fun e w' => e = .returned (.int .i64 0) ∧ CutR w0 w' i s0 gg g lab (G.give k) K ∧ Tch w.heap.size i.own w w' := by
  have h' := h
  obtain ⟨s', h1, h2, h3, h4⟩ := h
  exact (gs_give h1 (by have := h3.len h1.tx.ok; omega) hk hb).mono fun e w' ⟨he, s2, k1, k2, k3⟩ => ⟨he, h'.step k1 ⟨s', h3, h2, k2⟩ (fun x hx => by
    obtain rfl : x = g.base + k / 512 := by simpa using hx
    rw [show g.base + k / 512 = g.base from by omega]; exact hK1) k3, k3⟩
theorem cut_put {k : Nat} {b : BlkV} (h : CutR w0 w i s0 gg g lab G K) (hKl : K.length ≤ 28) (hk : k < g.blocks) (hK2 : g.data + k ∈ K) (hb : b.length = 64) :
    Calls Tryz.prog 94 #[.pointer (some ⟨gg, 0, none⟩), .int .u16 ((k + 1 : Nat) : Int), bval b] w fun e w' => e = .returned (.int .i64 0) ∧ CutR w0 w' i s0 gg g lab (G.put k b) K ∧ Tch w.heap.size i.own w w' := by
  have h' := h
  obtain ⟨s', h1, h2, h3, h4⟩ := h
  exact (gs_put h1 (by have := h3.len h1.tx.ok; omega) hk hb).mono fun e w' ⟨he, s2, k1, k2, k3⟩ => ⟨he, h'.step k1 ⟨s', h3, h2, k2⟩ (fun x hx => by
    obtain rfl : x = g.data + k := by simpa using hx
    exact hK2) k3, k3⟩
theorem cut_get {k : Nat} (h : CutR w0 w i s0 gg g lab G K) (hk : k < g.blocks) :
    Calls Tryz.prog 93 #[.pointer (some ⟨gg, 0, none⟩), .int .u16 ((k + 1 : Nat) : Int)] w fun e w' => e = .returned (.tuple #[bval (G.by_ k), .int .i64 0]) ∧ CutR w0 w' i s0 gg g lab G K ∧ Tch w.heap.size i.own w w' := by
  obtain ⟨s', h1, h2, h3, h4⟩ := h
  exact (gs_get' h1 hk).mono fun e w' ⟨he, k1, k2⟩ => ⟨he, ⟨s', k1, h2, h3, h4.trans (k2.mono h4.size fun _ _ h => h)⟩, k2⟩
set_option maxRecDepth 100000 in
set_option maxHeartbeats 4000000 in
theorem lose_leaf {v : WayV} {k p x j : Nat} (h : CutR w0 w i s0 gg g lab G K) (hKl : K.length ≤ 28) (hb5 : g.blocks ≤ 512) (hK1 : g.base ∈ K) (hK2 : g.data + p ∈ K) (hv : v.Ok) (hk : v.steps = k + 1) (hj : v.idx[k]? = some j) (hp : p < g.blocks) (hx : ptrB (G.by_ p) j = x + 1) (hxb : x < g.blocks) (hxt : G.tk x = true) :
    Calls Tryz.prog 149 #[.pointer (some ⟨gg, 0, none⟩), .int .u16 ((p + 1 : Nat) : Int), .agg v.cells, .int .i64 (k : Int)] w fun e w' => e = .returned (.int .i64 0) ∧ CutR w0 w' i s0 gg g lab ((G.give x).put p (pointB (G.by_ p) j 0)) K ∧ Tch w.heap.size i.own w w' := by
  have hwo := hv
  have hjl := hj
  obtain ⟨hj32, hcj, hk3⟩ := WayV.idx_lt hv hj
  have hbl := h.gok.len p
  have hget := fun W (hW : CutR w0 W i s0 gg g lab G K) => cut_get hW hp
  generalize hbk : G.by_ p = bk at *
  have hpt := fun W => pointer_ok W hbl hj32
  rw [hx] at hpt
  have ep : ((p + 1 : Nat) : Int) = (p : Int) + 1 := by omega
  have ex : ((x + 1 : Nat) : Int) = (x : Int) + 1 := by omega
  rw [ep] at hget ⊢
  rw [ex] at hpt
  have hkz : (k : Int) < 3 := by omega
  have hpz : (p : Int) ≤ 511 := by omega
  have hxz : (x : Int) ≤ 511 := by omega
  have hsz : (v.steps : Int) ≤ 3 := by rcases hv with h | h | h <;> omega
  have H := hide h
  have HK := hide (And.intro hKl (And.intro hK1 hK2))
  have HB5 := hide hb5
  have HBK := hide (And.intro hbk hbl)
  have HGT := hide hget
  have HPT := hide hpt
  have HV := hide (And.intro hwo hk)
  have HJ := hide (And.intro hj32 (And.intro hcj hjl))
  have HX := hide (And.intro hxb hxt)
  have HP := hide (And.intro hp (And.intro ep ex))
  clear h hKl hK1 hK2 hb5 hbk hbl hget hpt hwo hk hj32 hcj hjl hxb hxt hp ep ex hj hv hx
  go_enter Tryz.func149, Tryz.ntmps149
  go_upto_region 1 with (fail)
  refine at_world (fun W => ∃ q, q = w.heap.size ∧ Below w.heap.size w W ∧ Blk W q 268 v.cells) ⟨_, rfl, (Below.refl _ _).alloc (Nat.le_refl _) _, Blk.new _ _ _⟩ (fun w1 hw1 => ?_)
  obtain ⟨q, hq, hb1, hQ1⟩ := hw1
  rw [← hq]
  have HA1 := hide (H.out.below hb1)
  have HQ1 := hide hQ1
  have HQO := hide (show ¬ i.own q from by rw [hq]; exact H.out.new_own)
  have HT1 := hide (Tch.of_below (S := i.own) hb1)
  clear hq hb1 hQ1
  go_wp2_with fail
  refine (HGT.out w1 HA1.out).mono ?_
  rintro e w5 ⟨rfl, ha5, ht5⟩
  have HA5 := hide ha5
  have HQ5 := hide (HQ1.out.tch ht5 HQ1.out.lt HQO.out)
  have HT5 := hide (HT1.out.trans (ht5.mono HT1.out.size fun _ _ h => h))
  clear ha5 ht5 HGT HA1 HQ1 HT1
  go_upto_region 2 with (first | ((with_reducible refine at_alloc 106 ?_); refine wpList_alloc_as rfl 106 rfl _ (zero_block _) ?_) | ((with_reducible refine at_store 106 (.tmp 9) (.tmp 18) ?_); refine wpList_store_blk rfl 106 (.tmp 9) (.tmp 18) rfl w5.heap.size 106 _ _ (by rfl) (by rfl) (Blk.new _ _ _) (size_blockOf HBK.out.2) ((bvs_size zeroB_length).trans (bvs_size HBK.out.2).symm) (bvs_oneCell _) (fun _ => ?_)) | fail)
  refine at_world (fun W => ∃ z, z = w5.heap.size ∧ Below w5.heap.size w5 W ∧ Blk W z 106 (bvs bk).toArray) ⟨_, rfl, below_setRow ((Below.refl _ _).alloc (Nat.le_refl _) _) (Nat.le_refl _) _, (Blk.new _ _ _).setRow_same _⟩ (fun w6 hw6 => ?_)
  obtain ⟨z, hz, hb6, hZ6⟩ := hw6
  rw [← hz]
  have HZO := hide (show ¬ i.own z from by rw [hz]; exact HA5.out.new_own)
  have HA6 := hide (HA5.out.below hb6)
  have HQ6 := hide (HQ5.out.below hb6 HQ5.out.lt)
  have HT6 := hide (HT5.out.trans ((Tch.of_below hb6).mono HT5.out.size fun _ _ h => h))
  have HZ6 := hide hZ6
  clear hz hb6 hZ6 HA5 HQ5 HT5
  have cj : w6.cell? ⟨q, 1 + k, none⟩ = some (.int .i64 (j : Int)) := (HQ6.out.cell (1 + k)).trans HJ.out.2.1
  have ql := HQ6.out.lt
  go_upto_region 4 with (fail)
  refine wp_region_text [0, 0, 0, 0, 0, 2, 0] (· = w6.drew) (by kernel_rfl) (by kernel_rfl) rfl ?_
  refine wpOrd_q (v := .agg (bvs bk).toArray) (by rfl) (fun W hW => by cases hW; exact exec_load_blk 106 (.tmp 9) rfl z _ (bvs bk).toArray _ rfl HZ6.out.drew Tryz.underlying106 rfl (size_blockOf HBK.out.2)) ?_
  try simp only [Act.put, List.setIfInBounds_toArray, List.set_cons_zero, List.set_cons_succ]
  iterate 4 (refine wpOrd_q (v := ?_) (by rfl) (fun W hW => ?_) ?_; rotate_left; (focus ((cases hW; go_simp); try with_reducible rfl)); try simp only [Act.put, List.setIfInBounds_toArray, List.set_cons_zero, List.set_cons_succ])
  refine wpOrd_b (by rfl) (fun K hK => ?_)
  go_simp
  refine (HPT.out _).mono ?_
  rintro e w7 ⟨rfl, hb7⟩
  refine hK (fun _ => True) _ _ trivial ?_
  have hb67 : Below w6.heap.size w6 w7 := (Below.refl _ _).drew.trans hb7
  have HA7 := hide (HA6.out.below hb67)
  have HQ7 := hide (HQ6.out.below hb67 HQ6.out.lt)
  have HZ7 := hide (HZ6.out.below hb67 HZ6.out.lt)
  have HT7 := hide (HT6.out.trans ((Tch.of_below hb67).mono HT6.out.size fun _ _ h => h))
  clear hK hb7 hb67 cj ql HA6 HQ6 HZ6 HT6 HPT
  try simp only [Act.put, List.setIfInBounds_toArray, List.set_cons_zero, List.set_cons_succ]
  iterate 1 (refine wpOrd_q (v := ?_) (by rfl) (fun W hW => ?_) ?_; rotate_left; (focus (go_simp; try with_reducible rfl)); try simp only [Act.put, List.setIfInBounds_toArray, List.set_cons_zero, List.set_cons_succ])
  refine wpOrd_nil ?_
  have c0 : w7.cell? ⟨q, 0, none⟩ = some (.int .i64 (v.steps : Int)) := HQ7.out.cell 0
  have ql := HQ7.out.lt
  obtain ⟨k1, hk1⟩ : ∃ k1, k1 = k + 1 := ⟨_, rfl⟩
  have e1 : IntKind.i64.wrap ((k : Int) + 1) = (k1 : Int) := by rw [IntWalk.i64_in _ (by omega)]; omega
  have HK1 := hide hk1
  have t1 : decide (k1 < v.steps) = false := by have := HV.out.2; simp; omega
  clear hk1
  have hgv := cut_give HA7.out HK.out.1 HB5.out HK.out.2.1 HX.out.1 HX.out.2
  rw [HP.out.2.2] at hgv
  have HGV := hide hgv
  clear hgv
  go_wp2_with fail
  refine HGV.out.mono ?_
  rintro e w8 ⟨rfl, ha8, ht8⟩
  have HA8 := hide ha8
  have HQ8 := hide (HQ7.out.tch ht8 HQ7.out.lt HQO.out)
  have HZ8 := hide (HZ7.out.tch ht8 HZ7.out.lt HZO.out)
  have HT8 := hide (HT7.out.trans (ht8.mono HT7.out.size fun _ _ h => h))
  have cj : w8.cell? ⟨q, 1 + k, none⟩ = some (.int .i64 (j : Int)) := (HQ8.out.cell (1 + k)).trans HJ.out.2.1
  have ql := HQ8.out.lt
  clear ha8 ht8 HGV HA7 HQ7 HZ7 HT7
  go_upto_region 14 with (fail)
  refine wp_region_text [0, 0, 0, 0, 0, 0, 0, 1, 2, 0] (Below w8.heap.size w8) (by kernel_rfl) (by kernel_rfl) (Below.refl _ _).drew ?_
  iterate 2 (refine wpOrd_q (v := ?_) (by rfl) (fun W hW => ?_) ?_; rotate_left; (focus ((obtain ⟨hWc, hWf⟩ := bcell hW; go_simp); try with_reducible rfl)); try simp only [Act.put, List.setIfInBounds_toArray, List.set_cons_zero, List.set_cons_succ])
  refine wpOrd_q (v := .agg (bvs bk).toArray) (by rfl) (fun W hW => exec_load_blk 106 (.tmp 9) rfl z _ (bvs bk).toArray _ rfl (HZ8.out.below hW HZ8.out.lt) Tryz.underlying106 rfl (size_blockOf HBK.out.2)) ?_
  try simp only [Act.put, List.setIfInBounds_toArray, List.set_cons_zero, List.set_cons_succ]
  iterate 4 (refine wpOrd_q (v := ?_) (by rfl) (fun W hW => ?_) ?_; rotate_left; (focus ((obtain ⟨hWc, hWf⟩ := bcell hW; go_simp); try with_reducible rfl)); try simp only [Act.put, List.setIfInBounds_toArray, List.set_cons_zero, List.set_cons_succ])
  refine wpOrd_x (by rfl) (fun K hK => ?_)
  go_simp
  have hpo := point_ok w8.drew HBK.out.2 HJ.out.1 (n := 0) (by omega)
  rw [show ((0 : Nat) : Int) = 0 from rfl] at hpo
  refine hpo.mono ?_
  rintro e w9 ⟨rfl, hb9⟩
  have hb89 : Below w8.heap.size w8 w9 := (Below.refl _ _).drew.trans hb9
  refine hK _ _ _ (fun _ h => h) hb89 ?_
  have HA9 := hide (HA8.out.below hb89)
  have HT9 := hide (HT8.out.trans ((Tch.of_below hb89).mono HT8.out.size fun _ _ h => h))
  have hput := cut_put (b := pointB bk j 0) HA9.out HK.out.1 HP.out.1 HK.out.2.2 (by rw [pointB_length]; exact HBK.out.2)
  rw [HP.out.2.1] at hput
  have HPUT := hide hput
  clear hK hpo hb9 hb89 cj ql HA8 HQ8 HZ8 HT8 hput
  try simp only [Act.put, List.setIfInBounds_toArray, List.set_cons_zero, List.set_cons_succ]
  refine wpOrd_b (by rfl) (fun K hK => ?_)
  go_simp
  refine HPUT.out.mono ?_
  rintro e w10 ⟨rfl, ha10, ht10⟩
  refine hK (fun _ => True) _ _ trivial ?_
  have HF := hide (And.intro ha10 (HT9.out.trans (ht10.mono HT9.out.size fun _ _ h => h)))
  clear hK ha10 ht10 HPUT HA9 HT9
  try simp only [Act.put, List.setIfInBounds_toArray, List.set_cons_zero, List.set_cons_succ]
  iterate 1 (refine wpOrd_q (v := ?_) (by rfl) (fun W hW => ?_) ?_; rotate_left; (focus (go_simp; try with_reducible rfl)); try simp only [Act.put, List.setIfInBounds_toArray, List.set_cons_zero, List.set_cons_succ])
  refine wpOrd_nil ?_
  go_wp2
  go_returns
  exact ⟨rfl, HF.out.1, HF.out.2⟩
set_option maxRecDepth 100000 in
set_option maxHeartbeats 4000000 in
theorem lose_two {v : WayV} {k p x j x2 j2 : Nat} (h : CutR w0 w i s0 gg g lab G K) (hKl : K.length ≤ 28) (hb5 : g.blocks ≤ 512) (hK1 : g.base ∈ K) (hK2 : g.data + p ∈ K) (hK3 : g.data + x ∈ K) (hv : v.Ok) (hk : v.steps = k + 2) (hj : v.idx[k]? = some j) (hj2 : v.idx[k + 1]? = some j2) (hp : p < g.blocks) (hx : ptrB (G.by_ p) j = x + 1) (hxb : x < g.blocks) (hxt : G.tk x = true)
    (hx2 : ptrB (G.by_ x) j2 = x2 + 1) (hx2b : x2 < g.blocks) (hx2t : G.tk x2 = true) (hne : x ≠ x2) (hG' : (if 0 < j2 then (G.give x2).put x (pointB (G.by_ x) j2 0) else ((((G.give x2).put x (pointB (G.by_ x) j2 0)).give x).put p (pointB (G.by_ p) j 0))) = G') :
    Calls Tryz.prog 149 #[.pointer (some ⟨gg, 0, none⟩), .int .u16 ((p + 1 : Nat) : Int), .agg v.cells, .int .i64 (k : Int)] w fun e w' => e = .returned (.int .i64 0) ∧ CutR w0 w' i s0 gg g lab G' K ∧ Tch w.heap.size i.own w w' := by
  obtain ⟨-, hcj2, -⟩ := WayV.idx_lt hv hj2
  have hlf := fun W (hW : CutR w0 W i s0 gg g lab G K) => lose_leaf hW hKl hb5 hK1 hK3 hv hk hj2 hxb hx2 hx2b hx2t
  obtain ⟨G1, hG1⟩ : ∃ G1, (G.give x2).put x (pointB (G.by_ x) j2 0) = G1 := ⟨_, rfl⟩
  rw [hG1] at hlf hG'
  have HGG := hide hG'
  clear hG'
  have hxt1 : G1.tk x = true := by rw [← hG1]; exact (upd_other _ _ hne).trans hxt
  have HLF := hide hlf
  have HJ2 := hide hcj2
  have HX1 := hide hxt1
  have hj2z : (j2 : Int) ≤ 31 := by have := (WayV.idx_lt hv hj2).1; omega
  clear hx2 hx2b hx2t hne hG1 hj2 hcj2 hlf hxt1 hK3
  have hwo := hv
  have hjl := hj
  obtain ⟨hj32, hcj, hk3⟩ := WayV.idx_lt hv hj
  have hbl := h.gok.len p
  have hget := fun W (hW : CutR w0 W i s0 gg g lab G K) => cut_get hW hp
  generalize hbk : G.by_ p = bk at *
  have hpt := fun W => pointer_ok W hbl hj32
  rw [hx] at hpt
  have ep : ((p + 1 : Nat) : Int) = (p : Int) + 1 := by omega
  have ex : ((x + 1 : Nat) : Int) = (x : Int) + 1 := by omega
  rw [ep] at hget ⊢
  rw [ex] at hpt
  have hkz : (k : Int) < 3 := by omega
  have hpz : (p : Int) ≤ 511 := by omega
  have hxz : (x : Int) ≤ 511 := by omega
  have hsz : (v.steps : Int) ≤ 3 := by rcases hv with h | h | h <;> omega
  have H := hide h
  have HK := hide (And.intro hKl (And.intro hK1 hK2))
  have HB5 := hide hb5
  have HBK := hide (And.intro hbk hbl)
  have HGT := hide hget
  have HPT := hide hpt
  have HV := hide (And.intro hwo hk)
  have HJ := hide (And.intro hj32 (And.intro hcj hjl))
  have HX := hide (And.intro hxb hxt)
  have HP := hide (And.intro hp (And.intro ep ex))
  clear h hKl hK1 hK2 hb5 hbk hbl hget hpt hwo hk hj32 hcj hjl hxb hxt hp ep ex hj hv hx
  go_enter Tryz.func149, Tryz.ntmps149
  go_upto_region 1 with (fail)
  refine at_world (fun W => ∃ q, q = w.heap.size ∧ Below w.heap.size w W ∧ Blk W q 268 v.cells) ⟨_, rfl, (Below.refl _ _).alloc (Nat.le_refl _) _, Blk.new _ _ _⟩ (fun w1 hw1 => ?_)
  obtain ⟨q, hq, hb1, hQ1⟩ := hw1
  rw [← hq]
  have HA1 := hide (H.out.below hb1)
  have HQ1 := hide hQ1
  have HQO := hide (show ¬ i.own q from by rw [hq]; exact H.out.new_own)
  have HT1 := hide (Tch.of_below (S := i.own) hb1)
  clear hq hb1 hQ1
  go_wp2_with fail
  refine (HGT.out w1 HA1.out).mono ?_
  rintro e w5 ⟨rfl, ha5, ht5⟩
  have HA5 := hide ha5
  have HQ5 := hide (HQ1.out.tch ht5 HQ1.out.lt HQO.out)
  have HT5 := hide (HT1.out.trans (ht5.mono HT1.out.size fun _ _ h => h))
  clear ha5 ht5 HGT HA1 HQ1 HT1
  go_upto_region 2 with (first | ((with_reducible refine at_alloc 106 ?_); refine wpList_alloc_as rfl 106 rfl _ (zero_block _) ?_) | ((with_reducible refine at_store 106 (.tmp 9) (.tmp 18) ?_); refine wpList_store_blk rfl 106 (.tmp 9) (.tmp 18) rfl w5.heap.size 106 _ _ (by rfl) (by rfl) (Blk.new _ _ _) (size_blockOf HBK.out.2) ((bvs_size zeroB_length).trans (bvs_size HBK.out.2).symm) (bvs_oneCell _) (fun _ => ?_)) | fail)
  refine at_world (fun W => ∃ z, z = w5.heap.size ∧ Below w5.heap.size w5 W ∧ Blk W z 106 (bvs bk).toArray) ⟨_, rfl, below_setRow ((Below.refl _ _).alloc (Nat.le_refl _) _) (Nat.le_refl _) _, (Blk.new _ _ _).setRow_same _⟩ (fun w6 hw6 => ?_)
  obtain ⟨z, hz, hb6, hZ6⟩ := hw6
  rw [← hz]
  have HZO := hide (show ¬ i.own z from by rw [hz]; exact HA5.out.new_own)
  have HA6 := hide (HA5.out.below hb6)
  have HQ6 := hide (HQ5.out.below hb6 HQ5.out.lt)
  have HT6 := hide (HT5.out.trans ((Tch.of_below hb6).mono HT5.out.size fun _ _ h => h))
  have HZ6 := hide hZ6
  clear hz hb6 hZ6 HA5 HQ5 HT5
  have cj : w6.cell? ⟨q, 1 + k, none⟩ = some (.int .i64 (j : Int)) := (HQ6.out.cell (1 + k)).trans HJ.out.2.1
  have ql := HQ6.out.lt
  go_upto_region 4 with (fail)
  refine wp_region_text [0, 0, 0, 0, 0, 2, 0] (· = w6.drew) (by kernel_rfl) (by kernel_rfl) rfl ?_
  refine wpOrd_q (v := .agg (bvs bk).toArray) (by rfl) (fun W hW => by cases hW; exact exec_load_blk 106 (.tmp 9) rfl z _ (bvs bk).toArray _ rfl HZ6.out.drew Tryz.underlying106 rfl (size_blockOf HBK.out.2)) ?_
  try simp only [Act.put, List.setIfInBounds_toArray, List.set_cons_zero, List.set_cons_succ]
  iterate 4 (refine wpOrd_q (v := ?_) (by rfl) (fun W hW => ?_) ?_; rotate_left; (focus ((cases hW; go_simp); try with_reducible rfl)); try simp only [Act.put, List.setIfInBounds_toArray, List.set_cons_zero, List.set_cons_succ])
  refine wpOrd_b (by rfl) (fun K hK => ?_)
  go_simp
  refine (HPT.out _).mono ?_
  rintro e w7 ⟨rfl, hb7⟩
  refine hK (fun _ => True) _ _ trivial ?_
  have hb67 : Below w6.heap.size w6 w7 := (Below.refl _ _).drew.trans hb7
  have HA7 := hide (HA6.out.below hb67)
  have HQ7 := hide (HQ6.out.below hb67 HQ6.out.lt)
  have HZ7 := hide (HZ6.out.below hb67 HZ6.out.lt)
  have HT7 := hide (HT6.out.trans ((Tch.of_below hb67).mono HT6.out.size fun _ _ h => h))
  clear hK hb7 hb67 cj ql HA6 HQ6 HZ6 HT6 HPT
  try simp only [Act.put, List.setIfInBounds_toArray, List.set_cons_zero, List.set_cons_succ]
  iterate 1 (refine wpOrd_q (v := ?_) (by rfl) (fun W hW => ?_) ?_; rotate_left; (focus (go_simp; try with_reducible rfl)); try simp only [Act.put, List.setIfInBounds_toArray, List.set_cons_zero, List.set_cons_succ])
  refine wpOrd_nil ?_
  have c0 : w7.cell? ⟨q, 0, none⟩ = some (.int .i64 (v.steps : Int)) := HQ7.out.cell 0
  have ql := HQ7.out.lt
  obtain ⟨k1, hk1⟩ : ∃ k1, k1 = k + 1 := ⟨_, rfl⟩
  have e1 : IntKind.i64.wrap ((k : Int) + 1) = (k1 : Int) := by rw [IntWalk.i64_in _ (by omega)]; omega
  have HK1 := hide hk1
  have t1 : decide (k1 < v.steps) = true := by have := HV.out.2; simp; omega
  clear hk1
  have hcl := HLF.out w7 HA7.out
  rw [HP.out.2.2, show ((k + 1 : Nat) : Int) = (k1 : Int) from by rw [HK1.out]] at hcl
  have HCL := hide hcl
  clear hcl HLF
  go_wp2_with (first | ((with_reducible refine at_load 268 (.tmp 6) ?_); refine wpList_load_blk rfl 268 (.tmp 6) rfl q _ _ _ (by rfl) HQ7.out Tryz.underlying268 rfl (size_way v) ?_) | fail)
  refine HCL.out.mono ?_
  rintro e w7' ⟨rfl, ha7, ht7⟩
  have HA7' := hide ha7
  have HQ7' := hide (HQ7.out.tch ht7 HQ7.out.lt HQO.out)
  have HZ7' := hide (HZ7.out.tch ht7 HZ7.out.lt HZO.out)
  have HT7' := hide (HT7.out.trans (ht7.mono HT7.out.size fun _ _ h => h))
  clear ha7 ht7 HCL HA7 HQ7 HZ7 HT7 c0 ql
  have cj2 : w7'.cell? ⟨q, 1 + k1, none⟩ = some (.int .i64 (j2 : Int)) := (HQ7'.out.cell (1 + k1)).trans (by rw [HK1.out]; exact HJ2.out)
  have ql := HQ7'.out.lt
  have hk1z : (k1 : Int) < 3 := by have := HV.out.2; have := HK1.out; rcases HV.out.1 with h | h | h <;> omega
  by_cases hj0 : 0 < j2
  · have t2 : decide (0 < j2) = true := by simp; omega
    have hgg := HGG.out
    rw [if_pos hj0] at hgg
    have HGG2 := hide hgg
    clear hj0 hgg HGG
    go_wp2
    go_returns
    exact ⟨rfl, by rw [← HGG2.out]; exact HA7'.out, HT7'.out⟩
  have t2 : decide (0 < j2) = false := by simp; omega
  have hgg := HGG.out
  rw [if_neg hj0] at hgg
  have HGG2 := hide hgg
  clear hj0 hgg HGG
  have hgv := cut_give HA7'.out HK.out.1 HB5.out HK.out.2.1 HX.out.1 HX1.out
  rw [HP.out.2.2] at hgv
  have HGV := hide hgv
  clear hgv
  go_wp2_with fail
  refine HGV.out.mono ?_
  rintro e w8 ⟨rfl, ha8, ht8⟩
  have HA8 := hide ha8
  have HQ8 := hide (HQ7'.out.tch ht8 HQ7'.out.lt HQO.out)
  have HZ8 := hide (HZ7'.out.tch ht8 HZ7'.out.lt HZO.out)
  have HT8 := hide (HT7'.out.trans (ht8.mono HT7'.out.size fun _ _ h => h))
  have cj : w8.cell? ⟨q, 1 + k, none⟩ = some (.int .i64 (j : Int)) := (HQ8.out.cell (1 + k)).trans HJ.out.2.1
  have ql := HQ8.out.lt
  clear ha8 ht8 HGV HA7' HQ7' HZ7' HT7'
  go_upto_region 14 with (fail)
  refine wp_region_text [0, 0, 0, 0, 0, 0, 0, 1, 2, 0] (Below w8.heap.size w8) (by kernel_rfl) (by kernel_rfl) (Below.refl _ _).drew ?_
  iterate 2 (refine wpOrd_q (v := ?_) (by rfl) (fun W hW => ?_) ?_; rotate_left; (focus ((obtain ⟨hWc, hWf⟩ := bcell hW; go_simp); try with_reducible rfl)); try simp only [Act.put, List.setIfInBounds_toArray, List.set_cons_zero, List.set_cons_succ])
  refine wpOrd_q (v := .agg (bvs bk).toArray) (by rfl) (fun W hW => exec_load_blk 106 (.tmp 9) rfl z _ (bvs bk).toArray _ rfl (HZ8.out.below hW HZ8.out.lt) Tryz.underlying106 rfl (size_blockOf HBK.out.2)) ?_
  try simp only [Act.put, List.setIfInBounds_toArray, List.set_cons_zero, List.set_cons_succ]
  iterate 4 (refine wpOrd_q (v := ?_) (by rfl) (fun W hW => ?_) ?_; rotate_left; (focus ((obtain ⟨hWc, hWf⟩ := bcell hW; go_simp); try with_reducible rfl)); try simp only [Act.put, List.setIfInBounds_toArray, List.set_cons_zero, List.set_cons_succ])
  refine wpOrd_x (by rfl) (fun K hK => ?_)
  go_simp
  have hpo := point_ok w8.drew HBK.out.2 HJ.out.1 (n := 0) (by omega)
  rw [show ((0 : Nat) : Int) = 0 from rfl] at hpo
  refine hpo.mono ?_
  rintro e w9 ⟨rfl, hb9⟩
  have hb89 : Below w8.heap.size w8 w9 := (Below.refl _ _).drew.trans hb9
  refine hK _ _ _ (fun _ h => h) hb89 ?_
  have HA9 := hide (HA8.out.below hb89)
  have HT9 := hide (HT8.out.trans ((Tch.of_below hb89).mono HT8.out.size fun _ _ h => h))
  have hput := cut_put (b := pointB bk j 0) HA9.out HK.out.1 HP.out.1 HK.out.2.2 (by rw [pointB_length]; exact HBK.out.2)
  rw [HP.out.2.1] at hput
  have HPUT := hide hput
  clear hK hpo hb9 hb89 cj ql HA8 HQ8 HZ8 HT8 hput
  try simp only [Act.put, List.setIfInBounds_toArray, List.set_cons_zero, List.set_cons_succ]
  refine wpOrd_b (by rfl) (fun K hK => ?_)
  go_simp
  refine HPUT.out.mono ?_
  rintro e w10 ⟨rfl, ha10, ht10⟩
  refine hK (fun _ => True) _ _ trivial ?_
  have HF := hide (And.intro ha10 (HT9.out.trans (ht10.mono HT9.out.size fun _ _ h => h)))
  clear hK ha10 ht10 HPUT HA9 HT9
  try simp only [Act.put, List.setIfInBounds_toArray, List.set_cons_zero, List.set_cons_succ]
  iterate 1 (refine wpOrd_q (v := ?_) (by rfl) (fun W hW => ?_) ?_; rotate_left; (focus (go_simp; try with_reducible rfl)); try simp only [Act.put, List.setIfInBounds_toArray, List.set_cons_zero, List.set_cons_succ])
  refine wpOrd_nil ?_
  go_wp2
  go_returns
  exact ⟨rfl, by rw [← HGG2.out]; exact HF.out.1, HF.out.2⟩
theorem CutR.setNode {nb r : Nat} {cs : Array Value} {u : Value} (h : CutR w0 w i s0 gg g lab G K) (hnb : w0.heap.size ≤ nb) (hN : Blk w nb 130 cs) : CutR w0 (w.setCell ⟨nb, r, none⟩ u) i s0 gg g lab G K := by
  obtain ⟨s, h1, h2, h3, h4⟩ := h
  have ht : Tch w.heap.size (· = nb) w (w.setCell ⟨nb, r, none⟩ u) := Tch.setCell fun _ => rfl
  have e1 : ¬ i.own nb := h1.tx.other hN (by decide) (by decide) (by decide)
  have e2 : nb ≠ i.ll := hN.ne h1.tx.log.log (by decide)
  have e3 : gg ≠ nb := h1.gp.ne hN (by decide)
  exact ⟨s, ⟨h1.tx.apart ht (fun k hk => by subst hk; exact ⟨e1, e2⟩), Blk.tch h1.gp ht h1.gp.lt e3, h1.ok, h1.is, h1.gok⟩, h2, h3, h4.trans (ht.mono h4.size fun k hk hs => by omega)⟩
theorem build_three0 (w : World) : (Instr.build 266 #[]).run Tryz.prog w = .ok (.agg #[.int .i64 0, .int .i64 0, .int .i64 0]) w := by kernel_rfl
theorem wf64 {a : Nat} (ha : a < 64) : (Lit.int .i64 (a : Int)).wf = true := by
  simp [Lit.wf, IntKind.min, IntKind.max, IntKind.signed, IntKind.bits]
  omega
theorem at_eq (w : World) {a b : Nat} (ha : a < 64) (hb : b < 64) : (Op.equalIn 10000 266 (.agg #[.int .i64 (a : Int), .int .i64 (b : Int), .int .i64 0]) (.agg #[.int .i64 0, .int .i64 0, .int .i64 0])).run Tryz.prog w = .ok (decide (a = 0 ∧ b = 0)) w := by
  have hl : ∀ x y : Nat, x < 64 → y < 64 → Tryz.prog.keyLits (0 + 2) 266 [.int .i64 (x : Int), .int .i64 (y : Int), .int .i64 0] = some [Lit.int .i64 (x : Int), Lit.int .i64 (y : Int), Lit.int .i64 0] := fun x y hx hy =>
    lits_ints (P := Tryz.prog) (d := 0) Tryz.underlying266 Tryz.underlying3 (by kernel_rfl) (by kernel_rfl) (xs := [(x : Int), (y : Int), 0]) rfl (fun z hz => by
      simp only [List.mem_cons, List.not_mem_nil, or_false] at hz
      rcases hz with rfl | rfl | rfl
      · exact wf64 hx
      · exact wf64 hy
      · exact wf64 (a := 0) (by omega))
  have hf : ∀ x y : Value, (Value.agg #[x, y, .int .i64 0]).formed Tryz.prog 266 = true := fun x y => by
    unfold Value.formed
    rw [Tryz.underlying266]
    simp only [beq_iff_eq]
    kernel_rfl
  obtain ⟨r, h1, h2⟩ := run_equal_lits (P := Tryz.prog) w (m := 2) (D := 2) (by decide) (k := 266) (by kernel_rfl) (hf _ _) (hf (.int .i64 0) (.int .i64 0)) (hl a b ha hb) (hl 0 0 (by omega) (by omega))
  have : r = decide (a = 0 ∧ b = 0) := by
    rw [Bool.eq_iff_iff, h2, decide_eq_true_iff]
    simp
  rw [h1, this]
theorem CutR.node_own {nb : Nat} {cs : Array Value} (h : CutR w0 w i s0 gg g lab G K) (hN : Blk w nb 130 cs) : ¬ i.own nb := by
  obtain ⟨s, h1, h2, h3, h4⟩ := h
  exact h1.tx.other hN (by decide) (by decide) (by decide)
theorem nkeys_next {b : Nat} (hb : b < 256) : (if b = 6 then 2 else if 38 ≤ b ∧ (b - 38) % 32 = 0 then (if b = 38 then 3 else 2) else 1) + nkeys b = nkeys (b + 1) := by
  unfold nkeys
  by_cases h6 : b < 6
  · rw [if_neg (by omega), if_neg (by omega), if_neg (by omega), if_neg (by omega), if_neg (by omega), if_neg (by omega)]
    omega
  · by_cases h38 : b < 38
    · by_cases e : b = 6
      · subst e; decide
      · rw [if_neg e, if_neg (by omega), if_pos (by omega), if_neg (by omega), if_pos (by omega), if_neg (by omega)]
        omega
    · rw [if_neg (by omega), if_pos (by omega : 6 < b), if_pos (by omega : 6 < b + 1), if_pos (by omega : 38 < b + 1)]
      by_cases e : b = 38
      · subst e; decide
      · rw [if_pos (by omega : 38 < b)]
        by_cases e2 : (b - 38) % 32 = 0
        · rw [if_pos ⟨by omega, e2⟩, if_neg e]; omega
        · rw [if_neg (by omega)]; omega
theorem lose_any {n : NodeV} {b : Nat} {κ : Nat → Nat} (hG : G.Ok) (hKl : K.length ≤ 28) (hb5 : g.blocks ≤ 512) (hK1 : g.base ∈ K) (hKp : ∀ k, 256 ≤ k → prOf (b + 1) k = true → g.data + κ k ∈ K) (hb6 : 6 ≤ b) (hb : b < 256) (hT : Tree G g.blocks n (prOf (b + 1)) κ) :
    ∃ G1 p0 d, (n.rootV (wayOf b)).toNat = p0 + 1 ∧ p0 < g.blocks ∧ d + nkeys b = nkeys (b + 1) ∧
      (∀ W, CutR w0 W i s0 gg g lab G K → Calls Tryz.prog 149 #[.pointer (some ⟨gg, 0, none⟩), .int .u16 ((p0 + 1 : Nat) : Int), .agg (wayOf b).cells, .int .i64 ((0 : Nat) : Int)] W fun e w' => e = .returned (.int .i64 0) ∧ CutR w0 w' i s0 gg g lab G1 K ∧ Tch W.heap.size i.own W w') ∧
      (if b = 6 ∨ b = 38 then G1.tk p0 = true ∧ Del G (G1.give p0) g.blocks n (n.setRoot (wayOf b) 0) (prOf (b + 1)) (prOf b) κ d else Del G G1 g.blocks n n (prOf (b + 1)) (prOf b) κ d) := by
  have hwo := wayOf_ok hb
  obtain ⟨hr1, hr2⟩ := par_root hb
  have htop := hT.top _ hr2 hr1
  have hsl := slot_root hb n
  have hnk := nkeys_next hb
  have hob := hT.own b (prOf_true.2 (by omega))
  by_cases h38 : b < 38
  · have hrk : rootK b = 256 := by unfold rootK; rw [if_neg (by omega), if_pos h38]
    have hp256 : prOf (b + 1) 256 = true := prOf_true.2 (by omega)
    rw [hrk, hp256, if_pos rfl] at htop
    rw [hrk] at hsl
    have hor := hT.own 256 hp256
    have hpar : par b = some (256, b - 6) := par_single hb6 h38
    have hsub := hT.sub b 256 (b - 6) (by omega) hpar hp256
    rw [prOf_true.2 (by omega), if_pos rfl] at hsub
    have hst : (wayOf b).steps = 0 + 1 := by unfold wayOf; rw [if_neg (by omega), if_pos h38]
    have hix : (wayOf b).idx[0]? = some (b - 6) := by unfold wayOf; rw [if_neg (by omega), if_pos h38]; rfl
    have hne : κ 256 ≠ κ b := fun e => by have := hT.inj 256 b hp256 (prOf_true.2 (by omega)) e; omega
    refine ⟨_, κ 256, _, by rw [hsl, htop], hor.1, hnk, fun W hW => lose_leaf hW hKl hb5 hK1 (hKp 256 (by omega) hp256) hwo hst hix hor.1 hsub hob.1 hob.2, ?_⟩
    by_cases e : b = 6
    · subst e
      rw [if_pos (.inl rfl), if_pos rfl]
      exact ⟨(upd_other _ _ hne).trans hor.2, del_six hT hG⟩
    · rw [if_neg (by omega), if_neg e, if_neg (by omega)]
      exact del_more hT hG (by omega) hb (fun h => by omega) hpar
  · have hrk : rootK b = 257 := by unfold rootK; rw [if_neg (by omega), if_neg h38]
    have hp257 : prOf (b + 1) 257 = true := prOf_true.2 (by omega)
    rw [hrk, hp257, if_pos rfl] at htop
    rw [hrk] at hsl
    have hor := hT.own 257 hp257
    obtain ⟨q, hq⟩ : ∃ q, q = (b - 38) / 32 := ⟨_, rfl⟩
    have hpq : prOf (b + 1) (258 + q) = true := prOf_true.2 (by omega)
    have hoq := hT.own (258 + q) hpq
    have hpar : par b = some (258 + q, (b - 38) % 32) := by rw [hq]; exact par_double (by omega) hb
    have hpm : par (258 + q) = some (257, q) := par_mid' (by omega)
    have hsub := hT.sub b (258 + q) _ (by omega) hpar hpq
    rw [prOf_true.2 (by omega), if_pos rfl] at hsub
    have hsub2 := hT.sub (258 + q) 257 q (by omega) hpm hp257
    rw [hpq, if_pos rfl] at hsub2
    have hst : (wayOf b).steps = 0 + 2 := by unfold wayOf; rw [if_neg (by omega), if_neg h38]
    have hix : (wayOf b).idx[0]? = some q := by unfold wayOf; rw [if_neg (by omega), if_neg h38, hq]; rfl
    have hix2 : (wayOf b).idx[0 + 1]? = some ((b - 38) % 32) := by unfold wayOf; rw [if_neg (by omega), if_neg h38]; rfl
    have hne : κ (258 + q) ≠ κ b := fun e => by have := hT.inj (258 + q) b hpq (prOf_true.2 (by omega)) e; omega
    have hne2 : κ 257 ≠ κ (258 + q) := fun e => by have := hT.inj 257 (258 + q) hp257 hpq e; omega
    have hne3 : κ 257 ≠ κ b := fun e => by have := hT.inj 257 b hp257 (prOf_true.2 (by omega)) e; omega
    refine ⟨_, κ 257, _, by rw [hsl, htop], hor.1, hnk, fun W hW => lose_two hW hKl hb5 hK1 (hKp 257 (by omega) hp257) (hKp (258 + q) (by omega) hpq) hwo hst hix hix2 hor.1 hsub2 hoq.1 hoq.2 hsub hob.1 hob.2 hne rfl, ?_⟩
    have e6 : ¬ b = 6 := by omega
    by_cases hm : (b - 38) % 32 = 0
    · rw [if_neg (show ¬ 0 < (b - 38) % 32 by omega), if_neg e6, if_pos (show 38 ≤ b ∧ (b - 38) % 32 = 0 from ⟨by omega, hm⟩), hm]
      by_cases e : b = 38
      · subst e
        have hq0 : q = 0 := by omega
        subst hq0
        rw [if_pos (show 38 = 6 ∨ 38 = 38 from .inr rfl), if_pos rfl]
        exact ⟨(upd_other _ _ hne2).trans ((upd_other _ _ hne3).trans hor.2), del_38 hT hG⟩
      · rw [if_neg (show ¬ (b = 6 ∨ b = 38) by omega), if_neg e]
        exact del_first hT hG hb (by omega) (by omega)
    · rw [if_pos (show 0 < (b - 38) % 32 by omega), if_neg (show ¬ (b = 6 ∨ b = 38) by omega), if_neg e6, if_neg (show ¬ (38 ≤ b ∧ (b - 38) % 32 = 0) by omega)]
      exact del_more hT hG (by omega) hb (fun _ => hm) hpar
set_option maxRecDepth 100000 in
set_option maxHeartbeats 4000000 in
theorem fdrop_ok {n : NodeV} {b nb : Nat} {κ : Nat → Nat} (h : CutR w0 w i s0 gg g lab G K) (hKl : K.length ≤ 28) (hb5 : g.blocks ≤ 512) (hK1 : g.base ∈ K) (hKp : ∀ k, 256 ≤ k → prOf (b + 1) k = true → g.data + κ k ∈ K) (hb : b < 256) (hnb : w0.heap.size ≤ nb) (hN : Blk w nb 130 n.cells.toArray) (hT : Tree G g.blocks n (prOf (b + 1)) κ) :
    Calls Tryz.prog 97 #[.pointer (some ⟨gg, 0, none⟩), .pointer (some ⟨nb, 0, none⟩), .int .i64 (b : Int)] w fun e w' => e = .returned (.int .i64 0) ∧ ∃ G' n' d, CutR w0 w' i s0 gg g lab G' K ∧ Blk w' nb 130 n'.cells.toArray ∧ Del G G' g.blocks n n' (prOf (b + 1)) (prOf b) κ d ∧ d + nkeys b = nkeys (b + 1) := by
  have hwo := wayOf_ok hb
  have hpl := fun W => place_ok' W hb
  have hG := h.gok
  have hnd := hT.dir
  have hset := NodeV.setRoot_cells hT.dir hwo 0
  rw [show ((0 : UInt16).toNat : Int) = 0 from rfl] at hset
  obtain ⟨hrc, hr12⟩ := NodeV.rootV_at hT.dir hwo
  have hown := h.node_own hN
  have hloss : 6 ≤ b → _ := fun h6 => lose_any (w0 := w0) (i := i) (s0 := s0) (gg := gg) (lab := lab) hG hKl hb5 hK1 hKp h6 hb hT
  have hdir : b < 6 → (n.rootV (wayOf b)).toNat = κ b + 1 ∧ κ b < g.blocks ∧ G.tk (κ b) = true ∧ Del G (G.give (κ b)) g.blocks n (n.setRoot (wayOf b) 0) (prOf (b + 1)) (prOf b) κ 1 ∧ 1 + nkeys b = nkeys (b + 1) := fun h6 => by
    have hrk : rootK b = b := by unfold rootK; rw [if_pos h6]
    have hsl := slot_root hb n
    have htop := hT.top b (by omega) (par_dir h6)
    have ho := hT.own b (prOf_true.2 (by omega))
    rw [prOf_true.2 (by omega), if_pos rfl] at htop
    have hnk := nkeys_next hb
    rw [if_neg (by omega), if_neg (by omega)] at hnk
    exact ⟨by rw [hsl, hrk, htop], ho.1, ho.2, del_dir hT hG h6, hnk⟩
  have ha01 : (wayOf b).a0 < 64 ∧ (wayOf b).a1 < 64 := by
    unfold wayOf
    split
    · simp; omega
    · split
      · simp; omega
      · simp; omega
  have hst : ((wayOf b).steps = 0 ↔ b < 6) ∧ (((wayOf b).a0 = 0 ∧ (wayOf b).a1 = 0) ↔ (b = 0 ∨ b = 6 ∨ b = 38)) := by
    unfold wayOf
    split
    · simp; omega
    · split
      · simp; omega
      · simp; omega
  obtain ⟨v, hv⟩ : ∃ v, wayOf b = v := ⟨_, rfl⟩
  rw [hv] at hwo hpl hset hrc hr12 hloss hdir hst ha01
  have HA01 := hide ha01
  have H := hide h
  have HPL := hide hpl
  have HWO := hide hwo
  have HL := hide hloss
  have HD := hide hdir
  have HN := hide (And.intro hN (And.intro hnb hown))
  have HS := hide (And.intro hset hrc)
  have HST := hide hst
  have HK := hide (And.intro hKl (And.intro hb5 hK1))
  have hstz : (v.steps : Int) ≤ 3 := by rcases hwo with h | h | h <;> omega
  have HB6 := hide hb
  clear h hpl hwo hloss hdir hN hnb hown hset hrc hr12 hst hKl hb5 hK1 hKp hG hnd hT hv hb
  go_enter Tryz.func97, Tryz.ntmps97
  go_wp2_with fail
  refine (HPL.out w).mono ?_
  rintro e w2 ⟨rfl, hb2⟩
  have HB2 := hide hb2
  clear hb2 HPL
  go_upto_region 2 with (first | ((with_reducible refine at_alloc 268 ?_); refine wpList_alloc_as rfl 268 rfl _ (zero_way _) ?_) | ((with_reducible refine at_store 268 (.tmp 7) (.tmp 16) ?_); refine wpList_store_blk rfl 268 (.tmp 7) (.tmp 16) rfl w2.heap.size _ _ _ (by rfl) (by rfl) (Blk.new _ _ _) (size_way v) rfl (way_one v) (fun _ => ?_)) | fail)
  refine at_world (fun W => ∃ q, q = w2.heap.size ∧ Below w2.heap.size w2 W ∧ Blk W q 268 v.cells) ⟨_, rfl, below_setRow ((Below.refl _ _).alloc (Nat.le_refl _) _) (Nat.le_refl _) _, (Blk.new _ _ _).setRow_same _⟩ (fun w3 hw3 => ?_)
  obtain ⟨q, hq, hb3, hQ3⟩ := hw3
  rw [← hq]
  have HB3 := hide (HB2.out.trans (hb3.mono HB2.out.size))
  have HQ3 := hide hQ3
  clear hq hb3 hQ3 HB2
  go_wp2_with (first | ((with_reducible refine at_load 268 (.tmp 7) ?_); refine wpList_load_blk rfl 268 (.tmp 7) rfl q _ _ _ (by rfl) HQ3.out Tryz.underlying268 rfl (size_way v) ?_) | fail)
  refine (root_ok w3 (nb := nb) HWO.out).mono ?_
  rintro e w4 ⟨rfl, hb4⟩
  have HQ4 := hide (HQ3.out.below hb4 HQ3.out.lt)
  have HB4 := hide (HB3.out.trans (hb4.mono HB3.out.size))
  have HA4 := hide (H.out.below HB4.out)
  have HN4 := hide (HN.out.1.below HB4.out HN.out.1.lt)
  have HQO := hide (show ¬ i.own q ∧ q ≠ nb from ⟨by
    obtain ⟨s1, k1, -⟩ := HA4.out
    exact k1.tx.other HQ4.out (by decide) (by decide) (by decide), HQ4.out.ne HN4.out (by decide)⟩)
  have c0 : w4.cell? ⟨q, 0, none⟩ = some (.int .i64 (v.steps : Int)) := HQ4.out.cell 0
  have ql := HQ4.out.lt
  have nl := HN4.out.lt
  clear hb4 HQ3 HB3 H
  by_cases hb6 : b < 6
  · obtain ⟨hr, hkm, hkt, hdel, hnk⟩ := HD.out hb6
    have t1 : ((v.steps : Int) == 0) = true := by simp [HST.out.1.2 hb6]
    have hrc := HS.out.2
    rw [hr] at hrc
    have cr : w4.cell? ⟨nb, v.root, none⟩ = some (.int .u16 ((κ b : Int) + 1)) := (HN4.out.cell v.root).trans (by rw [List.getElem?_toArray, hrc]; congr 2)
    have cf : w4.frozen? ⟨nb, v.root, none⟩ = false := HN4.out.frozen v.root
    have HDL := hide (And.intro hdel hnk)
    have hN5 := HN4.out.set_ v.root (.int .u16 0)
    rw [HS.out.1] at hN5
    have HN5 := hide hN5
    have HA5 := hide (HA4.out.setNode (r := v.root) (u := .int .u16 0) HN.out.2.1 HN4.out)
    have hgv := cut_give (k := κ b) HA5.out HK.out.1 HK.out.2.1 HK.out.2.2 hkm hkt
    rw [show ((κ b + 1 : Nat) : Int) = (κ b : Int) + 1 from by omega] at hgv
    have HGV := hide hgv
    have hkz : (κ b : Int) ≤ 511 := by have := HK.out.2.1; omega
    generalize κ b = kb at *
    clear hr hdel hnk hN5 hgv hb6 hrc hkm hkt HL HD
    go_wp2_with fail
    refine HGV.out.mono ?_
    rintro e w6 ⟨rfl, ha6, ht6⟩
    have HF := hide (And.intro ha6 (HN5.out.tch ht6 HN5.out.lt HN.out.2.2))
    clear ha6 ht6 HGV cr cf c0 ql nl
    go_wp2
    go_returns
    exact ⟨rfl, _, _, _, HF.out.1, HF.out.2, HDL.out.1, HDL.out.2⟩
  · obtain ⟨G1, p0, d, hr, hp0, hnk, hlose, hfin⟩ := HL.out (by omega)
    have t1 : ((v.steps : Int) == 0) = false := by
      have : v.steps ≠ 0 := fun e => hb6 (HST.out.1.1 e)
      simp [this]
    have hrc := HS.out.2
    rw [hr] at hrc
    have cr : w4.cell? ⟨nb, v.root, none⟩ = some (.int .u16 ((p0 : Int) + 1)) := (HN4.out.cell v.root).trans (by rw [List.getElem?_toArray, hrc]; congr 2)
    have hls := hlose w4.drew HA4.out.drew
    rw [show ((p0 + 1 : Nat) : Int) = (p0 : Int) + 1 from by omega, show ((0 : Nat) : Int) = 0 from rfl] at hls
    have HLS := hide hls
    have HFI := hide (And.intro hfin (And.intro hp0 hnk))
    have HBB := hide (show 6 ≤ b from by omega)
    have HRP := hide hr
    have HST2 := hide (show v.a0 < 64 ∧ v.a1 < 64 from HA01.out)
    have hpz : (p0 : Int) ≤ 511 := by have := HK.out.2.1; omega
    clear hr hlose hfin hrc hls hp0 hnk hb6 HL HD
    go_upto_region 7 with (fail)
    refine wp_region_text [0, 0, 0, 0, 0, 2, 0] (· = w4.drew) (by kernel_rfl) (by kernel_rfl) rfl ?_
    iterate 4 (refine wpOrd_q (v := ?_) (by rfl) (fun W hW => ?_) ?_; rotate_left; (focus ((cases hW; go_simp); try with_reducible rfl)); try simp only [Act.put, List.setIfInBounds_toArray, List.set_cons_zero, List.set_cons_succ])
    refine wpOrd_q (v := .agg v.cells) (by rfl) (fun W hW => by cases hW; exact exec_load_blk 268 (.tmp 7) rfl q _ v.cells _ rfl HQ4.out.drew Tryz.underlying268 rfl (size_way v)) ?_
    try simp only [Act.put, List.setIfInBounds_toArray, List.set_cons_zero, List.set_cons_succ]
    refine wpOrd_b (by rfl) (fun K hK => ?_)
    go_simp
    refine HLS.out.mono ?_
    rintro e w5 ⟨rfl, ha5, ht5⟩
    refine hK (fun _ => True) _ _ trivial ?_
    have HA5 := hide ha5
    have HQ5 := hide (HQ4.out.drew.tch ht5 HQ4.out.lt HQO.out.1)
    have HN5 := hide (HN4.out.drew.tch ht5 HN4.out.lt HN.out.2.2)
    clear hK ha5 ht5 HLS cr c0 ql nl HA4 HQ4 HN4 HB4
    try simp only [Act.put, List.setIfInBounds_toArray, List.set_cons_zero, List.set_cons_succ]
    iterate 1 (refine wpOrd_q (v := ?_) (by rfl) (fun W hW => ?_) ?_; rotate_left; (focus (go_simp; try with_reducible rfl)); try simp only [Act.put, List.setIfInBounds_toArray, List.set_cons_zero, List.set_cons_succ])
    refine wpOrd_nil ?_
    have cl5 := HQ5.out.lt
    have nl := HN5.out.lt
    have hrg : w5.rangeAt q 1 [.int .i64 (v.a0 : Int), .int .i64 (v.a1 : Int), .int .i64 0] := HQ5.out.range (fun j u hj => by
      obtain rfl | rfl | rfl : j = 0 ∨ j = 1 ∨ j = 2 := by have := (List.getElem?_eq_some_iff.1 hj).1; simp at this; omega
      all_goals exact hj)
    have HRG := hide hrg
    have hcmp := at_eq w5 HST2.out.1 HST2.out.2
    have HCM := hide hcmp
    have c0 : True := trivial
    by_cases hz : b = 6 ∨ b = 38
    · have hd : decide (v.a0 = 0 ∧ v.a1 = 0) = true := by rw [decide_eq_true_iff]; exact HST.out.2.2 (by omega)
      obtain ⟨hfin, hp0, hnk⟩ := HFI.out
      rw [if_pos hz] at hfin
      rw [hd] at hcmp
      have HCM := hide hcmp
      have HDL := hide (And.intro hfin (And.intro hp0 hnk))
      have hrc := HS.out.2
      have hp1 := HRP.out
      rw [hp1] at hrc
      have cr : w5.cell? ⟨nb, v.root, none⟩ = some (.int .u16 ((p0 : Int) + 1)) := (HN5.out.cell v.root).trans (by rw [List.getElem?_toArray, hrc]; congr 2)
      have cf : w5.frozen? ⟨nb, v.root, none⟩ = false := HN5.out.frozen v.root
      have hN6 := HN5.out.set_ v.root (.int .u16 0)
      rw [HS.out.1] at hN6
      have HN6 := hide hN6
      have HA6 := hide (HA5.out.setNode (r := v.root) (u := .int .u16 0) HN.out.2.1 HN5.out)
      have hgv := cut_give (k := p0) HA6.out HK.out.1 HK.out.2.1 HK.out.2.2 hp0 hfin.1
      rw [show ((p0 + 1 : Nat) : Int) = (p0 : Int) + 1 from by omega] at hgv
      have HGV := hide hgv
      clear hfin hp0 hnk hrc hp1 hN6 hgv hz hd hcmp c0 hrg
      go_wp2_with (first | ((with_reducible refine at_load 266 (.tmp 41) ?_); refine wpList_load_mid rfl 266 (.tmp 41) rfl q 1 (by rfl) [.int .i64 (v.a0 : Int), .int .i64 (v.a1 : Int), .int .i64 0] _ HRG.out Tryz.underlying266 rfl (by kernel_rfl) ?_) | ((with_reducible refine at_build 266 #[] ?_); refine wpList_zero_as rfl 266 rfl _ (build_three0 _) ?_) | ((with_reducible refine at_binop .eql 266 (.tmp 42) (.tmp 43) 266 ?_); refine wpList_run rfl _ (exec_eql_agg 266 (.tmp 42) (.tmp 43) 266 rfl _ _ rfl rfl (by kernel_rfl) _ HCM.out) ?_) | fail)
      refine HGV.out.mono ?_
      rintro e w6 ⟨rfl, ha6, ht6⟩
      have HF := hide (And.intro ha6 (HN6.out.tch ht6 HN6.out.lt HN.out.2.2))
      clear ha6 ht6 HGV cr cf cl5 nl
      go_wp2
      go_returns
      exact ⟨rfl, _, _, _, HF.out.1, HF.out.2, HDL.out.1.2, HDL.out.2.2⟩
    · have hd : decide (v.a0 = 0 ∧ v.a1 = 0) = false := by rw [decide_eq_false_iff_not]; intro h; have := HST.out.2.1 h; have := HBB.out; omega
      obtain ⟨hfin, hp0, hnk⟩ := HFI.out
      rw [if_neg hz] at hfin
      rw [hd] at hcmp
      have HCM := hide hcmp
      have HDL := hide (And.intro hfin hnk)
      clear hfin hp0 hnk hz hd hcmp c0 hrg
      go_wp2_with (first | ((with_reducible refine at_load 266 (.tmp 41) ?_); refine wpList_load_mid rfl 266 (.tmp 41) rfl q 1 (by rfl) [.int .i64 (v.a0 : Int), .int .i64 (v.a1 : Int), .int .i64 0] _ HRG.out Tryz.underlying266 rfl (by kernel_rfl) ?_) | ((with_reducible refine at_build 266 #[] ?_); refine wpList_zero_as rfl 266 rfl _ (build_three0 _) ?_) | ((with_reducible refine at_binop .eql 266 (.tmp 42) (.tmp 43) 266 ?_); refine wpList_run rfl _ (exec_eql_agg 266 (.tmp 42) (.tmp 43) 266 rfl _ _ rfl rfl (by kernel_rfl) _ HCM.out) ?_) | fail)
      go_returns
      exact ⟨rfl, _, _, _, HA5.out, HN5.out, HDL.out.1, HDL.out.2⟩
end
end Go.Proofs.YthmkgohfeahdhaaGreat
namespace Go.Proofs.YthmkgohfeahdhaaGreat
open Go.RowKit
set_option linter.unusedSimpArgs false
set_option linter.unusedVariables false

/-- a block's bytes behind a place are noughts -/
def wipeB (b : BlkV) (r : Nat) : BlkV := b.take r ++ List.replicate (64 - r) 0
theorem wipeB_length {b : BlkV} (hb : b.length = 64) {r : Nat} (hr : r ≤ 64) : (wipeB b r).length = 64 := by
  unfold wipeB
  rw [List.length_append, List.length_take, List.length_replicate]
  omega
theorem wipeB_getD {b : BlkV} (hb : b.length = 64) {r j : Nat} (hj : j < r) (hr : r ≤ 64) : (wipeB b r).getD j 0 = b.getD j 0 := by
  unfold wipeB
  rw [List.getD_eq_getElem?_getD, List.getD_eq_getElem?_getD, List.getElem?_append_left (by rw [List.length_take]; omega), List.getElem?_take, if_pos hj]
theorem Del.trans {G0 G1 G2 : GS} {m : Nat} {n0 n1 n2 : NodeV} {p0 p1 p2 : Nat → Bool} {κ : Nat → Nat} {d d' : Nat} (h : Del G0 G1 m n0 n1 p0 p1 κ d) (h' : Del G1 G2 m n1 n2 p1 p2 κ d') : Del G0 G2 m n0 n2 p0 p2 κ (d + d') where
  tree := h'.tree
  ok := h'.ok
  nd := h'.nd.trans h.nd
  same := h.same.trans h'.same
  sub k hk := h.sub k (h'.sub k hk)
  by_ x hx := (h'.by_ x fun k hk => hx k (h.sub k hk)).trans (h.by_ x hx)
  tk x hx := (h'.tk x fun k hk => hx k (h.sub k hk)).trans (h.tk x hx)
  cnt := by have := h.cnt; have := h'.cnt; omega
/-- which blocks may be written when a file is cut -/
def cutL (g : GeoN) (K0 : List Nat) (c b : Nat) (κ : Nat → Nat) : List Nat := K0 ++ g.base :: (([256, 257, 258, 259, 260, 261, 262, 263, 264].filter (prOf c)).map fun k => g.data + κ k) ++ [g.data + κ b]
theorem cutL_length (g : GeoN) (K0 : List Nat) (c b : Nat) (κ : Nat → Nat) : (cutL g K0 c b κ).length ≤ K0.length + (if c ≤ 6 then 2 else if c ≤ 38 then 3 else 11) := by
  unfold cutL
  rw [List.length_append, List.length_append, List.length_cons, List.length_map, List.length_singleton]
  have h9 := List.length_filter_le (prOf c) [256, 257, 258, 259, 260, 261, 262, 263, 264]
  by_cases h6 : c ≤ 6
  · rw [if_pos h6]
    have : [256, 257, 258, 259, 260, 261, 262, 263, 264].filter (prOf c) = [] := by
      rw [List.filter_eq_nil_iff]
      intro x hx
      have : ¬ prOf c x = true := by
        rw [prOf_true]
        simp only [List.mem_cons, List.not_mem_nil, or_false] at hx
        omega
      exact this
    rw [this]
    simp
  · rw [if_neg h6]
    by_cases h38 : c ≤ 38
    · rw [if_pos h38]
      have : [256, 257, 258, 259, 260, 261, 262, 263, 264].filter (prOf c) = [256] := by
        have h1 : prOf c 256 = true := prOf_true.2 (by omega)
        have h2 : ∀ x ∈ [257, 258, 259, 260, 261, 262, 263, 264], ¬ prOf c x = true := fun x hx => by
          rw [prOf_true]
          simp only [List.mem_cons, List.not_mem_nil, or_false] at hx
          omega
        rw [List.filter_cons, if_pos h1, List.filter_eq_nil_iff.2 h2]
      rw [this]
      simp
    · rw [if_neg h38]
      simp only [List.length_cons, List.length_nil] at h9 ⊢
      omega
theorem cutL_key (g : GeoN) (K0 : List Nat) (c b : Nat) (κ : Nat → Nat) {k : Nat} (h1 : 256 ≤ k) (h2 : prOf c k = true) (hc : c ≤ 256) : g.data + κ k ∈ cutL g K0 c b κ := by
  unfold cutL
  have hk : k ∈ [256, 257, 258, 259, 260, 261, 262, 263, 264] := by
    have := prOf_true.1 h2
    simp only [List.mem_cons, List.not_mem_nil, or_false]
    omega
  simp only [List.mem_append, List.mem_cons, List.mem_map, List.mem_filter]
  exact .inl (.inr (.inr ⟨k, ⟨by simpa using hk, h2⟩, rfl⟩))
theorem cutL_base (g : GeoN) (K0 : List Nat) (c b : Nat) (κ : Nat → Nat) : g.base ∈ cutL g K0 c b κ := by simp [cutL]
theorem cutL_last (g : GeoN) (K0 : List Nat) (c b : Nat) (κ : Nat → Nat) : g.data + κ b ∈ cutL g K0 c b κ := by simp [cutL]
/-- how many blocks a length takes, as the program has it -/
theorem nspread_ok (w : World) {n : Nat} (hn : n ≤ 16384) : Calls Tryz.prog 96 #[.int .i64 (n : Int)] w fun e w' => e = .returned (.tuple #[.int .i64 (blks n : Int), .int .i64 ((nkeys (blks n) - blks n : Nat) : Int)]) ∧ w = w' := by
  obtain ⟨c, hc⟩ : ∃ c, blks n = c := ⟨_, rfl⟩
  have hcv : c = (n + 63) / 64 := by rw [← hc]; rfl
  have hc256 : c ≤ 256 := by omega
  rw [hc]
  have m1 : max (n : Int) 0 = (n : Int) := by omega
  have e1 : IntKind.i64.wrap ((n : Int) + 64) = (n : Int) + 64 := IntWalk.i64_in _ (by omega)
  have e2 : IntKind.i64.wrap ((n : Int) + 64 - 1) = ((n + 63 : Nat) : Int) := by rw [IntWalk.i64_in _ (by omega)]; omega
  have e3 : ((n + 63 : Nat) : Int).tdiv 64 = (c : Int) := by rw [Int.tdiv_eq_ediv_of_nonneg (by omega)]; omega
  have e4 : IntKind.i64.wrap (c : Int) = (c : Int) := IntWalk.i64_in _ (by omega)
  have e5 : IntKind.i64.wrap ((c : Int) - 6) = (c : Int) - 6 := IntWalk.i64_in _ (by omega)
  have e6 : IntKind.i64.wrap ((c : Int) - 6 - 32) = (c : Int) - 6 - 32 := IntWalk.i64_in _ (by omega)
  obtain ⟨k, hk⟩ : ∃ k, nkeys c - c = k := ⟨_, rfl⟩
  rw [hk]
  unfold nkeys at hk
  generalize n + 63 = n63 at *
  by_cases h6 : c ≤ 6
  · have t1 : decide ((0 : Int) < (c : Int) - 6) = false := by simp; omega
    have hk0 : k = 0 := by rw [if_neg (show ¬ 6 < c by omega), if_neg (show ¬ 38 < c by omega)] at hk; omega
    clear hk hcv hc
    subst hk0
    go_enter Tryz.func96, Tryz.ntmps96
    go_wp2
    go_returns
    exact ⟨rfl, rfl⟩
  · have t1 : decide ((0 : Int) < (c : Int) - 6) = true := by simp; omega
    by_cases h38 : c ≤ 38
    · have t2 : decide ((0 : Int) < (c : Int) - 6 - 32) = false := by simp; omega
      have hk0 : k = 1 := by rw [if_pos (show 6 < c by omega), if_neg (show ¬ 38 < c by omega)] at hk; omega
      clear hk hcv hc
      subst hk0
      go_enter Tryz.func96, Tryz.ntmps96
      go_wp2
      go_returns
      exact ⟨rfl, rfl⟩
    · have t2 : decide ((0 : Int) < (c : Int) - 6 - 32) = true := by simp; omega
      obtain ⟨x, hx⟩ : ∃ x : Nat, (c - 38 + 31) / 32 = x := ⟨_, rfl⟩
      have hk0 : k = 2 + x := by rw [if_pos (show 6 < c by omega), if_pos (show 38 < c by omega)] at hk; omega
      have e7 : IntKind.i64.wrap ((c : Int) - 6 - 32 + 32) = (c : Int) - 6 - 32 + 32 := IntWalk.i64_in _ (by omega)
      have e8 : IntKind.i64.wrap ((c : Int) - 6 - 32 + 32 - 1) = ((c - 38 + 31 : Nat) : Int) := by rw [IntWalk.i64_in _ (by omega)]; omega
      have e9 : ((c - 38 + 31 : Nat) : Int).tdiv 32 = (x : Int) := by rw [Int.tdiv_eq_ediv_of_nonneg (by omega)]; omega
      have e10 : IntKind.i64.wrap (x : Int) = (x : Int) := IntWalk.i64_in _ (by omega)
      have e11 : IntKind.i64.wrap (1 + (x : Int)) = 1 + (x : Int) := IntWalk.i64_in _ (by omega)
      have e12 : IntKind.i64.wrap (1 + (1 + (x : Int))) = (k : Int) := by rw [IntWalk.i64_in _ (by omega)]; omega
      have hfin : (1 + (1 + ((c : Int) - 6 - 1) / 32) : Int) = (k : Int) := by omega
      generalize c - 38 + 31 = c31 at *
      clear hk hcv hc hx hk0
      go_enter Tryz.func96, Tryz.ntmps96
      go_wp2
      go_returns
      exact ⟨by first | rfl | (rw [← hfin]; rfl) | (simp only [hfin]; rfl), rfl⟩
section
variable {w0 w w' : World} {i : Ids} {s0 s : Sto} {gg : Nat} {g : GeoN} {lab : Int} {G G' : GS} {K : List Nat}
theorem cut_block {n : NodeV} {b : Nat} (h : CutR w0 w i s0 gg g lab G K) (hb : b < 256) (hn : n.dir.length = 6) (hp : blkOk G g.blocks (wayOf b).idx (n.rootV (wayOf b)).toNat) :
    Calls Tryz.prog 99 #[.pointer (some ⟨gg, 0, none⟩), n.val, .int .i64 (b : Int)] w fun e w' => e = .returned (.tuple #[.int .u16 (blkGo G (wayOf b).idx (n.rootV (wayOf b)).toNat : Int), .int .i64 0]) ∧ CutR w0 w' i s0 gg g lab G K ∧ Tch w.heap.size i.own w w' := by
  obtain ⟨s', h1, h2, h3, h4⟩ := h
  exact (block_ok h1 hb hn hp).mono fun e w' ⟨he, k1, k2⟩ => ⟨he, ⟨s', k1, h2, h3, h4.trans (k2.mono h4.size fun _ _ h => h)⟩, k2⟩
theorem zero_u8 (w : World) : (zeroValue 5).run Tryz.prog w = .ok (.int .u8 0) w := by kernel_rfl
set_option maxRecDepth 100000 in
set_option maxHeartbeats 2000000 in
theorem wipe_file {n : NodeV} {b r k size : Nat} (h : CutR w0 w i s0 gg g lab G K) (hKl : K.length ≤ 28) (hn : n.dir.length = 6) (hb : b < 256) (hsz : size = 64 * b + r) (hr0 : 0 < r) (hr : r < 64) (hrd : Rdy G g.blocks n b) (hd : dataP G n b = k + 1) (hk : k < g.blocks) (hb5 : g.blocks ≤ 512) (hK2 : g.data + k ∈ K) :
    Calls Tryz.prog 98 #[.pointer (some ⟨gg, 0, none⟩), n.val, .int .i64 (size : Int)] w fun e w' => e = .returned (.int .i64 0) ∧ CutR w0 w' i s0 gg g lab (G.put k (wipeB (G.by_ k) r)) K ∧ Tch w.heap.size i.own w w' := by
  have hbl := h.gok.len k
  have hblk := fun W (hW : CutR w0 W i s0 gg g lab G K) => cut_block hW hb hn hrd.ok
  have hget := fun W (hW : CutR w0 W i s0 gg g lab G K) => cut_get hW hk
  have hput := fun W (hW : CutR w0 W i s0 gg g lab G K) => cut_put (b := wipeB (G.by_ k) r) hW hKl hk hK2 (wipeB_length hbl (by omega))
  rw [show blkGo G (wayOf b).idx (n.rootV (wayOf b)).toNat = k + 1 from hd] at hblk
  obtain ⟨bk, hbk⟩ : ∃ bk, G.by_ k = bk := ⟨_, rfl⟩
  rw [hbk] at hbl hget hput ⊢
  have ep : ((k + 1 : Nat) : Int) = (k : Int) + 1 := by omega
  rw [ep] at hblk hget hput
  have e1 : (size : Int).tdiv 64 = (b : Int) := by rw [Int.tdiv_eq_ediv_of_nonneg (by omega)]; omega
  have e2 : (size : Int).tmod 64 = (r : Int) := by rw [Int.tmod_eq_emod_of_nonneg (by omega)]; omega
  have e3 : IntKind.i64.wrap (b : Int) = (b : Int) := IntWalk.i64_in _ (by omega)
  have e4 : IntKind.i64.wrap (r : Int) = (r : Int) := IntWalk.i64_in _ (by omega)
  have hkz : (k : Int) ≤ 511 := by omega
  have H := hide h
  have HBK := hide hblk
  have HGT := hide hget
  have HPT := hide hput
  have HBL := hide hbl
  have HN := hide hn
  have HRR := hide (And.intro hr0 hr)
  clear h hblk hget hput hbl hn hrd hd hK2 hbk hsz ep hr0 hr hKl
  go_enter Tryz.func98, Tryz.ntmps98
  go_upto_region 1 with (fail)
  refine at_world (fun W => ∃ nb, nb = w.heap.size ∧ Below w.heap.size w W ∧ Blk W nb 130 n.cells.toArray) ⟨_, rfl, (Below.refl _ _).alloc (Nat.le_refl _) _, Blk.new _ _ _⟩ (fun w1 hw1 => ?_)
  obtain ⟨nb, hnb, hb1, hN1⟩ := hw1
  rw [← hnb]
  have HN1 := hide hN1
  have HA1 := hide (H.out.below hb1)
  have HT1 := hide (Tch.of_below (S := i.own) hb1)
  clear hnb hN1 hb1
  go_wp2_with (first | ((with_reducible refine at_load 130 (.tmp 4) ?_); refine wpList_load_blk rfl 130 (.tmp 4) rfl nb _ _ _ (by rfl) HN1.out Tryz.underlying130 rfl (size_nodeOf HN.out) ?_) | fail)
  refine (HBK.out w1 HA1.out).mono ?_
  rintro e w2 ⟨rfl, ha2, ht2⟩
  have HA2 := hide ha2
  have HT2 := hide (HT1.out.trans (ht2.mono HT1.out.size fun _ _ h => h))
  clear ha2 ht2 HBK HA1 HT1
  go_wp2_with fail
  refine (HGT.out w2 HA2.out).mono ?_
  rintro e w3 ⟨rfl, ha3, ht3⟩
  have HA3 := hide ha3
  have HT3 := hide (HT2.out.trans (ht3.mono HT2.out.size fun _ _ h => h))
  clear ha3 ht3 HGT HA2 HT2
  go_upto_region 5 with (first | ((with_reducible refine at_alloc 106 ?_); refine wpList_alloc_as rfl 106 rfl _ (zero_block _) ?_) | ((with_reducible refine at_store 106 (.tmp 9) (.tmp 25) ?_); refine wpList_store_blk rfl 106 (.tmp 9) (.tmp 25) rfl w3.heap.size 106 _ _ (by rfl) (by rfl) (Blk.new _ _ _) (size_blockOf HBL.out) ((bvs_size zeroB_length).trans (bvs_size HBL.out).symm) (bvs_oneCell _) (fun _ => ?_)) | fail)
  refine at_world (fun W => ∃ z, z = w3.heap.size ∧ Below w3.heap.size w3 W ∧ Blk W z 106 (bvs bk).toArray) ⟨_, rfl, below_setRow ((Below.refl _ _).alloc (Nat.le_refl _) _) (Nat.le_refl _) _, (Blk.new _ _ _).setRow_same _⟩ (fun w4 hw4 => ?_)
  obtain ⟨z, hz, hb4, hZ4⟩ := hw4
  rw [← hz]
  have HZ4 := hide hZ4
  have HZN := hide (show w3.heap.size ≤ z from Nat.le_of_eq hz.symm)
  have HB4 := hide hb4
  clear hz hb4 hZ4
  go_upto_region 7 with (fail)
  obtain ⟨hr0, hr⟩ := HRR.out
  have hz64 := bvs_size HBL.out
  have hsl := run_slice_arr (P := Tryz.prog) (w := w4) 106 5 z 64 r .i64 Tryz.underlying106 (by kernel_rfl) hr
  have hcl : ∀ ty, (Builtin.clear_ #[24] ty #[.slice (some ⟨z, r, none⟩) (64 - r) (64 - r)]).run Tryz.prog w4 = .ok (.tuple #[]) (w4.setCells z r (List.replicate (64 - r) (.int .u8 0))) :=
    fun ty => Lib.run_clear_slice w4 24 5 ty (.int .u8 0) Tryz.underlying24 zero_u8 rfl rfl z r (64 - r) (64 - r) (by omega)
      (fun j hj => by rw [HZ4.out.cell]; rw [Array.getElem?_eq_getElem (by rw [hz64]; omega)]; rfl) (fun j hj => HZ4.out.frozen _)
  have hB5 := HZ4.out.setCells r (List.replicate (64 - r) (.int .u8 0)) (by rw [List.length_replicate, hz64]; omega)
  have hcs : ((bvs bk).toArray.toList.take r ++ List.replicate (64 - r) (Value.int .u8 0) ++ (bvs bk).toArray.toList.drop (r + (List.replicate (64 - r) (Value.int .u8 0)).length)) = bvs (wipeB bk r) := by
    have h1 : (bvs bk).length = 64 := by rw [bvs_length]; exact HBL.out
    rw [show (bvs bk).toArray.toList = bvs bk from rfl, List.length_replicate, List.drop_of_length_le (by omega), List.append_nil]
    unfold wipeB
    rw [bvs_append, bvs_take]
    congr 1
    simp [bvs, bv]
  rw [hcs] at hB5
  have hb5 : Below w3.heap.size w3 (w4.setCells z r (List.replicate (64 - r) (.int .u8 0))) := by
    have h1 : Tch w3.heap.size (fun _ => False) w4 (w4.setCells z r (List.replicate (64 - r) (.int .u8 0))) := Tch.setCells (fun h => by have := HZN.out; omega) _ _ _
    exact HB4.out.trans (h1.below fun _ _ h => h)
  have hlen := wipeB_length HBL.out (r := r) (by omega)
  obtain ⟨w5, hw5⟩ : ∃ w5, w4.setCells z r (List.replicate (64 - r) (.int .u8 0)) = w5 := ⟨_, rfl⟩
  rw [hw5] at hcl hB5 hb5
  have HB5 := hide hB5
  have HLN := hide hlen
  have HA5 := hide (HA3.out.below hb5)
  have HT5 := hide (HT3.out.trans ((Tch.of_below hb5).mono HT3.out.size fun _ _ h => h))
  clear hB5 hb5 hlen hcs hz64 hw5 HZ4 HZN HB4 HA3 HT3 hr0 hr
  go_wp2_with (first | ((with_reducible refine at_load 106 (.tmp 9) ?_); refine wpList_load_blk rfl 106 (.tmp 9) rfl z 106 _ _ (by rfl) HB5.out Tryz.underlying106 rfl (size_blockOf HLN.out) ?_) | fail)
  refine (HPT.out w5 HA5.out).mono ?_
  rintro e w6 ⟨rfl, ha6, ht6⟩
  have HF := hide (And.intro ha6 (HT5.out.trans (ht6.mono HT5.out.size fun _ _ h => h)))
  clear ha6 ht6 HPT HA5 HT5 hsl hcl
  go_wp2
  go_returns
  exact ⟨rfl, HF.out.1, HF.out.2⟩
/-- what a cut's last block is -/
def cutW (Gc : GS) (κ : Nat → Nat) (size : Nat) : GS := if size % 64 = 0 then Gc else Gc.put (κ (size / 64)) (wipeB (Gc.by_ (κ (size / 64))) (size % 64))
def NodeV.sized (n : NodeV) (x : Nat) : NodeV := { n with size := UInt32.ofNat x }
/-- what a cut leaves of a group's other blocks and nodes -/
structure Lost (G G' : GS) (num : Nat) (pr : Nat → Bool) (κ : Nat → Nat) : Prop where
  nd : ∀ k, k ≠ num → G'.nd k = G.nd k
  by_ : ∀ x, (∀ c, pr c = true → κ c ≠ x) → G'.by_ x = G.by_ x
  tk : ∀ x, (∀ c, pr c = true → κ c ≠ x) → G'.tk x = G.tk x
theorem cut_end {Gc : GS} {m num size sz d : Nat} {n0 nc : NodeV} {κ : Nat → Nat} {f : Nat → UInt8} (hf : FileAt G m n0 (blks sz) κ sz f) (hd : Del G Gc m n0 nc (prOf (blks sz)) (prOf (blks size)) κ d) (hle : size ≤ sz) (hs16 : sz ≤ 16384) :
    FileAt ((cutW Gc κ size).set num (nc.sized size)) m (nc.sized size) (blks size) κ size f ∧ Lost G ((cutW Gc κ size).set num (nc.sized size)) num (prOf (blks sz)) κ ∧ ((cutW Gc κ size).set num (nc.sized size)).cnt m = Gc.cnt m := by
  have hc : blks size ≤ 256 := by unfold blks; omega
  have hcle : blks size ≤ blks sz := by unfold blks; omega
  have hsame : ∀ j, j < blks size → Gc.by_ (κ j) = G.by_ (κ j) := fun j hj => hd.by_ _ fun k k1 k2 e => by
    have := hf.tree.inj k j k1 (prOf_true.2 (by omega)) e
    omega
  have hcnt : ((cutW Gc κ size).set num (nc.sized size)).cnt m = Gc.cnt m := by unfold cutW; split <;> rfl
  by_cases h0 : size % 64 = 0
  · have hw : cutW Gc κ size = Gc := by unfold cutW; rw [if_pos h0]
    refine ⟨?_, ?_, hcnt⟩
    · rw [hw]
      refine ⟨⟨hd.tree.dir, hd.tree.rng, hd.tree.cls, hd.tree.top, hd.tree.sub, hd.tree.own, hd.tree.inj⟩, hc, by unfold blks; omega, fun j hj => ?_⟩
      have : (Gc.by_ (κ (j / 64))).getD (j % 64) 0 = f j := by rw [hsame _ (by unfold blks; omega)]; exact hf.byte j (by omega)
      exact this
    · rw [hw]
      exact ⟨fun k hk => (upd_other _ _ hk).trans (by rw [hd.nd]), fun x hx => hd.by_ x fun k k1 _ => hx k k1, fun x hx => hd.tk x hx⟩
  · have hb : size / 64 < blks size := by unfold blks; omega
    have hpb : prOf (blks size) (size / 64) = true := prOf_true.2 (by omega)
    have hw : cutW Gc κ size = Gc.put (κ (size / 64)) (wipeB (Gc.by_ (κ (size / 64))) (size % 64)) := by unfold cutW; rw [if_neg h0]
    have ht := hd.tree.putData (by omega) hpb (wipeB (Gc.by_ (κ (size / 64))) (size % 64))
    refine ⟨?_, ?_, hcnt⟩
    · rw [hw]
      refine ⟨⟨ht.dir, ht.rng, ht.cls, ht.top, ht.sub, ht.own, ht.inj⟩, hc, by unfold blks; omega, fun j hj => ?_⟩
      have : ((Gc.put (κ (size / 64)) (wipeB (Gc.by_ (κ (size / 64))) (size % 64))).by_ (κ (j / 64))).getD (j % 64) 0 = f j := by
        by_cases e : j / 64 = size / 64
        · rw [e]
          have e2 : (Gc.put (κ (size / 64)) (wipeB (Gc.by_ (κ (size / 64))) (size % 64))).by_ (κ (size / 64)) = wipeB (Gc.by_ (κ (size / 64))) (size % 64) := upd_same _ _ _
          rw [e2, wipeB_getD (hd.ok.len _) (by omega) (by omega), ← e, hsame _ (by omega)]
          exact hf.byte j (by omega)
        · have hj2 : j / 64 < blks size := by unfold blks; omega
          have e1 : κ (j / 64) ≠ κ (size / 64) := fun h => e (hd.tree.inj _ _ (prOf_true.2 (by omega)) hpb h)
          have e2 : (Gc.put (κ (size / 64)) (wipeB (Gc.by_ (κ (size / 64))) (size % 64))).by_ (κ (j / 64)) = Gc.by_ (κ (j / 64)) := upd_other _ _ e1
          rw [e2, hsame _ hj2]
          exact hf.byte j (by omega)
      exact this
    · rw [hw]
      exact ⟨fun k hk => (upd_other _ _ hk).trans (congrFun hd.nd k), fun x hx => (upd_other _ _ (fun e => hx (size / 64) (hd.sub _ hpb) e.symm)).trans (hd.by_ x fun k k1 _ => hx k k1), fun x hx => hd.tk x hx⟩
set_option maxRecDepth 100000 in
set_option maxHeartbeats 4000000 in
theorem cut_file {num size sz : Nat} {K0 : List Nat} {κ : Nat → Nat} {f : Nat → UInt8} (h : GAt w i s gg g lab G) (hK0 : s.In K0) (hKl : K0.length + (if blks sz ≤ 6 then 2 else if blks sz ≤ 38 then 3 else 11) ≤ 28) (h1 : 1 ≤ num) (h2 : num ≤ g.nodes) (hb5 : g.blocks ≤ 512)
    (hk : (G.nd num).kind ≠ 0) (hsz : (G.nd num).size.toNat = sz) (hs16 : sz ≤ 16384) (hf : FileAt G g.blocks (G.nd num) (blks sz) κ sz f) (hle : size ≤ sz)
    (hck : ∀ n', (G.nd num).same n' → n'.dir.length = 6 → checkN (n'.sized size) = true) :
    Calls Tryz.prog 34 #[.pointer (some ⟨gg, 0, none⟩), .int .i64 (num : Int), .int .i64 (size : Int)] w fun e w' => e = .returned (.int .i64 0) ∧ ∃ s' G', GAt w' i s' gg g lab G' ∧ FileAt G' g.blocks (G'.nd num) (blks size) κ size f ∧ (G'.nd num).size.toNat = size ∧
      (G'.nd num).kind = (G.nd num).kind ∧ (G'.nd num).links = (G.nd num).links ∧ (G'.nd num).gen = (G.nd num).gen ∧ Lost G G' num (prOf (blks sz)) κ ∧ G'.cnt g.blocks + nkeys (blks sz) = G.cnt g.blocks + nkeys (blks size) ∧
      s'.In (cutL g K0 (blks sz) (size / 64) κ ++ [g.base + g.bitmap + (num - 1) / 2]) ∧ Stay s s' g ∧ Tch w.heap.size i.own w w' := by
  have hnd := gs_node' h h1 h2
  have hdir : (G.nd num).dir.length = 6 := h.gok.dir num
  have hD0 := Del.refl hf.tree h.gok
  obtain ⟨n0, hn0⟩ : ∃ n0, G.nd num = n0 := ⟨_, rfl⟩
  rw [hn0] at hnd hdir hk hsz hf hck hD0 ⊢
  have hkz : (n0.kind.toNat : Int) ≠ 0 := fun e => hk (UInt8.toNat_inj.1 (by simpa using e))
  have tk : ((n0.kind.toNat : Int) == 0) = false := by rw [beq_eq_false_iff_ne]; exact hkz
  have hc256 : blks sz ≤ 256 := by unfold blks; omega
  have hcle : blks size ≤ blks sz := by unfold blks; omega
  have hin : s.In (cutL g K0 (blks sz) (size / 64) κ) := hK0.mono fun x hx => by simp [cutL, hx]
  have hkl : (cutL g K0 (blks sz) (size / 64) κ).length ≤ 28 := Nat.le_trans (cutL_length _ _ _ _ _) hKl
  have hkb := cutL_base g K0 (blks sz) (size / 64) κ
  have hkk := fun k => cutL_key g K0 (blks sz) (size / 64) κ (k := k)
  have hkx := cutL_last g K0 (blks sz) (size / 64) κ
  obtain ⟨K, hK⟩ : ∃ K, cutL g K0 (blks sz) (size / 64) κ = K := ⟨_, rfl⟩
  rw [hK] at hin hkl hkb hkk hkx ⊢
  have hs1 := nspread_ok
  have H := hide h
  have HND := hide hnd
  have HD := hide hdir
  have HNM := hide (And.intro h1 h2)
  have HIN := hide hin
  have HKL := hide (And.intro hkl (And.intro hkb (And.intro hkk hkx)))
  have HB5 := hide hb5
  have HF := hide hf
  have HCK := hide hck
  have HD0 := hide hD0
  have HN0 := hide (And.intro hn0 hsz)
  have HSP := hide (fun W => nspread_ok W (n := size) (by omega))
  have HSP2 := hide (fun W => nspread_ok W (n := sz) hs16)
  obtain ⟨ce, hce⟩ : ∃ ce, blks size = ce := ⟨_, rfl⟩
  obtain ⟨c0, hc0⟩ : ∃ c0, blks sz = c0 := ⟨_, rfl⟩
  have HCE := hide (And.intro hce hc0)
  rw [hc0] at hc256 hcle
  rw [hce] at hcle
  have HCC := hide (And.intro hcle hc256)
  have hszz : (sz : Int) ≤ 16384 := by omega
  have hsizez : (size : Int) ≤ (sz : Int) := by omega
  have HLE := hide (And.intro hle hs16)
  clear h hnd hdir h1 h2 hin hkl hkb hkk hkx hb5 hf hck hD0 hn0 hk hkz hs1 hK hKl hK0 hce hc0 hcle hc256
  go_enter Tryz.func34, Tryz.ntmps34
  go_wp2_with fail
  refine HND.out.mono ?_
  rintro e w2 ⟨rfl, ha2, ht2⟩
  have HA2 : Hid (CutR w w2 i s gg g lab G K) := hide ⟨s, ha2, ⟨rfl, rfl, fun _ _ => rfl⟩, HIN.out, ht2⟩
  clear ha2 ht2 HND
  go_upto_region 2 with (first | ((with_reducible refine at_alloc 130 ?_); refine wpList_alloc_as rfl 130 rfl _ (zero_node _) ?_) | ((with_reducible refine at_store 130 (.tmp 7) (.tmp 20) ?_); refine wpList_store_blk rfl 130 (.tmp 7) (.tmp 20) rfl w2.heap.size _ _ _ (by rfl) (by rfl) (Blk.new _ _ _) (size_nodeOf HD.out) (by rw [List.size_toArray, List.size_toArray, NodeV.cells_length HD.out]; rfl) (NodeV.cells_one _) (fun _ => ?_)) | fail)
  refine at_world (fun W => ∃ q, q = w2.heap.size ∧ Below w2.heap.size w2 W ∧ Blk W q 130 n0.cells.toArray) ⟨_, rfl, below_setRow ((Below.refl _ _).alloc (Nat.le_refl _) _) (Nat.le_refl _) _, (Blk.new _ _ _).setRow_same _⟩ (fun w3 hw3 => ?_)
  obtain ⟨q, hq, hb3, hQ3⟩ := hw3
  rw [← hq]
  have HA3 := hide (HA2.out.below hb3)
  have HQ3 := hide hQ3
  have HQN := hide (show w.heap.size ≤ q from by have := HA2.out.tch.size; omega)
  have q0 := (hQ3.cell 0).trans (node_cells_at n0).1
  have q3 := (hQ3.cell 3).trans (node_cells_at n0).2.2.2
  have ql := hQ3.lt
  have t1 : decide ((size : Int) < 0) = false := by simp
  rw [HN0.out.2] at q3
  clear hq hb3 hQ3 HA2 hsz
  have c1 : IntKind.i64.wrap (sz : Int) = (sz : Int) := IntWalk.i64_in _ (by omega)
  have t2 : decide (sz < size) = false := by simp; omega
  go_wp2_with fail
  refine (HSP.out w3).mono ?_
  rintro e w_ ⟨rfl, hw_⟩
  subst hw_
  go_wp2_with fail
  refine (HSP2.out w3).mono ?_
  rintro e w_ ⟨rfl, hw_⟩
  subst hw_
  rw [HCE.out.1, HCE.out.2]
  have e1 : IntKind.i64.wrap ((c0 : Int) - 1) = (c0 : Int) - 1 := IntWalk.i64_in _ (by have := HCC.out.2; omega)
  go_wp2_with fail
  clear q0 q3 ql tk t1 t2 e1 HSP HSP2
  go_loopg [13] c0 (fun gh x13 wr => ∃ (c : Nat) (z : Int) (Gc : GS) (nc : NodeV) (d : Nat), gh = c ∧ x13 = .int .i64 z ∧ Hid (z = (c : Int) - 1 ∧ ce ≤ c ∧ c ≤ c0) ∧ Hid (CutR w wr i s gg g lab Gc K) ∧ Hid (Blk wr q 130 nc.cells.toArray) ∧ Hid (Del G Gc g.blocks n0 nc (prOf c0) (prOf c) κ d) ∧ Hid (d + nkeys c = nkeys c0))
  case atStart => exact ⟨c0, _, G, n0, 0, rfl, rfl, hide ⟨rfl, HCC.out.1, Nat.le_refl _⟩, HA3, HQ3, hide (by rw [← HCE.out.2]; exact HD0.out), hide (Nat.zero_add _)⟩
  case round =>
    obtain ⟨c, z, Gc, nc, d, hgh, rfl, HZ, HA, HQ, HDL, HNK⟩ := hrel
    have HGH := hide hgh
    clear hgh
    rcases Nat.lt_or_ge ce c with hlt | hge
    · obtain ⟨b, rfl⟩ : ∃ b, c = b + 1 := ⟨c - 1, by omega⟩
      obtain ⟨hz, hz2, hz3⟩ := HZ.out
      have hzb : z = (b : Int) := by omega
      subst hzb
      have t1 : decide (ce ≤ b) = true := by simp; omega
      have hbz : (b : Int) ≤ 256 := by have := HCC.out.2; omega
      have e1 : IntKind.i64.wrap ((b : Int) - 1) = (b : Int) - 1 := IntWalk.i64_in _ (by omega)
      have hdr := fdrop_ok (nb := q) (b := b) HA.out HKL.out.1 HB5.out HKL.out.2.1 (fun k k1 k2 => HKL.out.2.2.1 k k1 (by rw [HCE.out.2]; exact HDL.out.sub k k2) (by rw [HCE.out.2]; exact HCC.out.2)) (by have := HCC.out.2; omega) HQN.out HQ.out HDL.out.tree
      have HDR := hide hdr
      have HLT := hide (And.intro hlt hz3)
      clear hdr hz hz2 hz3 HZ hlt
      go_wp2_with fail
      refine HDR.out.mono ?_
      rintro e w5 ⟨rfl, G5, n5, d5, ha5, hq5, hdl5, hnk5⟩
      have HA5 := hide ha5
      have HQ5 := hide hq5
      have HDL5 := hide (HDL.out.trans hdl5)
      have HNK5 := hide (show (d + d5) + nkeys b = nkeys c0 from by have := HNK.out; omega)
      clear ha5 hq5 hdl5 hnk5 HDR
      go_wp2
      go_roundg b
      case rel => exact ⟨b, _, G5, n5, d + d5, rfl, rfl, hide ⟨rfl, by have := HLT.out.1; omega, by have := HLT.out.2; omega⟩, HA5, HQ5, HDL5, HNK5⟩
      case measure => have := HGH.out; omega
    · have hcc : c = ce := by have := HZ.out.2.1; omega
      subst hcc
      have hz := HZ.out.1
      have t1 : decide ((c : Int) ≤ z) = false := by simp; omega
      have e2 : (size : Int).tmod 64 = ((size % 64 : Nat) : Int) := by rw [Int.tmod_eq_emod_of_nonneg (by omega)]; omega
      have e3 : IntKind.i64.wrap ((size % 64 : Nat) : Int) = ((size % 64 : Nat) : Int) := IntWalk.i64_in _ (by omega)
      have e4 : IntKind.u32.wrap (size : Int) = (size : Int) := by rw [IntKind.wrap_u32]; omega
      obtain ⟨r, hr⟩ : ∃ r, size % 64 = r := ⟨_, rfl⟩
      have hrz : (r : Int) < 64 := by omega
      rw [hr] at e2 e3
      have HR := hide hr
      have HW : Hid (cutW Gc κ size = if r = 0 then Gc else Gc.put (κ (size / 64)) (wipeB (Gc.by_ (κ (size / 64))) r)) := hide (by unfold cutW; rw [hr])
      have HFC := hide (cut_end (num := num) HF.out (by rw [HCE.out.1, HCE.out.2]; exact HDL.out) HLE.out.1 HLE.out.2)
      clear hz hr
      generalize cutW Gc κ size = Gw at *
      obtain ⟨bz, hbz⟩ : ∃ bz, decide (0 < r) = bz := ⟨_, rfl⟩
      have HBZ := hide hbz
      go_upto_if 67 with (fail)
      clear hbz
      go_cut [15] from 67 to 74 (fun x15 wc => Hid (CutR w wc i s gg g lab Gw K) ∧ Hid (Blk wc q 130 nc.cells.toArray))
      case first =>
        by_cases hr0 : r = 0
        · have t2 : decide (0 < r) = false := by simp; omega
          have hbz : bz = false := by rw [← HBZ.out]; exact t2
          subst hbz
          have hw := HW.out
          rw [if_pos hr0] at hw
          have HW2 := hide hw
          clear hw hr0
          go_wp2
          go_meet
          case rel => exact ⟨hide (by rw [HW2.out]; exact HA.out), HQ⟩
        · have t2 : decide (0 < r) = true := by simp; omega
          have hbz : bz = true := by rw [← HBZ.out]; exact t2
          subst hbz
          have hw := HW.out
          rw [if_neg hr0] at hw
          have HW2 := hide hw
          obtain ⟨b, hb⟩ : ∃ b, size / 64 = b := ⟨_, rfl⟩
          rw [hb] at hw
          have hbe : b < c := by rw [← HCE.out.1]; unfold blks; have := HR.out; omega
          have hb256 : b < 256 := by have := HCC.out.2; have := HCC.out.1; omega
          have hp := pr_old hbe (by have := HCC.out; omega)
          have htd := tree_data hb256 HDL.out.tree hp
          have ho := HDL.out.tree.own b (prOf_true.2 (by omega))
          have hwp := wipe_file (r := r) (size := size) HA.out HKL.out.1 HDL.out.tree.dir hb256 (by have := HR.out; omega) (by omega) (by omega) htd.1 htd.2 ho.1 HB5.out (by rw [← hb]; exact HKL.out.2.2.2)
          rw [← hw] at hwp
          have HWP := hide hwp
          have HND := hide HDL.out.tree.dir
          clear hw hr0 hb hbe hb256 hp htd ho hwp
          go_wp2_with (first | ((with_reducible refine at_load 130 (.tmp 7) ?_); refine wpList_load_blk rfl 130 (.tmp 7) rfl q _ _ _ (by rfl) HQ.out Tryz.underlying130 rfl (size_nodeOf HND.out) ?_) | fail)
          refine HWP.out.mono ?_
          rintro e w6 ⟨rfl, ha6, ht6⟩
          have HA6 := hide ha6
          have HQ6 := hide (HQ.out.tch ht6 HQ.out.lt (HA.out.node_own HQ.out))
          clear ha6 ht6 HWP
          go_wp2
          go_meet
          case rel => exact ⟨HA6, HQ6⟩
      case rest =>
        obtain ⟨HA, HQ⟩ := hcut
        have HND := hide HDL.out.tree.dir
        have hq3 := HQ.out.set_ 3 (.int .u32 (size : Int))
        rw [node_grow nc (by omega)] at hq3
        have HQ4 : Hid (Blk (wc.setCell ⟨q, 3, none⟩ (.int .u32 (size : Int))) q 130 (nc.sized size).cells.toArray) := hide hq3
        have HA4 := hide (HA.out.setNode (r := 3) (u := .int .u32 (size : Int)) HQN.out HQ.out)
        have q3f := HQ.out.frozen 3
        have q3c := HQ.out.cell 3
        have ql := HQ.out.lt
        have hn3 : nc.cells.toArray[3]? = some (.int .u32 (nc.size.toNat : Int)) := (node_cells_at nc).2.2.2
        rw [hn3] at q3c
        have HAF := hide HA4.out
        obtain ⟨s4, ha4, hst4, hin4, ht4⟩ := HA4.out
        have hset := gs_set ha4 (by have := hin4.len ha4.tx.ok; have := HKL.out.1; omega) HNM.out.1 HNM.out.2 (n := nc.sized size) HND.out (HCK.out nc HDL.out.same HND.out)
        have HSET := hide hset
        have HS4 := hide (And.intro hst4 (And.intro hin4 ht4))
        clear hq3 hn3 ha4 hst4 hin4 ht4 hset t1 e2 e3 HA4 HAF
        go_wp2_with (first | ((with_reducible refine at_load 130 (.tmp 7) ?_); refine wpList_load_blk rfl 130 (.tmp 7) rfl q _ _ _ (by rfl) HQ4.out Tryz.underlying130 rfl (size_nodeOf (n := nc.sized size) HND.out) ?_) | fail)
        refine HSET.out.mono ?_
        rintro e w7 ⟨rfl, s7, ha7, hst7, ht7⟩
        obtain ⟨hfe, hlo, hct⟩ := HFC.out
        have hnd7 : (Gw.set num (nc.sized size)).nd num = nc.sized size := upd_same _ _ _
        have hsm := HDL.out.same
        have hnk := HNK.out
        have hdc := HDL.out.cnt
        have HFIN : Hid (∃ s' G', GAt w7 i s' gg g lab G' ∧ FileAt G' g.blocks (G'.nd num) (blks size) κ size f ∧ (G'.nd num).size.toNat = size ∧ (G'.nd num).kind = n0.kind ∧ (G'.nd num).links = n0.links ∧ (G'.nd num).gen = n0.gen ∧ Lost G G' num (prOf (blks sz)) κ ∧ G'.cnt g.blocks + nkeys (blks sz) = G.cnt g.blocks + nkeys (blks size) ∧
            s'.In (K ++ [g.base + g.bitmap + (num - 1) / 2]) ∧ Stay s s' g ∧ Tch w.heap.size i.own w w7) := hide (by
          refine ⟨s7, _, ha7, by rw [hnd7]; exact hfe, ?_, by rw [hnd7]; exact hsm.1, by rw [hnd7]; exact hsm.2.1, by rw [hnd7]; exact hsm.2.2.1, hlo, by rw [hct, HCE.out.2, HCE.out.1]; omega, hst7.in_ HS4.out.2.1, HS4.out.1.trans ⟨hst7.D, hst7.bad, hst7.far⟩, HS4.out.2.2.trans (ht7.mono HS4.out.2.2.size fun _ _ h => h)⟩
          rw [hnd7]
          show (UInt32.ofNat size).toNat = size
          rw [UInt32.toNat_ofNat', Nat.mod_eq_of_lt (by have := HLE.out; omega)])
        clear ha7 hst7 ht7 hfe hlo hct hnd7 hsm hnk hdc HSET
        go_wp2
        go_returns
        exact ⟨rfl, HFIN.out⟩
end
end Go.Proofs.YthmkgohfeahdhaaGreat
namespace Go.Proofs.YthmkgohfeahdhaaGreat
open Go.RowKit
set_option linter.unusedSimpArgs false
set_option linter.unusedVariables false

/-- an entry of a directory -/
structure EntV where
  name : ByteArray
  num : UInt16
def EntV.cells (e : EntV) : List Value := [.string e.name, .int .u16 (e.num.toNat : Int)]
def flat2 (l : List EntV) : List Value := l.flatMap EntV.cells
/-- a node as it is meant, as it lies -/
structure RNd where
  kind : UInt8
  links : Nat
  gen : UInt16
  A : Option Addr
  l : List UInt8
  c : Nat
  P : Option Addr
  ps : List EntV
  pc : Nat
def RNd.cells (n : RNd) : List Value := [.int .u8 (n.kind.toNat : Int), .int .i64 (n.links : Int), .int .u16 (n.gen.toNat : Int), .slice n.A n.l.length n.c, .slice n.P n.ps.length n.pc]
def flat5 (L : List RNd) : List Value := L.flatMap RNd.cells
def RNd.zero : RNd := ⟨0, 0, 0, none, [], 0, none, [], 0⟩
theorem flat5_length (L : List RNd) : (flat5 L).length = L.length * 5 := by
  induction L with
  | nil => rfl
  | cons n r ih => unfold flat5 at ih ⊢; rw [List.flatMap_cons, List.length_append, ih, List.length_cons]; simp [RNd.cells]; omega
theorem flat5_get : ∀ {L : List RNd} {k j : Nat} {n : RNd}, L[k]? = some n → j < 5 → (flat5 L)[k * 5 + j]? = n.cells[j]?
  | [], k, j, n, h, _ => by simp at h
  | a :: r, 0, j, n, h, hj => by
    obtain rfl : a = n := by simpa using h
    unfold flat5
    rw [List.flatMap_cons, Nat.zero_mul, Nat.zero_add, List.getElem?_append_left (by simp [RNd.cells]; omega)]
  | a :: r, k + 1, j, n, h, hj => by
    have := flat5_get (L := r) (k := k) (j := j) (n := n) (by simpa using h) hj
    unfold flat5 at this ⊢
    rw [List.flatMap_cons, List.getElem?_append_right (by simp [RNd.cells]; omega), ← this]
    congr 1
    simp [RNd.cells]; omega
theorem flat5_set : ∀ {L : List RNd} {k j : Nat} {n n' : RNd} {u : Value}, L[k]? = some n → j < 5 → n.cells.set j u = n'.cells → (flat5 L).set (k * 5 + j) u = flat5 (L.set k n')
  | [], k, j, n, n', u, h, _, _ => by simp at h
  | a :: r, 0, j, n, n', u, h, hj, hu => by
    obtain rfl : a = n := by simpa using h
    unfold flat5
    rw [Nat.zero_mul, Nat.zero_add, List.set_cons_zero, List.flatMap_cons, List.flatMap_cons, ← hu, List.set_append_left]
    simp [RNd.cells]; omega
  | a :: r, k + 1, j, n, n', u, h, hj, hu => by
    have := flat5_set (L := r) (k := k) (j := j) (n := n) (n' := n') (u := u) (by simpa using h) hj hu
    unfold flat5 at this ⊢
    rw [List.set_cons_succ, List.flatMap_cons, List.flatMap_cons, ← this, List.set_append_right _ _ (by simp [RNd.cells]; omega)]
    congr 2
    simp [RNd.cells]; omega
/-- a node's bytes and places lie in memory -/
structure RNd.At (w : World) (n : RNd) : Prop where
  b : w.ownsRow 0 5 1 (.slice n.A n.l.length n.c) n.l.length (bvs n.l)
  p : w.ownsRow 0 125 2 (.slice n.P n.ps.length n.pc) n.ps.length (flat2 n.ps)
theorem own_from {w w' : World} {n sz : Nat} {e : TypeId} {v : Value} {xs : List Value} {S : Nat → Prop} (h : w.ownsRow 0 e sz v n xs) (ht : Tch w.heap.size S w w') (hS : ∀ g cur, Blk w g e cur → ¬ S g) : w'.ownsRow 0 e sz v n xs :=
  own_keep h fun g hg => by
    rcases h.2 with ⟨rfl, _⟩ | ⟨g', cap, cur, rfl, _, hh, _⟩
    · cases hg
    · have e : g' = g := by simpa [Value.ownBlock] using hg
      subst e
      exact ht.block g' (Array.getElem?_eq_some_iff.1 hh).1 (hS g' cur hh)
theorem RNd.At.tch {w w' : World} {n : RNd} {S : Nat → Prop} (h : n.At w) (ht : Tch w.heap.size S w w') (h1 : ∀ g cur, Blk w g 5 cur → ¬ S g) (h2 : ∀ g cur, Blk w g 125 cur → ¬ S g) : n.At w' :=
  ⟨own_from h.b ht h1, own_from h.p ht h2⟩
theorem RNd.At.zero (w : World) : RNd.zero.At w := ⟨World.ownsRow_nil _ _ _ _, World.ownsRow_nil _ _ _ _⟩
/-- a group's nodes lie in a row -/
structure Row5 (w : World) (nb : Nat) (L : List RNd) (cN : Nat) : Prop where
  row : w.ownsRow 0 62 5 (.slice (some ⟨nb, 0, none⟩) L.length cN) L.length (flat5 L)
  all : ∀ n ∈ L, n.At w
/-- a group as it is meant -/
structure GrAt (w : World) (mb nb : Nat) (L : List RNd) (cN : Nat) (T : Option Addr) (tn tc blocks : Nat) : Prop where
  m : Blk w mb 47 #[.slice (some ⟨nb, 0, none⟩) L.length cN, .slice T tn tc, .int .i64 (blocks : Int)]
  r : Row5 w nb L cN
section
variable {w w' : World} {mb nb cN tn tc blocks : Nat} {L : List RNd} {T : Option Addr} {S : Nat → Prop}
theorem Row5.tch (h : Row5 w nb L cN) (ht : Tch w.heap.size S w w') (h0 : ∀ g cur, Blk w g 62 cur → ¬ S g) (h1 : ∀ g cur, Blk w g 5 cur → ¬ S g) (h2 : ∀ g cur, Blk w g 125 cur → ¬ S g) : Row5 w' nb L cN :=
  ⟨own_from h.row ht h0, fun n hn => (h.all n hn).tch ht h1 h2⟩
theorem Row5.below (h : Row5 w nb L cN) (hb : Below w.heap.size w w') : Row5 w' nb L cN := h.tch (Tch.of_below (S := fun _ => False) hb) (fun _ _ _ h => h) (fun _ _ _ h => h) (fun _ _ _ h => h)
theorem GrAt.below (h : GrAt w mb nb L cN T tn tc blocks) (hb : Below w.heap.size w w') : GrAt w' mb nb L cN T tn tc blocks := ⟨h.m.below hb h.m.lt, h.r.below hb⟩
/-- a transaction's calls leave it -/
theorem GrAt.own {i : Ids} {s : Sto} (h : GrAt w mb nb L cN T tn tc blocks) (hx : TxAt w i s) (ht : Tch w.heap.size i.own w w') : GrAt w' mb nb L cN T tn tc blocks :=
  ⟨h.m.tch ht h.m.lt (hx.other h.m (by decide) (by decide) (by decide)), h.r.tch ht (fun g cur hB => hx.other hB (by decide) (by decide) (by decide)) (fun g cur hB => hx.other hB (by decide) (by decide) (by decide)) (fun g cur hB => hx.other hB (by decide) (by decide) (by decide))⟩
theorem Row5.blk (h : Row5 w nb L cN) : ∃ cur : Array Value, Blk w nb 62 cur ∧ ∀ (j : Nat) (v : Value), (flat5 L)[j]? = some v → cur[j]? = some v := by
  rcases h.row.2 with ⟨h0, _⟩ | ⟨g, cap, cur, hv, _, hh, _, _, _, htake⟩
  · cases h0
  · simp only [Value.slice.injEq, Option.some.injEq, Addr.mk.injEq] at hv
    obtain ⟨⟨rfl, _⟩, _, rfl⟩ := hv
    refine ⟨cur, hh, fun j v hj => ?_⟩
    have hjl : j < L.length * 5 := by rw [← flat5_length]; exact (List.getElem?_eq_some_iff.1 hj).1
    have h2 : (cur.toList.take (L.length * 5))[j]? = some v := by rw [htake]; exact hj
    rw [List.getElem?_take, if_pos hjl, Array.getElem?_toList] at h2
    exact h2
theorem Row5.cell (h : Row5 w nb L cN) {k j : Nat} {n : RNd} (hk : L[k]? = some n) (hj : j < 5) : w.cell? ⟨nb, k * 5 + j, none⟩ = n.cells[j]? := by
  obtain ⟨cur, hB, hc⟩ := h.blk
  have h1 := flat5_get hk hj
  have h2 : j < n.cells.length := by simp [RNd.cells]; omega
  rw [List.getElem?_eq_getElem h2] at h1 ⊢
  rw [hB.cell]
  exact hc _ _ h1
theorem Row5.lt (h : Row5 w nb L cN) : nb < w.heap.size := by
  obtain ⟨cur, hB, _⟩ := h.blk
  exact hB.lt
theorem Row5.frozen (h : Row5 w nb L cN) (i : Nat) : w.frozen? ⟨nb, i, none⟩ = false := by
  obtain ⟨cur, hB, _⟩ := h.blk
  exact hB.frozen i
theorem Row5.range (h : Row5 w nb L cN) {k : Nat} {n : RNd} (hk : L[k]? = some n) : w.rangeAt nb (k * 5) n.cells := fun j v hj => by
  have h2 : j < 5 := by have := (List.getElem?_eq_some_iff.1 hj).1; simpa [RNd.cells] using this
  rw [h.cell hk h2]; exact hj
theorem Row5.cap (h : Row5 w nb L cN) : L.length ≤ cN := own_le_cap h.row
end
/-- how long a node is -/
def RNd.size (n : RNd) : Nat := if n.kind = 2 then 16 * n.ps.length else n.l.length
/-- how many blocks a length takes, of pointers too -/
def need2 (len : Nat) : Nat := nkeys (blks len)
def useN (tn k : Nat) (n : RNd) : Nat := if n.kind = 0 then 0 else need2 (if k = 2 then 8 * tn else n.size)
def usedTo (tn : Nat) (L : List RNd) : Nat → Nat
  | 0 => 0
  | k + 1 => usedTo tn L k + if k = 0 then 0 else match L[k]? with
    | none => 0
    | some n => useN tn k n
def nodesTo (L : List RNd) : Nat → Nat
  | 0 => 0
  | k + 1 => nodesTo L k + if k = 0 then 0 else match L[k]? with
    | none => 0
    | some n => if n.kind = 0 then 0 else 1
theorem usedTo_next {tn : Nat} {L : List RNd} {k : Nat} {n : RNd} (hk : 1 ≤ k) (hn : L[k]? = some n) : usedTo tn L (k + 1) = usedTo tn L k + useN tn k n := by
  rw [usedTo, if_neg (by omega), hn]
theorem nodesTo_next {L : List RNd} {k : Nat} {n : RNd} (hk : 1 ≤ k) (hn : L[k]? = some n) : nodesTo L (k + 1) = nodesTo L k + if n.kind = 0 then 0 else 1 := by
  rw [nodesTo, if_neg (by omega), hn]
theorem blks_le (n : Nat) : 64 * blks n < n + 64 ∧ n ≤ 64 * blks n := by unfold blks; omega
set_option maxRecDepth 100000 in
/-- how many blocks a length takes, as the document has it -/
theorem rspread_ok (w : World) {n : Nat} (hn : n ≤ 100000) : Calls Tryz.prog 38 #[.int .i64 (n : Int)] w fun e w' => e = .returned (.tuple #[.int .i64 (blks n : Int), .int .i64 ((nkeys (blks n) - blks n : Nat) : Int)]) ∧ w = w' := by
  obtain ⟨c, hc⟩ : ∃ c, blks n = c := ⟨_, rfl⟩
  have hcv : 64 * c < n + 64 ∧ n ≤ 64 * c := by rw [← hc]; exact blks_le n
  obtain ⟨k, hk⟩ : ∃ k, nkeys c - c = k := ⟨_, rfl⟩
  rw [hc, hk]
  have HC := hide (And.intro hcv hk)
  have hnz : (n : Int) ≤ 100000 := by omega
  clear hc hk hcv
  go_enter Tryz.func38, Tryz.ntmps38
  go_upto_region 2 with (fail)
  go_loopg [4] c (fun gh x4 wr => ∃ d : Nat, d ≤ c ∧ gh = c - d ∧ x4 = .int .i64 (d : Int) ∧ Hid (w = wr))
  case atStart => exact ⟨0, Nat.zero_le _, rfl, rfl, hide rfl⟩
  case round =>
    obtain ⟨d, hd, hgh, rfl, HW⟩ := hrel
    have hww := HW.out
    subst hww
    have HGH := hide hgh
    clear hgh
    have hdz : (d : Int) ≤ 2000 := by have := HC.out.1; omega
    have e1 : IntKind.i64.wrap ((d : Int) * 64) = (d : Int) * 64 := IntWalk.i64_in _ (by omega)
    rcases Nat.lt_or_ge d c with hlt | hge
    · have t1 : decide ((d : Int) * 64 < (n : Int)) = true := by have := HC.out.1; simp; omega
      have t1' : (d : Int) * 64 < (n : Int) := by have := HC.out.1; omega
      have e2 : IntKind.i64.wrap ((d : Int) + 1) = (d : Int) + 1 := IntWalk.i64_in _ (by omega)
      have HL := hide hlt
      clear hlt
      go_wp2
      go_roundg (c - (d + 1))
      case rel => exact ⟨d + 1, by have := HL.out; omega, rfl, by first | rfl | go_num, hide rfl⟩
      case measure => have := HGH.out; have := HL.out; omega
    · have hdc : d = c := by omega
      subst hdc
      have t1 : decide ((d : Int) * 64 < (n : Int)) = false := by have := HC.out.1; simp; omega
      have t1' : ¬ (d : Int) * 64 < (n : Int) := by have := HC.out.1; omega
      have hkk := HC.out.2
      unfold nkeys at hkk
      by_cases h6 : d ≤ 6
      · have t2 : decide (d ≤ 6) = true := by simp; omega
        have t3 : (d : Int) ≤ 6 := by omega
        have hk0 : k = 0 := by rw [if_neg (show ¬ 6 < d by omega), if_neg (show ¬ 38 < d by omega)] at hkk; omega
        clear hkk hge hd h6
        subst hk0
        go_wp2
        go_returns
        exact ⟨rfl, rfl⟩
      · by_cases h38 : d ≤ 38
        · have t2 : decide ((d : Int) ≤ 6) = false := by simp; omega
          have t2' : ¬ (d : Int) ≤ 6 := by omega
          have t3 : (d : Int) ≤ 38 := by omega
          have hk0 : k = 1 := by rw [if_pos (show 6 < d by omega), if_neg (show ¬ 38 < d by omega)] at hkk; omega
          clear hkk hge hd h6 h38
          subst hk0
          go_wp2
          go_returns
          exact ⟨rfl, rfl⟩
        · have t2 : ¬ (d : Int) ≤ 6 := by omega
          have t3 : ¬ (d : Int) ≤ 38 := by omega
          obtain ⟨x, hx⟩ : ∃ x : Nat, (d - 38 + 31) / 32 = x := ⟨_, rfl⟩
          have hk0 : k = 2 + x := by rw [if_pos (show 6 < d by omega), if_pos (show 38 < d by omega)] at hkk; omega
          have HX := hide (And.intro hx hk0)
          have hdg : (38 : Int) < (d : Int) := by omega
          have e3 : IntKind.i64.wrap ((d : Int) - 38) = (d : Int) - 38 := IntWalk.i64_in _ (by omega)
          have hxz : (x : Int) ≤ 2000 := by omega
          clear hkk hge hd h6 h38 hx hk0 HC
          go_wp2_with fail
          go_loopg [5] x (fun gh x5 wr => ∃ m : Nat, m ≤ x ∧ gh = x - m ∧ x5 = .int .i64 (m : Int) ∧ Hid (w = wr))
          case atStart => exact ⟨0, Nat.zero_le _, rfl, rfl, hide rfl⟩
          case round =>
            obtain ⟨m, hm, hgh, rfl, HW⟩ := hrel
            have hww := HW.out
            subst hww
            have HGH := hide hgh
            clear hgh
            have hmz : (m : Int) ≤ 2000 := by omega
            have e4 : IntKind.i64.wrap ((m : Int) * 32) = (m : Int) * 32 := IntWalk.i64_in _ (by omega)
            rcases Nat.lt_or_ge m x with hlt | hge
            · have t4 : (m : Int) * 32 < (d : Int) - 38 := by have := HX.out.1; omega
              have t4' : decide ((m : Int) * 32 < (d : Int) - 38) = true := by simp; omega
              have e5 : IntKind.i64.wrap ((m : Int) + 1) = (m : Int) + 1 := IntWalk.i64_in _ (by omega)
              have HL := hide hlt
              clear hlt
              go_wp2
              go_roundg (x - (m + 1))
              case rel => exact ⟨m + 1, by have := HL.out; omega, rfl, by first | rfl | go_num, hide rfl⟩
              case measure => have := HGH.out; have := HL.out; omega
            · have hmx : m = x := by omega
              subst hmx
              have t4 : ¬ (m : Int) * 32 < (d : Int) - 38 := by have := HX.out.1; omega
              have t4' : decide ((m : Int) * 32 < (d : Int) - 38) = false := by simp; omega
              have hk2 := HX.out.2
              have e5 : IntKind.i64.wrap (2 + (m : Int)) = (k : Int) := by rw [IntWalk.i64_in _ (by omega)]; omega
              clear hk2 hge hm
              go_wp2
              go_returns
              exact ⟨rfl, rfl⟩
end Go.Proofs.YthmkgohfeahdhaaGreat

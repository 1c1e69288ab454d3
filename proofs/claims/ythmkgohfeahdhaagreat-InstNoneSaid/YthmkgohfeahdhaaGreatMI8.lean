/- Files: bytes written into a file: what comes of it. Files: Write and Read over a file as it is meant. Files: blocks less, plain. Files: the last block goes: walked. Files: Cut: walked. The document's groups: how they lie in memory, how much they take. The document's groups: what they take; bytes written, cut: walked. The document's groups: made, written into, cut: walked. The fixed facts of layer 7's laws: walked. A fresh disk of a configuration: walked. The fixed facts of layer 8's laws, their bytes: walked. A group's records: one more, all of them, one of them: walked. A group's records: all of them, one of them: walked. What comes in, opened: bytes, numbers. No program in sight. What comes in, opened: sizes of configurations, small numbers. No program in sight. A directory's acts that came in, opened. Paths, the plain layer: what a text is as a part and as a path. No program in sight. A directory's names: walked (as for the paths). A directory's entries as bytes: walked. A directory's entries from bytes: walked. A directory's places: walked. Directories as they are meant: places, plain. A directory's entry turned: walked. A directory's calls: what comes of them. The fixed fact of the directories: walked. An act's name: walked. Two lists of entries, compared: walked. A directory's calls in a transaction of their own: what comes of them. A record of an own directory as bytes, and back: walked. -/
import Derived.Test.YthmkgohfeahdhaaGreatMI1
import Derived.Test.YthmkgohfeahdhaaGreatMI2
import Derived.Test.YthmkgohfeahdhaaGreatMI3
import Derived.Test.YthmkgohfeahdhaaGreatMI4
import Derived.Test.YthmkgohfeahdhaaGreatMI5
import Derived.Test.YthmkgohfeahdhaaGreatMI6
import Derived.Test.YthmkgohfeahdhaaGreatMI7
import Derived.WalkKit
import Derived.WalkSpells
import Derived.WalkLawsBesides
import Derived.Maps.AppendAt
import Derived.Deep.Draws
import Derived.Lib.SlBytesConst
import Derived.Test.YthmkgohfeahdhaaGreatProg
import Derived.Deep.RegionHeld3
import Derived.Deep.RegionLaw
import Derived.Deep.QuietTactic
import Derived.BigQuiet
import Derived.Handy
import Derived.Deep.LoopGhost
import Derived.Deep.Cut
import Derived.Deep.CutRange
import Derived.Lib.IndexBytes
import Derived.StringKeys
import Derived.Laws.Tables
import Derived.Laws.Rows
import Derived.Deep.CutBlock
import Derived.Sort.OwnSortedInts
import Derived.DeepKeys
import Derived.Great.FillDense
import Derived.Laws.CopyRow
import Derived.Deep.MidRow
import Derived.OwnWalk
import Derived.Shelf.Small.Bits
import Derived.Shelf.Small.Wraps
import Derived.Shelf.Strconv.Itoa0
import Derived.Shelf.Sort.Plain
import Derived.Ground.Names2Prog
import Derived.Shelf.Slices.SearchI
import Derived.Shelf.Slices.In.SortNone
import Derived.Maps.Keyed
import Derived.DeepKeys4
import Derived.Carry
import Derived.Maps.RangeWalk
import Derived.ProofKit
import Derived.OpenShut
import Derived.Lib.SmallJoins
import Derived.Deep.Slices
import Derived.Deep.Strs
import Derived.Handed
import Derived.Deep.Fields
import Derived.Lib.SplitLaws
import Derived.Lib.BufferWrite
namespace Go.Proofs.YthmkgohfeahdhaaGreat
open Go.RowKit
set_option linter.unusedSimpArgs false
set_option linter.unusedVariables false

/-- a file lies in a group: so many data blocks, where they are, so many bytes -/
structure FileAt (G : GS) (m : Nat) (n : NodeV) (c : Nat) (κ : Nat → Nat) (len : Nat) (f : Nat → UInt8) : Prop where
  tree : Tree G m n (prOf c) κ
  cle : c ≤ 256
  fit : len ≤ 64 * c
  byte : ∀ j, j < len → (G.by_ (κ (j / 64))).getD (j % 64) 0 = f j
/-- so many blocks a length takes -/
def blks (len : Nat) : Nat := (len + 63) / 64
theorem FileAt.rdy {G : GS} {m c len : Nat} {n : NodeV} {κ : Nat → Nat} {f : Nat → UInt8} (h : FileAt G m n c κ len f) {b : Nat} (hb : b < c) : Rdy G m n b ∧ dataP G n b = κ b + 1 :=
  tree_data (by have := h.cle; omega) h.tree (pr_old hb h.cle)
theorem FileAt.fbyte {G : GS} {m c len : Nat} {n : NodeV} {κ : Nat → Nat} {f : Nat → UInt8} (h : FileAt G m n c κ len f) {j : Nat} (hj : j < len) : fbyte G n j = f j := by
  have := h.fit
  unfold Go.Proofs.YthmkgohfeahdhaaGreat.fbyte
  rw [(h.rdy (b := j / 64) (by omega)).2]
  exact h.byte j hj
theorem FileAt.bytes {G : GS} {m c len : Nat} {n : NodeV} {κ : Nat → Nat} {f : Nat → UInt8} (h : FileAt G m n c κ len f) {off l : Nat} (hl : off + l ≤ len) : fbytes G n off l = (List.range l).map fun k => f (off + k) := by
  unfold fbytes
  apply List.map_congr_left
  intro k hk
  exact h.fbyte (by have := List.mem_range.1 hk; omega)
/-- bytes written into bytes, at each place -/
def over (f : Nat → UInt8) (off : Nat) (data : List UInt8) (a j : Nat) : UInt8 := if off ≤ j ∧ j < off + a then data.getD (j - off) 0 else f j
/-- the blocks that may be touched, from one of data on -/
def tkeys (lo n : Nat) : List Nat := 256 :: 257 :: (258 + (lo - 38) / 32) :: (258 + (lo - 38) / 32 + 1) :: (List.range n).map fun k => lo + k
def KL (g : GeoN) (K0 : List Nat) (lo n c : Nat) (κ : Nat → Nat) : List Nat := K0 ++ g.base :: ((tkeys lo n).filter (prOf c)).map fun k => g.data + κ k
theorem tkeys_path {lo n b : Nat} (h1 : lo ≤ b) (h2 : b < lo + n) (hn : n ≤ 32) : ∀ k ∈ pathK b, k ∈ tkeys lo n := by
  have hb : ∀ k, k = b → k ∈ (List.range n).map (fun k => lo + k) := fun k hk => List.mem_map.2 ⟨b - lo, List.mem_range.2 (by omega), by omega⟩
  intro k hk
  rw [pathK_eq] at hk
  unfold tkeys
  simp only [List.mem_cons]
  split at hk
  · simp only [List.mem_cons, List.not_mem_nil, or_false] at hk
    exact .inr (.inr (.inr (.inr (hb k hk))))
  · split at hk
    · simp only [List.mem_cons, List.not_mem_nil, or_false] at hk
      rcases hk with hk | hk
      · exact .inl hk
      · exact .inr (.inr (.inr (.inr (hb k hk))))
    · simp only [List.mem_cons, List.not_mem_nil, or_false] at hk
      rcases hk with hk | hk | hk
      · exact .inr (.inl hk)
      · have : k = 258 + (lo - 38) / 32 ∨ k = 258 + (lo - 38) / 32 + 1 := by omega
        rcases this with h | h
        · exact .inr (.inr (.inl h))
        · exact .inr (.inr (.inr (.inl h)))
      · exact .inr (.inr (.inr (.inr (hb k hk))))
theorem tkeys_more {lo n n' : Nat} (h : n ≤ n') : ∀ k ∈ tkeys lo n, k ∈ tkeys lo n' := by
  intro k hk
  unfold tkeys at hk ⊢
  simp only [List.mem_cons, List.mem_map, List.mem_range] at hk ⊢
  rcases hk with hk | hk | hk | hk | ⟨j, hj, e⟩
  · exact .inl hk
  · exact .inr (.inl hk)
  · exact .inr (.inr (.inl hk))
  · exact .inr (.inr (.inr (.inl hk)))
  · exact .inr (.inr (.inr (.inr ⟨j, by omega, e⟩)))
theorem KL_length (g : GeoN) (K0 : List Nat) (lo n c : Nat) (κ : Nat → Nat) : (KL g K0 lo n c κ).length ≤ K0.length + 1 + (if c ≤ 38 then 1 else 4) + n := by
  unfold KL
  rw [List.length_append, List.length_cons, List.length_map]
  have h1 : ((tkeys lo n).filter (prOf c)).length ≤ (if c ≤ 38 then 1 else 4) + n := by
    unfold tkeys
    have hl := List.length_filter_le (prOf c) ((List.range n).map fun k => lo + k)
    rw [List.length_map, List.length_range] at hl
    by_cases h : c ≤ 38
    · have e1 : prOf c 257 = false := by unfold prOf; rw [decide_eq_false_iff_not]; omega
      have e2 : prOf c (258 + (lo - 38) / 32) = false := by unfold prOf; rw [decide_eq_false_iff_not]; omega
      have e3 : prOf c (258 + (lo - 38) / 32 + 1) = false := by unfold prOf; rw [decide_eq_false_iff_not]; omega
      rw [if_pos h]
      simp only [List.filter_cons, e1, e2, e3]
      cases prOf c 256 <;> simp <;> omega
    · rw [if_neg h]
      simp only [List.filter_cons]
      cases prOf c 256 <;> cases prOf c 257 <;> cases prOf c (258 + (lo - 38) / 32) <;> cases prOf c (258 + (lo - 38) / 32 + 1) <;> simp <;> omega
  omega
theorem KL_more {g : GeoN} {K0 : List Nat} {lo n n' c c' : Nat} {κ κ' : Nat → Nat} (hn : n ≤ n') (he : ∀ k, prOf c k = true → κ' k = κ k ∧ prOf c' k = true) : ∀ x ∈ KL g K0 lo n c κ, x ∈ KL g K0 lo n' c' κ' := by
  intro x hx
  unfold KL at hx ⊢
  simp only [List.mem_append, List.mem_cons, List.mem_map, List.mem_filter] at hx ⊢
  rcases hx with hx | hx | ⟨k, ⟨h1, h2⟩, h3⟩
  · exact .inl hx
  · exact .inr (.inl hx)
  · exact .inr (.inr ⟨k, ⟨tkeys_more hn k h1, (he k h2).2⟩, by rw [(he k h2).1]; exact h3⟩)
theorem needL_KL {g : GeoN} {K0 : List Nat} {lo n n' c c' b : Nat} {κ κ' : Nat → Nat} (hn : n ≤ n') (he : ∀ k, prOf c k = true → κ' k = κ k ∧ prOf c' k = true) (h1 : lo ≤ b) (h2 : b < lo + n') (h32 : n' ≤ 32) (hp : ∀ k ∈ pathK b, prOf c' k = true) :
    ∀ x ∈ needL g (KL g K0 lo n c κ) ((pathK b).map fun k => κ' k + 1), x ∈ KL g K0 lo n' c' κ' := by
  intro x hx
  simp only [needL, List.mem_append, List.mem_cons, List.mem_map] at hx
  rcases hx with hx | hx | ⟨p, ⟨k, hk, rfl⟩, hx⟩
  · exact KL_more hn he x hx
  · unfold KL; rw [hx]; simp
  · unfold KL
    simp only [List.mem_append, List.mem_cons, List.mem_map, List.mem_filter]
    exact .inr (.inr ⟨k, ⟨tkeys_path h1 h2 h32 k hk, hp k hk⟩, by omega⟩)
theorem wrB_getD {bs l : List UInt8} {a j : Nat} (h : a + l.length ≤ bs.length) : (wrB bs a l).getD j 0 = if a ≤ j ∧ j < a + l.length then l.getD (j - a) 0 else bs.getD j 0 := by
  have ht : (bs.take a).length = a := by rw [List.length_take]; omega
  unfold wrB
  simp only [List.getD_eq_getElem?_getD]
  by_cases h1 : j < a
  · rw [if_neg (by omega), List.append_assoc, List.getElem?_append_left (by omega), List.getElem?_take, if_pos h1]
  · by_cases h2 : j < a + l.length
    · rw [if_pos ⟨by omega, h2⟩, List.append_assoc, List.getElem?_append_right (by omega), ht, List.getElem?_append_left (by omega)]
    · rw [if_neg (by omega), List.getElem?_append_right (by simp only [List.length_append]; omega), List.getElem?_drop]
      congr 2
      simp only [List.length_append]
      omega
theorem nkeys_mono {a b : Nat} (h : a ≤ b) : nkeys a ≤ nkeys b := by
  unfold nkeys
  by_cases h1 : 6 < a <;> by_cases h2 : 38 < a <;> by_cases h3 : 6 < b <;> by_cases h4 : 38 < b <;> simp only [h1, h2, h3, h4, if_true, if_false] <;> omega
/-- how far writing has come -/
structure WrAt (G0 : GS) (m : Nat) (n0 : NodeV) (c sz : Nat) (κ0 : Nat → Nat) (f : Nat → UInt8) (off : Nat) (data : List UInt8) (g : GeoN) (K0 : List Nat) (a : Nat) (G : GS) (n : NodeV) (K : List Nat) (κ : Nat → Nat) : Prop where
  file : FileAt G m n (max c (blks (off + a))) κ (max sz (off + a)) (over f off data a)
  kept : Kept G0 G (prOf c) (prOf (max c (blks (off + a)))) κ0 κ
  fresh : ∀ k, prOf (max c (blks (off + a))) k = true → prOf c k = false → G0.tk (κ k) = false
  same : n0.same n
  cnt : G.cnt m + nkeys c = G0.cnt m + nkeys (max c (blks (off + a)))
  keys : K = KL g K0 (off / 64) (blks (off + a) - off / 64) (max c (blks (off + a))) κ
  al : a = data.length ∨ a = 0 ∨ (off + a) % 64 = 0
  ale : a ≤ data.length
theorem NodeV.same.trans {a b c : NodeV} (h : a.same b) (h' : b.same c) : a.same c := ⟨h'.1.trans h.1, h'.2.1.trans h.2.1, h'.2.2.1.trans h.2.2.1, h'.2.2.2.trans h.2.2.2⟩
theorem wr_step {G0 G : GS} {m c sz off a : Nat} {n0 n : NodeV} {κ0 κ : Nat → Nat} {f : Nat → UInt8} {data : List UInt8} {g : GeoN} {K0 K : List Nat} (h : WrAt G0 m n0 c sz κ0 f off data g K0 a G n K κ) (ha : a < data.length)
    (hm : m ≤ 512) (h32 : blks (off + data.length) - off / 64 ≤ 32) (hl : off + data.length ≤ 16384) (hos : off ≤ sz) (hsc : sz ≤ 64 * c) :
    needROk m n (wayOf ((off + a) / 64)) G ∧ ∀ e V G1 n1, needR m n (wayOf ((off + a) / 64)) G = (e, V, G1, n1) →
      (e ≠ 0 → e = 10 ∧ m + nkeys c < G0.cnt m + nkeys (max c (blks (off + data.length)))) ∧
      (e = 0 → 1 ≤ lastP V ∧ lastP V ≤ m ∧ lastP V ∈ V ∧ ∃ K' κ', (∀ x ∈ needL g K V, x ∈ K') ∧ WrAt G0 m n0 c sz κ0 f off data g K0 (a + wrK off data.length a) (wrG G1 off data a (lastP V)) n1 K' κ') := by
  have hb256 : (off + a) / 64 < 256 := by omega
  obtain ⟨hok, hres⟩ := need_tree hm hb256 h.file.tree h.kept.ok
  refine ⟨hok, fun e V G1 n1 he => ?_⟩
  obtain ⟨C, hC⟩ : ∃ C, max c (blks (off + a)) = C := ⟨_, rfl⟩
  obtain ⟨kk, hkk⟩ : ∃ kk, wrK off data.length a = kk := ⟨_, rfl⟩
  obtain ⟨C', hC'⟩ : ∃ C', max c (blks (off + (a + kk))) = C' := ⟨_, rfl⟩
  have hk2 : kk = min (64 - (off + a) % 64) (data.length - a) := by rw [← hkk]; rfl
  have hbC : (off + a) / 64 ≤ C := by
    rcases h.al with h1 | h1 | h1 <;> unfold blks at hC <;> omega
  have hcase : ((off + a) / 64 < C ∧ C' = C) ∨ ((off + a) / 64 = C ∧ C' = C + 1 ∧ (off + a) % 64 = 0) := by
    unfold blks at hC hC'
    rcases h.al with h1 | h1 | h1
    · omega
    · rcases Nat.lt_or_ge ((off + a) / 64) C with h2 | h2
      · left; omega
      · right; omega
    · rcases Nat.lt_or_ge ((off + a) / 64) C with h2 | h2
      · left; omega
      · right; omega
  have hC256 : C' ≤ 256 := by
    have := h.file.cle
    rw [hC] at this
    rcases hcase with h1 | h1 <;> omega
  have hCm : C' ≤ max c (blks (off + data.length)) := by unfold blks at hC' ⊢; omega
  have hmiss : missing (prOf C) (pathK ((off + a) / 64)) + nkeys C = nkeys C' := by
    rcases hcase with ⟨h1, h2⟩ | ⟨h1, h2, -⟩
    · rw [missing_zero (pr_old h1 (by omega)), h2]; omega
    · rw [h1, h2]; have := missing_new (c := C) (by omega); omega
  have hpr : ∀ k, prOf C' k = (prOf C k || decide (k ∈ pathK ((off + a) / 64))) := fun k => by
    rcases hcase with ⟨h1, h2⟩ | ⟨h1, h2, -⟩
    · rw [h2]
      by_cases hk : k ∈ pathK ((off + a) / 64)
      · rw [pr_old h1 (by omega) k hk]; rfl
      · simp [hk]
    · rw [h1, h2]; exact pr_new (by omega) k
  have hcnt := h.cnt
  have hfile := h.file
  have hfresh := h.fresh
  have hkept := h.kept
  have hkeys := h.keys
  rw [hC] at hres hcnt hfile hfresh hkept hkeys
  obtain ⟨b, hb⟩ : ∃ b, (off + a) / 64 = b := ⟨_, rfl⟩
  rw [hb] at hres hcase hmiss hpr hbC hb256 he
  rcases hres e V G1 n1 he with ⟨h1, h2⟩ | ⟨h1, pr', κ1, hT, hgr, hp', hnew, hV, hc1, hsame⟩
  · refine ⟨fun _ => ⟨h1, ?_⟩, fun h0 => by omega⟩
    have hcl := cnt_le_ G m
    have := nkeys_mono hCm
    omega
  · refine ⟨fun h0 => absurd h1 h0, fun _ => ?_⟩
    have hpe : pr' = prOf C' := by funext k; rw [hp', hpr]
    subst hpe
    have hbK : b ∈ pathK b := by rw [pathK_eq]; split; simp; split <;> simp
    have hpb : prOf C' b = true := by rw [hpr]; simp [hbK]
    have hlast : lastP V = κ1 b + 1 := by rw [hV, lastP_path]
    have hown := (hT.own b hpb).1
    have hbl : (G1.by_ (κ1 b)).length = 64 := hgr.ok.len _
    have hchl : ((data.drop a).take kk).length = kk := by rw [List.length_take, List.length_drop]; omega
    have hwl : (wrB (G1.by_ (κ1 b)) ((off + a) % 64) ((data.drop a).take kk)).length = 64 := by rw [wrB_length (by rw [hchl]; omega)]; exact hbl
    have hwg : wrG G1 off data a (lastP V) = G1.put (κ1 b) (wrB (G1.by_ (κ1 b)) ((off + a) % 64) ((data.drop a).take kk)) := by unfold wrG; rw [hlast, hkk]; rfl
    have hfr2 : ∀ k, prOf C' k = true → prOf c k = false → G0.tk (κ1 k) = false := fun k k1 k2 => by
      cases hx : prOf C k with
      | true => rw [(hgr.eq k hx).1]; exact hfresh k hx k2
      | false =>
        have := (hnew k k1 hx).1
        cases hy : G0.tk (κ1 k) with
        | false => rfl
        | true => rw [hkept.tk _ hy] at this; cases this
    have hk1 := hkept.grown hfresh hgr
    have hold : ∀ q, q < C → G1.by_ (κ1 q) = G.by_ (κ q) := fun q hq => by
      have hpq : prOf C q = true := by unfold prOf; rw [decide_eq_true_iff]; exact .inl hq
      rw [(hgr.eq q hpq).1]
      exact hgr.by_ _ ((hfile.tree.own q hpq).2) (fun k k1 k2 e => by have := hfile.tree.inj k q k1 hpq e; omega)
    refine ⟨by omega, by omega, by rw [hlast, hV]; exact List.mem_map.2 ⟨b, hbK, rfl⟩, KL g K0 (off / 64) (blks (off + (a + kk)) - off / 64) C' κ1, κ1, ?_, ?_⟩
    · rw [hkeys, hV]
      refine needL_KL (by unfold blks; omega) (fun k hk => hgr.eq k hk) (by omega) ?_ (by unfold blks at h32 ⊢; omega) (fun k hk => by rw [hpr]; simp [hk])
      unfold blks
      omega
    · rw [hwg, hkk]
      refine ⟨⟨?_, ?_, ?_, fun j hj => ?_⟩, ?_, ?_, h.same.trans hsame, ?_, ?_, ?_, by omega⟩
      · rw [hC']; exact hT.putData hb256 hpb _
      · rw [hC']; exact hC256
      · rw [hC']; unfold blks at hC'; omega
      · have hj64 : j / 64 < C' := by unfold blks at hC'; omega
        have hpj : prOf C' (j / 64) = true := by unfold prOf; rw [decide_eq_true_iff]; exact .inl hj64
        by_cases hjb : j / 64 = b
        · rw [hjb]
          have e1 : (G1.put (κ1 b) (wrB (G1.by_ (κ1 b)) ((off + a) % 64) ((data.drop a).take kk))).by_ (κ1 b) = wrB (G1.by_ (κ1 b)) ((off + a) % 64) ((data.drop a).take kk) := upd_same _ _ _
          rw [e1, wrB_getD (by rw [hchl]; omega), hchl]
          unfold over
          by_cases hin : (off + a) % 64 ≤ j % 64 ∧ j % 64 < (off + a) % 64 + kk
          · rw [if_pos hin, if_pos (by omega)]
            simp only [List.getD_eq_getElem?_getD]
            rw [List.getElem?_take, if_pos (by omega), List.getElem?_drop]
            congr 2
            omega
          · rw [if_neg hin]
            rcases hcase with ⟨k1, k2⟩ | ⟨k1, k2, k3⟩
            · rw [hold b k1, ← hjb, hfile.byte j (by omega)]
              unfold over
              by_cases hx : off ≤ j ∧ j < off + a
              · rw [if_pos hx, if_pos (by omega)]
              · rw [if_neg hx, if_neg (by omega)]
            · exfalso; omega
        · have hne : κ1 (j / 64) ≠ κ1 b := fun e => hjb (hT.inj _ _ hpj hpb e)
          have e1 : (G1.put (κ1 b) (wrB (G1.by_ (κ1 b)) ((off + a) % 64) ((data.drop a).take kk))).by_ (κ1 (j / 64)) = G1.by_ (κ1 (j / 64)) := upd_other _ _ hne
          have hjC : j / 64 < C := by rcases hcase with ⟨k1, k2⟩ | ⟨k1, k2, k3⟩ <;> omega
          rw [e1, hold _ hjC, hfile.byte j (by omega)]
          unfold over
          by_cases hx : off ≤ j ∧ j < off + a
          · rw [if_pos hx, if_pos (by omega)]
          · rw [if_neg hx, if_neg (by omega)]
      · rw [hC']; exact hk1.put hfr2 hpb hwl
      · rw [hC']; exact hfr2
      · rw [hC', put_cnt]; omega
      · rw [hC']
      · unfold wrK at hkk; omega
end Go.Proofs.YthmkgohfeahdhaaGreat
namespace Go.Proofs.YthmkgohfeahdhaaGreat
open Go.RowKit
set_option linter.unusedSimpArgs false
set_option linter.unusedVariables false

theorem Tree.grow {G : GS} {m : Nat} {n : NodeV} {pr : Nat → Bool} {κ : Nat → Nat} (h : Tree G m n pr κ) (num x : Nat) : Tree (G.set num (n.grow x)) m (n.grow x) pr κ :=
  ⟨h.dir, h.rng, h.cls, h.top, h.sub, h.own, h.inj⟩
/-- what a call on a file leaves of the group's other blocks and nodes -/
structure Left (G G' : GS) (num : Nat) (pr pr' : Nat → Bool) (κ κ' : Nat → Nat) : Prop where
  nd : ∀ k, k ≠ num → G'.nd k = G.nd k
  by_ : ∀ x, G.tk x = true → (∀ c, pr c = true → κ c ≠ x) → G'.by_ x = G.by_ x
  tk : ∀ x, G.tk x = true → G'.tk x = true
  new : ∀ x, G'.tk x = true → G.tk x = true ∨ ∃ c, pr' c = true ∧ pr c = false ∧ κ' c = x
  fresh : ∀ c, pr' c = true → pr c = false → G.tk (κ' c) = false
  old : ∀ c, pr c = true → κ' c = κ c ∧ pr' c = true
/-- what a call in a transaction leaves of it -/
structure Stay (s s' : Sto) (g : GeoN) : Prop where
  D : s'.D = s.D
  bad : s'.bad = s.bad
  far : ∀ m, (m < g.base ∨ g.data + g.blocks ≤ m) → s'.at_ m = s.at_ m
theorem grow_size {n : NodeV} {x : Nat} (h : max n.size.toNat x < 4294967296) : (n.grow x).size.toNat = max n.size.toNat x := by
  unfold NodeV.grow
  simp only
  rw [UInt32.toNat_ofNat', Nat.mod_eq_of_lt (by omega)]
section
variable {w w' : World} {i : Ids} {s : Sto} {gg : Nat} {g : GeoN} {lab : Int} {G : GS} {K0 : List Nat}
theorem write_file {num off cap c sz : Nat} {A : Option Addr} {data : List UInt8} {κ : Nat → Nat} {f : Nat → UInt8} (h : GAt w i s gg g lab G) (hK0 : s.In K0) (h1 : 1 ≤ num) (h2 : num ≤ g.nodes) (hb5 : g.blocks ≤ 512)
    (hk : (G.nd num).kind ≠ 0) (hsz : (G.nd num).size.toNat = sz) (hf : FileAt G g.blocks (G.nd num) c κ sz f) (hoff : off ≤ sz) (hlen : off + data.length ≤ 16384) (hs16 : sz ≤ 16384) (hc : data.length ≤ cap) (hR : Rd w w.heap.size 1 A data.length (bvs data)) (hA : ∀ b, A = some b → ¬ i.own b.block)
    (h32 : blks (off + data.length) - off / 64 ≤ 32) (hKl : K0.length + 1 + (if max c (blks (off + data.length)) ≤ 38 then 1 else 4) + (blks (off + data.length) - off / 64) ≤ 22)
    (hcb : blks off ≤ c) (hck : ∀ n', (G.nd num).same n' → n'.dir.length = 6 → checkN (n'.grow (off + data.length)) = true) :
    Calls Tryz.prog 33 #[.pointer (some ⟨gg, 0, none⟩), .int .i64 (num : Int), .int .i64 (off : Int), .slice A data.length cap] w fun e w' =>
      (e = .returned (.int .i64 10) ∧ g.blocks + nkeys c < G.cnt g.blocks + nkeys (max c (blks (off + data.length))) ∧ ∃ s' G', GAt w' i s' gg g lab G' ∧ Stay s s' g ∧ Tch w.heap.size i.own w w') ∨
      (e = .returned (.int .i64 0) ∧ ∃ s' G' κ', GAt w' i s' gg g lab G' ∧ FileAt G' g.blocks (G'.nd num) (max c (blks (off + data.length))) κ' (max sz (off + data.length)) (over f off data data.length) ∧ (G'.nd num).size.toNat = max sz (off + data.length) ∧ (G'.nd num).kind = (G.nd num).kind ∧ (G'.nd num).links = (G.nd num).links ∧ (G'.nd num).gen = (G.nd num).gen ∧
        Left G G' num (prOf c) (prOf (max c (blks (off + data.length)))) κ κ' ∧ G'.cnt g.blocks + nkeys c = G.cnt g.blocks + nkeys (max c (blks (off + data.length))) ∧
        s'.In (KL g K0 (off / 64) (blks (off + data.length) - off / 64) (max c (blks (off + data.length))) κ' ++ [g.base + g.bitmap + (num - 1) / 2]) ∧ Stay s s' g ∧ Tch w.heap.size i.own w w') := by
  have hfit := hf.fit
  have hc0 : max c (blks (off + 0)) = c := by rw [Nat.add_zero]; omega
  have hm0 : max sz (off + 0) = sz := by omega
  have hst : WrAt G g.blocks (G.nd num) c sz κ f off data g K0 0 G (G.nd num) (KL g K0 (off / 64) (blks (off + 0) - off / 64) (max c (blks (off + 0))) κ) κ := by
    refine ⟨?_, ?_, fun k k1 k2 => ?_, ⟨rfl, rfl, rfl, rfl⟩, ?_, rfl, .inr (.inl rfl), Nat.zero_le _⟩
    · rw [hc0, hm0]
      exact ⟨hf.tree, hf.cle, hf.fit, fun j hj => by rw [hf.byte j hj]; unfold over; rw [if_neg (by omega)]⟩
    · rw [hc0]; exact Kept.refl h.gok _ _
    · rw [hc0, k2] at k1; cases k1
    · rw [hc0]
  have hKlen : ∀ a, a ≤ data.length → ∀ κ', (KL g K0 (off / 64) (blks (off + a) - off / 64) (max c (blks (off + a))) κ').length ≤ 22 := fun a ha κ' => by
    have := KL_length g K0 (off / 64) (blks (off + a) - off / 64) (max c (blks (off + a))) κ'
    have h1 : blks (off + a) ≤ blks (off + data.length) := by unfold blks; omega
    by_cases hx : max c (blks (off + data.length)) ≤ 38
    · rw [if_pos hx] at hKl
      rw [if_pos (by omega)] at this
      omega
    · rw [if_neg hx] at hKl
      split at this <;> omega
  refine (write_walk (K0 := KL g K0 (off / 64) (blks (off + 0) - off / 64) (max c (blks (off + 0))) κ) (fun a G' n K => ∃ κ', WrAt G g.blocks (G.nd num) c sz κ f off data g K0 a G' n K κ') (fun e => e = 10 ∧ g.blocks + nkeys c < G.cnt g.blocks + nkeys (max c (blks (off + data.length))))
    h (hK0.mono fun x hx => by unfold KL; exact List.mem_append_left _ hx) h1 h2 hb5 hk (by rw [hsz]; exact hoff) (by rw [hsz]; exact hs16) hlen hc hR hA ⟨κ, hst⟩ ?_ ?_ ?_).mono ?_
  · rintro a G' n K ha ⟨κ', hw⟩
    exact ⟨(wr_step hw ha hb5 h32 hlen hoff hfit).1, hw.file.tree.dir, by rw [hw.keys]; exact hKlen a hw.ale κ'⟩
  · rintro a G' n K e V G1 n1 ha ⟨κ', hw⟩ he
    obtain ⟨k1, k2⟩ := (wr_step hw ha hb5 h32 hlen hoff hfit).2 e V G1 n1 he
    refine ⟨k1, fun h0 => ?_⟩
    obtain ⟨p1, p2, p3, K', κ'', p4, p5⟩ := k2 h0
    exact ⟨p1, p2, p3, K', p4, κ'', p5⟩
  · rintro G' n K ⟨κ', hw⟩
    exact ⟨hw.file.tree.dir, hw.same.2.2.2, by rw [hw.keys]; have := hKlen data.length (Nat.le_refl _) κ'; omega, hck n hw.same hw.file.tree.dir⟩
  · rintro e w' (⟨x, ⟨rfl, hx⟩, he, s', G', k1, k2, k3, k4, k5⟩ | ⟨he, s', G', n', K', ⟨κ', hw⟩, k1, k2, k3, k4, k5, k6⟩)
    · exact .inl ⟨he, hx, s', G', k1, ⟨k2, k3, k4⟩, k5⟩
    · refine .inr ⟨he, s', _, κ', k1, ?_, ?_, ?_, ?_, ?_, ⟨fun k hk => ?_, hw.kept.by_, hw.kept.tk, hw.kept.new, hw.fresh, hw.kept.eq⟩, hw.cnt, ?_, ⟨k3, k4, k5⟩, k6⟩
      · have e1 : (G'.set num (n'.grow (off + data.length))).nd num = n'.grow (off + data.length) := upd_same _ _ _
        rw [e1]
        exact ⟨hw.file.tree.grow num _, hw.file.cle, hw.file.fit, hw.file.byte⟩
      · have e1 : (G'.set num (n'.grow (off + data.length))).nd num = n'.grow (off + data.length) := upd_same _ _ _
        rw [e1, grow_size (by rw [hw.same.2.2.2, hsz]; omega), hw.same.2.2.2, hsz]
      · exact (congrArg NodeV.kind (upd_same _ _ _)).trans hw.same.1
      · exact (congrArg NodeV.links (upd_same _ _ _)).trans hw.same.2.1
      · exact (congrArg NodeV.gen (upd_same _ _ _)).trans hw.same.2.2.1
      · have : (G'.set num (n'.grow (off + data.length))).nd k = G'.nd k := upd_other _ _ hk
        rw [this, hw.kept.nd]
      · rw [hw.keys] at k2; exact k2
theorem read_file {num off many en c sz : Nat} {κ : Nat → Nat} {f : Nat → UInt8} (h : GAt w i s gg g lab G) (h1 : 1 ≤ num) (h2 : num ≤ g.nodes) (hk : (G.nd num).kind ≠ 0) (hsz : (G.nd num).size.toNat = sz) (hf : FileAt G g.blocks (G.nd num) c κ sz f)
    (hoff : off ≤ 65536) (hmany : many ≤ 4611686018427387904) (hs16 : sz ≤ 16384) (hen : en = min sz (off + min many 16384)) :
    Calls Tryz.prog 36 #[.pointer (some ⟨gg, 0, none⟩), .int .i64 (num : Int), .int .i64 (off : Int), .int .i64 (many : Int)] w fun e w' => ∃ (A : Option Addr) (cp : Nat), e = .returned (.tuple #[.slice A (en - off) cp, .int .i64 0]) ∧ Rd w' w'.heap.size 1 A (en - off) (bvs ((List.range (en - off)).map fun k => f (off + k))) ∧ GAt w' i s gg g lab G ∧ Tch w.heap.size i.own w w' ∧ (∀ b, A = some b → w.heap.size ≤ b.block) ∧ en - off ≤ cp ∧ w'.ownsRow w.heap.size 5 1 (.slice A (en - off) cp) (en - off) (bvs ((List.range (en - off)).map fun k => f (off + k))) := by
  have hfit := hf.fit
  have := read_walk (num := num) (en := en) (n := G.nd num) h h1 h2 rfl hk hoff hmany (by rw [hsz]; exact hen) (by rw [hsz]; exact hs16) (fun b hb1 hb2 => (hf.rdy (b := b) (by omega)).1)
  have e : fbytes G (G.nd num) off (en - off) = (List.range (en - off)).map fun k => f (off + k) := by
    rcases Nat.lt_or_ge off en with h1 | h1
    · exact hf.bytes (by omega)
    · rw [show en - off = 0 from by omega]; rfl
  rw [e] at this
  exact this
end
end Go.Proofs.YthmkgohfeahdhaaGreat
namespace Go.Proofs.YthmkgohfeahdhaaGreat
open Go.RowKit
set_option linter.unusedSimpArgs false
set_option linter.unusedVariables false

theorem give_cnt {G : GS} {k : Nat} (hk : G.tk k = true) : ∀ m, (G.give k).cnt m + (if k < m then 1 else 0) = G.cnt m
  | 0 => rfl
  | m + 1 => by
    have ih := give_cnt hk m
    unfold GS.cnt at ih ⊢
    rw [List.range_succ, List.filter_append, List.filter_append, List.length_append, List.length_append]
    by_cases e : m = k
    · subst e
      have h1 : (G.give m).tk m = false := by simp [GS.give, upd]
      rw [if_neg (show ¬ m < m by omega)] at ih
      rw [if_pos (show m < m + 1 by omega)]
      simp only [List.filter_cons, h1, hk, List.filter_nil]
      simp
      omega
    · have h1 : (G.give k).tk m = G.tk m := by simp [GS.give, upd, e]
      simp only [List.filter_cons, h1, List.filter_nil]
      by_cases h2 : k < m
      · rw [if_pos h2] at ih
        rw [if_pos (show k < m + 1 by omega)]
        omega
      · rw [if_neg h2] at ih
        rw [if_neg (show ¬ k < m + 1 by omega)]
        omega
/-- a block goes, its pointer in a block -/
theorem Tree.del {G : GS} {m : Nat} {n : NodeV} {pr : Nat → Bool} {κ : Nat → Nat} {c p j : Nat} (h : Tree G m n pr κ) (hG : G.Ok) (hc : c < 265) (hpc : pr c = true) (hp : par c = some (p, j))
    (hch : ∀ c' j', c' < 265 → par c' = some (c, j') → pr c' = false) : Tree ((G.give (κ c)).put (κ p) (pointB (G.by_ (κ p)) j 0)) m n (upd pr c false) κ := by
  have hpp := h.cls c p j hpc hp
  obtain ⟨hp5, hj, hp256, hpc'⟩ := par_lt hc hp
  have hby : ∀ x, ((G.give (κ c)).put (κ p) (pointB (G.by_ (κ p)) j 0)).by_ x = if x = κ p then pointB (G.by_ (κ p)) j 0 else G.by_ x := fun x => rfl
  have htk : ∀ x, ((G.give (κ c)).put (κ p) (pointB (G.by_ (κ p)) j 0)).tk x = if x = κ c then false else G.tk x := fun x => rfl
  have hne : ∀ {c'}, upd pr c false c' = true → c' ≠ c ∧ pr c' = true := fun {c'} h' => by
    simp only [upd] at h'
    split at h'
    · cases h'
    · rename_i e; exact ⟨e, h'⟩
  refine ⟨h.dir, fun c' h' => h.rng c' (hne h').2, fun c' p' j' h' hp' => ?_, fun c' hc' hp' => ?_, fun c' p' j' hc' hp' hpr => ?_, fun c' h' => ?_, fun c1 c2 h1 h2 he => h.inj c1 c2 (hne h1).2 (hne h2).2 he⟩
  · have h1 := h.cls c' p' j' (hne h').2 hp'
    have h2 : p' ≠ c := fun e => by subst e; have := hch c' j' (h.rng c' (hne h').2) hp'; rw [(hne h').2] at this; cases this
    rw [upd_other _ _ h2]; exact h1
  · have : c' ≠ c := fun e => by rw [e, hp] at hp'; cases hp'
    rw [upd_other _ _ this]
    exact h.top c' hc' hp'
  · obtain ⟨h1, h2⟩ := hne hpr
    rw [hby]
    by_cases e2 : p' = p
    · subst e2
      rw [if_pos rfl, ptr_point (hG.len _) hj (by omega)]
      by_cases e3 : j' = j
      · subst e3
        have := par_inj hc' hc hp' hp
        subst this
        rw [if_pos rfl, upd_same]
        rfl
      · have : c' ≠ c := fun e => by subst e; rw [hp] at hp'; cases hp'; exact e3 rfl
        rw [if_neg e3, upd_other _ _ this]
        exact h.sub c' p' j' hc' hp' h2
    · have e4 : κ p' ≠ κ p := fun e => e2 (h.inj p' p h2 hpp e)
      have : c' ≠ c := fun e => by subst e; rw [hp] at hp'; cases hp'; exact e2 rfl
      rw [if_neg e4, upd_other _ _ this]
      exact h.sub c' p' j' hc' hp' h2
  · obtain ⟨h1, h2⟩ := hne h'
    rw [htk, if_neg (fun e => h1 (h.inj c' c h2 hpc e))]
    exact h.own c' h2
/-- what goes of a file's blocks, and what else stays -/
structure Del (G0 G : GS) (m : Nat) (n0 n : NodeV) (pr0 pr : Nat → Bool) (κ : Nat → Nat) (d : Nat) : Prop where
  tree : Tree G m n pr κ
  ok : G.Ok
  nd : G.nd = G0.nd
  same : n0.same n
  sub : ∀ k, pr k = true → pr0 k = true
  by_ : ∀ x, (∀ k, pr0 k = true → 256 ≤ k → κ k ≠ x) → G.by_ x = G0.by_ x
  tk : ∀ x, (∀ k, pr0 k = true → κ k ≠ x) → G.tk x = G0.tk x
  cnt : G.cnt m + d = G0.cnt m
theorem Del.refl {G : GS} {m : Nat} {n : NodeV} {pr : Nat → Bool} {κ : Nat → Nat} (h : Tree G m n pr κ) (hG : G.Ok) : Del G G m n n pr pr κ 0 :=
  ⟨h, hG, rfl, ⟨rfl, rfl, rfl, rfl⟩, fun _ h => h, fun _ _ => rfl, fun _ _ => rfl, rfl⟩
theorem upd_sub {pr pr0 : Nat → Bool} {c : Nat} (h : ∀ k, pr k = true → pr0 k = true) : ∀ k, upd pr c false k = true → pr0 k = true := fun k hk => by
  simp only [upd] at hk
  split at hk
  · cases hk
  · exact h k hk
theorem Del.step {G0 G : GS} {m : Nat} {n0 n : NodeV} {pr0 pr : Nat → Bool} {κ : Nat → Nat} {d c p j : Nat} (h : Del G0 G m n0 n pr0 pr κ d) (hc : c < 265) (hpc : pr c = true) (hp : par c = some (p, j))
    (hch : ∀ c' j', c' < 265 → par c' = some (c, j') → pr c' = false) : Del G0 ((G.give (κ c)).put (κ p) (pointB (G.by_ (κ p)) j 0)) m n0 n pr0 (upd pr c false) κ (d + 1) where
  tree := h.tree.del h.ok hc hpc hp hch
  ok := (h.ok.give _).put _ (by rw [pointB_length]; exact h.ok.len _)
  nd := h.nd
  same := h.same
  sub := upd_sub h.sub
  by_ x hx := by
    have hpp := h.tree.cls c p j hpc hp
    have : x ≠ κ p := fun e => hx p (h.sub p hpp) (par_lt hc hp).2.2.1 e.symm
    exact (upd_other _ _ this).trans (h.by_ x hx)
  tk x hx := by
    have : x ≠ κ c := fun e => hx c (h.sub c hpc) e.symm
    exact (upd_other _ _ this).trans (h.tk x hx)
  cnt := by
    have h1 := h.tree.own c hpc
    have h2 := give_cnt h1.2 m
    rw [if_pos h1.1] at h2
    have := h.cnt
    rw [put_cnt]
    omega
theorem prOf_true {c k : Nat} : prOf c k = true ↔ (k < c ∨ (k = 256 ∧ 6 < c) ∨ (k = 257 ∧ 38 < c) ∨ (258 ≤ k ∧ k < 265 ∧ 38 + 32 * (k - 258) < c)) := by
  unfold prOf; rw [decide_eq_true_iff]
end Go.Proofs.YthmkgohfeahdhaaGreat
namespace Go.Proofs.YthmkgohfeahdhaaGreat
open Go.RowKit
set_option linter.unusedSimpArgs false
set_option linter.unusedVariables false

section
variable {w0 w w' : World} {i : Ids} {s0 s : Sto} {gg : Nat} {g : GeoN} {lab : Int} {G G' : GS} {K : List Nat}
theorem Stay.trans {s1 s2 s3 : Sto} (h : Stay s1 s2 g) (h' : Stay s2 s3 g) : Stay s1 s3 g := ⟨h'.D.trans h.D, h'.bad.trans h.bad, fun m hm => (h'.far m hm).trans (h.far m hm)⟩
/-- how a group lies open behind calls on a file's blocks: those to be written are among a list's -/
def CutR (w0 w : World) (i : Ids) (s0 : Sto) (gg : Nat) (g : GeoN) (lab : Int) (G : GS) (K : List Nat) : Prop :=
  ∃ s, GAt w i s gg g lab G ∧ Stay s0 s g ∧ s.In K ∧ Tch w0.heap.size i.own w0 w
theorem CutR.refl (h : GAt w i s gg g lab G) (hK : s.In K) : CutR w w i s gg g lab G K := ⟨s, h, ⟨rfl, rfl, fun _ _ => rfl⟩, hK, Tch.refl _ _ _⟩
theorem CutR.below (h : CutR w0 w i s0 gg g lab G K) (hb : Below w.heap.size w w') : CutR w0 w' i s0 gg g lab G K := by
  obtain ⟨s', h1, h2, h3, h4⟩ := h
  exact ⟨s', h1.below hb, h2, h3, h4.trans ((Tch.of_below hb).mono h4.size fun _ _ h => h)⟩
theorem CutR.drew (h : CutR w0 w i s0 gg g lab G K) : CutR w0 w.drew i s0 gg g lab G K := h.below (Below.refl _ _).drew
theorem CutR.tch (h : CutR w0 w i s0 gg g lab G K) : Tch w0.heap.size i.own w0 w := by
  obtain ⟨s', h1, h2, h3, h4⟩ := h
  exact h4
theorem CutR.gok (h : CutR w0 w i s0 gg g lab G K) : G.Ok := by
  obtain ⟨s', h1, h2, h3, h4⟩ := h
  exact h1.gok
theorem CutR.step {L : List Nat} (h : CutR w0 w i s0 gg g lab G K) (hg : GAt w' i s gg g lab G') (hs : ∃ s1, s1.In K ∧ Stay s0 s1 g ∧ s1.Step s g L) (hL : ∀ x ∈ L, x ∈ K) (ht : Tch w.heap.size i.own w w') : CutR w0 w' i s0 gg g lab G' K := by
  obtain ⟨s', h1, h2, h3, h4⟩ := h
  obtain ⟨s1, k1, k2, k3⟩ := hs
  exact ⟨s, hg, k2.trans ⟨k3.D, k3.bad, k3.far⟩, (k3.in_ k1).mono (fun x hx => by rcases List.mem_append.1 hx with h | h; exact h; exact hL x h), h4.trans (ht.mono h4.size fun _ _ h => h)⟩
theorem CutR.setNode {nb r : Nat} {cs : Array Value} {u : Value} (h : CutR w0 w i s0 gg g lab G K) (hnb : w0.heap.size ≤ nb) (hN : Blk w nb 130 cs) : CutR w0 (w.setCell ⟨nb, r, none⟩ u) i s0 gg g lab G K := by
  obtain ⟨s, h1, h2, h3, h4⟩ := h
  have ht : Tch w.heap.size (· = nb) w (w.setCell ⟨nb, r, none⟩ u) := Tch.setCell fun _ => rfl
  have e1 : ¬ i.own nb := h1.tx.other hN (by decide) (by decide) (by decide)
  have e2 : nb ≠ i.ll := hN.ne h1.tx.log.log (by decide)
  have e3 : gg ≠ nb := h1.gp.ne hN (by decide)
  exact ⟨s, ⟨h1.tx.apart ht (fun k hk => by subst hk; exact ⟨e1, e2⟩), Blk.tch h1.gp ht h1.gp.lt e3, h1.ok, h1.is, h1.gok⟩, h2, h3, h4.trans (ht.mono h4.size fun k hk hs => by omega)⟩
end
end Go.Proofs.YthmkgohfeahdhaaGreat
namespace Go.Proofs.YthmkgohfeahdhaaGreat
open Go.RowKit
set_option linter.unusedSimpArgs false
set_option linter.unusedVariables false

theorem Del.trans {G0 G1 G2 : GS} {m : Nat} {n0 n1 n2 : NodeV} {p0 p1 p2 : Nat → Bool} {κ : Nat → Nat} {d d' : Nat} (h : Del G0 G1 m n0 n1 p0 p1 κ d) (h' : Del G1 G2 m n1 n2 p1 p2 κ d') : Del G0 G2 m n0 n2 p0 p2 κ (d + d') where
  tree := h'.tree
  ok := h'.ok
  nd := h'.nd.trans h.nd
  same := h.same.trans h'.same
  sub k hk := h.sub k (h'.sub k hk)
  by_ x hx := (h'.by_ x fun k hk => hx k (h.sub k hk)).trans (h.by_ x hx)
  tk x hx := (h'.tk x fun k hk => hx k (h.sub k hk)).trans (h.tk x hx)
  cnt := by have := h.cnt; have := h'.cnt; omega
section
variable {w0 w w' : World} {i : Ids} {s0 s : Sto} {gg : Nat} {g : GeoN} {lab : Int} {G G' : GS} {K : List Nat}
/-- what a cut leaves of a group's other blocks and nodes -/
structure Lost (G G' : GS) (num : Nat) (pr : Nat → Bool) (κ : Nat → Nat) : Prop where
  nd : ∀ k, k ≠ num → G'.nd k = G.nd k
  by_ : ∀ x, (∀ c, pr c = true → κ c ≠ x) → G'.by_ x = G.by_ x
  tk : ∀ x, (∀ c, pr c = true → κ c ≠ x) → G'.tk x = G.tk x
end
end Go.Proofs.YthmkgohfeahdhaaGreat
namespace Go.Proofs.YthmkgohfeahdhaaGreat
open Go.RowKit
set_option linter.unusedSimpArgs false
set_option linter.unusedVariables false

/-- an entry of a directory -/
structure EntV where
  name : ByteArray
  num : UInt16
def EntV.cells (e : EntV) : List Value := [.string e.name, .int .u16 (e.num.toNat : Int)]
def flat2 (l : List EntV) : List Value := l.flatMap EntV.cells
/-- a node as it is meant, as it lies -/
structure RNd where
  kind : UInt8
  links : Nat
  gen : UInt16
  A : Option Addr
  l : List UInt8
  c : Nat
  P : Option Addr
  ps : List EntV
  pc : Nat
def RNd.cells (n : RNd) : List Value := [.int .u8 (n.kind.toNat : Int), .int .i64 (n.links : Int), .int .u16 (n.gen.toNat : Int), .slice n.A n.l.length n.c, .slice n.P n.ps.length n.pc]
def flat5 (L : List RNd) : List Value := L.flatMap RNd.cells
def RNd.zero : RNd := ⟨0, 0, 0, none, [], 0, none, [], 0⟩
theorem flat5_length (L : List RNd) : (flat5 L).length = L.length * 5 := by
  induction L with
  | nil => rfl
  | cons n r ih => unfold flat5 at ih ⊢; rw [List.flatMap_cons, List.length_append, ih, List.length_cons]; simp [RNd.cells]; omega
theorem flat5_get : ∀ {L : List RNd} {k j : Nat} {n : RNd}, L[k]? = some n → j < 5 → (flat5 L)[k * 5 + j]? = n.cells[j]?
  | [], k, j, n, h, _ => by simp at h
  | a :: r, 0, j, n, h, hj => by
    obtain rfl : a = n := by simpa using h
    unfold flat5
    rw [List.flatMap_cons, Nat.zero_mul, Nat.zero_add, List.getElem?_append_left (by simp [RNd.cells]; omega)]
  | a :: r, k + 1, j, n, h, hj => by
    have := flat5_get (L := r) (k := k) (j := j) (n := n) (by simpa using h) hj
    unfold flat5 at this ⊢
    rw [List.flatMap_cons, List.getElem?_append_right (by simp [RNd.cells]; omega), ← this]
    congr 1
    simp [RNd.cells]; omega
/-- a node's bytes and places lie in memory -/
structure RNd.At (w : World) (n : RNd) : Prop where
  b : w.ownsRow 0 5 1 (.slice n.A n.l.length n.c) n.l.length (bvs n.l)
  p : w.ownsRow 0 125 2 (.slice n.P n.ps.length n.pc) n.ps.length (flat2 n.ps)
theorem own_from {w w' : World} {n sz : Nat} {e : TypeId} {v : Value} {xs : List Value} {S : Nat → Prop} (h : w.ownsRow 0 e sz v n xs) (ht : Tch w.heap.size S w w') (hS : ∀ g cur, Blk w g e cur → ¬ S g) : w'.ownsRow 0 e sz v n xs :=
  own_keep h fun g hg => by
    rcases h.2 with ⟨rfl, _⟩ | ⟨g', cap, cur, rfl, _, hh, _⟩
    · cases hg
    · have e : g' = g := by simpa [Value.ownBlock] using hg
      subst e
      exact ht.block g' (Array.getElem?_eq_some_iff.1 hh).1 (hS g' cur hh)
theorem RNd.At.tch {w w' : World} {n : RNd} {S : Nat → Prop} (h : n.At w) (ht : Tch w.heap.size S w w') (h1 : ∀ g cur, Blk w g 5 cur → ¬ S g) (h2 : ∀ g cur, Blk w g 125 cur → ¬ S g) : n.At w' :=
  ⟨own_from h.b ht h1, own_from h.p ht h2⟩
theorem RNd.At.zero (w : World) : RNd.zero.At w := ⟨World.ownsRow_nil _ _ _ _, World.ownsRow_nil _ _ _ _⟩
/-- a group's nodes lie in a row -/
structure Row5 (w : World) (nb : Nat) (L : List RNd) (cN : Nat) : Prop where
  row : w.ownsRow 0 62 5 (.slice (some ⟨nb, 0, none⟩) L.length cN) L.length (flat5 L)
  all : ∀ n ∈ L, n.At w
/-- a group as it is meant -/
structure GrAt (w : World) (mb nb : Nat) (L : List RNd) (cN : Nat) (T : Option Addr) (tn tc blocks : Nat) : Prop where
  m : Blk w mb 47 #[.slice (some ⟨nb, 0, none⟩) L.length cN, .slice T tn tc, .int .i64 (blocks : Int)]
  r : Row5 w nb L cN
section
variable {w w' : World} {mb nb cN tn tc blocks : Nat} {L : List RNd} {T : Option Addr} {S : Nat → Prop}
theorem Row5.tch (h : Row5 w nb L cN) (ht : Tch w.heap.size S w w') (h0 : ∀ g cur, Blk w g 62 cur → ¬ S g) (h1 : ∀ g cur, Blk w g 5 cur → ¬ S g) (h2 : ∀ g cur, Blk w g 125 cur → ¬ S g) : Row5 w' nb L cN :=
  ⟨own_from h.row ht h0, fun n hn => (h.all n hn).tch ht h1 h2⟩
theorem Row5.below (h : Row5 w nb L cN) (hb : Below w.heap.size w w') : Row5 w' nb L cN := h.tch (Tch.of_below (S := fun _ => False) hb) (fun _ _ _ h => h) (fun _ _ _ h => h) (fun _ _ _ h => h)
theorem GrAt.below (h : GrAt w mb nb L cN T tn tc blocks) (hb : Below w.heap.size w w') : GrAt w' mb nb L cN T tn tc blocks := ⟨h.m.below hb h.m.lt, h.r.below hb⟩
/-- a transaction's calls leave it -/
theorem GrAt.own {i : Ids} {s : Sto} (h : GrAt w mb nb L cN T tn tc blocks) (hx : TxAt w i s) (ht : Tch w.heap.size i.own w w') : GrAt w' mb nb L cN T tn tc blocks :=
  ⟨h.m.tch ht h.m.lt (hx.other h.m (by decide) (by decide) (by decide)), h.r.tch ht (fun g cur hB => hx.other hB (by decide) (by decide) (by decide)) (fun g cur hB => hx.other hB (by decide) (by decide) (by decide)) (fun g cur hB => hx.other hB (by decide) (by decide) (by decide))⟩
theorem Row5.blk (h : Row5 w nb L cN) : ∃ cur : Array Value, Blk w nb 62 cur ∧ ∀ (j : Nat) (v : Value), (flat5 L)[j]? = some v → cur[j]? = some v := by
  rcases h.row.2 with ⟨h0, _⟩ | ⟨g, cap, cur, hv, _, hh, _, _, _, htake⟩
  · cases h0
  · simp only [Value.slice.injEq, Option.some.injEq, Addr.mk.injEq] at hv
    obtain ⟨⟨rfl, _⟩, _, rfl⟩ := hv
    refine ⟨cur, hh, fun j v hj => ?_⟩
    have hjl : j < L.length * 5 := by rw [← flat5_length]; exact (List.getElem?_eq_some_iff.1 hj).1
    have h2 : (cur.toList.take (L.length * 5))[j]? = some v := by rw [htake]; exact hj
    rw [List.getElem?_take, if_pos hjl, Array.getElem?_toList] at h2
    exact h2
theorem Row5.cell (h : Row5 w nb L cN) {k j : Nat} {n : RNd} (hk : L[k]? = some n) (hj : j < 5) : w.cell? ⟨nb, k * 5 + j, none⟩ = n.cells[j]? := by
  obtain ⟨cur, hB, hc⟩ := h.blk
  have h1 := flat5_get hk hj
  have h2 : j < n.cells.length := by simp [RNd.cells]; omega
  rw [List.getElem?_eq_getElem h2] at h1 ⊢
  rw [hB.cell]
  exact hc _ _ h1
theorem Row5.lt (h : Row5 w nb L cN) : nb < w.heap.size := by
  obtain ⟨cur, hB, _⟩ := h.blk
  exact hB.lt
theorem Row5.frozen (h : Row5 w nb L cN) (i : Nat) : w.frozen? ⟨nb, i, none⟩ = false := by
  obtain ⟨cur, hB, _⟩ := h.blk
  exact hB.frozen i
theorem Row5.range (h : Row5 w nb L cN) {k : Nat} {n : RNd} (hk : L[k]? = some n) : w.rangeAt nb (k * 5) n.cells := fun j v hj => by
  have h2 : j < 5 := by have := (List.getElem?_eq_some_iff.1 hj).1; simpa [RNd.cells] using this
  rw [h.cell hk h2]; exact hj
theorem Row5.cap (h : Row5 w nb L cN) : L.length ≤ cN := own_le_cap h.row
end
/-- how long a node is -/
def RNd.size (n : RNd) : Nat := if n.kind = 2 then 16 * n.ps.length else n.l.length
end Go.Proofs.YthmkgohfeahdhaaGreat
namespace Go.Proofs.YthmkgohfeahdhaaGreat
open Go.RowKit
set_option linter.unusedSimpArgs false
set_option linter.unusedVariables false

section
variable {w w' : World} {mb nb cN tn tc blocks : Nat} {L : List RNd} {T : Option Addr}
theorem Row5.there (h : Row5 w nb L cN) {k : Nat} (hk : k < L.length) : w.there nb (k * 5) 5 := by
  obtain ⟨cur, hB, hc⟩ := h.blk
  refine hB.there ?_
  have h1 := flat5_get (List.getElem?_eq_getElem hk) (show 4 < 5 by omega)
  have h2 := hc _ _ h1
  have := (Array.getElem?_eq_some_iff.1 h2).1
  omega
end
end Go.Proofs.YthmkgohfeahdhaaGreat
namespace Go.Proofs.YthmkgohfeahdhaaGreat
open Go.RowKit
set_option linter.unusedSimpArgs false
set_option linter.unusedVariables false

/-- a group's own node -/
def RNd.own (k : UInt8) : RNd := ⟨k, 1, 1, none, [], 0, none, [], 0⟩
/-- a node with other bytes -/
def RNd.with (n : RNd) (A : Option Addr) (l : List UInt8) (c : Nat) : RNd := { n with A := A, l := l, c := c }
section
variable {w w' : World} {mb nb cN tn tc blocks : Nat} {L : List RNd} {T : Option Addr}
end
end Go.Proofs.YthmkgohfeahdhaaGreat
namespace Go.Proofs.YthmkgohfeahdhaaGreat
open Go.RowKit
set_option linter.unusedSimpArgs false
set_option linter.unusedVariables false

/-- a configuration of small numbers: what the laws need of it -/
structure SzFacts (R : List RegV) (n : Nat) : Prop where
  tot : totalOf 32 R = (n : Int)
  ge : 32 ≤ n
  le : n ≤ 65536
  two : 2 ≤ R.length
  five : R.length ≤ 5
  geo : ∀ (k : Nat), k < R.length → ∃ (v : GeoV) (r : RegV), (geosOf 32 R)[k]? = some v ∧ R[k]? = some r ∧ (geoN v).Ok n ∧ (geoN v).val = .agg v.cells.toArray ∧ ((geoN v).blocks : Int) = r.blocks ∧ ((geoN v).nodes : Int) = r.nodes ∧ 4 ≤ (geoN v).blocks ∧ (geoN v).blocks ≤ 512 ∧ 4 ≤ (geoN v).nodes ∧ (geoN v).nodes ≤ 128

end Go.Proofs.YthmkgohfeahdhaaGreat
namespace Go.Proofs.YthmkgohfeahdhaaGreat
open Go.RowKit
set_option linter.unusedSimpArgs false
set_option linter.unusedVariables false

/-- a node that is there from the beginning -/
def freshN (k : UInt8) : NodeV := { NodeV.zero with kind := k, links := 1, gen := 1 }
def GS.freshTo : Nat → GS
  | 0 => GS.none
  | 1 => GS.none.set 1 (freshN 2)
  | 2 => (GS.none.set 1 (freshN 2)).set 2 (freshN 1)
  | _ => ((GS.none.set 1 (freshN 2)).set 2 (freshN 1)).set 3 (freshN 1)
/-- a group with its own nodes -/
def GS.fresh : GS := GS.freshTo 3
theorem GS.freshTo_ok : ∀ q, (GS.freshTo q).Ok
  | 0 => none_ok
  | 1 => none_ok.set 1 rfl rfl
  | 2 => (none_ok.set 1 rfl rfl).set 2 rfl rfl
  | _ + 3 => ((none_ok.set 1 rfl rfl).set 2 rfl rfl).set 3 rfl rfl
theorem GS.fresh_ok : GS.fresh.Ok := GS.freshTo_ok 3
theorem build_fresh (w : World) (k : UInt8) : (Instr.build 130 #[(0, .int .u8 (k.toNat : Int)), (1, .int .u8 1), (2, .int .u16 1)]).run Tryz.prog w = .ok (freshN k).val w := by kernel_rfl

/-- a configuration: what the laws need of it -/
structure CfFacts (R : List RegV) (n : Nat) : Prop where
  tot : totalOf 32 R = (n : Int)
  ge : 32 ≤ n
  le : n ≤ 65536
  geo : ∀ (k : Nat), k < R.length → ∃ (v : GeoV) (r : RegV), (geosOf 32 R)[k]? = some v ∧ R[k]? = some r ∧ (geoN v).Ok n ∧ (geoN v).val = .agg v.cells.toArray ∧ ((geoN v).blocks : Int) = r.blocks ∧ ((geoN v).nodes : Int) = r.nodes ∧ 4 ≤ (geoN v).blocks ∧ (geoN v).blocks ≤ 512 ∧ 4 ≤ (geoN v).nodes ∧ (geoN v).nodes ≤ 128
  apart : ∀ (j k : Nat) (v v' : GeoV), (geosOf 32 R)[j]? = some v → (geosOf 32 R)[k]? = some v' → j < k → (geoN v).data + (geoN v).blocks ≤ (geoN v').base
theorem geos_from {R : List RegV} (hok : ∀ r ∈ R, okReg r) : ∀ (a : Int) (k : Nat) (v : GeoV), (geosOf a R)[k]? = some v → a ≤ v.base := by
  induction R with
  | nil => intro a k v h; simp [geosOf] at h
  | cons r R ih =>
    intro a k v h
    cases k with
    | zero => simp only [geosOf, List.getElem?_cons_zero, Option.some.injEq] at h; subst h; exact Int.le_refl _
    | succ k =>
      simp only [geosOf, List.getElem?_cons_succ] at h
      have h1 := ih (fun x hx => hok x (by simp [hx])) _ k v h
      obtain ⟨_, k1, k2, k3, k4⟩ := hok r (by simp)
      have h2 : a ≤ (geoOf a r).end_ := by simp only [geoOf, GeoV.end_]; omega
      omega
theorem geos_apart {R : List RegV} (hok : ∀ r ∈ R, okReg r) : ∀ (a : Int) (j k : Nat) (v v' : GeoV), 0 ≤ a → (geosOf a R)[j]? = some v → (geosOf a R)[k]? = some v' → j < k → (geoN v).data + (geoN v).blocks ≤ (geoN v').base := by
  induction R with
  | nil => intro a j k v v' _ h; simp [geosOf] at h
  | cons r R ih =>
    intro a j k v v' ha h h' hjk
    obtain ⟨_, k1, k2, k3, k4⟩ := hok r (by simp)
    have h2 : a ≤ (geoOf a r).end_ := by simp only [geoOf, GeoV.end_]; omega
    obtain ⟨k, rfl⟩ : ∃ m, k = m + 1 := ⟨k - 1, by omega⟩
    simp only [geosOf, List.getElem?_cons_succ] at h'
    cases j with
    | zero =>
      simp only [geosOf, List.getElem?_cons_zero, Option.some.injEq] at h
      subst h
      have h3 := geos_from (fun x hx => hok x (by simp [hx])) _ k v' h'
      simp only [geoN, geoOf, GeoV.end_] at h3 ⊢
      omega
    | succ j =>
      simp only [geosOf, List.getElem?_cons_succ] at h
      exact ih (fun x hx => hok x (by simp [hx])) _ j k v v' (by omega) h h' (by omega)
theorem cf_facts {R : List RegV} (hok : ∀ r ∈ R, okReg r) (hl : R.length ≤ 5) : ∃ n, CfFacts R n := by
  have htb := total_bounds hok 32 (by omega)
  have hge := tot_ge hok 32
  refine ⟨(totalOf 32 R).toNat, by omega, by omega, by omega, fun k hk => ?_, fun j k v v' h h' hjk => geos_apart hok 32 j k v v' (by omega) h h' hjk⟩
  have hv : (geosOf 32 R)[k]? = some ((geosOf 32 R)[k]'(by rw [geosOf_length]; exact hk)) := List.getElem?_eq_getElem _
  obtain ⟨h1, h2, r, hr, h3, h4⟩ := geos_ok hok 32 k _ (by omega) (by omega) hv
  obtain ⟨_, b1, b2, b3, b4⟩ := hok r (List.mem_of_getElem? hr)
  exact ⟨_, r, hv, hr, h1, h2, h3, h4, by omega, by omega, by omega, by omega⟩
theorem SzFacts.cf {R : List RegV} {n : Nat} (h : SzFacts R n) (hok : ∀ r ∈ R, okReg r) : CfFacts R n :=
  ⟨h.tot, h.ge, h.le, h.geo, fun j k v v' h h' hjk => geos_apart hok 32 j k v v' (by omega) h h' hjk⟩
/-- the groups of a disk are what is said of each -/
def AllIs (R : List RegV) (D : List BlkV) (F : Nat → GS) : Prop := ∀ (k : Nat) (v : GeoV), (geosOf 32 R)[k]? = some v → Sto.Is ⟨D, [], 0⟩ (geoN v) (F k)
theorem CfFacts.sep {R : List RegV} {n : Nat} (h : CfFacts R n) {j k : Nat} {v v' : GeoV} (hv : (geosOf 32 R)[j]? = some v) (hv' : (geosOf 32 R)[k]? = some v') (hjk : j ≠ k) :
    (geoN v').data + (geoN v').blocks ≤ (geoN v).base ∨ (geoN v).data + (geoN v).blocks ≤ (geoN v').base := by
  rcases Nat.lt_or_gt_of_ne hjk with h1 | h1
  · exact .inr (h.apart j k v v' hv hv' h1)
  · exact .inl (h.apart k j v' v hv' hv h1)
theorem CfFacts.geo_ok {R : List RegV} {n : Nat} (h : CfFacts R n) {k : Nat} {v : GeoV} (hv : (geosOf 32 R)[k]? = some v) : (geoN v).Ok n := by
  have hk : k < R.length := by have := (List.getElem?_eq_some_iff.1 hv).1; rwa [geosOf_length] at this
  obtain ⟨v', r, hv', _, h1, _⟩ := h.geo k hk
  rw [hv] at hv'
  cases hv'
  exact h1
/-- a transaction in one group is written: the others are what they were -/
theorem AllIs.commit {R : List RegV} {n : Nat} {D : List BlkV} {F : Nat → GS} {s : Sto} {j : Nat} {v : GeoV} {G : GS} {L : List Nat} {l : List Nat} (h : AllIs R D F) (hc : CfFacts R n) (hs : s.Ok) (hv : (geosOf 32 R)[j]? = some v)
    (hst : Sto.Step ⟨D, [], 0⟩ s (geoN v) L) (hi : s.Is (geoN v) G) (hp : l.Perm (s.M.map (·.1))) : AllIs R (commitD s l) (upd F j G) := by
  intro k v' hv'
  have hu := hc.geo_ok hv'
  by_cases hjk : k = j
  · subst hjk
    rw [hv] at hv'
    cases hv'
    rw [upd_same]
    exact hi.commit hu hs hp
  · rw [upd_other _ _ hjk]
    exact ((h k v' hv').far hu hst (hc.sep hv hv' (fun e => hjk e.symm))).commit hu hs hp
theorem Tch.txn {B : Nat} {w0 w w' : World} {i : Ids} (h : Tch B (fun x => x = i.dd ∨ x = i.rr) w0 w) (ht : Tch w.heap.size i.own w w') (h1 : w.heap.size ≤ i.tt) (h2 : w.heap.size ≤ i.mm) (hB : B ≤ w.heap.size) : Tch B (fun x => x = i.dd ∨ x = i.rr) w0 w' :=
  h.trans (ht.mono hB fun k hk hs => by
    rcases hs with e | e | e | e
    · omega
    · omega
    · exact .inl e
    · exact .inr e)

def GeoN.zero : GeoN := ⟨0, 0, 0, 0, 0, 0⟩
theorem zero_geo (w : World) : (zeroValue 169).run Tryz.prog w = .ok (.agg GeoN.zero.cells.toArray) w := by kernel_rfl
/-- the kinds of a group's own nodes -/
def freshK (q : Nat) : UInt8 := if q = 0 then 2 else 1
theorem freshTo_succ : ∀ q, q < 3 → GS.freshTo (q + 1) = (GS.freshTo q).set (q + 1) (freshN (freshK q)) ∧ checkN (freshN (freshK q)) = true
  | 0, _ => ⟨rfl, rfl⟩
  | 1, _ => ⟨rfl, rfl⟩
  | 2, _ => ⟨rfl, rfl⟩
section
variable {B : Nat} {w w' : World} {c : Nat} {R : List RegV} {K : List MarkV} {tb nb lb : Nat} {A1 A2 A3 : Option Addr} {c1 c2 c3 : Nat}
set_option maxRecDepth 100000 in
set_option maxHeartbeats 3200000 in
theorem fresh_all {n : Nat} (hin : ConfIn B w c R K tb nb lb A1 A2 A3 c1 c2 c3) (hF : CfFacts R n) (hR5 : R.length ≤ 5) :
    Calls Tryz.prog 16 #[.pointer (some ⟨c, 0, none⟩)] w fun e w' => ∃ (i : Ids) (D : List BlkV), e = .returned (.tuple #[.pointer (some ⟨i.dd, 0, none⟩), .pointer (some ⟨i.ll, 0, none⟩), .pointer (some ⟨i.tt, 0, none⟩)]) ∧ TxAt w' i ⟨D, [], 0⟩ ∧ D.length = n ∧ AllIs R D (fun _ => GS.fresh) ∧ (∀ k, i.own k → w.heap.size ≤ k) ∧ w.heap.size ≤ i.ll ∧ Below w.heap.size w w' := by
  have hbeg := begun_ok (w := w) hin hF.tot hF.ge hF.le
  have HIN := hide hin
  have HF := hide hF
  clear hin hF
  go_enter Tryz.func16, Tryz.ntmps16
  go_wp2_with fail
  refine hbeg.mono ?_
  rintro e w1 ⟨i, rfl, hx, hown, hll, hb1⟩
  have HIN1 := hide (HIN.out.below hb1)
  have HL1 := hide hx.log
  have HB1 := hide hb1
  have HOWN := hide (And.intro hown hll)
  clear hx hown hll hb1 hbeg
  go_wp2_with fail
  refine (len_ok HIN1.out).mono ?_
  rintro e w_ ⟨rfl, hw_⟩
  have hw_ := hw_.symm
  subst hw_
  go_wp2_with fail
  go_loopg [22] R.length (fun gh x22 wr => ∃ (j : Nat) (Dk : List BlkV), j ≤ R.length ∧ gh = R.length - j ∧ x22 = .int .i64 (j : Int) ∧ Hid (Tch w1.heap.size (fun x => x = i.dd ∨ x = i.rr) w1 wr) ∧ Hid (LogAt wr i.ll i.dd i.rr Dk) ∧ Hid (Dk.length = n ∧ AllIs R Dk (fun k => if k < j then GS.fresh else GS.none)))
  case atStart =>
    exact ⟨0, begD n, Nat.zero_le _, rfl, rfl, hide (Tch.refl _ _ _), HL1, hide ⟨begD_length _, fun k v hv => begun_is (HF.out.geo_ok hv)⟩⟩
  case round =>
    obtain ⟨j, Dk, hj, hgh, rfl, HT, HL, HI⟩ := hrel
    have HGH := hide hgh
    clear hgh
    have HD32 := hide (show 32 ≤ Dk.length from by rw [HI.out.1]; exact HF.out.ge)
    have HBr : Hid (Below w.heap.size w wr) := hide (HB1.out.trans ((HT.out.mono HB1.out.size (S' := fun _ => False) (fun k hk h => by
      rcases h with h | h
      · have := HOWN.out.1 k (.inr (.inr (.inl h))); omega
      · have := HOWN.out.1 k (.inr (.inr (.inr h))); omega)).below fun _ _ h => h))
    rcases Nat.lt_or_ge j R.length with hjl | hjl
    · have hjz : (j : Int) < (R.length : Int) := by omega
      obtain ⟨v, r, hv, hr, hgo, hval, -, -, g4, g512, n4, n128⟩ := HF.out.geo j hjl
      go_wp2_with fail
      refine (begin_ok HL.out HD32.out).mono ?_
      rintro e w7 ⟨tt, mm, rfl, htt, hmm, hx7, hb7⟩
      obtain ⟨ii, hii⟩ : ∃ ii : Ids, Ids.mk tt mm i.ll i.dd i.rr = ii := ⟨_, rfl⟩
      have htt' : tt = ii.tt := by rw [← hii]
      rw [hii] at hx7
      subst htt'
      have hgeo := geo_ok (HIN.out.below (HBr.out.trans (hb7.mono HBr.out.size))) hv
      obtain ⟨u, hu⟩ : ∃ u, geoN v = u := ⟨_, rfl⟩
      have hval2 : (Value.agg #[.int .i64 v.base, .int .i64 v.bitmap, .int .i64 v.table, .int .i64 v.data, .int .i64 v.blocks, .int .i64 v.nodes]) = .agg u.cells.toArray := by rw [← hu]; exact hval.symm
      rw [hval2] at hgeo
      rw [hu] at hgo n4
      have HX7 := hide hx7
      have HB7 := hide hb7
      have HII := hide (And.intro hii (And.intro htt hmm))
      have HGE := hide hgeo
      have HV := hide (And.intro hv hu)
      have HGO := hide (And.intro hgo n4)
      clear hii htt hmm hx7 hb7 hgeo hu hval2 hval hv hr hgo g4 g512 n4 n128
      go_wp2_with fail
      refine HGE.out.mono ?_
      rintro e w8 ⟨rfl, hb8⟩
      have HX8 := hide (HX7.out.below hb8)
      have HB8 := hide (HB7.out.trans (hb8.mono HB7.out.size))
      clear hb8 HX7 HB7 HGE
      go_upto_region 7 with (first | ((with_reducible refine at_alloc 169 ?_); refine wpList_alloc_as rfl 169 rfl _ (zero_geo _) ?_) | ((with_reducible refine at_store 169 (.tmp 10) (.tmp 31) ?_); refine wpList_store_blk rfl 169 (.tmp 10) (.tmp 31) rfl w8.heap.size _ _ _ (by rfl) (by rfl) (Blk.new _ _ _) (size_geo u) rfl (geo_one u) (fun _ => ?_)) | fail)
      refine at_world (fun W => ∃ p, p = w8.heap.size ∧ Below w8.heap.size w8 W ∧ Blk W p 169 u.cells.toArray) ⟨_, rfl, below_setRow ((Below.refl _ _).alloc (Nat.le_refl _) _) (Nat.le_refl _) _, (Blk.new _ _ _).setRow_same _⟩ (fun w9 h9 => ?_)
      obtain ⟨p, hp, hb9, hP⟩ := h9
      rw [← hp]
      have HX9 := hide (HX8.out.below hb9)
      have HB9 := hide (HB8.out.trans (hb9.mono HB8.out.size))
      have HP9 := hide hP
      clear hp hb9 hP HX8 HB8
      go_wp2_with fail
      refine at_world (fun W => ∃ kb, kb = w9.heap.size ∧ kb < W.heap.size ∧ Below w9.heap.size w9 W ∧ ∀ q, q < 3 → W.cell? ⟨kb, q, none⟩ = some (.int .u8 ((freshK q).toNat : Int))) ⟨_, rfl, by simp, (Below.refl _ _).alloc (Nat.le_refl _) _, fun q hq => by
        obtain rfl | rfl | rfl : q = 0 ∨ q = 1 ∨ q = 2 := by omega
        · exact (Blk.new w9 _ _).cell 0
        · exact (Blk.new w9 _ _).cell 1
        · exact (Blk.new w9 _ _).cell 2⟩ (fun w10 h10 => ?_)
      obtain ⟨kb, hkb, kbl, hb10, hK10⟩ := h10
      rw [← hkb]
      have HX10 := hide (HX9.out.below hb10)
      have HB10 := hide (HB9.out.trans (hb10.mono HB9.out.size))
      have HP10 := hide (HP9.out.below hb10 HP9.out.lt)
      have HK10 := hide hK10
      have HKO := hide (show ¬ ii.own kb from fun hk => HX9.out.other_new (Nat.le_of_eq hkb.symm) hk)
      have HPO := hide (show ¬ ii.own p from HX10.out.other HP10.out (by decide) (by decide) (by decide))
      clear hkb hb10 hK10 HX9 HB9 HP9
      go_loopg [35] 3 (fun gh x35 wq => ∃ (q : Nat) (s : Sto) (L : List Nat), q ≤ 3 ∧ gh = 3 - q ∧ x35 = .int .i64 (q : Int) ∧ Hid (TxAt wq ii s) ∧ Hid (Tch w10.heap.size ii.own w10 wq) ∧ Hid (Sto.Step ⟨Dk, [], 0⟩ s u L ∧ s.Is u (GS.freshTo q) ∧ s.M.length ≤ q))
      case atStart =>
        refine ⟨0, _, [], by omega, rfl, rfl, HX10, hide (Tch.refl _ _ _), hide ⟨Sto.Step.refl _ _ _, ?_, Nat.le_refl _⟩⟩
        have := HI.out.2 j v HV.out.1
        rw [HV.out.2] at this
        have e : (if j < j then GS.fresh else GS.none) = GS.freshTo 0 := if_neg (by omega)
        simp only [e] at this
        exact this
      case round =>
        obtain ⟨q, s, L, hq, hgq, rfl, HXq, HTq, HSq⟩ := hrel
        have HGQ := hide hgq
        clear hgq
        have kbl' : kb < _ := Nat.lt_of_lt_of_le kbl HTq.out.size
        rcases Nat.lt_or_ge q 3 with hq3 | hq3
        · have hqz : (q : Int) < 3 := by omega
          have y := (World.cell?_of_block (w := w10) (a := ⟨kb, q, none⟩) (HTq.out.block kb kbl HKO.out)).trans (HK10.out q hq3)
          have HPq := hide (HP10.out.tch HTq.out HP10.out.lt HPO.out)
          have hD : s.D.length = n := by rw [HSq.out.1.D]; exact HI.out.1
          have hug : u.Ok s.D.length := by rw [hD]; exact HGO.out.1
          have hn4 := HGO.out.2
          obtain ⟨hfs, hck⟩ := freshTo_succ q hq3
          have hwr := write_node (num := q + 1) (n := freshN (freshK q)) HXq.out hug (by omega) (by omega) rfl hck (node_can hug (by have := HSq.out.2.2; omega) (by omega) (by omega))
          have hst := is_set (v := freshN (freshK q)) HXq.out.ok hug (by omega) (by omega) rfl HSq.out.2.1 (num := q + 1)
          have hbf := fun W => build_fresh W (freshK q)
          rw [← hfs] at hst
          rw [show ((q + 1 : Nat) : Int) = (q : Int) + 1 from by omega] at hwr
          have hml : (s.setNode u (q + 1) (freshN (freshK q))).M.length ≤ q + 1 := by
            unfold Sto.setNode
            have := Sto.put_len s (u.base + u.bitmap + (q + 1 - 1) / 2) (wrB (s.at_ (u.base + u.bitmap + (q + 1 - 1) / 2)) ((q + 1 - 1) % 2 * 32) (encN (freshN (freshK q))))
            have := HSq.out.2.2
            omega
          have HST := hide (And.intro (HSq.out.1.trans hst.2) (And.intro hst.1 hml))
          have e1 : IntKind.i64.wrap ((q : Int) + 1) = (q : Int) + 1 := IntWalk.i64_in _ (by omega)
          generalize s.setNode u (q + 1) (freshN (freshK q)) = s2 at hwr HST
          generalize freshK q = kk at y hwr hbf
          have HWR := hide hwr
          have HBF := hide hbf
          clear hfs hck hwr hst hbf hml hD hug hn4 HSq
          go_wp2_with (first | ((with_reducible refine at_load 169 (.tmp 10) ?_); refine wpList_load_blk rfl 169 (.tmp 10) rfl p _ _ _ (by rfl) HPq.out Tryz.underlying169 rfl (size_geo u) ?_) | ((with_reducible refine at_build 130 #[(0, .tmp 44), (1, .const (.int .u8 1)), (2, .const (.int .u16 1))] ?_); refine wpList_run rfl _ (exec_build 130 #[(0, .tmp 44), (1, .const (.int .u8 1)), (2, .const (.int .u16 1))] rfl #[(0, .int .u8 (kk.toNat : Int)), (1, .int .u8 1), (2, .int .u16 1)] (by simp only [List.map_toArray, List.map_cons, List.map_nil]; rfl) _ (HBF.out _)) ?_) | fail)
          refine HWR.out.mono ?_
          rintro e w11 ⟨rfl, hx11, ht11⟩
          have HX11 := hide hx11
          have HT11 := hide (HTq.out.trans (ht11.mono HTq.out.size fun _ _ h => h))
          clear hx11 ht11 HWR y kbl' HPq
          go_wp2
          go_roundg (3 - (q + 1))
          case rel => exact ⟨q + 1, s2, _, by omega, rfl, by first | rfl | go_num, HX11, HT11, HST⟩
          case measure => have := HGQ.out; omega
        · have hqe : q = 3 := by omega
          subst hqe
          clear kbl'
          have hcom := commit_ok HXq.out HSq.out.1.bad
          have HCOM := hide hcom
          clear hcom
          go_wp2_with fail
          refine HCOM.out.mono ?_
          rintro e w12 ⟨l, rfl, hp, hx12, ht12⟩
          have hDl : (commitD s l).length = n := by rw [commit_len, HSq.out.1.D]; exact HI.out.1
          have hall := AllIs.commit HI.out.2 HF.out HXq.out.ok HV.out.1 (by rw [HV.out.2]; exact HSq.out.1) (by rw [HV.out.2]; exact HSq.out.2.1) hp
          have hall2 : AllIs R (commitD s l) (fun k => if k < j + 1 then GS.fresh else GS.none) := fun k v hv => by
            have := hall k v hv
            have e : upd (fun k => if k < j then GS.fresh else GS.none) j (GS.freshTo 3) k = if k < j + 1 then GS.fresh else GS.none := by
              unfold upd
              by_cases h1 : k = j
              · rw [if_pos h1, if_pos (by omega)]; rfl
              · rw [if_neg h1]
                by_cases h2 : k < j
                · simp only [if_pos h2, if_pos (show k < j + 1 by omega)]
                · simp only [if_neg h2, if_neg (show ¬ k < j + 1 by omega)]
            rwa [e] at this
          have e := HII.out.1
          have HL12 : Hid (LogAt w12 i.ll i.dd i.rr (commitD s l)) := hide (by
            have h := hx12.log
            rw [← congrArg Ids.ll e, ← congrArg Ids.dd e, ← congrArg Ids.rr e] at h
            exact h)
          have hT := (Tch.of_below (S := ii.own) HB10.out).trans ((HTq.out.trans (ht12.mono HTq.out.size fun _ _ h => h)).mono HB10.out.size fun _ _ h => h)
          have HT12 : Hid (Tch w1.heap.size (fun x => x = i.dd ∨ x = i.rr) w1 w12) := hide (HT.out.trans (hT.mono HT.out.size (fun k hk h => by
            have h1 := HII.out.2.1
            have h2 := HII.out.2.2
            have h3 := HT.out.size
            rcases h with h | h | h | h
            · omega
            · rw [← e] at h; simp only at h; omega
            · rw [← e] at h; exact .inl h
            · rw [← e] at h; exact .inr h)))
          have HI12 := hide (And.intro hDl hall2)
          clear hp hx12 ht12 hDl hall hall2 e hT HCOM HSq
          go_wp2
          go_roundg (R.length - (j + 1))
          case rel => exact ⟨j + 1, _, by omega, rfl, by first | rfl | go_num, HT12, HL12, HI12⟩
          case measure => have := HGH.out; omega
    · have hje : decide ((j : Int) < R.length) = false := by simp; omega
      have hjR : R.length = j := by omega
      go_wp2_with fail
      refine (begin_ok HL.out HD32.out).mono ?_
      rintro e w7 ⟨tt, mm, rfl, htt, hmm, hx7, hb7⟩
      have HF7 := hide (And.intro hx7 (And.intro (HBr.out.trans (hb7.mono HBr.out.size)) (show (∀ k, Ids.own ⟨tt, mm, i.ll, i.dd, i.rr⟩ k → w.heap.size ≤ k) from by
        have := HBr.out.size
        have h1 := HOWN.out.1 i.dd (.inr (.inr (.inl rfl)))
        have h2 := HOWN.out.1 i.rr (.inr (.inr (.inr rfl)))
        rintro k (e | e | e | e) <;> simp only at e <;> omega)))
      have HJ := hide hjR
      clear htt hmm hx7 hb7 hjR
      go_wp2
      go_returns
      refine ⟨⟨tt, mm, i.ll, i.dd, i.rr⟩, Dk, rfl, HF7.out.1, HI.out.1, fun k v hv => ?_, HF7.out.2.2, HOWN.out.2, HF7.out.2.1⟩
      have hk : k < R.length := by have := (List.getElem?_eq_some_iff.1 hv).1; rwa [geosOf_length] at this
      have := HI.out.2 k v hv
      have e : (if k < j then GS.fresh else GS.none) = GS.fresh := if_pos (by have := HJ.out; omega)
      simp only [e] at this
      exact this
end
end Go.Proofs.YthmkgohfeahdhaaGreat
namespace Go.Proofs.YthmkgohfeahdhaaGreat
open Go.RowKit
set_option linter.unusedSimpArgs false
set_option linter.unusedVariables false

/-- an empty file -/
theorem file_empty {G : GS} {m : Nat} {n : NodeV} (κ : Nat → Nat) (f : Nat → UInt8) (hd : n.dir.length = 6) (h0 : ∀ c, n.slot c = 0) : FileAt G m n 0 κ 0 f := by
  have hp : ∀ c, prOf 0 c = false := fun c => by unfold prOf; rw [decide_eq_false_iff_not]; omega
  refine ⟨⟨hd, fun c h => ?_, fun c p j h _ => ?_, fun c _ _ => ?_, fun c p j _ _ h => ?_, fun c h => ?_, fun c c' h _ _ => ?_⟩, by omega, by omega, fun j hj => by omega⟩
  · rw [hp] at h; cases h
  · rw [hp] at h; cases h
  · rw [hp, h0]; rfl
  · rw [hp] at h; cases h
  · rw [hp] at h; cases h
  · rw [hp] at h; cases h
theorem fresh_slot (k : UInt8) (c : Nat) : (freshN k).slot c = 0 := by
  unfold NodeV.slot freshN NodeV.zero
  split
  · rename_i h
    obtain rfl | rfl | rfl | rfl | rfl | rfl : c = 0 ∨ c = 1 ∨ c = 2 ∨ c = 3 ∨ c = 4 ∨ c = 5 := by omega
    all_goals rfl
  · split <;> rfl
theorem fresh_cnt (m : Nat) : GS.fresh.cnt m = 0 := by
  unfold GS.cnt
  have : (List.range m).filter GS.fresh.tk = [] := by
    rw [List.filter_eq_nil_iff]
    intro x _
    simp [GS.fresh, GS.freshTo, GS.set, GS.none]
  rw [this]
  rfl
theorem Rd.of_bytes {w : World} {p n : Nat} {t : TypeId} {l : List UInt8} (h : Blk w p t (bvs l).toArray) (hn : l.length = n) : Rd w w.heap.size 1 (some ⟨p, 0, none⟩) n (bvs l) :=
  ⟨by rw [bvs_length, hn, Nat.mul_one], fun _ => ⟨p, 0, rfl, h.lt, fun j u hu => by
    have := h.cell j
    rw [List.getElem?_toArray, hu] at this
    rw [Nat.zero_add]; exact this⟩⟩
theorem check_grow {n n' : NodeV} {x : Nat} (h : n.same n') (hk : n.kind = 1) (hl : n.links ≠ 0) (hs : max n.size.toNat x ≤ 16384) : checkN (n'.grow x) = true := by
  have h1 : (n'.grow x).kind = 1 := h.1.trans hk
  have h2 : (n'.grow x).links = n.links := h.2.1
  have h3 : (n'.grow x).size.toNat = max n.size.toNat x := by rw [grow_size (by rw [h.2.2.2]; omega), h.2.2.2]
  unfold checkN
  rw [h1, h2, h3]
  simp [hl]
  omega
end Go.Proofs.YthmkgohfeahdhaaGreat
namespace Go.Proofs.YthmkgohfeahdhaaGreat
open Go.RowKit
set_option linter.unusedSimpArgs false
set_option linter.unusedVariables false

/-- a record, as it lies -/
structure RecV where
  s : Nat
  f : Nat
  t : Nat
  A : Option Addr
  l : List UInt8
  c : Nat
structure RecV.Ok (r : RecV) : Prop where
  s : r.s < 4294967296
  f : r.f < 256
  t : r.t < 256
def RecV.cells (r : RecV) : List Value := [.int .u32 (r.s : Int), .int .u8 (r.f : Int), .int .u8 (r.t : Int), .slice r.A r.l.length r.c]
def RecV.enc (r : RecV) : List UInt8 := encB r.s r.f r.t r.l
theorem FileAt.congr {G : GS} {m c len : Nat} {n : NodeV} {κ : Nat → Nat} {f f' : Nat → UInt8} (h : FileAt G m n c κ len f) (hf : ∀ j, j < len → f j = f' j) : FileAt G m n c κ len f' :=
  ⟨h.tree, h.cle, h.fit, fun j hj => (h.byte j hj).trans (hf j hj)⟩
section
variable {w w' : World} {i : Ids} {s : Sto} {gg : Nat} {g : GeoN} {lab : Int} {G : GS}
end
end Go.Proofs.YthmkgohfeahdhaaGreat
namespace Go.Proofs.YthmkgohfeahdhaaGreat
open Go.RowKit
set_option linter.unusedSimpArgs false
set_option linter.unusedVariables false

/-- an address lies in a row of bytes -/
def BT (w : World) (A : Option Addr) : Prop := ∀ b, A = some b → ∃ cur, Blk w b.block 5 cur
theorem BT.of_own {w : World} {B n c sz : Nat} {A : Option Addr} {xs : List Value} (h : w.ownsRow B 5 sz (.slice A n c) n xs) : BT w A := fun b hb => by
  subst hb
  rcases h.2 with ⟨h0, _⟩ | ⟨g, cap, cur, hv, _, hh, _⟩
  · cases h0
  · simp only [Value.slice.injEq, Option.some.injEq] at hv
    obtain ⟨rfl, _⟩ := hv
    exact ⟨cur, hh⟩
theorem BT.tch {w w' : World} {A : Option Addr} {S : Nat → Prop} (h : BT w A) (ht : Tch w.heap.size S w w') (hS : ∀ g cur, Blk w g 5 cur → ¬ S g) : BT w' A := fun b hb => by
  obtain ⟨cur, hB⟩ := h b hb
  exact ⟨cur, hB.tch ht hB.lt (hS _ _ hB)⟩
theorem BT.below {w w' : World} {A : Option Addr} (h : BT w A) (hb : Below w.heap.size w w') : BT w' A := h.tch (Tch.of_below (S := fun _ => False) hb) (fun _ _ _ h => h)
theorem BT.slA {w : World} {A : Option Addr} {c l : Nat} (h : BT w A) : BT w (slA A c l) := fun b hb => by
  unfold Go.Proofs.YthmkgohfeahdhaaGreat.slA at hb
  split at hb
  · exact h b hb
  · cases A with
    | none => cases hb
    | some a =>
      simp only [Option.map_some, Option.some.injEq] at hb
      obtain ⟨cur, hB⟩ := h a rfl
      have : b.block = a.block := by rw [← hb]; unfold Addr.add; split <;> rfl
      rw [this]
      exact ⟨cur, hB⟩
theorem Rd.keepT {w w' : World} {B n : Nat} {A : Option Addr} {xs : List Value} {S : Nat → Prop} (h : Rd w B 1 A n xs) (hA : BT w A) (ht : Tch w.heap.size S w w') (hS : ∀ g cur, Blk w g 5 cur → ¬ S g) : Rd w' w'.heap.size 1 A n xs :=
  ⟨h.1, fun hn => by
    obtain ⟨b, o, e, hb, hc⟩ := h.2 hn
    obtain ⟨cur, hB⟩ := hA _ e
    refine ⟨b, o, e, Nat.lt_of_lt_of_le hB.lt ht.size, fun j u hu => ?_⟩
    exact (World.cell?_of_block (w := w) (a := ⟨b, o + j, none⟩) (ht.block b hB.lt (hS _ _ hB))).trans (hc j u hu)⟩
section
variable {w w' : World} {i : Ids} {s : Sto} {gg : Nat} {g : GeoN} {lab : Int} {G : GS}
end
end Go.Proofs.YthmkgohfeahdhaaGreat
namespace Go.Proofs.YthmkgohfeahdhaaGreat
open Go.RowKit Go.ChangeShapes Go.WideShapes Go.ChangeAt Go.Joins Go.Deep
set_option linter.unusedSimpArgs false
set_option linter.unusedVariables false

section
variable {H : Type} {enc : TypeId × Value → H} {P : Program} {w : World} {base : Nat} {held : Bool} {fuel : Nat} {t e : TypeId} {v : Value} {y : DataW H × List MemPlace}

theorem awf_u8 {n : Int} (h : (Lit.int .u8 n).wf = true) : ∃ k : Nat, n = k ∧ k < 256 := by
  have h : IntKind.u8.min ≤ n ∧ n ≤ IntKind.u8.max := by simpa [Lit.wf] using h
  have h1 : IntKind.u8.min = 0 := by decide
  have h2 : IntKind.u8.max = 255 := by decide
  exact ⟨n.toNat, by omega, by omega⟩
theorem awf_u16 {n : Int} (h : (Lit.int .u16 n).wf = true) : ∃ k : Nat, n = k ∧ k < 65536 := by
  have h : IntKind.u16.min ≤ n ∧ n ≤ IntKind.u16.max := by simpa [Lit.wf] using h
  have h1 : IntKind.u16.min = 0 := by decide
  have h2 : IntKind.u16.max = 65535 := by decide
  exact ⟨n.toNat, by omega, by omega⟩

theorem open_u8_cell (ht : P.underlying t = some (.int .u8)) (h : DataW.trod enc P w base (fun _ => true) held fuel t [v] = some y) : ∃ k : Nat, v = .int .u8 k ∧ k < 256 := by
  obtain ⟨n, h1, _, hw⟩ := DataW.trod_int ht h
  obtain ⟨k, rfl, hk⟩ := awf_u8 hw
  exact ⟨k, by simpa using h1, hk⟩
theorem open_u16_cell (ht : P.underlying t = some (.int .u16)) (h : DataW.trod enc P w base (fun _ => true) held fuel t [v] = some y) : ∃ k : Nat, v = .int .u16 k ∧ k < 65536 := by
  obtain ⟨n, h1, _, hw⟩ := DataW.trod_int ht h
  obtain ⟨k, rfl, hk⟩ := awf_u16 hw
  exact ⟨k, by simpa using h1, hk⟩

theorem open_bytes_cell (ht : P.underlying t = some (.slice e)) (he : P.underlying e = some (.int .u8)) (hc : P.cellsOf e = 1) (h : DataW.trod enc P w base (fun _ => true) held fuel t [v] = some y) :
    ∃ (A : Option Addr) (n c : Nat) (l : List UInt8), v = .slice A n c ∧ Rd w w.heap.size 1 A n (bvs l) ∧ n ≤ c := by
  rcases open_ints ht he hc h with ⟨hcs, _⟩ | ⟨x, n, c, zs, hcs, _, hl, _, hz, _, hcell, hwz⟩
  · exact ⟨none, 0, 0, [], by simpa using hcs, Rd.nil _ _ _ _, Nat.le_refl _⟩
  · simp only [if_true] at hz
    refine ⟨some x, n, c, (zs.take n).map fun z => UInt8.ofNat z.toNat, by simpa using hcs, ⟨by simp [bvs]; omega, fun hn => ?_⟩, hl⟩
    have h0 := hcell 0 (by omega)
    have hspot : x.spot = none := by simpa [Addr.add] using World.cell?_spot h0
    obtain ⟨b, o, spot⟩ := x
    simp only at hspot
    subst hspot
    have hb : b < w.heap.size := by
      have := World.block_lt_of_cell? w _ h0
      simpa [Addr.add] using this
    refine ⟨b, o, rfl, hb, fun j u hu => ?_⟩
    have hj : j < n := by
      rcases Nat.lt_or_ge j n with h | h
      · exact h
      · rw [List.getElem?_eq_none (by simp [bvs]; omega)] at hu; cases hu
    have hc := hcell j (by omega)
    have hadd : (⟨b, o, none⟩ : Addr).add j = ⟨b, o + j, none⟩ := by unfold Addr.add; split <;> simp_all
    rw [hadd] at hc
    rw [hc, ← hu]
    have hjz : j < zs.length := by omega
    have hw := hwz (zs[j]) (List.getElem_mem hjz)
    obtain ⟨k, hk, hk2⟩ := awf_u8 hw
    have e1 : zs.getD j 0 = (k : Int) := by simp [List.getD_eq_getElem?_getD, List.getElem?_eq_getElem hjz, hk]
    rw [e1]
    rw [bvs_get, List.getElem?_map, List.getElem?_take, if_pos hj, List.getElem?_eq_getElem hjz, hk]
    simp only [Option.map_some, Int.toNat_natCast]
    rw [bv_ofNat hk2]

variable {r : Reach} {b0 : Nat} {d : DataW H} {ps : List MemPlace}
end

end Go.Proofs.YthmkgohfeahdhaaGreat
namespace Go.Proofs.YthmkgohfeahdhaaGreat
open Go.RowKit Go.ChangeShapes Go.WideShapes Go.ChangeAt Go.Joins Go.Deep
set_option linter.unusedSimpArgs false
set_option linter.unusedVariables false

section
variable {H : Type} {enc : TypeId × Value → H} {P : Program} {w : World} {base : Nat} {held : Bool} {t e : TypeId} {v : Value} {r : Reach} {b0 : Nat} {d : DataW H} {ps : List MemPlace}
theorem slice_max {A : Option Addr} {n c fuel : Nat} {y : DataW H × List MemPlace} (ht : P.underlying t = some (.slice e)) (hf : DataW.trod enc P w base (fun _ => true) held fuel t [.slice A n c] = some y) : n ≤ 9223372036854775807 := by
  rcases open_slice ht hf with ⟨hcs, _⟩ | ⟨a, len, cap, m, n', D, Pl, hcs, _, hl, hm, _⟩
  · obtain ⟨_, rfl, _⟩ : A = none ∧ n = 0 ∧ c = 0 := by simpa using hcs
    exact Nat.zero_le _
  · obtain ⟨_, rfl, _⟩ : A = some a ∧ n = len ∧ c = cap := by simpa using hcs
    unfold maxLen at hm
    omega
theorem open_yes (ht : P.underlying t = some .bool) (hval : Value.okWide P w r b0 t v) (h : DataW.Trod enc P w base (fun _ => true) held t v d ps) : ∃ b : Bool, v = .bool b := by
  obtain ⟨b, hb, _⟩ := Go.RowKit.open_bool ht hval h
  exact ⟨b, hb⟩
theorem bvs_of {M : List Value} (h : ∀ x ∈ M, ∃ b : UInt8, x = bv b) : ∃ H, M = bvs H := by
  induction M with
  | nil => exact ⟨[], rfl⟩
  | cons x rest ih =>
    obtain ⟨b, hb⟩ := h x (by simp)
    obtain ⟨H, hH⟩ := ih fun y hy => h y (by simp [hy])
    exact ⟨b :: H, by rw [hb, hH]; rfl⟩
theorem drop_take_one {M : List Value} {i : Nat} {x : Value} (h : (M.drop i).take 1 = [x]) : M[i]? = some x := by
  have := congrArg (·[0]?) h
  simpa [List.getElem?_take, List.getElem?_drop] using this
/-- five times five bytes -/
theorem open_five {fuel : Nat} {M : List Value} {y : DataW H × List MemPlace} {b : TypeId} (ht : P.underlying t = some (.array 5 e)) (he : P.underlying e = some (.array 5 b)) (hb : P.underlying b = some (.int .u8)) (hce : P.cellsOf e = 5) (hcb : P.cellsOf b = 1) (hct : P.cellsOf t = 25)
    (h : DataW.trod enc P w base (fun _ => true) held fuel t M = some y) : ∃ H, M = bvs H ∧ H.length = 25 := by
  obtain ⟨xs, m, _, _, hl, hxs, hx⟩ := DataW.trod_array ht h
  rw [hct] at hl
  have hall : ∀ x ∈ M, ∃ b : UInt8, x = bv b := by
    intro x hm
    obtain ⟨p, hp, rfl⟩ := List.mem_iff_getElem.1 hm
    have hi : p / 5 < 5 := by omega
    have h1 := hx (p / 5) hi
    rw [hce, List.getElem?_eq_getElem (by omega)] at h1
    obtain ⟨ys, m2, _, _, hl2, hys, hy⟩ := DataW.trod_array he h1
    have h2 := hy (p % 5) (Nat.mod_lt _ (by omega))
    rw [hcb, List.getElem?_eq_getElem (by have := Nat.mod_lt p (show 0 < 5 by omega); omega)] at h2
    obtain ⟨n, hn, _, hw⟩ := DataW.trod_int hb h2
    obtain ⟨k, rfl, hk⟩ := awf_u8 hw
    have h3 := drop_take_one hn
    rw [Nat.mul_one, List.getElem?_take, if_pos (Nat.mod_lt _ (by omega)), List.getElem?_drop] at h3
    have e5 : p / 5 * 5 + p % 5 = p := by omega
    rw [e5, List.getElem?_eq_getElem hp] at h3
    injection h3 with h3
    exact ⟨UInt8.ofNat k, by rw [h3, bv_ofNat hk]⟩
  obtain ⟨H, rfl⟩ := bvs_of hall
  exact ⟨H, rfl, by rw [bvs_length] at hl; exact hl⟩

/-- a size -/
theorem open_size {f0 f1 f2 : Field} {a5 b b2 : TypeId} (hs : P.underlying t = some (.struct #[f0, f1, f2])) (ho0 : f0.offset = 0) (ho1 : f1.offset = 1) (ho2 : f2.offset = 26) (hc0 : P.cellsOf f0.type = 1) (hc1 : P.cellsOf f1.type = 25) (hc2 : P.cellsOf f2.type = 1) (hC : P.cellsOf t = 27)
    (t0 : P.underlying f0.type = some (.int .u8)) (t1 : P.underlying f1.type = some (.array 5 a5)) (t1a : P.underlying a5 = some (.array 5 b)) (t1b : P.underlying b = some (.int .u8)) (hca : P.cellsOf a5 = 5) (hcb : P.cellsOf b = 1)
    (t2 : P.underlying f2.type = some (.slice b2)) (t2b : P.underlying b2 = some (.int .u8)) (hcb2 : P.cellsOf b2 = 1)
    (hval : Value.okWide P w r b0 t v) (h : DataW.Trod enc P w base (fun _ => true) held t v d ps) :
    ∃ (m : UInt8) (H : List UInt8) (A : Option Addr) (n c : Nat) (T : List UInt8), v = .agg (szCells m H A n c) ∧ H.length = 25 ∧ Rd w w.heap.size 1 A n (bvs T) ∧ n ≤ 9223372036854775807 := by
  obtain ⟨cs, rfl, hsz⟩ := okWide_struct hs hval
  obtain ⟨fuel, hf⟩ := h
  obtain ⟨y0, y1, y2, k, _, hl, h0, h1, h2⟩ := trod_struct3 hs hf
  obtain ⟨l⟩ := cs
  simp only [Value.cells] at hl h0 h1 h2
  rw [hC] at hl
  rw [ho0, hc0] at h0
  rw [ho1, hc1] at h1
  rw [ho2, hc2] at h2
  obtain ⟨n0, e0, _, hw0⟩ := DataW.trod_int t0 h0
  obtain ⟨k0, rfl, hk0⟩ := awf_u8 hw0
  obtain ⟨H, e1, hH⟩ := open_five t1 t1a t1b hca hcb hc1 h1
  obtain ⟨z, hz⟩ : ∃ z, (l.drop 26).take 1 = [z] := by
    have hl2 : l.length = 27 := by simpa using hl
    exact ⟨l[26], by rw [List.drop_eq_getElem_cons (by omega)]; rfl⟩
  have h2' : DataW.trod enc P w base (fun _ => true) held k f2.type [z] = some y2 := by
    have : (List.take 1 (List.drop 26 l)) = [z] := hz
    simpa [this] using h2
  obtain ⟨A, n, c, T, rfl, hr, hnc⟩ := open_bytes_cell t2 t2b hcb2 h2'
  refine ⟨UInt8.ofNat k0, H, A, n, c, T, ?_, hH, hr, slice_max t2 h2'⟩
  congr 1
  unfold szCells
  have hl2 : l.length = 27 := by simpa using hl
  have e0' : l.take 1 = [.int .u8 (k0 : Int)] := by simpa using e0
  have e1' : (l.drop 1).take 25 = bvs H := by simpa using e1
  have e3 : l = l.take 1 ++ ((l.drop 1).take 25 ++ (l.drop 26).take 1) := by
    have a1 : l = l.take 1 ++ l.drop 1 := (List.take_append_drop 1 l).symm
    have a2 : l.drop 1 = (l.drop 1).take 25 ++ (l.drop 1).drop 25 := (List.take_append_drop 25 _).symm
    have a3 : (l.drop 1).drop 25 = (l.drop 26).take 1 := by rw [List.drop_drop, List.take_of_length_le (by simp; omega)]
    rw [← a3, ← a2, ← a1]
  rw [e3, e0', e1', hz]
  have hb := bv_ofNat hk0
  simp only [bv] at hb
  rw [hb]
  rfl
theorem open_u16 (ht : P.underlying t = some (.int .u16)) (hval : Value.okWide P w r b0 t v) (h : DataW.Trod enc P w base (fun _ => true) held t v d ps) : ∃ k : Nat, v = .int .u16 (k : Int) ∧ k < 65536 := by
  obtain ⟨n, rfl, _, _, hw⟩ := open_int ht hval h
  obtain ⟨k, rfl, hk⟩ := awf_u16 hw
  exact ⟨k, rfl, hk⟩
theorem open_u64 (ht : P.underlying t = some (.int .u64)) (hval : Value.okWide P w r b0 t v) (h : DataW.Trod enc P w base (fun _ => true) held t v d ps) : ∃ k : Nat, v = .int .u64 (k : Int) ∧ k < 18446744073709551616 := by
  obtain ⟨n, rfl, _, _, hw⟩ := open_int ht hval h
  have hb : 0 ≤ n ∧ n ≤ 18446744073709551615 := by
    simp [Lit.wf, IntKind.min, IntKind.max, IntKind.signed, IntKind.bits] at hw
    omega
  obtain ⟨k, rfl⟩ := Int.eq_ofNat_of_zero_le hb.1
  exact ⟨k, rfl, by omega⟩
end
end Go.Proofs.YthmkgohfeahdhaaGreat
namespace Go.Proofs.YthmkgohfeahdhaaGreat
open Go.RowKit Go.ChangeShapes Go.WideShapes Go.ChangeAt Go.Joins Go.Deep
set_option linter.unusedSimpArgs false
set_option linter.unusedVariables false

/-- an act on a directory -/
structure DAct where
  kind : Nat
  name : Nat
  num : Nat
  text : ByteArray
  raw : Bool
structure DAct.Ok (a : DAct) : Prop where
  k : a.kind < 256
  n : a.name < 256
  m : a.num < 65536
def DAct.cells (a : DAct) : List Value := [.int .u8 (a.kind : Int), .int .u8 (a.name : Int), .int .u16 (a.num : Int), .string a.text, .bool a.raw]
section
variable {H : Type} {enc : TypeId × Value → H} {P : Program} {w : World} {base : Nat} {held : Bool} {fuel : Nat} {t e eb : TypeId} {v : Value} {r : Reach} {b0 : Nat} {d : DataW H} {ps : List MemPlace}
abbrev DActIn := {a : DAct // a.Ok}
instance : Inhabited DActIn := ⟨⟨⟨0, 0, 0, ⟨#[]⟩, false⟩, ⟨by decide, by decide, by decide⟩⟩⟩
end
end Go.Proofs.YthmkgohfeahdhaaGreat
namespace Go.Proofs.YthmkgohfeahdhaaGreat

abbrev BL := List UInt8

/-- a byte of a name -/
def nc (c : UInt8) : Bool := decide (33 ≤ c.toNat) && decide (c.toNat ≤ 126) && !(c.toNat == 47) && !(c.toNat == 64)
/-- a name's error -/
def nameErr (l : BL) : Int := if l = [] ∨ l = [46] ∨ l = [46, 46] then 7 else if 14 < l.length then 8 else if l.all nc then 0 else 7


/-- a text cut at each slash, behind what is read already -/
def pieces : BL → BL → List BL
  | acc, [] => [acc]
  | acc, c :: r => if c = 47 then acc :: pieces [] r else pieces (acc ++ [c]) r





end Go.Proofs.YthmkgohfeahdhaaGreat
namespace Go.Proofs.YthmkgohfeahdhaaGreat
open Go.RowKit

theorem dn_sz (s : ByteArray) : s.size = s.data.toList.length := by cases s; rfl



end Go.Proofs.YthmkgohfeahdhaaGreat
namespace Go.Proofs.YthmkgohfeahdhaaGreat
open Go.RowKit
set_option linter.unusedSimpArgs false
set_option linter.unusedVariables false

/-- an entry's bytes -/
def packB (e : EntV) : List UInt8 := UInt8.ofNat e.num.toNat :: UInt8.ofNat (e.num.toNat / 256) :: (e.name.data.toList ++ List.replicate 14 0).take 14
end Go.Proofs.YthmkgohfeahdhaaGreat
namespace Go.Proofs.YthmkgohfeahdhaaGreat
open Go.RowKit
set_option linter.unusedSimpArgs false
set_option linter.unusedVariables false

/-- an entry that may stand in a directory's place -/
def EntV.Good (e : EntV) : Prop := (e.num = 0 ∧ e.name.data.toList = []) ∨ (e.num ≠ 0 ∧ nameErr e.name.data.toList = 0)
theorem nameErr_zero {l : List UInt8} (h : nameErr l = 0) : l ≠ [] ∧ l.length ≤ 14 ∧ ∀ c ∈ l, c ≠ 0 := by
  unfold nameErr at h
  split at h
  · cases h
  · rename_i h0
    split at h
    · cases h
    · split at h
      · rename_i h2
        refine ⟨fun e => h0 (.inl e), by omega, fun c hc e => ?_⟩
        rw [List.all_eq_true] at h2
        have := h2 c hc
        subst e
        revert this
        decide
      · cases h
theorem EntV.Good.name {e : EntV} (h : e.Good) : e.name.size ≤ 14 ∧ ∀ c ∈ e.name.data.toList, c ≠ 0 := by
  rw [dn_sz]
  rcases h with ⟨_, h⟩ | ⟨_, h⟩
  · rw [h]; simp
  · exact (nameErr_zero h).2
section
variable {w : World}
end
end Go.Proofs.YthmkgohfeahdhaaGreat
namespace Go.Proofs.YthmkgohfeahdhaaGreat
open Go.RowKit
set_option linter.unusedSimpArgs false
set_option linter.unusedVariables false

/-- a directory's bytes -/
def pks (l : List EntV) : List UInt8 := l.flatMap packB
section
variable {w w' : World} {i : Ids} {s : Sto} {gg : Nat} {g : GeoN} {lab : Int} {G : GS}
end
end Go.Proofs.YthmkgohfeahdhaaGreat
namespace Go.Proofs.YthmkgohfeahdhaaGreat
open Go.RowKit
set_option linter.unusedSimpArgs false
set_option linter.unusedVariables false

def EntV.zero : EntV := ⟨⟨#[]⟩, 0⟩
/-- a directory lies in a group: its places, where its blocks are -/
structure DirN (G : GS) (g : GeoN) (num : Nat) (l : List EntV) (κ : Nat → Nat) : Prop where
  kind : (G.nd num).kind = 2
  links : (G.nd num).links ≠ 0
  size : (G.nd num).size.toNat = 16 * l.length
  file : FileAt G g.blocks (G.nd num) (blks (16 * l.length)) κ (16 * l.length) (fun j => (pks l).getD j 0)
  len : l.length ≤ 1024
  good : ∀ e ∈ l, e.Good
theorem Tree.other {G G' : GS} {m : Nat} {n : NodeV} {pr : Nat → Bool} {κ : Nat → Nat} (h : Tree G m n pr κ) (hb : ∀ c, pr c = true → G'.by_ (κ c) = G.by_ (κ c)) (ht : ∀ c, pr c = true → G'.tk (κ c) = true) : Tree G' m n pr κ :=
  ⟨h.dir, h.rng, h.cls, h.top, fun c p j h1 h2 h3 => by rw [hb p h3]; exact h.sub c p j h1 h2 h3, fun c hc => ⟨(h.own c hc).1, ht c hc⟩, h.inj⟩
theorem FileAt.other {G G' : GS} {m c len : Nat} {n : NodeV} {κ : Nat → Nat} {f : Nat → UInt8} (h : FileAt G m n c κ len f) (hb : ∀ k, prOf c k = true → G'.by_ (κ k) = G.by_ (κ k)) (ht : ∀ k, prOf c k = true → G'.tk (κ k) = true) : FileAt G' m n c κ len f :=
  ⟨h.tree.other hb ht, h.cle, h.fit, fun j hj => by rw [hb _ (prOf_true.2 (by have := h.fit; omega))]; exact h.byte j hj⟩
/-- no block is in both -/
def Apart (p : Nat → Bool) (κ : Nat → Nat) (p' : Nat → Bool) (κ' : Nat → Nat) : Prop := ∀ c c', p c = true → p' c' = true → κ c ≠ κ' c'
theorem FileAt.left {G G' : GS} {m c len num : Nat} {n : NodeV} {κ κ1 κ2 : Nat → Nat} {p1 p2 : Nat → Bool} {f : Nat → UInt8} (h : FileAt G m n c κ len f) (hl : Left G G' num p1 p2 κ1 κ2) (ha : Apart p1 κ1 (prOf c) κ) : FileAt G' m n c κ len f :=
  h.other (fun k hk => hl.by_ _ (h.tree.own k hk).2 fun c' hc' => ha c' k hc' hk) (fun k hk => hl.tk _ (h.tree.own k hk).2)
theorem Apart.left {G G' : GS} {m num : Nat} {n : NodeV} {κ κ1 κ2 : Nat → Nat} {p p1 p2 : Nat → Bool} (ht : Tree G m n p κ) (hl : Left G G' num p1 p2 κ1 κ2) (ha : Apart p1 κ1 p κ) : Apart p2 κ2 p κ := fun c c' h1 h2 => by
  cases hc : p1 c with
  | true => rw [(hl.old c hc).1]; exact ha c c' hc h2
  | false =>
    intro he
    have := hl.fresh c h1 hc
    rw [he, (ht.own c' h2).2] at this
    cases this
theorem DirN.left {G G' : GS} {g : GeoN} {num num' : Nat} {l : List EntV} {κ κ1 κ2 : Nat → Nat} {p1 p2 : Nat → Bool} (h : DirN G g num l κ) (hl : Left G G' num' p1 p2 κ1 κ2) (hn : num ≠ num') (ha : Apart p1 κ1 (prOf (blks (16 * l.length))) κ) : DirN G' g num l κ := by
  have e := hl.nd num hn
  exact ⟨by rw [e]; exact h.kind, by rw [e]; exact h.links, by rw [e]; exact h.size, by rw [e]; exact h.file.left hl ha, h.len, h.good⟩

/-! ### places -/
end Go.Proofs.YthmkgohfeahdhaaGreat
namespace Go.Proofs.YthmkgohfeahdhaaGreat
open Go.RowKit
set_option linter.unusedSimpArgs false
set_option linter.unusedVariables false

section
variable {P : Program} {w : World}
theorem run_slice_all (t e : TypeId) (g n : Nat) (hu : P.underlying t = some (.array n e)) (hs : (P.info? e).map (·.size) = some 1) (hn : 0 < n) :
    (Instr.sliceAt t (.pointer (some ⟨g, 0, none⟩)) none none none).run P w = .ok (.slice (some ⟨g, 0, none⟩) n n) w := by
  cases hq : P.info? e with
  | none => simp [hq] at hs
  | some i =>
    have hi : i.size = 1 := by simpa [hq] using hs
    have h2 : ¬ n = 0 := by omega
    simp [Instr.sliceAt, Instr.sureAddr, run_underlying hu, Instr.sliceBounds, sizeOf, typeInfo, hq, hi, Addr.add_mid, h2, Result.andThen]
end
section
variable {w w' : World} {i : Ids} {s : Sto} {gg : Nat} {g : GeoN} {lab : Int} {G : GS}
end
end Go.Proofs.YthmkgohfeahdhaaGreat
namespace Go.Proofs.YthmkgohfeahdhaaGreat
open Go.RowKit
set_option linter.unusedSimpArgs false
set_option linter.unusedVariables false

/-- what a call on one node leaves of a group's other nodes -/
structure Mov (G G' : GS) (num : Nat) (p : Nat → Bool) (κ : Nat → Nat) (p' : Nat → Bool) (κ' : Nat → Nat) : Prop where
  nd : ∀ k, k ≠ num → G'.nd k = G.nd k
  by_ : ∀ x, G.tk x = true → (∀ c, p c = true → κ c ≠ x) → G'.by_ x = G.by_ x
  tk : ∀ x, G.tk x = true → (∀ c, p c = true → κ c ≠ x) → G'.tk x = true
  new : ∀ c, p' c = true → (∃ c0, p c0 = true ∧ κ' c = κ c0) ∨ G.tk (κ' c) = false
  more : ∀ x, G'.tk x = true → G.tk x = true ∨ ∃ c, p' c = true ∧ κ' c = x
theorem Left.mov {G G' : GS} {num : Nat} {p p' : Nat → Bool} {κ κ' : Nat → Nat} (h : Left G G' num p p' κ κ') : Mov G G' num p κ p' κ' :=
  ⟨h.nd, h.by_, fun x hx _ => h.tk x hx, fun c hc => by
    cases hp : p c with
    | true => exact .inl ⟨c, hp, (h.old c hp).1⟩
    | false => exact .inr (h.fresh c hc hp), fun x hx => (h.new x hx).imp id fun ⟨c, h1, _, h2⟩ => ⟨c, h1, h2⟩⟩
theorem Lost.mov {G G' : GS} {m num : Nat} {n : NodeV} {p p' : Nat → Bool} {κ : Nat → Nat} (h : Lost G G' num p κ) (ht : Tree G m n p κ) (hp : ∀ c, p' c = true → p c = true) : Mov G G' num p κ p' κ :=
  ⟨h.nd, fun x _ hx => h.by_ x hx, fun x h1 hx => by rw [h.tk x hx]; exact h1, fun c hc => .inl ⟨c, hp c hc, rfl⟩, fun x hx => by
    by_cases hn : ∃ c, p c = true ∧ κ c = x
    · obtain ⟨c, h1, rfl⟩ := hn
      exact .inl (ht.own c h1).2
    · rw [h.tk x fun c hc e => hn ⟨c, hc, e⟩] at hx
      exact .inl hx⟩
theorem FileAt.mov {G G' : GS} {m c len num : Nat} {n : NodeV} {κ κ1 κ2 : Nat → Nat} {p1 p2 : Nat → Bool} {f : Nat → UInt8} (h : FileAt G m n c κ len f) (hl : Mov G G' num p1 κ1 p2 κ2) (ha : Apart p1 κ1 (prOf c) κ) : FileAt G' m n c κ len f :=
  h.other (fun k hk => hl.by_ _ (h.tree.own k hk).2 fun c' hc' => ha c' k hc' hk) (fun k hk => hl.tk _ (h.tree.own k hk).2 fun c' hc' => ha c' k hc' hk)
theorem Apart.mov {G G' : GS} {m num : Nat} {n : NodeV} {κ κ1 κ2 : Nat → Nat} {p p1 p2 : Nat → Bool} (ht : Tree G m n p κ) (hl : Mov G G' num p1 κ1 p2 κ2) (ha : Apart p1 κ1 p κ) : Apart p2 κ2 p κ := fun c c' h1 h2 => by
  rcases hl.new c h1 with ⟨c0, h3, h4⟩ | h3
  · rw [h4]; exact ha c0 c' h3 h2
  · intro he
    rw [he, (ht.own c' h2).2] at h3
    cases h3
theorem DirN.mov {G G' : GS} {g : GeoN} {num num' : Nat} {l : List EntV} {κ κ1 κ2 : Nat → Nat} {p1 p2 : Nat → Bool} (h : DirN G g num l κ) (hl : Mov G G' num' p1 κ1 p2 κ2) (hn : num ≠ num') (ha : Apart p1 κ1 (prOf (blks (16 * l.length))) κ) : DirN G' g num l κ := by
  have e := hl.nd num hn
  exact ⟨by rw [e]; exact h.kind, by rw [e]; exact h.links, by rw [e]; exact h.size, by rw [e]; exact h.file.mov hl ha, h.len, h.good⟩
/-- a small directory's own blocks -/
def dk (g : GeoN) (num c : Nat) (κ : Nat → Nat) : List Nat := g.base :: (g.base + g.bitmap + (num - 1) / 2) :: ((List.range 6).filter (prOf c)).map fun k => g.data + κ k
/-- a directory's step -/
structure DStep (s s' : Sto) (g : GeoN) (G G' : GS) (num : Nat) (l l' : List EntV) (κ κ' : Nat → Nat) (K0 T : List Nat) : Prop where
  dir : DirN G' g num l' κ'
  links : (G'.nd num).links = (G.nd num).links
  gen : (G'.nd num).gen = (G.nd num).gen
  mov : Mov G G' num (prOf (blks (16 * l.length))) κ (prOf (blks (16 * l'.length))) κ'
  cnt : G'.cnt g.blocks + nkeys (blks (16 * l.length)) = G.cnt g.blocks + nkeys (blks (16 * l'.length))
  inn : s'.In (K0 ++ T)
  tlen : T.length ≤ 12
  small : max (blks (16 * l.length)) (blks (16 * l'.length)) ≤ 6 → ∀ x ∈ T, x ∈ dk g num (max (blks (16 * l.length)) (blks (16 * l'.length))) κ'
  stay : Stay s s' g
  keep : ∀ c, prOf (blks (16 * l.length)) c = true → prOf (blks (16 * l'.length)) c = true → κ' c = κ c
def DRes (w w' : World) (i : Ids) (s : Sto) (gg : Nat) (g : GeoN) (lab : Int) (G : GS) (num : Nat) (l l' : List EntV) (κ : Nat → Nat) (K0 : List Nat) : Prop :=
  ∃ s' G' κ' T, GAt w' i s' gg g lab G' ∧ DStep s s' g G G' num l l' κ κ' K0 T ∧ Tch w.heap.size i.own w w'
/-- there was no room -/
def DFull (w w' : World) (i : Ids) (s : Sto) (gg : Nat) (g : GeoN) (lab : Int) (G : GS) (l l' : List EntV) : Prop :=
  g.blocks + nkeys (blks (16 * l.length)) < G.cnt g.blocks + nkeys (blks (16 * l'.length)) ∧ ∃ s' G', GAt w' i s' gg g lab G' ∧ Stay s s' g ∧ Tch w.heap.size i.own w w'
section
variable {w w' : World} {i : Ids} {s : Sto} {gg : Nat} {g : GeoN} {lab : Int} {G : GS} {K0 : List Nat}
theorem DRes.before {w0 : World} {num : Nat} {l l' : List EntV} {κ : Nat → Nat} (ht : Tch w0.heap.size i.own w0 w) (h : DRes w w' i s gg g lab G num l l' κ K0) : DRes w0 w' i s gg g lab G num l l' κ K0 := by
  obtain ⟨s', G', κ', T, k1, k2, k3⟩ := h
  exact ⟨s', G', κ', T, k1, k2, ht.trans (k3.mono ht.size fun _ _ h => h)⟩
theorem DFull.before {w0 : World} {l l' : List EntV} (ht : Tch w0.heap.size i.own w0 w) (h : DFull w w' i s gg g lab G l l') : DFull w0 w' i s gg g lab G l l' := by
  obtain ⟨k0, s', G', k1, k2, k3⟩ := h
  exact ⟨k0, s', G', k1, k2, ht.trans (k3.mono ht.size fun _ _ h => h)⟩
theorem fresh_own {z : Nat} {w0 : World} (h : GAt w0 i s gg g lab G) (hz : w0.heap.size ≤ z) : ¬ i.own z := h.tx.other_new hz
end
end Go.Proofs.YthmkgohfeahdhaaGreat
namespace Go.Proofs.YthmkgohfeahdhaaGreat
open Go.RowKit
set_option linter.unusedSimpArgs false
set_option linter.unusedVariables false

theorem fresh_nd' {k : Nat} (h : 4 ≤ k) : GS.fresh.nd k = NodeV.zero := by
  have h1 : k ≠ 1 := by omega
  have h2 : k ≠ 2 := by omega
  have h3 : k ≠ 3 := by omega
  show upd (upd (upd (fun _ => NodeV.zero) 1 (freshN 2)) 2 (freshN 1)) 3 (freshN 1) k = NodeV.zero
  rw [upd_other _ _ h3, upd_other _ _ h2, upd_other _ _ h1]
end Go.Proofs.YthmkgohfeahdhaaGreat
namespace Go.Proofs.YthmkgohfeahdhaaGreat
open Go.RowKit
set_option linter.unusedSimpArgs false
set_option linter.unusedVariables false

def fewNames : List ByteArray := [⟨#[97]⟩, ⟨#[98]⟩, ⟨#[99]⟩, ⟨#[100, 100]⟩, ⟨#[101, 46, 102]⟩, ⟨#[102, 111, 117, 114, 116, 101, 101, 110, 45, 98, 121, 116, 101, 115]⟩, ⟨#[103]⟩, ⟨#[104]⟩]
def DAct.nm (a : DAct) : ByteArray := if a.raw then a.text else fewNames.getD (a.name % 8) ⟨#[]⟩
end Go.Proofs.YthmkgohfeahdhaaGreat
namespace Go.Proofs.YthmkgohfeahdhaaGreat
open Go.RowKit
set_option linter.unusedSimpArgs false
set_option linter.unusedVariables false

def EntV.lits (e : EntV) : List Lit := [.string e.name.data.toList, .int .u16 (e.num.toNat : Int)]
end Go.Proofs.YthmkgohfeahdhaaGreat
namespace Go.Proofs.YthmkgohfeahdhaaGreat
open Go.RowKit
set_option linter.unusedSimpArgs false
set_option linter.unusedVariables false

section
variable {w w' : World} {i : Ids} {D : List BlkV} {gg : Nat} {g : GeoN} {lab : Int} {G : GS}
/-- what comes of a call on a directory: an error, or other places -/
def DOut (w w' : World) (i : Ids) (D : List BlkV) (gg : Nat) (g : GeoN) (lab : Int) (G : GS) (num : Nat) (l : List EntV) (κ : Nat → Nat) (c : Int) : Prop :=
  (c ≠ 0 ∧ ∃ s' G', GAt w' i s' gg g lab G' ∧ s'.D = D ∧ Tch w.heap.size i.own w w') ∨ (c = 0 ∧ ∃ l', l'.length ≤ l.length + 1 ∧ DRes w w' i ⟨D, [], 0⟩ gg g lab G num l l' κ [])
theorem DOut.bad {num : Nat} {l : List EntV} {κ : Nat → Nat} {c : Int} (hc : c ≠ 0) (h : GAt w' i ⟨D, [], 0⟩ gg g lab G ∧ Tch w.heap.size i.own w w') : DOut w w' i D gg g lab G num l κ c := .inl ⟨hc, _, G, h.1, rfl, h.2⟩
end
end Go.Proofs.YthmkgohfeahdhaaGreat
namespace Go.Proofs.YthmkgohfeahdhaaGreat
open Go.RowKit
set_option linter.unusedSimpArgs false
set_option linter.unusedVariables false

/-- a record of an own directory -/
structure InR where
  lab : UInt8
  num : UInt16
  gen : UInt16
  own : UInt16
def InR.zero : InR := ⟨0, 0, 0, 0⟩
def InR.ino (r : InR) : List Value := [.int .u8 (r.lab.toNat : Int), .int .u16 (r.num.toNat : Int), .int .u16 (r.gen.toNat : Int)]
def InR.cells (r : InR) : List Value := [.int .u8 (r.lab.toNat : Int), .int .u16 (r.num.toNat : Int), .int .u16 (r.gen.toNat : Int), .int .u16 (r.own.toNat : Int)]
def InR.Good (r : InR) : Prop := r = InR.zero ∨ (r.num ≠ 0 ∧ 3 < r.own.toNat)
/-- a record's bytes -/
def recP (r : InR) : List UInt8 := [r.lab, 1, UInt8.ofNat r.num.toNat, UInt8.ofNat (r.num.toNat / 256), UInt8.ofNat r.gen.toNat, UInt8.ofNat (r.gen.toNat / 256), UInt8.ofNat r.own.toNat, UInt8.ofNat (r.own.toNat / 256)]
/-- a place's bytes -/
def placeR (r : InR) : List UInt8 := if r.own = 0 then List.replicate 8 0 else recP r
theorem recP_length (r : InR) : (recP r).length = 8 := rfl
theorem placeR_length (r : InR) : (placeR r).length = 8 := by unfold placeR; split <;> rfl
theorem lo_byte (n : Nat) : IntKind.u8.wrap (n : Int) = (((UInt8.ofNat n).toNat : Nat) : Int) := by rw [UInt8.toNat_ofNat', IntKind.wrap_u8]; omega
theorem hi_byte (n : Nat) : IntKind.u8.wrap ((n : Int) / 256) = (((UInt8.ofNat (n / 256)).toNat : Nat) : Int) := by rw [UInt8.toNat_ofNat', IntKind.wrap_u8]; omega
theorem build_rec8 (w : World) (a b c d e f g : Int) : (Instr.build 245 #[(0, .int .u8 a), (1, .int .u8 1), (2, .int .u8 b), (3, .int .u8 c), (4, .int .u8 d), (5, .int .u8 e), (6, .int .u8 f), (7, .int .u8 g)]).run Tryz.prog w = .ok (.agg #[.int .u8 a, .int .u8 1, .int .u8 b, .int .u8 c, .int .u8 d, .int .u8 e, .int .u8 f, .int .u8 g]) w := by kernel_rfl
theorem size_inr : (Tryz.prog.info? 244).map (·.size) = some 4 := by kernel_rfl
theorem size_rec8 (l : List UInt8) (h : l.length = 8) : (Tryz.prog.info? 245).map (·.size) = some (bvs l).toArray.size := by
  have : (Tryz.prog.info? 245).map (·.size) = some 8 := by kernel_rfl
  rw [this, List.size_toArray, bvs_length, h]
set_option maxRecDepth 100000 in
set_option maxHeartbeats 1000000 in
theorem inpack_ok (r : InR) (w : World) :
    Calls Tryz.prog 127 #[.agg r.cells.toArray] w fun e w' => e = .returned (.agg (bvs (recP r)).toArray) ∧ Below w.heap.size w w' := by
  have hcs : r.cells.toArray = #[.int .u8 (r.lab.toNat : Int), .int .u16 (r.num.toNat : Int), .int .u16 (r.gen.toNat : Int), .int .u16 (r.own.toNat : Int)] := rfl
  rw [hcs]
  have a1 := lo_byte r.num.toNat
  have a2 := hi_byte r.num.toNat
  have a3 := lo_byte r.gen.toNat
  have a4 := hi_byte r.gen.toNat
  have a5 := lo_byte r.own.toNat
  have a6 := hi_byte r.own.toNat
  have hb : (bvs (recP r)).toArray = #[.int .u8 (r.lab.toNat : Int), .int .u8 1, .int .u8 (((UInt8.ofNat r.num.toNat).toNat : Nat) : Int), .int .u8 (((UInt8.ofNat (r.num.toNat / 256)).toNat : Nat) : Int), .int .u8 (((UInt8.ofNat r.gen.toNat).toNat : Nat) : Int), .int .u8 (((UInt8.ofNat (r.gen.toNat / 256)).toNat : Nat) : Int), .int .u8 (((UInt8.ofNat r.own.toNat).toNat : Nat) : Int), .int .u8 (((UInt8.ofNat (r.own.toNat / 256)).toNat : Nat) : Int)] := rfl
  have hsz := size_rec8 (recP r) (recP_length r)
  rw [hb] at hsz
  generalize ((UInt8.ofNat r.num.toNat).toNat : Nat) = b1 at *
  generalize ((UInt8.ofNat (r.num.toNat / 256)).toNat : Nat) = b2 at *
  generalize ((UInt8.ofNat r.gen.toNat).toNat : Nat) = b3 at *
  generalize ((UInt8.ofNat (r.gen.toNat / 256)).toNat : Nat) = b4 at *
  generalize ((UInt8.ofNat r.own.toNat).toNat : Nat) = b5 at *
  generalize ((UInt8.ofNat (r.own.toNat / 256)).toNat : Nat) = b6 at *
  have HB := hide hb
  have HS := hide hsz
  clear hcs hb hsz
  go_enter Tryz.func127, Tryz.ntmps127
  go_upto_region 1 with (fail)
  refine at_world (fun W => ∃ p q, p = w.heap.size ∧ q = w.heap.size + 1 ∧ Below w.heap.size w W ∧ Blk W p 244 #[.int .u8 (r.lab.toNat : Int), .int .u16 (r.num.toNat : Int), .int .u16 (r.gen.toNat : Int), .int .u16 (r.own.toNat : Int)] ∧ Blk W q 245 (bvs (List.replicate 8 0)).toArray) ⟨_, _, rfl, rfl, ((Below.refl _ _).alloc (Nat.le_refl _) _).alloc (by simp) _, (Blk.new w _ _).alloc _, ?_⟩ (fun w1 h1 => ?_)
  · have h := Blk.new (w.alloc (.cells #[.int .u8 (r.lab.toNat : Int), .int .u16 (r.num.toNat : Int), .int .u16 (r.gen.toNat : Int), .int .u16 (r.own.toNat : Int)] 244)) 245 (bvs (List.replicate 8 0)).toArray
    rw [World.size_alloc] at h
    exact h
  obtain ⟨p, q, hp, hq, hb1, hP, hQ⟩ := h1
  rw [← hq, ← hp]
  have HBW := hide (And.intro hb1 (show w.heap.size ≤ q by omega))
  have HQ := hide hQ
  have p0 := hP.cell 0
  have p1 := hP.cell 1
  have p2 := hP.cell 2
  have p3 := hP.cell 3
  have pl := hP.lt
  clear hp hq hb1 hP hQ
  go_wp2_with (first | ((with_reducible refine at_build 245 #[(0, .tmp 5), (1, .const (.int .u8 1)), (2, .tmp 9), (3, .tmp 14), (4, .tmp 18), (5, .tmp 23), (6, .tmp 26), (7, .tmp 30)] ?_); refine wpList_run rfl _ (exec_build 245 #[(0, .tmp 5), (1, .const (.int .u8 1)), (2, .tmp 9), (3, .tmp 14), (4, .tmp 18), (5, .tmp 23), (6, .tmp 26), (7, .tmp 30)] rfl #[(0, .int .u8 (r.lab.toNat : Int)), (1, .int .u8 1), (2, .int .u8 (b1 : Int)), (3, .int .u8 (b2 : Int)), (4, .int .u8 (b3 : Int)), (5, .int .u8 (b4 : Int)), (6, .int .u8 (b5 : Int)), (7, .int .u8 (b6 : Int))] (by simp only [List.map_toArray, List.map_cons, List.map_nil]; rfl) _ (build_rec8 _ _ _ _ _ _ _ _)) ?_) | ((with_reducible refine at_store 245 (.tmp 2) (.tmp 31) ?_); refine wpList_store_blk rfl 245 (.tmp 2) (.tmp 31) rfl q _ _ _ (by rfl) (by rfl) HQ.out HS.out rfl (by simp [Value.oneCell']) (fun hB5 => ?_)) | ((with_reducible refine at_end ?_); refine bodyPost_ret (v := .agg #[.int .u8 (r.lab.toNat : Int), .int .u8 1, .int .u8 (b1 : Int), .int .u8 (b2 : Int), .int .u8 (b3 : Int), .int .u8 (b4 : Int), .int .u8 (b5 : Int), .int .u8 (b6 : Int)]) (results_run1 rfl (ResV.row rfl hB5 Tryz.underlying245 rfl HS.out)) rfl ⟨by rw [HB.out], below_setRow HBW.out.1 HBW.out.2 _⟩) | fail)
theorem rec8_lits (d : Nat) {b : List UInt8} (hb : b.length = 8) : Tryz.prog.keyLits (d + 2) 245 (bvs b) = some (b.map fun x => Lit.int .u8 (x.toNat : Int)) := by
  have := lits_ints (P := Tryz.prog) (d := d) Tryz.underlying245 Tryz.underlying5 (by kernel_rfl) (by kernel_rfl) (xs := b.map fun x => (x.toNat : Int)) (by simpa using hb) (fun x hx => by
    obtain ⟨y, _, rfl⟩ := List.mem_map.1 hx
    exact wf8 y)
  simpa [bvs, bv, List.map_map, Function.comp_def] using this
theorem rec8_eq (w : World) {a b : List UInt8} (ha : a.length = 8) (hb : b.length = 8) (q : Bool) (hq : q = true ↔ a = b) : (Op.equalIn 10000 245 (.agg (bvs a).toArray) (.agg (bvs b).toArray)).run Tryz.prog w = .ok q w := by
  have hf : ∀ {b : List UInt8}, b.length = 8 → (Value.agg (bvs b).toArray).formed Tryz.prog 245 = true := fun {b} hb => by
    unfold Value.formed
    rw [Tryz.underlying245]
    simp only [beq_iff_eq]
    rw [List.size_toArray, bvs_length, hb]
    kernel_rfl
  obtain ⟨r, h1, h2⟩ := run_equal_lits (P := Tryz.prog) w (m := 2) (D := 2) (by decide) (k := 245) (by kernel_rfl) (hf ha) (hf hb) (rec8_lits 0 ha) (rec8_lits 0 hb)
  rw [lit_inj8] at h2
  rw [h1, show r = q from by cases r <;> cases q <;> simp_all]
theorem zero_rec8 (w : World) : (Instr.build 245 #[]).run Tryz.prog w = .ok (.agg (bvs (List.replicate 8 0)).toArray) w := by kernel_rfl
theorem zero_inr (w : World) : (Instr.build 244 #[]).run Tryz.prog w = .ok (.agg InR.zero.cells.toArray) w := by kernel_rfl
theorem zero_inr' (w : World) : (zeroValue 244).run Tryz.prog w = .ok (.agg InR.zero.cells.toArray) w := by kernel_rfl
theorem build_inr (w : World) (a b c d : Int) : (Instr.build 244 #[(0, .agg #[.int .u8 a, .int .u16 b, .int .u16 c]), (1, .int .u16 d)]).run Tryz.prog w = .ok (.agg #[.int .u8 a, .int .u16 b, .int .u16 c, .int .u16 d]) w := by kernel_rfl
theorem size_inrc (r : InR) : (Tryz.prog.info? 244).map (·.size) = some r.cells.toArray.size := size_inr
theorem inr_one (r : InR) : r.cells.toArray.all (·.oneCell') = true := by simp [InR.cells, Value.oneCell']
theorem two_bytes (n : UInt16) : bits BinOp.or IntKind.u16 (((UInt8.ofNat n.toNat).toNat : Nat) : Int) ((((UInt8.ofNat (n.toNat / 256)).toNat : Nat) : Int) * 256) = (n.toNat : Int) := by
  have h := or_two (UInt8.toNat_lt (UInt8.ofNat n.toNat)) (UInt8.toNat_lt (UInt8.ofNat (n.toNat / 256)))
  rw [show ((256 * (UInt8.ofNat (n.toNat / 256)).toNat : Nat) : Int) = (((UInt8.ofNat (n.toNat / 256)).toNat : Nat) : Int) * 256 from by omega] at h
  have e : (UInt8.ofNat n.toNat).toNat + 256 * (UInt8.ofNat (n.toNat / 256)).toNat = n.toNat := by
    have := n.toNat_lt
    rw [UInt8.toNat_ofNat', UInt8.toNat_ofNat']
    omega
  rw [e] at h
  exact h
section
variable {w w' : World}
set_option maxRecDepth 100000 in
set_option maxHeartbeats 2000000 in
theorem inunpack_ok (r : InR) (hg : r.Good) {A : Option Addr} {c : Nat} (hc8 : 8 ≤ c) (h : Rd w w.heap.size 1 A 8 (bvs (placeR r))) :
    Calls Tryz.prog 162 #[.slice A 8 c] w fun e w' => e = .returned (.tuple #[.agg r.cells.toArray, .bool true]) ∧ Below w.heap.size w w' := by
  obtain ⟨ba, oa, rfl, hba, hca⟩ := h.byte (i := 0) (by omega)
  have hrg : w.rangeAt ba oa (bvs (placeR r)) := by
    obtain ⟨b, o, e, _, hc⟩ := h.2 (by omega)
    cases e
    exact fun j v hj => hc j v hj
  have HG := hide hg
  have HC := hide hca
  have HRG := hide hrg
  have HBA := hide hba
  clear hg h hca hrg hba
  go_enter Tryz.func162, Tryz.ntmps162
  go_upto_region 1 with (first | ((with_reducible refine at_alloc 244 ?_); refine wpList_alloc_as rfl 244 rfl _ (zero_inr' _) ?_) | fail)
  refine at_world (fun W => ∃ p, p = w.heap.size ∧ Below w.heap.size w W ∧ Blk W p 244 InR.zero.cells.toArray) ⟨_, rfl, (Below.refl _ _).alloc (Nat.le_refl _) _, Blk.new _ _ _⟩ (fun w1 h1 => ?_)
  obtain ⟨p, hp, hb1, hP1⟩ := h1
  rw [← hp]
  have HB := hide hb1
  have HP := hide hP1
  have HPW := hide (show w.heap.size ≤ p from Nat.le_of_eq hp.symm)
  have HRG1 := hide (show w1.rangeAt ba oa (bvs (placeR r)) from fun j v hj => (World.cell?_of_block (w := w) (a := ⟨ba, oa + j, none⟩) (hb1.block ba HBA.out)).trans (HRG.out j v hj))
  have HC1 := hide (show ∀ j, j < 8 → w1.cell? ⟨ba, oa + j, none⟩ = some (.int .u8 (((placeR r).getD j 0).toNat : Int)) from fun j hj => (World.cell?_of_block (w := w) (a := ⟨ba, oa + j, none⟩) (hb1.block ba HBA.out)).trans (HC.out j hj))
  have bal : ba < w1.heap.size := Nat.lt_of_lt_of_le HBA.out hb1.size
  have HL8 := hide (show (Tryz.prog.info? 245).map (·.size) = some (bvs (placeR r)).length from by
    have h0 := size_rec8 (placeR r) (placeR_length r)
    rwa [List.size_toArray] at h0)
  clear hp hb1 hP1
  by_cases hz : r.own = 0
  · have hr0 : r = InR.zero := by
      rcases HG.out with h0 | ⟨-, h0⟩
      · exact h0
      · rw [hz] at h0; exact absurd h0 (by decide)
    have heq : ∀ W, (Op.equalIn 10000 245 (.agg (bvs (placeR r)).toArray) (.agg (bvs (List.replicate 8 0)).toArray)).run Tryz.prog W = .ok true W := fun W => rec8_eq W (placeR_length r) rfl true (by unfold placeR; rw [if_pos hz]; simp)
    have HEQ := hide heq
    have HR0 := hide hr0
    clear heq hz hr0
    go_wp2_with (first | ((with_reducible refine at_sap 245 (.tmp 9) ?_); refine wpList_run rfl _ (exec_sap 245 (.tmp 9) rfl 8 ⟨ba, oa, none⟩ _ _ _ rfl Tryz.underlying245 (by omega)) ?_) | ((with_reducible refine at_load 245 (.tmp 10) ?_); refine wpList_load_mid rfl 245 (.tmp 10) rfl ba oa (by rfl) (bvs (placeR r)) _ HRG1.out Tryz.underlying245 rfl HL8.out ?_) | ((with_reducible refine at_build 245 #[] ?_); refine wpList_zero_as rfl 245 rfl _ (zero_rec8 _) ?_) | ((with_reducible refine at_binop .eql 245 (.tmp 11) (.tmp 12) 245 ?_); refine wpList_run rfl _ (exec_eql_agg 245 (.tmp 11) (.tmp 12) 245 rfl _ _ rfl rfl (by kernel_rfl) _ (HEQ.out _)) ?_) | ((with_reducible refine at_build 244 #[] ?_); refine wpList_zero_as rfl 244 rfl _ (zero_inr _) ?_) | ((with_reducible refine at_store 244 (.tmp 2) (.tmp 14) ?_); refine wpList_store_blk rfl 244 (.tmp 2) (.tmp 14) rfl p _ _ _ (by rfl) (by rfl) HP.out (size_inrc _) rfl (inr_one _) (fun hB5 => ?_)) | ((with_reducible refine at_end ?_); refine bodyPost_ret (v := .tuple #[.agg InR.zero.cells.toArray, .bool true]) (results_run2 rfl (ResV.row rfl hB5 Tryz.underlying244 rfl (size_inrc _)) rfl) rfl ⟨by rw [HR0.out], below_setRow HB.out HPW.out _⟩) | fail)
  · have heq : ∀ W, (Op.equalIn 10000 245 (.agg (bvs (placeR r)).toArray) (.agg (bvs (List.replicate 8 0)).toArray)).run Tryz.prog W = .ok false W := fun W => rec8_eq W (placeR_length r) rfl false (by
      unfold placeR
      rw [if_neg hz]
      constructor
      · intro h; cases h
      · intro h
        have := congrArg (fun l => l.getD 1 0) h
        have h1 : (1 : UInt8) = 0 := this
        exact absurd h1 (by decide))
    have hpl : placeR r = recP r := by unfold placeR; rw [if_neg hz]
    have HEQ := hide heq
    have HPL := hide hpl
    have hgo : r.num ≠ 0 ∧ 3 < r.own.toNat := by
      rcases HG.out with h0 | h0
      · rw [h0] at hz; exact absurd rfl hz
      · exact h0
    have HGO := hide hgo
    clear heq hz hpl hgo
    go_upto_region 5 with (first | ((with_reducible refine at_sap 245 (.tmp 9) ?_); refine wpList_run rfl _ (exec_sap 245 (.tmp 9) rfl 8 ⟨ba, oa, none⟩ _ _ _ rfl Tryz.underlying245 (by omega)) ?_) | ((with_reducible refine at_load 245 (.tmp 10) ?_); refine wpList_load_mid rfl 245 (.tmp 10) rfl ba oa (by rfl) (bvs (placeR r)) _ HRG1.out Tryz.underlying245 rfl HL8.out ?_) | ((with_reducible refine at_build 245 #[] ?_); refine wpList_zero_as rfl 245 rfl _ (zero_rec8 _) ?_) | ((with_reducible refine at_binop .eql 245 (.tmp 11) (.tmp 12) 245 ?_); refine wpList_run rfl _ (exec_eql_agg 245 (.tmp 11) (.tmp 12) 245 rfl _ _ rfl rfl (by kernel_rfl) _ (HEQ.out _)) ?_) | fail)
    have hcc := HC1.out
    rw [HPL.out] at hcc
    have c0 : w1.cell? ⟨ba, oa, none⟩ = some (.int .u8 (r.lab.toNat : Int)) := hcc 0 (by omega)
    have c1 : w1.cell? ⟨ba, oa + 1, none⟩ = some (.int .u8 1) := hcc 1 (by omega)
    have c2 : w1.cell? ⟨ba, oa + 2, none⟩ = some (.int .u8 (((UInt8.ofNat r.num.toNat).toNat : Nat) : Int)) := hcc 2 (by omega)
    have c3 : w1.cell? ⟨ba, oa + 3, none⟩ = some (.int .u8 (((UInt8.ofNat (r.num.toNat / 256)).toNat : Nat) : Int)) := hcc 3 (by omega)
    have c4 : w1.cell? ⟨ba, oa + 4, none⟩ = some (.int .u8 (((UInt8.ofNat r.gen.toNat).toNat : Nat) : Int)) := hcc 4 (by omega)
    have c5 : w1.cell? ⟨ba, oa + 5, none⟩ = some (.int .u8 (((UInt8.ofNat (r.gen.toNat / 256)).toNat : Nat) : Int)) := hcc 5 (by omega)
    have c6 : w1.cell? ⟨ba, oa + 6, none⟩ = some (.int .u8 (((UInt8.ofNat r.own.toNat).toNat : Nat) : Int)) := hcc 6 (by omega)
    have c7 : w1.cell? ⟨ba, oa + 7, none⟩ = some (.int .u8 (((UInt8.ofNat (r.own.toNat / 256)).toNat : Nat) : Int)) := hcc 7 (by omega)
    have o1 := two_bytes r.num
    have o2 := two_bytes r.gen
    have o3 := two_bytes r.own
    have l1 := UInt8.toNat_lt (UInt8.ofNat r.num.toNat)
    have l2 := UInt8.toNat_lt (UInt8.ofNat (r.num.toNat / 256))
    have l3 := UInt8.toNat_lt (UInt8.ofNat r.gen.toNat)
    have l4 := UInt8.toNat_lt (UInt8.ofNat (r.gen.toNat / 256))
    have l5 := UInt8.toNat_lt (UInt8.ofNat r.own.toNat)
    have l6 := UInt8.toNat_lt (UInt8.ofNat (r.own.toNat / 256))
    generalize ((UInt8.ofNat r.num.toNat).toNat : Nat) = b1 at *
    generalize ((UInt8.ofNat (r.num.toNat / 256)).toNat : Nat) = b2 at *
    generalize ((UInt8.ofNat r.gen.toNat).toNat : Nat) = b3 at *
    generalize ((UInt8.ofNat (r.gen.toNat / 256)).toNat : Nat) = b4 at *
    generalize ((UInt8.ofNat r.own.toNat).toNat : Nat) = b5 at *
    generalize ((UInt8.ofNat (r.own.toNat / 256)).toNat : Nat) = b6 at *
    have e1 : IntKind.u16.wrap (b1 : Int) = (b1 : Int) := by rw [IntKind.wrap_u16]; omega
    have e2 : IntKind.u16.wrap (b2 : Int) = (b2 : Int) := by rw [IntKind.wrap_u16]; omega
    have e3 : IntKind.u16.wrap (b3 : Int) = (b3 : Int) := by rw [IntKind.wrap_u16]; omega
    have e4 : IntKind.u16.wrap (b4 : Int) = (b4 : Int) := by rw [IntKind.wrap_u16]; omega
    have e5 : IntKind.u16.wrap (b5 : Int) = (b5 : Int) := by rw [IntKind.wrap_u16]; omega
    have e6 : IntKind.u16.wrap (b6 : Int) = (b6 : Int) := by rw [IntKind.wrap_u16]; omega
    have f2 : IntKind.u16.wrap ((b2 : Int) * 256) = (b2 : Int) * 256 := by rw [IntKind.wrap_u16]; omega
    have f4 : IntKind.u16.wrap ((b4 : Int) * 256) = (b4 : Int) * 256 := by rw [IntKind.wrap_u16]; omega
    have f6 : IntKind.u16.wrap ((b6 : Int) * 256) = (b6 : Int) * 256 := by rw [IntKind.wrap_u16]; omega
    clear hcc l1 l2 l3 l4 l5 l6
    refine wp_region_text [0, 0, 0, 0, 0, 0, 0, 0, 0, 0, 0, 0, 0, 0, 0, 0, 0, 0, 0, 0, 0, 0, 0, 0, 0, 0, 0, 0, 0, 0, 0, 0, 0, 0, 0, 1, 1] (fun W => Below w1.heap.size w1 W) (by kernel_rfl) (by kernel_rfl) (Below.refl _ _).drew ?_
    iterate 12 (refine wpOrd_q (v := ?_) (by rfl) (fun W hW => ?_) ?_; rotate_left; (focus ((obtain ⟨hWc, hWf⟩ := bcell hW; go_simp); try with_reducible rfl)); try simp only [Act.put, List.setIfInBounds_toArray, List.set_cons_zero, List.set_cons_succ])
    refine wpOrd_q (v := .int .u16 (r.num.toNat : Int)) (by rfl) (fun W hW => by go_simp; try exact o1) ?_
    try simp only [Act.put, List.setIfInBounds_toArray, List.set_cons_zero, List.set_cons_succ]
    iterate 9 (refine wpOrd_q (v := ?_) (by rfl) (fun W hW => ?_) ?_; rotate_left; (focus ((obtain ⟨hWc, hWf⟩ := bcell hW; go_simp); try with_reducible rfl)); try simp only [Act.put, List.setIfInBounds_toArray, List.set_cons_zero, List.set_cons_succ])
    refine wpOrd_q (v := .int .u16 (r.gen.toNat : Int)) (by rfl) (fun W hW => by go_simp; try exact o2) ?_
    try simp only [Act.put, List.setIfInBounds_toArray, List.set_cons_zero, List.set_cons_succ]
    refine wpOrd_q (v := .agg #[.int .u8 (r.lab.toNat : Int), .int .u16 (r.num.toNat : Int), .int .u16 (r.gen.toNat : Int)]) (by rfl) (fun W hW => exec_build 152 #[(0, .tmp 17), (1, .tmp 27), (2, .tmp 37)] rfl #[(0, .int .u8 (r.lab.toNat : Int)), (1, .int .u16 (r.num.toNat : Int)), (2, .int .u16 (r.gen.toNat : Int))] (by simp only [List.map_toArray, List.map_cons, List.map_nil]; rfl) _ (build_ino _ _ _ _)) ?_
    try simp only [Act.put, List.setIfInBounds_toArray, List.set_cons_zero, List.set_cons_succ]
    iterate 9 (refine wpOrd_q (v := ?_) (by rfl) (fun W hW => ?_) ?_; rotate_left; (focus ((obtain ⟨hWc, hWf⟩ := bcell hW; go_simp); try with_reducible rfl)); try simp only [Act.put, List.setIfInBounds_toArray, List.set_cons_zero, List.set_cons_succ])
    refine wpOrd_q (v := .int .u16 (r.own.toNat : Int)) (by rfl) (fun W hW => by go_simp; try exact o3) ?_
    try simp only [Act.put, List.setIfInBounds_toArray, List.set_cons_zero, List.set_cons_succ]
    refine wpOrd_q (v := .agg r.cells.toArray) (by rfl) (fun W hW => exec_build 244 #[(0, .tmp 38), (1, .tmp 48)] rfl #[(0, .agg #[.int .u8 (r.lab.toNat : Int), .int .u16 (r.num.toNat : Int), .int .u16 (r.gen.toNat : Int)]), (1, .int .u16 (r.own.toNat : Int))] (by simp only [List.map_toArray, List.map_cons, List.map_nil]; rfl) _ (build_inr _ _ _ _ _)) ?_
    try simp only [Act.put, List.setIfInBounds_toArray, List.set_cons_zero, List.set_cons_succ]
    refine wpOrd_x (by rfl) (fun KK hKK => ?_)
    refine wp_alloc_as 244 rfl _ (zero_inr' _) ?_
    have hb2 : Below w1.heap.size w1 (w1.drew.alloc (.cells InR.zero.cells.toArray 244)) := (Below.refl _ _).drew.alloc (Nat.le_refl _) _
    refine hKK _ _ _ (fun _ h => h) hb2 ?_
    clear hKK KK
    try simp only [Act.put, List.setIfInBounds_toArray, List.set_cons_zero, List.set_cons_succ]
    refine wpOrd_x (by rfl) (fun KK hKK => ?_)
    refine wp_store_blk 244 (.tmp 4) (.tmp 49) rfl w1.heap.size 244 _ _ (by rfl) (by rfl) (Blk.new _ _ _) (size_inrc r) rfl (inr_one r) (fun hG => ?_)
    have hb3 := below_setRow hb2 (Nat.le_refl _) r.cells.toArray
    refine hKK _ _ _ (fun _ h => h) hb3 ?_
    clear hKK KK
    try simp only [Act.put, List.setIfInBounds_toArray, List.set_cons_zero, List.set_cons_succ]
    refine wpOrd_nil ?_
    refine at_world (fun W => ∃ q, q = w1.heap.size ∧ Below w.heap.size w W ∧ Blk W p 244 InR.zero.cells.toArray ∧ Blk W q 244 r.cells.toArray ∧ W.cell? ⟨ba, oa + 1, none⟩ = some (.int .u8 1) ∧ ba < W.heap.size) ⟨_, rfl, HB.out.trans (hb3.mono HB.out.size), HP.out.below hb3 HP.out.lt, hG, (World.cell?_of_block (w := w1) (a := ⟨ba, oa + 1, none⟩) (hb3.block ba bal)).trans c1, Nat.lt_of_lt_of_le bal hb3.size⟩ (fun w3 h3 => ?_)
    obtain ⟨q, hq, hb3', hP3, hQ3, c1', bal'⟩ := h3
    rw [show w1.drew.heap.size = w1.heap.size from rfl, ← hq]
    have HB3 := hide hb3'
    have HP3 := hide hP3
    have HQ3 := hide hQ3
    have HPQ := hide (show p ≠ q from fun e => by have := HP.out.lt; omega)
    have q1 : w3.cell? ⟨q, 1, none⟩ = some (.int .u16 (r.num.toNat : Int)) := hQ3.cell 1
    have q3 : w3.cell? ⟨q, 3, none⟩ = some (.int .u16 (r.own.toNat : Int)) := hQ3.cell 3
    have ql := hQ3.lt
    have g1 : decide ((3 : Int) < (r.own.toNat : Int)) = true := by have := HGO.out.2; simp; omega
    have g1' : (3 : Int) < (r.own.toNat : Int) := by have := HGO.out.2; omega
    have hn0 : r.num.toNat ≠ 0 := fun h0 => HGO.out.1 (UInt16.toNat_inj.1 h0)
    have g2 : decide ((0 : Int) < (r.num.toNat : Int)) = true := by simp; omega
    have g2' : (0 : Int) < (r.num.toNat : Int) := by omega
    clear hq hb3 hG hb2 hb3' hP3 hQ3 c0 c1 c2 c3 c4 c5 c6 c7 o1 o2 o3 e1 e2 e3 e4 e5 e6 f2 f4 f6 bal hn0
    go_upto_region 6 with (fail)
    have g3 : decide (0 < r.num.toNat) = true := by simp; omega
    have hS3 : Blk w3 q 244 r.cells.toArray ∧ w3.cell? ⟨ba, oa + 1, none⟩ = some (.int .u8 1) ∧ ba < w3.heap.size := ⟨HQ3.out, c1', bal'⟩
    have HS3 := hide hS3
    have hbp : ba ≠ p := fun e => by have := HBA.out; have := HPW.out; omega
    have HBP := hide hbp
    clear q1 q3 ql c1' bal' hS3 hbp
    refine wp_region_text [0, 0, 0, 0, 0, 0, 0, 0, 0, 0, 0, 0, 0, 0, 0, 0, 1, 0] (fun W => Blk W q 244 r.cells.toArray ∧ W.cell? ⟨ba, oa + 1, none⟩ = some (.int .u8 1) ∧ ba < W.heap.size) (by kernel_rfl) (by kernel_rfl) ⟨HS3.out.1.drew, HS3.out.2.1, HS3.out.2.2⟩ ?_
    refine wpOrd_q (v := .agg r.cells.toArray) (by rfl) (fun W hW => exec_load_blk 244 (.tmp 4) rfl q _ r.cells.toArray _ rfl hW.1 Tryz.underlying244 rfl (size_inrc r)) ?_
    try simp only [Act.put, List.setIfInBounds_toArray, List.set_cons_zero, List.set_cons_succ]
    iterate 15 (refine wpOrd_q (v := ?_) (by rfl) (fun W hW => ?_) ?_; rotate_left; (focus (have q1 : W.cell? ⟨q, 1, none⟩ = some (.int .u16 (r.num.toNat : Int)) := hW.1.cell 1; have q3 : W.cell? ⟨q, 3, none⟩ = some (.int .u16 (r.own.toNat : Int)) := hW.1.cell 3; have ql := hW.1.lt; have c1' := hW.2.1; have bal' := hW.2.2; go_simp; try with_reducible rfl)); try simp only [Act.put, List.setIfInBounds_toArray, List.set_cons_zero, List.set_cons_succ])
    refine wpOrd_x (by rfl) (fun KK hKK => ?_)
    refine wp_store_blk 244 (.tmp 2) (.tmp 50) rfl p 244 _ _ (by rfl) (by rfl) HP3.out.drew (size_inrc r) rfl (inr_one r) (fun hG => ?_)
    refine hKK _ _ _ (fun _ h => h) ⟨HS3.out.1.drew.setRow_far HPQ.out.symm _, (World.cell?_of_block (w := w3.drew) (a := ⟨ba, oa + 1, none⟩) (setRow_other _ _ _ _ HBP.out)).trans HS3.out.2.1, by simpa using HS3.out.2.2⟩ ?_
    clear hKK KK
    try simp only [Act.put, List.setIfInBounds_toArray, List.set_cons_zero, List.set_cons_succ]
    iterate 1 (refine wpOrd_q (v := ?_) (by rfl) (fun W hW => ?_) ?_; rotate_left; (focus (go_simp; try with_reducible rfl)); try simp only [Act.put, List.setIfInBounds_toArray, List.set_cons_zero, List.set_cons_succ])
    refine wpOrd_nil ?_
    go_wp2_with (first | ((with_reducible refine at_end ?_); refine bodyPost_ret (v := .tuple #[.agg r.cells.toArray, .bool true]) (results_run2 rfl (ResV.row rfl hG Tryz.underlying244 rfl (size_inrc r)) rfl) rfl ⟨rfl, below_setRow HB3.out.drew HPW.out _⟩) | fail)
end
end Go.Proofs.YthmkgohfeahdhaaGreat

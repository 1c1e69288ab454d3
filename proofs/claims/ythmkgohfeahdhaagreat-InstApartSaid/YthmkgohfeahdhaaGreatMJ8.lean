/- Files: one block more, plain. Files: the way to a block, plain. Files: as many blocks as a file needs, plain. Files: bytes written into a file: what comes of it. Files: Write and Read over a file as it is meant. Files: blocks less, plain. Files: the last block goes: walked. -/
import Derived.Test.YthmkgohfeahdhaaGreatMJ1
import Derived.Test.YthmkgohfeahdhaaGreatMJ2
import Derived.Test.YthmkgohfeahdhaaGreatMJ3
import Derived.Test.YthmkgohfeahdhaaGreatMJ4
import Derived.Test.YthmkgohfeahdhaaGreatMJ5
import Derived.Test.YthmkgohfeahdhaaGreatMJ6
import Derived.Test.YthmkgohfeahdhaaGreatMJ7
import Derived.WalkKit
import Derived.WalkSpells
import Derived.WalkLawsBesides
import Derived.Maps.AppendAt
import Derived.Deep.Draws
import Derived.Lib.SlBytesConst
import Derived.Test.YthmkgohfeahdhaaGreatProg
import Derived.Deep.RegionHeld3
import Derived.Deep.RegionLaw
import Derived.Deep.QuietTactic
import Derived.BigQuiet
import Derived.Handy
import Derived.Deep.LoopGhost
import Derived.Deep.Cut
import Derived.Deep.CutRange
import Derived.Lib.IndexBytes
import Derived.StringKeys
import Derived.Laws.Tables
import Derived.Laws.Rows
import Derived.Deep.CutBlock
import Derived.Sort.OwnSortedInts
import Derived.DeepKeys
import Derived.Great.FillDense
import Derived.Laws.CopyRow
import Derived.Deep.MidRow
import Derived.OwnWalk
import Derived.Shelf.Small.Bits
import Derived.Shelf.Small.Wraps
import Derived.Shelf.Strconv.Itoa0
import Derived.Shelf.Sort.Plain
import Derived.Ground.Names2Prog
import Derived.Shelf.Slices.SearchI
import Derived.Shelf.Slices.In.SortNone
import Derived.Maps.Keyed
import Derived.DeepKeys4
import Derived.Carry
import Derived.Maps.RangeWalk
namespace Go.Proofs.YthmkgohfeahdhaaGreat
open Go.RowKit
set_option linter.unusedSimpArgs false
set_option linter.unusedVariables false

/-- blocks, each the next one's block of pointers -/
def Chain : Nat → List (Nat × Nat) → Prop
  | _, [] => True
  | p, (j, c) :: r => c < 265 ∧ par c = some (p, j) ∧ Chain c r
/-- how many of them there aren't -/
def missing (pr : Nat → Bool) (l : List Nat) : Nat := (l.filter fun c => !pr c).length
theorem missing_cons (pr : Nat → Bool) (c : Nat) (l : List Nat) : missing pr (c :: l) = (if pr c then 0 else 1) + missing pr l := by
  unfold missing
  rw [List.filter_cons]
  cases pr c <;> simp <;> omega
theorem missing_upd {pr : Nat → Bool} {c : Nat} {l : List Nat} (h : c ∉ l) : missing (upd pr c true) l = missing pr l := by
  unfold missing
  rw [List.filter_congr]
  intro x hx
  rw [upd_other _ _ (fun e => h (by rw [← e]; exact hx))]
/-- what getting a block leaves of a group, apart from the file -/
structure Grown (G G' : GS) (m : Nat) (pr pr' : Nat → Bool) (κ κ' : Nat → Nat) : Prop where
  nd : G'.nd = G.nd
  ok : G'.Ok
  eq : ∀ c, pr c = true → κ' c = κ c ∧ pr' c = true
  by_ : ∀ x, G.tk x = true → (∀ c, pr c = true → 256 ≤ c → κ c ≠ x) → G'.by_ x = G.by_ x
  tk : ∀ x, G.tk x = true → G'.tk x = true
  new : ∀ x, G'.tk x = true → G.tk x = true ∨ ∃ c, pr' c = true ∧ pr c = false ∧ κ' c = x
theorem Grown.refl {G : GS} (h : G.Ok) (m : Nat) (pr : Nat → Bool) (κ : Nat → Nat) : Grown G G m pr pr κ κ := ⟨rfl, h, fun _ h => ⟨rfl, h⟩, fun _ _ _ => rfl, fun _ h => h, fun _ h => .inl h⟩
theorem Grown.trans {G G' G'' : GS} {m : Nat} {pr pr' pr'' : Nat → Bool} {κ κ' κ'' : Nat → Nat} (h : Grown G G' m pr pr' κ κ') (h' : Grown G' G'' m pr' pr'' κ' κ'')
    (hf : ∀ c, pr' c = true → pr c = false → G.tk (κ' c) = false) : Grown G G'' m pr pr'' κ κ'' where
  nd := h'.nd.trans h.nd
  ok := h'.ok
  eq c hc := ⟨((h'.eq c (h.eq c hc).2).1).trans (h.eq c hc).1, (h'.eq c (h.eq c hc).2).2⟩
  by_ x hx hc := by
    rw [h'.by_ x (h.tk x hx) (fun c hc1 hc2 => ?_), h.by_ x hx hc]
    cases hp : pr c with
    | true => rw [(h.eq c hp).1]; exact hc c hp hc2
    | false => intro e; have := hf c hc1 hp; rw [e, hx] at this; cases this
  tk x hx := h'.tk x (h.tk x hx)
  new x hx := by
    rcases h'.new x hx with h1 | ⟨c, h1, h2, h3⟩
    · rcases h.new x h1 with h4 | ⟨c, h4, h5, h6⟩
      · exact .inl h4
      · exact .inr ⟨c, (h'.eq c h4).2, h5, by rw [(h'.eq c h4).1]; exact h6⟩
    · refine .inr ⟨c, h1, ?_, h3⟩
      cases hp : pr c with
      | false => rfl
      | true => rw [(h.eq c hp).2] at h2; cases h2
theorem grown_add {G : GS} {m : Nat} {n : NodeV} {pr : Nat → Bool} {κ : Nat → Nat} {c p j k : Nat} (h : Tree G m n pr κ) (hG : G.Ok) (hp5 : 256 ≤ p) (hpp : pr p = true) (hnc : pr c = false) (hf : G.free m = some k) :
    Grown G ((G.take k).put (κ p) (pointB (G.by_ (κ p)) j (k + 1))) m pr (upd pr c true) κ (upd κ c k) := by
  obtain ⟨hk, hkf⟩ := free_spec hf
  refine ⟨rfl, (hG.take k).put _ (by rw [pointB_length]; exact hG.len _), fun c' h' => ?_, fun x hx hc => ?_, fun x hx => ?_, fun x hx => ?_⟩
  · have : c' ≠ c := fun e => by rw [e, hnc] at h'; cases h'
    exact ⟨upd_other _ _ this, by rw [upd_other _ _ this]; exact h'⟩
  · have h1 : x ≠ κ p := fun e => hc p hpp hp5 e.symm
    have h2 : x ≠ k := fun e => by rw [e, hkf] at hx; cases hx
    simp only [GS.put, GS.take, upd, if_neg h1, if_neg h2]
  · simp only [GS.put, GS.take, upd]
    split
    · rfl
    · exact hx
  · simp only [GS.put, GS.take, upd] at hx
    by_cases e : x = k
    · exact .inr ⟨c, upd_same _ _ _, hnc, by rw [upd_same, e]⟩
    · rw [if_neg e] at hx; exact .inl hx
theorem grown_top {G : GS} {m : Nat} {pr : Nat → Bool} {κ : Nat → Nat} {c k : Nat} (hG : G.Ok) (hnc : pr c = false) (hf : G.free m = some k) : Grown G (G.take k) m pr (upd pr c true) κ (upd κ c k) := by
  obtain ⟨hk, hkf⟩ := free_spec hf
  refine ⟨rfl, hG.take k, fun c' h' => ?_, fun x hx hc => ?_, fun x hx => ?_, fun x hx => ?_⟩
  · have : c' ≠ c := fun e => by rw [e, hnc] at h'; cases h'
    exact ⟨upd_other _ _ this, by rw [upd_other _ _ this]; exact h'⟩
  · have h2 : x ≠ k := fun e => by rw [e, hkf] at hx; cases hx
    simp only [GS.take, upd, if_neg h2]
  · simp only [GS.take, upd]
    split
    · rfl
    · exact hx
  · simp only [GS.take, upd] at hx
    by_cases e : x = k
    · exact .inr ⟨c, upd_same _ _ _, hnc, by rw [upd_same, e]⟩
    · rw [if_neg e] at hx; exact .inl hx
theorem upd_or {pr : Nat → Bool} {c x : Nat} : upd pr c true x = (pr x || decide (x = c)) := by
  unfold upd
  by_cases e : x = c <;> simp [e]
theorem go_tree {m : Nat} {n : NodeV} (hm : m ≤ 512) : ∀ (l : List (Nat × Nat)) (p : Nat) (G : GS) (pr : Nat → Bool) (κ : Nat → Nat), Tree G m n pr κ → G.Ok → pr p = true → Chain p l → (l.map (·.2)).Nodup →
    needOk m (l.map (·.1)) G (κ p + 1) ∧
    (((needGo m (l.map (·.1)) G (κ p + 1)).1 = 10 ∧ m < G.cnt m + missing pr (l.map (·.2))) ∨
      ((needGo m (l.map (·.1)) G (κ p + 1)).1 = 0 ∧ ∃ pr' κ', Tree (needGo m (l.map (·.1)) G (κ p + 1)).2.2 m n pr' κ' ∧ Grown G (needGo m (l.map (·.1)) G (κ p + 1)).2.2 m pr pr' κ κ' ∧
        (∀ c, pr' c = (pr c || decide (c ∈ l.map (·.2)))) ∧ (∀ c, pr' c = true → pr c = false → G.tk (κ' c) = false ∧ (c < 256 → (needGo m (l.map (·.1)) G (κ p + 1)).2.2.by_ (κ' c) = zeroB)) ∧ (needGo m (l.map (·.1)) G (κ p + 1)).2.1 = (p :: l.map (·.2)).map (fun c => κ' c + 1) ∧
        (needGo m (l.map (·.1)) G (κ p + 1)).2.2.cnt m = G.cnt m + missing pr (l.map (·.2))))
  | [], p, G, pr, κ, h, hG, hp, _, _ => by
    have := (h.own p hp).1
    refine ⟨by simp only [List.map_nil, needOk]; omega, .inr ⟨rfl, pr, κ, h, Grown.refl hG _ _ _, fun c => by simp, ?_, rfl, rfl⟩⟩
    intro c h1 h2
    rw [h2] at h1
    cases h1
  | (j, c) :: r, p, G, pr, κ, h, hG, hp, hch, hnd => by
    obtain ⟨hc, hpar, hch⟩ := hch
    obtain ⟨hp5, hj, hp256, hpc⟩ := par_lt hc hpar
    have hown := (h.own p hp).1
    have hsub := h.sub c p j hc hpar hp
    simp only [List.map_cons, List.nodup_cons] at hnd ⊢
    rw [needOk, needGo, missing_cons, show κ p + 1 - 1 = κ p from rfl, hsub]
    cases hpr : pr c with
    | true =>
      simp only [if_true]
      have ih := go_tree hm r c G pr κ h hG hpr hch hnd.2
      obtain ⟨ih1, ih2⟩ := ih
      refine ⟨⟨by omega, by omega, fun _ => ih1, fun e => absurd e (by omega)⟩, ?_⟩
      rw [if_neg (by omega)]
      rcases ih2 with ⟨h1, h2⟩ | ⟨h1, pr', κ', h2, h3, h4, h5, h6, h7⟩
      · exact .inl ⟨h1, by omega⟩
      · refine .inr ⟨h1, pr', κ', h2, h3, fun x => ?_, h5, ?_, by rw [h7]; omega⟩
        · rw [h4]
          by_cases e : x = c
          · subst e; simp [hpr]
          · have e2 : (x == c) = false := by simpa using e
            simp [e2]
        · simp only
          rw [h6, List.map_cons, (h3.eq p hp).1]
    | false =>
      simp only [Bool.false_eq_true, if_false]
      cases hf : G.free m with
      | none =>
        refine ⟨⟨by omega, by omega, fun e => absurd rfl e, fun _ k hk => by cases hk⟩, .inl ⟨rfl, by rw [free_full hf]; omega⟩⟩
      | some k =>
        obtain ⟨hk, hkf⟩ := free_spec hf
        have hT := h.add hG hm hc hpar hp hpr hf
        have hGr := grown_add (c := c) (j := j) h hG hp256 hp hpr hf
        have ih := go_tree hm r c _ _ _ hT hGr.ok (upd_same _ _ _) hch hnd.2
        rw [upd_same, missing_upd hnd.1, put_cnt, take_cnt hkf, if_pos hk] at ih
        obtain ⟨ih1, ih2⟩ := ih
        refine ⟨⟨by omega, by omega, fun e => absurd rfl e, fun _ k' hk' => by cases hk'; exact ih1⟩, ?_⟩
        simp only [if_true]
        have hfr : ∀ x, upd pr c true x = true → pr x = false → G.tk (upd κ c k x) = false := fun x h1 h2 => by
          simp only [upd] at h1 ⊢
          by_cases e : x = c
          · rw [if_pos e]; exact hkf
          · rw [if_neg e, h2] at h1; cases h1
        rcases ih2 with ⟨h1, h2⟩ | ⟨h1, pr', κ', h2, h3, h4, h5, h6, h7⟩
        · exact .inl ⟨h1, by omega⟩
        · refine .inr ⟨h1, pr', κ', h2, hGr.trans h3 hfr, fun x => ?_, fun x hx1 hx2 => ?_, ?_, by rw [h7]; omega⟩
          · rw [h4, upd_or]
            by_cases e : x = c
            · simp [e]
            · have e2 : (x == c) = false := by simpa using e
              simp [e2, e]
          · by_cases e : x = c
            · subst e
              rw [(h3.eq x (upd_same _ _ _)).1, upd_same]
              refine ⟨hkf, fun hx => ?_⟩
              have hkk : ((G.take k).put (κ p) (pointB (G.by_ (κ p)) j (k + 1))).tk k = true := by simp [GS.put, GS.take, upd]
              have hkp : k ≠ κ p := fun e => by have := (h.own p hp).2; rw [← e, hkf] at this; cases this
              rw [h3.by_ k hkk (fun c' hc1 hc2 => ?_)]
              · simp [GS.put, GS.take, upd, hkp]
              · intro e2
                simp only [upd] at hc1 e2
                by_cases e3 : c' = x
                · omega
                · rw [if_neg e3] at hc1 e2
                  have := (h.own c' hc1).2
                  rw [e2, hkf] at this
                  cases this
            · have hu : upd pr c true x = false := by rw [upd_other _ _ e]; exact hx2
              have := h5 x hx1 hu
              refine ⟨?_, this.2⟩
              have h8 := this.1
              simp only [GS.put, GS.take, upd] at h8
              split at h8
              · cases h8
              · exact h8
          · rw [h6, List.map_cons, (h3.eq p (by simp only [upd]; split; rfl; exact hp)).1, upd_other _ _ hpc]
end Go.Proofs.YthmkgohfeahdhaaGreat
namespace Go.Proofs.YthmkgohfeahdhaaGreat
open Go.RowKit
set_option linter.unusedSimpArgs false
set_option linter.unusedVariables false

def rootK (b : Nat) : Nat := if b < 6 then b else if b < 38 then 256 else 257
def pathL (b : Nat) : List (Nat × Nat) := if b < 6 then [] else if b < 38 then [(b - 6, b)] else [((b - 38) / 32, 258 + (b - 38) / 32), ((b - 38) % 32, b)]
/-- the blocks gone through to a file's block -/
def pathK (b : Nat) : List Nat := rootK b :: (pathL b).map (·.2)
theorem path_idx (b : Nat) : (wayOf b).idx = (pathL b).map (·.1) := by
  unfold wayOf pathL WayV.idx
  split
  · rfl
  · split <;> rfl
theorem path_chain {b : Nat} (hb : b < 256) : Chain (rootK b) (pathL b) := by
  unfold rootK pathL
  split
  · trivial
  · split
    · refine ⟨by omega, ?_, trivial⟩
      unfold par
      rw [if_neg (by omega), if_pos (by omega)]
    · refine ⟨by omega, ?_, by omega, ?_, trivial⟩
      · unfold par
        rw [if_neg (by omega), if_neg (by omega), if_neg (by omega), if_neg (by omega)]
        rw [show 258 + (b - 38) / 32 - 258 = (b - 38) / 32 from by omega]
      · unfold par
        rw [if_neg (by omega), if_neg (by omega), if_pos (by omega)]
theorem path_nodup {b : Nat} (hb : b < 256) : ((pathL b).map (·.2)).Nodup ∧ rootK b ∉ (pathL b).map (·.2) := by
  unfold rootK pathL
  split
  · simp
  · split
    · simp; omega
    · simp; omega
theorem par_root {b : Nat} (hb : b < 256) : par (rootK b) = none ∧ rootK b < 265 := by
  unfold rootK
  split
  · unfold par; rw [if_pos (by omega)]; exact ⟨rfl, by omega⟩
  · split <;> exact ⟨rfl, by omega⟩
theorem slot_root {b : Nat} (hb : b < 256) (n : NodeV) : (n.rootV (wayOf b)).toNat = n.slot (rootK b) := by
  unfold NodeV.rootV NodeV.slot wayOf rootK
  split
  · rename_i h; simp [h]
  · split
    · simp
    · simp
theorem slot_set {b k c : Nat} (hb : b < 256) {n : NodeV} (hd : n.dir.length = 6) (hk : k + 1 < 65536) (hc : c < 265) (hp : par c = none) : (n.setRoot (wayOf b) (UInt16.ofNat (k + 1))).slot c = if c = rootK b then k + 1 else n.slot c := by
  have hx : (UInt16.ofNat (k + 1)).toNat = k + 1 := by rw [UInt16.toNat_ofNat', Nat.mod_eq_of_lt (by omega)]
  have hc2 : c < 6 ∨ c = 256 ∨ c = 257 := by
    unfold par at hp
    split at hp
    · left; assumption
    · split at hp
      · cases hp
      · split at hp
        · cases hp
        · split at hp
          · right; omega
          · cases hp
  unfold NodeV.setRoot wayOf rootK
  by_cases h6 : b < 6
  · simp only [if_pos h6]
    simp only [if_true]
    unfold NodeV.slot
    rcases hc2 with h | rfl | rfl
    · simp only [if_pos h, List.getD_eq_getElem?_getD, List.getElem?_set]
      by_cases e : b = c
      · subst e; simp [hd, h6, hk]
      · have e2 : ¬ c = b := fun h => e h.symm
        simp [e, e2]
    · have e : ¬ 256 = b := by omega
      simp [e]
    · have e : ¬ 257 = b := by omega
      simp [e]
  · simp only [if_neg h6]
    by_cases h38 : b < 38
    · simp only [if_pos h38]
      unfold NodeV.slot
      rcases hc2 with h | rfl | rfl
      · have e : ¬ c = 256 := by omega
        simp [h, e]
      · simp [hk]
      · simp
    · simp only [if_neg h38]
      unfold NodeV.slot
      rcases hc2 with h | rfl | rfl
      · have e : ¬ c = 257 := by omega
        simp [h, e]
      · simp
      · simp [hk]
theorem lastP_path (b : Nat) (f : Nat → Nat) : lastP ((pathK b).map f) = f b := by
  unfold lastP pathK rootK pathL
  split
  · rfl
  · split <;> rfl
/-- a node but for its pointers -/
def NodeV.same (n n' : NodeV) : Prop := n'.kind = n.kind ∧ n'.links = n.links ∧ n'.gen = n.gen ∧ n'.size = n.size
theorem setRoot_same (n : NodeV) (v : WayV) (x : UInt16) : n.same (n.setRoot v x) := by
  unfold NodeV.setRoot NodeV.same
  split
  · exact ⟨rfl, rfl, rfl, rfl⟩
  · split <;> exact ⟨rfl, rfl, rfl, rfl⟩
/-- getting a file's block -/
theorem need_tree {G : GS} {m b : Nat} {n : NodeV} {pr : Nat → Bool} {κ : Nat → Nat} (hm : m ≤ 512) (hb : b < 256) (h : Tree G m n pr κ) (hG : G.Ok) :
    needROk m n (wayOf b) G ∧ ∀ e V G' n', needR m n (wayOf b) G = (e, V, G', n') →
      (e = 10 ∧ m < G.cnt m + missing pr (pathK b)) ∨
      (e = 0 ∧ ∃ pr' κ', Tree G' m n' pr' κ' ∧ Grown G G' m pr pr' κ κ' ∧ (∀ c, pr' c = (pr c || decide (c ∈ pathK b))) ∧ (∀ c, pr' c = true → pr c = false → G.tk (κ' c) = false ∧ (c < 256 → G'.by_ (κ' c) = zeroB)) ∧ V = (pathK b).map (fun c => κ' c + 1) ∧ G'.cnt m = G.cnt m + missing pr (pathK b) ∧ n.same n') := by
  obtain ⟨hr1, hr2⟩ := par_root hb
  have hch := path_chain hb
  obtain ⟨hnd, hni⟩ := path_nodup hb
  have htop := h.top _ hr2 hr1
  unfold needROk needR pathK
  rw [slot_root hb, htop, path_idx, missing_cons]
  cases hpr : pr (rootK b) with
  | true =>
    simp only [if_true]
    have ih := go_tree hm (pathL b) (rootK b) G pr κ h hG hpr hch hnd
    rw [if_neg (by omega), if_neg (by omega)]
    refine ⟨ih.1, fun e V G' n' he => ?_⟩
    simp only [Prod.mk.injEq] at he
    obtain ⟨h1, h2, h3, h4⟩ := he
    rw [h1, h2, h3] at ih
    subst h4
    rcases ih.2 with ⟨k1, k2⟩ | ⟨k1, pr', κ', k2, k3, k4, k5, k6, k7⟩
    · exact .inl ⟨k1, by omega⟩
    · refine .inr ⟨k1, pr', κ', k2, k3, fun x => ?_, k5, k6, by omega, rfl, rfl, rfl, rfl⟩
      rw [k4]
      by_cases e : x = rootK b
      · rw [e, hpr]; simp
      · have e2 : (x == rootK b) = false := by simpa using e
        simp [e2]
  | false =>
    simp only [Bool.false_eq_true, if_false, if_true]
    refine ⟨fun k hk => ?_, fun e V G' n' he => ?_⟩
    · obtain ⟨hkm, hkf⟩ := free_spec hk
      have hT := h.addTop (n' := n.setRoot (wayOf b) (UInt16.ofNat (k + 1))) hr2 hr1 hpr hk (by rw [NodeV.setRoot_dir]; exact h.dir) (fun c' h1 h2 => slot_set hb h.dir (by omega) h1 h2)
      have ih := go_tree hm (pathL b) (rootK b) _ _ _ hT (hG.take k) (upd_same _ _ _) hch hnd
      rw [upd_same] at ih
      exact ih.1
    · cases hf : G.free m with
      | none =>
        rw [hf] at he
        simp only [Prod.mk.injEq] at he
        exact .inl ⟨he.1.symm, by rw [free_full hf]; omega⟩
      | some k =>
        rw [hf] at he
        simp only [Prod.mk.injEq] at he
        obtain ⟨h1, h2, h3, h4⟩ := he
        obtain ⟨hkm, hkf⟩ := free_spec hf
        have hT := h.addTop (n' := n.setRoot (wayOf b) (UInt16.ofNat (k + 1))) hr2 hr1 hpr hf (by rw [NodeV.setRoot_dir]; exact h.dir) (fun c' h1 h2 => slot_set hb h.dir (by omega) h1 h2)
        have hGr := grown_top (κ := κ) hG hpr hf
        have ih := go_tree hm (pathL b) (rootK b) _ _ _ hT (hG.take k) (upd_same _ _ _) hch hnd
        rw [upd_same, missing_upd hni, take_cnt hkf, if_pos hkm, h1, h2, h3] at ih
        subst h4
        have hfr : ∀ x, upd pr (rootK b) true x = true → pr x = false → G.tk (upd κ (rootK b) k x) = false := fun x h1 h2 => by
          simp only [upd] at h1 ⊢
          by_cases e : x = rootK b
          · rw [if_pos e]; exact hkf
          · rw [if_neg e, h2] at h1; cases h1
        rcases ih.2 with ⟨k1, k2⟩ | ⟨k1, pr', κ', k2, k3, k4, k5, k6, k7⟩
        · exact .inl ⟨k1, by omega⟩
        · refine .inr ⟨k1, pr', κ', k2, hGr.trans k3 hfr, fun x => ?_, fun x hx1 hx2 => ?_, k6, by omega, setRoot_same _ _ _⟩
          · rw [k4, upd_or]
            by_cases e : x = rootK b
            · simp [e]
            · have e2 : (x == rootK b) = false := by simpa using e
              simp [e2, e]
          · by_cases e : x = rootK b
            · subst e
              rw [(k3.eq _ (upd_same _ _ _)).1, upd_same]
              refine ⟨hkf, fun hx => ?_⟩
              have hkk : (G.take k).tk k = true := by simp [GS.take, upd]
              rw [k3.by_ k hkk (fun c' hc1 hc2 => ?_)]
              · simp [GS.take, upd]
              · intro e2
                simp only [upd] at hc1 e2
                by_cases e3 : c' = rootK b
                · omega
                · rw [if_neg e3] at hc1 e2
                  have := (h.own c' hc1).2
                  rw [e2, hkf] at this
                  cases this
            · have hu : upd pr (rootK b) true x = false := by rw [upd_other _ _ e]; exact hx2
              have := k5 x hx1 hu
              refine ⟨?_, this.2⟩
              have h8 := this.1
              simp only [GS.take, upd] at h8
              split at h8
              · cases h8
              · exact h8
end Go.Proofs.YthmkgohfeahdhaaGreat
namespace Go.Proofs.YthmkgohfeahdhaaGreat
open Go.RowKit
set_option linter.unusedSimpArgs false
set_option linter.unusedVariables false

/-- the blocks of a file of so many data blocks -/
def prOf (c k : Nat) : Bool := decide (k < c ∨ (k = 256 ∧ 6 < c) ∨ (k = 257 ∧ 38 < c) ∨ (258 ≤ k ∧ k < 265 ∧ 38 + 32 * (k - 258) < c))
/-- how many -/
def nkeys (c : Nat) : Nat := c + (if 6 < c then 1 else 0) + (if 38 < c then 1 + (c - 38 + 31) / 32 else 0)
theorem pathK_eq (b : Nat) : pathK b = if b < 6 then [b] else if b < 38 then [256, b] else [257, 258 + (b - 38) / 32, b] := by
  unfold pathK rootK pathL
  split
  · rfl
  · split <;> rfl
theorem pr_old {b c : Nat} (hb : b < c) (hc : c ≤ 256) : ∀ k ∈ pathK b, prOf c k = true := by
  intro k hk
  rw [pathK_eq] at hk
  unfold prOf
  rw [decide_eq_true_iff]
  split at hk
  · simp at hk; omega
  · split at hk
    · simp at hk; omega
    · simp at hk; omega
theorem pr_new {c : Nat} (hc : c < 256) (k : Nat) : prOf (c + 1) k = (prOf c k || decide (k ∈ pathK c)) := by
  rw [Bool.eq_iff_iff, Bool.or_eq_true, pathK_eq]
  unfold prOf
  rw [decide_eq_true_iff, decide_eq_true_iff, decide_eq_true_iff]
  split
  · simp; omega
  · split
    · simp; omega
    · simp; omega
theorem missing_zero {pr : Nat → Bool} {l : List Nat} (h : ∀ k ∈ l, pr k = true) : missing pr l = 0 := by
  unfold missing
  rw [List.filter_eq_nil_iff.2 (fun x hx => by simp [h x hx])]
  rfl
theorem missing_new {c : Nat} (hc : c < 256) : nkeys c + missing (prOf c) (pathK c) = nkeys (c + 1) := by
  have hcc : prOf c c = false := by unfold prOf; rw [decide_eq_false_iff_not]; omega
  rw [pathK_eq]
  unfold nkeys
  have hm0 : missing (prOf c) [] = 0 := rfl
  by_cases h6 : c < 6
  · have a1 : ¬ 6 < c := by omega
    have a2 : ¬ 6 < c + 1 := by omega
    have a3 : ¬ 38 < c := by omega
    have a4 : ¬ 38 < c + 1 := by omega
    rw [if_pos h6, missing_cons, hm0, hcc, if_neg a1, if_neg a2, if_neg a3, if_neg a4]
    simp
  · rw [if_neg h6]
    by_cases h38 : c < 38
    · have e : prOf c 256 = decide (6 < c) := by
        unfold prOf
        rw [Bool.eq_iff_iff, decide_eq_true_iff, decide_eq_true_iff]
        omega
      have a2 : 6 < c + 1 := by omega
      have a3 : ¬ 38 < c := by omega
      have a4 : ¬ 38 < c + 1 := by omega
      rw [if_pos h38, missing_cons, missing_cons, hm0, hcc, e, if_pos a2, if_neg a3, if_neg a4]
      by_cases h : 6 < c
      · rw [if_pos h]; simp [h]
      · rw [if_neg h]; simp [h]
    · have e : prOf c 257 = decide (38 < c) := by
        unfold prOf
        rw [Bool.eq_iff_iff, decide_eq_true_iff, decide_eq_true_iff]
        omega
      have e2 : prOf c (258 + (c - 38) / 32) = decide (38 + 32 * ((c - 38) / 32) < c) := by
        unfold prOf
        rw [Bool.eq_iff_iff, decide_eq_true_iff, decide_eq_true_iff]
        omega
      have a1 : 6 < c := by omega
      have a2 : 6 < c + 1 := by omega
      have a4 : 38 < c + 1 := by omega
      rw [if_neg h38, missing_cons, missing_cons, missing_cons, hm0, hcc, e, e2, if_pos a1, if_pos a2, if_pos a4]
      by_cases h : 38 < c
      · rw [if_pos h]
        by_cases h2 : 38 + 32 * ((c - 38) / 32) < c
        · simp [h, h2]; omega
        · simp [h, h2]; omega
      · have h2 : ¬ 38 + 32 * ((c - 38) / 32) < c := by omega
        rw [if_neg h]
        simp [h, h2]; omega
theorem blk_tree {G : GS} {m : Nat} {n : NodeV} {pr : Nat → Bool} {κ : Nat → Nat} (h : Tree G m n pr κ) : ∀ (l : List (Nat × Nat)) (p : Nat), pr p = true → Chain p l → (∀ k ∈ l.map (·.2), pr k = true) →
    blkOk G m (l.map (·.1)) (κ p + 1) ∧ blkGo G (l.map (·.1)) (κ p + 1) = κ (((p :: l.map (·.2)).getLast?).getD 0) + 1
  | [], p, hp, _, _ => ⟨trivial, rfl⟩
  | (j, c) :: r, p, hp, hch, hall => by
    obtain ⟨hc, hpar, hch⟩ := hch
    have hpc : pr c = true := hall c (by simp)
    have hsub := h.sub c p j hc hpar hp
    rw [hpc, if_pos rfl] at hsub
    have ih := blk_tree h r c hpc hch (fun k hk => hall k (by simp at hk ⊢; exact .inr hk))
    have hown := (h.own p hp).1
    simp only [List.map_cons]
    rw [blkOk, blkGo, show κ p + 1 - 1 = κ p from rfl, hsub, if_neg (by omega)]
    refine ⟨fun _ => ⟨by omega, ih.1⟩, ?_⟩
    rw [ih.2]
    simp
theorem tree_data {G : GS} {m b : Nat} {n : NodeV} {pr : Nat → Bool} {κ : Nat → Nat} (hb : b < 256) (h : Tree G m n pr κ) (hp : ∀ k ∈ pathK b, pr k = true) : Rdy G m n b ∧ dataP G n b = κ b + 1 := by
  obtain ⟨hr1, hr2⟩ := par_root hb
  have hpr : pr (rootK b) = true := hp _ (by simp [pathK])
  have hbt := blk_tree h (pathL b) (rootK b) hpr (path_chain hb) (fun k hk => hp k (by unfold pathK; exact List.mem_cons_of_mem _ hk))
  have htop := h.top _ hr2 hr1
  rw [hpr, if_pos rfl] at htop
  have hlast : ((rootK b :: (pathL b).map (·.2)).getLast?).getD 0 = b := by
    have := lastP_path b id
    unfold lastP pathK at this
    simpa using this
  have hd : dataP G n b = κ b + 1 := by
    unfold dataP
    rw [slot_root hb, htop, path_idx, hbt.2, hlast]
  have hbm : b ∈ pathK b := by rw [pathK_eq]; split; simp; split <;> simp
  have hown := (h.own b (hp b hbm)).1
  refine ⟨⟨?_, by omega, by omega⟩, hd⟩
  rw [slot_root hb, htop, path_idx]
  exact hbt.1
/-- a data block's bytes change -/
theorem Tree.putData {G : GS} {m : Nat} {n : NodeV} {pr : Nat → Bool} {κ : Nat → Nat} (h : Tree G m n pr κ) {b : Nat} (hb : b < 256) (hp : pr b = true) (x : BlkV) : Tree (G.put (κ b) x) m n pr κ where
  dir := h.dir
  rng := h.rng
  cls := h.cls
  top := h.top
  sub c p j hc hpar hpp := by
    have h1 := (par_lt hc hpar).2.2.1
    have h2 : κ p ≠ κ b := fun e => by have := h.inj p b hpp hp e; omega
    have : (G.put (κ b) x).by_ (κ p) = G.by_ (κ p) := upd_other _ _ h2
    rw [this]
    exact h.sub c p j hc hpar hpp
  own := h.own
  inj := h.inj
/-- what is done to a file leaves of a group's other blocks -/
structure Kept (G G' : GS) (pr pr' : Nat → Bool) (κ κ' : Nat → Nat) : Prop where
  nd : G'.nd = G.nd
  ok : G'.Ok
  eq : ∀ c, pr c = true → κ' c = κ c ∧ pr' c = true
  by_ : ∀ x, G.tk x = true → (∀ c, pr c = true → κ c ≠ x) → G'.by_ x = G.by_ x
  tk : ∀ x, G.tk x = true → G'.tk x = true
  new : ∀ x, G'.tk x = true → G.tk x = true ∨ ∃ c, pr' c = true ∧ pr c = false ∧ κ' c = x
theorem Kept.refl {G : GS} (h : G.Ok) (pr : Nat → Bool) (κ : Nat → Nat) : Kept G G pr pr κ κ := ⟨rfl, h, fun _ h => ⟨rfl, h⟩, fun _ _ _ => rfl, fun _ h => h, fun _ h => .inl h⟩
theorem Kept.grown {G G' G'' : GS} {m : Nat} {pr pr' pr'' : Nat → Bool} {κ κ' κ'' : Nat → Nat} (h : Kept G G' pr pr' κ κ') (ht : ∀ c, pr' c = true → pr c = false → G.tk (κ' c) = false) (h' : Grown G' G'' m pr' pr'' κ' κ'') : Kept G G'' pr pr'' κ κ'' where
  nd := h'.nd.trans h.nd
  ok := h'.ok
  eq c hc := ⟨((h'.eq c (h.eq c hc).2).1).trans (h.eq c hc).1, (h'.eq c (h.eq c hc).2).2⟩
  by_ x hx hc := by
    rw [h'.by_ x (h.tk x hx) (fun c hc1 hc2 => ?_), h.by_ x hx hc]
    cases hp : pr c with
    | true => rw [(h.eq c hp).1]; exact hc c hp
    | false => intro e; have := ht c hc1 hp; rw [e, hx] at this; cases this
  tk x hx := h'.tk x (h.tk x hx)
  new x hx := by
    rcases h'.new x hx with h1 | ⟨c, h1, h2, h3⟩
    · rcases h.new x h1 with h4 | ⟨c, h4, h5, h6⟩
      · exact .inl h4
      · exact .inr ⟨c, (h'.eq c h4).2, h5, by rw [(h'.eq c h4).1]; exact h6⟩
    · refine .inr ⟨c, h1, ?_, h3⟩
      cases hp : pr c with
      | false => rfl
      | true => rw [(h.eq c hp).2] at h2; cases h2
theorem Kept.put {G G' : GS} {pr pr' : Nat → Bool} {κ κ' : Nat → Nat} (h : Kept G G' pr pr' κ κ') (ht : ∀ c, pr' c = true → pr c = false → G.tk (κ' c) = false) {b : Nat} (hp : pr' b = true) {x : BlkV} (hx : x.length = 64) : Kept G (G'.put (κ' b) x) pr pr' κ κ' where
  nd := h.nd
  ok := h.ok.put _ hx
  eq := h.eq
  by_ y hy hc := by
    have : y ≠ κ' b := fun e => by
      cases hpb : pr b with
      | true => exact hc b hpb (by rw [← (h.eq b hpb).1]; exact e.symm)
      | false => have := ht b hp hpb; rw [← e, hy] at this; cases this
    exact (upd_other _ _ this).trans (h.by_ y hy hc)
  tk := h.tk
  new := h.new
end Go.Proofs.YthmkgohfeahdhaaGreat
namespace Go.Proofs.YthmkgohfeahdhaaGreat
open Go.RowKit
set_option linter.unusedSimpArgs false
set_option linter.unusedVariables false

/-- a file lies in a group: so many data blocks, where they are, so many bytes -/
structure FileAt (G : GS) (m : Nat) (n : NodeV) (c : Nat) (κ : Nat → Nat) (len : Nat) (f : Nat → UInt8) : Prop where
  tree : Tree G m n (prOf c) κ
  cle : c ≤ 256
  fit : len ≤ 64 * c
  byte : ∀ j, j < len → (G.by_ (κ (j / 64))).getD (j % 64) 0 = f j
/-- so many blocks a length takes -/
def blks (len : Nat) : Nat := (len + 63) / 64
theorem FileAt.rdy {G : GS} {m c len : Nat} {n : NodeV} {κ : Nat → Nat} {f : Nat → UInt8} (h : FileAt G m n c κ len f) {b : Nat} (hb : b < c) : Rdy G m n b ∧ dataP G n b = κ b + 1 :=
  tree_data (by have := h.cle; omega) h.tree (pr_old hb h.cle)
theorem FileAt.fbyte {G : GS} {m c len : Nat} {n : NodeV} {κ : Nat → Nat} {f : Nat → UInt8} (h : FileAt G m n c κ len f) {j : Nat} (hj : j < len) : fbyte G n j = f j := by
  have := h.fit
  unfold Go.Proofs.YthmkgohfeahdhaaGreat.fbyte
  rw [(h.rdy (b := j / 64) (by omega)).2]
  exact h.byte j hj
theorem FileAt.bytes {G : GS} {m c len : Nat} {n : NodeV} {κ : Nat → Nat} {f : Nat → UInt8} (h : FileAt G m n c κ len f) {off l : Nat} (hl : off + l ≤ len) : fbytes G n off l = (List.range l).map fun k => f (off + k) := by
  unfold fbytes
  apply List.map_congr_left
  intro k hk
  exact h.fbyte (by have := List.mem_range.1 hk; omega)
/-- bytes written into bytes, at each place -/
def over (f : Nat → UInt8) (off : Nat) (data : List UInt8) (a j : Nat) : UInt8 := if off ≤ j ∧ j < off + a then data.getD (j - off) 0 else f j
/-- the blocks that may be touched, from one of data on -/
def tkeys (lo n : Nat) : List Nat := 256 :: 257 :: (258 + (lo - 38) / 32) :: (258 + (lo - 38) / 32 + 1) :: (List.range n).map fun k => lo + k
def KL (g : GeoN) (K0 : List Nat) (lo n c : Nat) (κ : Nat → Nat) : List Nat := K0 ++ g.base :: ((tkeys lo n).filter (prOf c)).map fun k => g.data + κ k
theorem tkeys_path {lo n b : Nat} (h1 : lo ≤ b) (h2 : b < lo + n) (hn : n ≤ 32) : ∀ k ∈ pathK b, k ∈ tkeys lo n := by
  have hb : ∀ k, k = b → k ∈ (List.range n).map (fun k => lo + k) := fun k hk => List.mem_map.2 ⟨b - lo, List.mem_range.2 (by omega), by omega⟩
  intro k hk
  rw [pathK_eq] at hk
  unfold tkeys
  simp only [List.mem_cons]
  split at hk
  · simp only [List.mem_cons, List.not_mem_nil, or_false] at hk
    exact .inr (.inr (.inr (.inr (hb k hk))))
  · split at hk
    · simp only [List.mem_cons, List.not_mem_nil, or_false] at hk
      rcases hk with hk | hk
      · exact .inl hk
      · exact .inr (.inr (.inr (.inr (hb k hk))))
    · simp only [List.mem_cons, List.not_mem_nil, or_false] at hk
      rcases hk with hk | hk | hk
      · exact .inr (.inl hk)
      · have : k = 258 + (lo - 38) / 32 ∨ k = 258 + (lo - 38) / 32 + 1 := by omega
        rcases this with h | h
        · exact .inr (.inr (.inl h))
        · exact .inr (.inr (.inr (.inl h)))
      · exact .inr (.inr (.inr (.inr (hb k hk))))
theorem tkeys_more {lo n n' : Nat} (h : n ≤ n') : ∀ k ∈ tkeys lo n, k ∈ tkeys lo n' := by
  intro k hk
  unfold tkeys at hk ⊢
  simp only [List.mem_cons, List.mem_map, List.mem_range] at hk ⊢
  rcases hk with hk | hk | hk | hk | ⟨j, hj, e⟩
  · exact .inl hk
  · exact .inr (.inl hk)
  · exact .inr (.inr (.inl hk))
  · exact .inr (.inr (.inr (.inl hk)))
  · exact .inr (.inr (.inr (.inr ⟨j, by omega, e⟩)))
theorem KL_length (g : GeoN) (K0 : List Nat) (lo n c : Nat) (κ : Nat → Nat) : (KL g K0 lo n c κ).length ≤ K0.length + 1 + (if c ≤ 38 then 1 else 4) + n := by
  unfold KL
  rw [List.length_append, List.length_cons, List.length_map]
  have h1 : ((tkeys lo n).filter (prOf c)).length ≤ (if c ≤ 38 then 1 else 4) + n := by
    unfold tkeys
    have hl := List.length_filter_le (prOf c) ((List.range n).map fun k => lo + k)
    rw [List.length_map, List.length_range] at hl
    by_cases h : c ≤ 38
    · have e1 : prOf c 257 = false := by unfold prOf; rw [decide_eq_false_iff_not]; omega
      have e2 : prOf c (258 + (lo - 38) / 32) = false := by unfold prOf; rw [decide_eq_false_iff_not]; omega
      have e3 : prOf c (258 + (lo - 38) / 32 + 1) = false := by unfold prOf; rw [decide_eq_false_iff_not]; omega
      rw [if_pos h]
      simp only [List.filter_cons, e1, e2, e3]
      cases prOf c 256 <;> simp <;> omega
    · rw [if_neg h]
      simp only [List.filter_cons]
      cases prOf c 256 <;> cases prOf c 257 <;> cases prOf c (258 + (lo - 38) / 32) <;> cases prOf c (258 + (lo - 38) / 32 + 1) <;> simp <;> omega
  omega
theorem KL_more {g : GeoN} {K0 : List Nat} {lo n n' c c' : Nat} {κ κ' : Nat → Nat} (hn : n ≤ n') (he : ∀ k, prOf c k = true → κ' k = κ k ∧ prOf c' k = true) : ∀ x ∈ KL g K0 lo n c κ, x ∈ KL g K0 lo n' c' κ' := by
  intro x hx
  unfold KL at hx ⊢
  simp only [List.mem_append, List.mem_cons, List.mem_map, List.mem_filter] at hx ⊢
  rcases hx with hx | hx | ⟨k, ⟨h1, h2⟩, h3⟩
  · exact .inl hx
  · exact .inr (.inl hx)
  · exact .inr (.inr ⟨k, ⟨tkeys_more hn k h1, (he k h2).2⟩, by rw [(he k h2).1]; exact h3⟩)
theorem needL_KL {g : GeoN} {K0 : List Nat} {lo n n' c c' b : Nat} {κ κ' : Nat → Nat} (hn : n ≤ n') (he : ∀ k, prOf c k = true → κ' k = κ k ∧ prOf c' k = true) (h1 : lo ≤ b) (h2 : b < lo + n') (h32 : n' ≤ 32) (hp : ∀ k ∈ pathK b, prOf c' k = true) :
    ∀ x ∈ needL g (KL g K0 lo n c κ) ((pathK b).map fun k => κ' k + 1), x ∈ KL g K0 lo n' c' κ' := by
  intro x hx
  simp only [needL, List.mem_append, List.mem_cons, List.mem_map] at hx
  rcases hx with hx | hx | ⟨p, ⟨k, hk, rfl⟩, hx⟩
  · exact KL_more hn he x hx
  · unfold KL; rw [hx]; simp
  · unfold KL
    simp only [List.mem_append, List.mem_cons, List.mem_map, List.mem_filter]
    exact .inr (.inr ⟨k, ⟨tkeys_path h1 h2 h32 k hk, hp k hk⟩, by omega⟩)
theorem wrB_getD {bs l : List UInt8} {a j : Nat} (h : a + l.length ≤ bs.length) : (wrB bs a l).getD j 0 = if a ≤ j ∧ j < a + l.length then l.getD (j - a) 0 else bs.getD j 0 := by
  have ht : (bs.take a).length = a := by rw [List.length_take]; omega
  unfold wrB
  simp only [List.getD_eq_getElem?_getD]
  by_cases h1 : j < a
  · rw [if_neg (by omega), List.append_assoc, List.getElem?_append_left (by omega), List.getElem?_take, if_pos h1]
  · by_cases h2 : j < a + l.length
    · rw [if_pos ⟨by omega, h2⟩, List.append_assoc, List.getElem?_append_right (by omega), ht, List.getElem?_append_left (by omega)]
    · rw [if_neg (by omega), List.getElem?_append_right (by simp only [List.length_append]; omega), List.getElem?_drop]
      congr 2
      simp only [List.length_append]
      omega
theorem nkeys_mono {a b : Nat} (h : a ≤ b) : nkeys a ≤ nkeys b := by
  unfold nkeys
  by_cases h1 : 6 < a <;> by_cases h2 : 38 < a <;> by_cases h3 : 6 < b <;> by_cases h4 : 38 < b <;> simp only [h1, h2, h3, h4, if_true, if_false] <;> omega
/-- how far writing has come -/
structure WrAt (G0 : GS) (m : Nat) (n0 : NodeV) (c sz : Nat) (κ0 : Nat → Nat) (f : Nat → UInt8) (off : Nat) (data : List UInt8) (g : GeoN) (K0 : List Nat) (a : Nat) (G : GS) (n : NodeV) (K : List Nat) (κ : Nat → Nat) : Prop where
  file : FileAt G m n (max c (blks (off + a))) κ (max sz (off + a)) (over f off data a)
  kept : Kept G0 G (prOf c) (prOf (max c (blks (off + a)))) κ0 κ
  fresh : ∀ k, prOf (max c (blks (off + a))) k = true → prOf c k = false → G0.tk (κ k) = false
  same : n0.same n
  cnt : G.cnt m + nkeys c = G0.cnt m + nkeys (max c (blks (off + a)))
  keys : K = KL g K0 (off / 64) (blks (off + a) - off / 64) (max c (blks (off + a))) κ
  al : a = data.length ∨ a = 0 ∨ (off + a) % 64 = 0
  ale : a ≤ data.length
theorem NodeV.same.trans {a b c : NodeV} (h : a.same b) (h' : b.same c) : a.same c := ⟨h'.1.trans h.1, h'.2.1.trans h.2.1, h'.2.2.1.trans h.2.2.1, h'.2.2.2.trans h.2.2.2⟩
theorem wr_step {G0 G : GS} {m c sz off a : Nat} {n0 n : NodeV} {κ0 κ : Nat → Nat} {f : Nat → UInt8} {data : List UInt8} {g : GeoN} {K0 K : List Nat} (h : WrAt G0 m n0 c sz κ0 f off data g K0 a G n K κ) (ha : a < data.length)
    (hm : m ≤ 512) (h32 : blks (off + data.length) - off / 64 ≤ 32) (hl : off + data.length ≤ 16384) (hos : off ≤ sz) (hsc : sz ≤ 64 * c) :
    needROk m n (wayOf ((off + a) / 64)) G ∧ ∀ e V G1 n1, needR m n (wayOf ((off + a) / 64)) G = (e, V, G1, n1) →
      (e ≠ 0 → e = 10 ∧ m + nkeys c < G0.cnt m + nkeys (max c (blks (off + data.length)))) ∧
      (e = 0 → 1 ≤ lastP V ∧ lastP V ≤ m ∧ lastP V ∈ V ∧ ∃ K' κ', (∀ x ∈ needL g K V, x ∈ K') ∧ WrAt G0 m n0 c sz κ0 f off data g K0 (a + wrK off data.length a) (wrG G1 off data a (lastP V)) n1 K' κ') := by
  have hb256 : (off + a) / 64 < 256 := by omega
  obtain ⟨hok, hres⟩ := need_tree hm hb256 h.file.tree h.kept.ok
  refine ⟨hok, fun e V G1 n1 he => ?_⟩
  obtain ⟨C, hC⟩ : ∃ C, max c (blks (off + a)) = C := ⟨_, rfl⟩
  obtain ⟨kk, hkk⟩ : ∃ kk, wrK off data.length a = kk := ⟨_, rfl⟩
  obtain ⟨C', hC'⟩ : ∃ C', max c (blks (off + (a + kk))) = C' := ⟨_, rfl⟩
  have hk2 : kk = min (64 - (off + a) % 64) (data.length - a) := by rw [← hkk]; rfl
  have hbC : (off + a) / 64 ≤ C := by
    rcases h.al with h1 | h1 | h1 <;> unfold blks at hC <;> omega
  have hcase : ((off + a) / 64 < C ∧ C' = C) ∨ ((off + a) / 64 = C ∧ C' = C + 1 ∧ (off + a) % 64 = 0) := by
    unfold blks at hC hC'
    rcases h.al with h1 | h1 | h1
    · omega
    · rcases Nat.lt_or_ge ((off + a) / 64) C with h2 | h2
      · left; omega
      · right; omega
    · rcases Nat.lt_or_ge ((off + a) / 64) C with h2 | h2
      · left; omega
      · right; omega
  have hC256 : C' ≤ 256 := by
    have := h.file.cle
    rw [hC] at this
    rcases hcase with h1 | h1 <;> omega
  have hCm : C' ≤ max c (blks (off + data.length)) := by unfold blks at hC' ⊢; omega
  have hmiss : missing (prOf C) (pathK ((off + a) / 64)) + nkeys C = nkeys C' := by
    rcases hcase with ⟨h1, h2⟩ | ⟨h1, h2, -⟩
    · rw [missing_zero (pr_old h1 (by omega)), h2]; omega
    · rw [h1, h2]; have := missing_new (c := C) (by omega); omega
  have hpr : ∀ k, prOf C' k = (prOf C k || decide (k ∈ pathK ((off + a) / 64))) := fun k => by
    rcases hcase with ⟨h1, h2⟩ | ⟨h1, h2, -⟩
    · rw [h2]
      by_cases hk : k ∈ pathK ((off + a) / 64)
      · rw [pr_old h1 (by omega) k hk]; rfl
      · simp [hk]
    · rw [h1, h2]; exact pr_new (by omega) k
  have hcnt := h.cnt
  have hfile := h.file
  have hfresh := h.fresh
  have hkept := h.kept
  have hkeys := h.keys
  rw [hC] at hres hcnt hfile hfresh hkept hkeys
  obtain ⟨b, hb⟩ : ∃ b, (off + a) / 64 = b := ⟨_, rfl⟩
  rw [hb] at hres hcase hmiss hpr hbC hb256 he
  rcases hres e V G1 n1 he with ⟨h1, h2⟩ | ⟨h1, pr', κ1, hT, hgr, hp', hnew, hV, hc1, hsame⟩
  · refine ⟨fun _ => ⟨h1, ?_⟩, fun h0 => by omega⟩
    have hcl := cnt_le_ G m
    have := nkeys_mono hCm
    omega
  · refine ⟨fun h0 => absurd h1 h0, fun _ => ?_⟩
    have hpe : pr' = prOf C' := by funext k; rw [hp', hpr]
    subst hpe
    have hbK : b ∈ pathK b := by rw [pathK_eq]; split; simp; split <;> simp
    have hpb : prOf C' b = true := by rw [hpr]; simp [hbK]
    have hlast : lastP V = κ1 b + 1 := by rw [hV, lastP_path]
    have hown := (hT.own b hpb).1
    have hbl : (G1.by_ (κ1 b)).length = 64 := hgr.ok.len _
    have hchl : ((data.drop a).take kk).length = kk := by rw [List.length_take, List.length_drop]; omega
    have hwl : (wrB (G1.by_ (κ1 b)) ((off + a) % 64) ((data.drop a).take kk)).length = 64 := by rw [wrB_length (by rw [hchl]; omega)]; exact hbl
    have hwg : wrG G1 off data a (lastP V) = G1.put (κ1 b) (wrB (G1.by_ (κ1 b)) ((off + a) % 64) ((data.drop a).take kk)) := by unfold wrG; rw [hlast, hkk]; rfl
    have hfr2 : ∀ k, prOf C' k = true → prOf c k = false → G0.tk (κ1 k) = false := fun k k1 k2 => by
      cases hx : prOf C k with
      | true => rw [(hgr.eq k hx).1]; exact hfresh k hx k2
      | false =>
        have := (hnew k k1 hx).1
        cases hy : G0.tk (κ1 k) with
        | false => rfl
        | true => rw [hkept.tk _ hy] at this; cases this
    have hk1 := hkept.grown hfresh hgr
    have hold : ∀ q, q < C → G1.by_ (κ1 q) = G.by_ (κ q) := fun q hq => by
      have hpq : prOf C q = true := by unfold prOf; rw [decide_eq_true_iff]; exact .inl hq
      rw [(hgr.eq q hpq).1]
      exact hgr.by_ _ ((hfile.tree.own q hpq).2) (fun k k1 k2 e => by have := hfile.tree.inj k q k1 hpq e; omega)
    refine ⟨by omega, by omega, by rw [hlast, hV]; exact List.mem_map.2 ⟨b, hbK, rfl⟩, KL g K0 (off / 64) (blks (off + (a + kk)) - off / 64) C' κ1, κ1, ?_, ?_⟩
    · rw [hkeys, hV]
      refine needL_KL (by unfold blks; omega) (fun k hk => hgr.eq k hk) (by omega) ?_ (by unfold blks at h32 ⊢; omega) (fun k hk => by rw [hpr]; simp [hk])
      unfold blks
      omega
    · rw [hwg, hkk]
      refine ⟨⟨?_, ?_, ?_, fun j hj => ?_⟩, ?_, ?_, h.same.trans hsame, ?_, ?_, ?_, by omega⟩
      · rw [hC']; exact hT.putData hb256 hpb _
      · rw [hC']; exact hC256
      · rw [hC']; unfold blks at hC'; omega
      · have hj64 : j / 64 < C' := by unfold blks at hC'; omega
        have hpj : prOf C' (j / 64) = true := by unfold prOf; rw [decide_eq_true_iff]; exact .inl hj64
        by_cases hjb : j / 64 = b
        · rw [hjb]
          have e1 : (G1.put (κ1 b) (wrB (G1.by_ (κ1 b)) ((off + a) % 64) ((data.drop a).take kk))).by_ (κ1 b) = wrB (G1.by_ (κ1 b)) ((off + a) % 64) ((data.drop a).take kk) := upd_same _ _ _
          rw [e1, wrB_getD (by rw [hchl]; omega), hchl]
          unfold over
          by_cases hin : (off + a) % 64 ≤ j % 64 ∧ j % 64 < (off + a) % 64 + kk
          · rw [if_pos hin, if_pos (by omega)]
            simp only [List.getD_eq_getElem?_getD]
            rw [List.getElem?_take, if_pos (by omega), List.getElem?_drop]
            congr 2
            omega
          · rw [if_neg hin]
            rcases hcase with ⟨k1, k2⟩ | ⟨k1, k2, k3⟩
            · rw [hold b k1, ← hjb, hfile.byte j (by omega)]
              unfold over
              by_cases hx : off ≤ j ∧ j < off + a
              · rw [if_pos hx, if_pos (by omega)]
              · rw [if_neg hx, if_neg (by omega)]
            · exfalso; omega
        · have hne : κ1 (j / 64) ≠ κ1 b := fun e => hjb (hT.inj _ _ hpj hpb e)
          have e1 : (G1.put (κ1 b) (wrB (G1.by_ (κ1 b)) ((off + a) % 64) ((data.drop a).take kk))).by_ (κ1 (j / 64)) = G1.by_ (κ1 (j / 64)) := upd_other _ _ hne
          have hjC : j / 64 < C := by rcases hcase with ⟨k1, k2⟩ | ⟨k1, k2, k3⟩ <;> omega
          rw [e1, hold _ hjC, hfile.byte j (by omega)]
          unfold over
          by_cases hx : off ≤ j ∧ j < off + a
          · rw [if_pos hx, if_pos (by omega)]
          · rw [if_neg hx, if_neg (by omega)]
      · rw [hC']; exact hk1.put hfr2 hpb hwl
      · rw [hC']; exact hfr2
      · rw [hC', put_cnt]; omega
      · rw [hC']
      · unfold wrK at hkk; omega
end Go.Proofs.YthmkgohfeahdhaaGreat
namespace Go.Proofs.YthmkgohfeahdhaaGreat
open Go.RowKit
set_option linter.unusedSimpArgs false
set_option linter.unusedVariables false

theorem Tree.grow {G : GS} {m : Nat} {n : NodeV} {pr : Nat → Bool} {κ : Nat → Nat} (h : Tree G m n pr κ) (num x : Nat) : Tree (G.set num (n.grow x)) m (n.grow x) pr κ :=
  ⟨h.dir, h.rng, h.cls, h.top, h.sub, h.own, h.inj⟩
/-- what a call on a file leaves of the group's other blocks and nodes -/
structure Left (G G' : GS) (num : Nat) (pr pr' : Nat → Bool) (κ κ' : Nat → Nat) : Prop where
  nd : ∀ k, k ≠ num → G'.nd k = G.nd k
  by_ : ∀ x, G.tk x = true → (∀ c, pr c = true → κ c ≠ x) → G'.by_ x = G.by_ x
  tk : ∀ x, G.tk x = true → G'.tk x = true
  new : ∀ x, G'.tk x = true → G.tk x = true ∨ ∃ c, pr' c = true ∧ pr c = false ∧ κ' c = x
  fresh : ∀ c, pr' c = true → pr c = false → G.tk (κ' c) = false
  old : ∀ c, pr c = true → κ' c = κ c ∧ pr' c = true
/-- what a call in a transaction leaves of it -/
structure Stay (s s' : Sto) (g : GeoN) : Prop where
  D : s'.D = s.D
  bad : s'.bad = s.bad
  far : ∀ m, (m < g.base ∨ g.data + g.blocks ≤ m) → s'.at_ m = s.at_ m
theorem grow_size {n : NodeV} {x : Nat} (h : max n.size.toNat x < 4294967296) : (n.grow x).size.toNat = max n.size.toNat x := by
  unfold NodeV.grow
  simp only
  rw [UInt32.toNat_ofNat', Nat.mod_eq_of_lt (by omega)]
section
variable {w w' : World} {i : Ids} {s : Sto} {gg : Nat} {g : GeoN} {lab : Int} {G : GS} {K0 : List Nat}
theorem write_file {num off cap c sz : Nat} {A : Option Addr} {data : List UInt8} {κ : Nat → Nat} {f : Nat → UInt8} (h : GAt w i s gg g lab G) (hK0 : s.In K0) (h1 : 1 ≤ num) (h2 : num ≤ g.nodes) (hb5 : g.blocks ≤ 512)
    (hk : (G.nd num).kind ≠ 0) (hsz : (G.nd num).size.toNat = sz) (hf : FileAt G g.blocks (G.nd num) c κ sz f) (hoff : off ≤ sz) (hlen : off + data.length ≤ 16384) (hs16 : sz ≤ 16384) (hc : data.length ≤ cap) (hR : Rd w w.heap.size 1 A data.length (bvs data)) (hA : ∀ b, A = some b → ¬ i.own b.block)
    (h32 : blks (off + data.length) - off / 64 ≤ 32) (hKl : K0.length + 1 + (if max c (blks (off + data.length)) ≤ 38 then 1 else 4) + (blks (off + data.length) - off / 64) ≤ 22)
    (hcb : blks off ≤ c) (hck : ∀ n', (G.nd num).same n' → n'.dir.length = 6 → checkN (n'.grow (off + data.length)) = true) :
    Calls Tryz.prog 33 #[.pointer (some ⟨gg, 0, none⟩), .int .i64 (num : Int), .int .i64 (off : Int), .slice A data.length cap] w fun e w' =>
      (e = .returned (.int .i64 10) ∧ g.blocks + nkeys c < G.cnt g.blocks + nkeys (max c (blks (off + data.length))) ∧ ∃ s' G', GAt w' i s' gg g lab G' ∧ Stay s s' g ∧ Tch w.heap.size i.own w w') ∨
      (e = .returned (.int .i64 0) ∧ ∃ s' G' κ', GAt w' i s' gg g lab G' ∧ FileAt G' g.blocks (G'.nd num) (max c (blks (off + data.length))) κ' (max sz (off + data.length)) (over f off data data.length) ∧ (G'.nd num).size.toNat = max sz (off + data.length) ∧ (G'.nd num).kind = (G.nd num).kind ∧ (G'.nd num).links = (G.nd num).links ∧ (G'.nd num).gen = (G.nd num).gen ∧
        Left G G' num (prOf c) (prOf (max c (blks (off + data.length)))) κ κ' ∧ G'.cnt g.blocks + nkeys c = G.cnt g.blocks + nkeys (max c (blks (off + data.length))) ∧
        s'.In (KL g K0 (off / 64) (blks (off + data.length) - off / 64) (max c (blks (off + data.length))) κ' ++ [g.base + g.bitmap + (num - 1) / 2]) ∧ Stay s s' g ∧ Tch w.heap.size i.own w w') := by
  have hfit := hf.fit
  have hc0 : max c (blks (off + 0)) = c := by rw [Nat.add_zero]; omega
  have hm0 : max sz (off + 0) = sz := by omega
  have hst : WrAt G g.blocks (G.nd num) c sz κ f off data g K0 0 G (G.nd num) (KL g K0 (off / 64) (blks (off + 0) - off / 64) (max c (blks (off + 0))) κ) κ := by
    refine ⟨?_, ?_, fun k k1 k2 => ?_, ⟨rfl, rfl, rfl, rfl⟩, ?_, rfl, .inr (.inl rfl), Nat.zero_le _⟩
    · rw [hc0, hm0]
      exact ⟨hf.tree, hf.cle, hf.fit, fun j hj => by rw [hf.byte j hj]; unfold over; rw [if_neg (by omega)]⟩
    · rw [hc0]; exact Kept.refl h.gok _ _
    · rw [hc0, k2] at k1; cases k1
    · rw [hc0]
  have hKlen : ∀ a, a ≤ data.length → ∀ κ', (KL g K0 (off / 64) (blks (off + a) - off / 64) (max c (blks (off + a))) κ').length ≤ 22 := fun a ha κ' => by
    have := KL_length g K0 (off / 64) (blks (off + a) - off / 64) (max c (blks (off + a))) κ'
    have h1 : blks (off + a) ≤ blks (off + data.length) := by unfold blks; omega
    by_cases hx : max c (blks (off + data.length)) ≤ 38
    · rw [if_pos hx] at hKl
      rw [if_pos (by omega)] at this
      omega
    · rw [if_neg hx] at hKl
      split at this <;> omega
  refine (write_walk (K0 := KL g K0 (off / 64) (blks (off + 0) - off / 64) (max c (blks (off + 0))) κ) (fun a G' n K => ∃ κ', WrAt G g.blocks (G.nd num) c sz κ f off data g K0 a G' n K κ') (fun e => e = 10 ∧ g.blocks + nkeys c < G.cnt g.blocks + nkeys (max c (blks (off + data.length))))
    h (hK0.mono fun x hx => by unfold KL; exact List.mem_append_left _ hx) h1 h2 hb5 hk (by rw [hsz]; exact hoff) (by rw [hsz]; exact hs16) hlen hc hR hA ⟨κ, hst⟩ ?_ ?_ ?_).mono ?_
  · rintro a G' n K ha ⟨κ', hw⟩
    exact ⟨(wr_step hw ha hb5 h32 hlen hoff hfit).1, hw.file.tree.dir, by rw [hw.keys]; exact hKlen a hw.ale κ'⟩
  · rintro a G' n K e V G1 n1 ha ⟨κ', hw⟩ he
    obtain ⟨k1, k2⟩ := (wr_step hw ha hb5 h32 hlen hoff hfit).2 e V G1 n1 he
    refine ⟨k1, fun h0 => ?_⟩
    obtain ⟨p1, p2, p3, K', κ'', p4, p5⟩ := k2 h0
    exact ⟨p1, p2, p3, K', p4, κ'', p5⟩
  · rintro G' n K ⟨κ', hw⟩
    exact ⟨hw.file.tree.dir, hw.same.2.2.2, by rw [hw.keys]; have := hKlen data.length (Nat.le_refl _) κ'; omega, hck n hw.same hw.file.tree.dir⟩
  · rintro e w' (⟨x, ⟨rfl, hx⟩, he, s', G', k1, k2, k3, k4, k5⟩ | ⟨he, s', G', n', K', ⟨κ', hw⟩, k1, k2, k3, k4, k5, k6⟩)
    · exact .inl ⟨he, hx, s', G', k1, ⟨k2, k3, k4⟩, k5⟩
    · refine .inr ⟨he, s', _, κ', k1, ?_, ?_, ?_, ?_, ?_, ⟨fun k hk => ?_, hw.kept.by_, hw.kept.tk, hw.kept.new, hw.fresh, hw.kept.eq⟩, hw.cnt, ?_, ⟨k3, k4, k5⟩, k6⟩
      · have e1 : (G'.set num (n'.grow (off + data.length))).nd num = n'.grow (off + data.length) := upd_same _ _ _
        rw [e1]
        exact ⟨hw.file.tree.grow num _, hw.file.cle, hw.file.fit, hw.file.byte⟩
      · have e1 : (G'.set num (n'.grow (off + data.length))).nd num = n'.grow (off + data.length) := upd_same _ _ _
        rw [e1, grow_size (by rw [hw.same.2.2.2, hsz]; omega), hw.same.2.2.2, hsz]
      · exact (congrArg NodeV.kind (upd_same _ _ _)).trans hw.same.1
      · exact (congrArg NodeV.links (upd_same _ _ _)).trans hw.same.2.1
      · exact (congrArg NodeV.gen (upd_same _ _ _)).trans hw.same.2.2.1
      · have : (G'.set num (n'.grow (off + data.length))).nd k = G'.nd k := upd_other _ _ hk
        rw [this, hw.kept.nd]
      · rw [hw.keys] at k2; exact k2
theorem read_file {num off many en c sz : Nat} {κ : Nat → Nat} {f : Nat → UInt8} (h : GAt w i s gg g lab G) (h1 : 1 ≤ num) (h2 : num ≤ g.nodes) (hk : (G.nd num).kind ≠ 0) (hsz : (G.nd num).size.toNat = sz) (hf : FileAt G g.blocks (G.nd num) c κ sz f)
    (hoff : off ≤ 65536) (hmany : many ≤ 4611686018427387904) (hs16 : sz ≤ 16384) (hen : en = min sz (off + min many 16384)) :
    Calls Tryz.prog 36 #[.pointer (some ⟨gg, 0, none⟩), .int .i64 (num : Int), .int .i64 (off : Int), .int .i64 (many : Int)] w fun e w' => ∃ (A : Option Addr) (cp : Nat), e = .returned (.tuple #[.slice A (en - off) cp, .int .i64 0]) ∧ Rd w' w'.heap.size 1 A (en - off) (bvs ((List.range (en - off)).map fun k => f (off + k))) ∧ GAt w' i s gg g lab G ∧ Tch w.heap.size i.own w w' ∧ (∀ b, A = some b → w.heap.size ≤ b.block) ∧ en - off ≤ cp ∧ w'.ownsRow w.heap.size 5 1 (.slice A (en - off) cp) (en - off) (bvs ((List.range (en - off)).map fun k => f (off + k))) := by
  have hfit := hf.fit
  have := read_walk (num := num) (en := en) (n := G.nd num) h h1 h2 rfl hk hoff hmany (by rw [hsz]; exact hen) (by rw [hsz]; exact hs16) (fun b hb1 hb2 => (hf.rdy (b := b) (by omega)).1)
  have e : fbytes G (G.nd num) off (en - off) = (List.range (en - off)).map fun k => f (off + k) := by
    rcases Nat.lt_or_ge off en with h1 | h1
    · exact hf.bytes (by omega)
    · rw [show en - off = 0 from by omega]; rfl
  rw [e] at this
  exact this
end
end Go.Proofs.YthmkgohfeahdhaaGreat
namespace Go.Proofs.YthmkgohfeahdhaaGreat
open Go.RowKit
set_option linter.unusedSimpArgs false
set_option linter.unusedVariables false

theorem give_cnt {G : GS} {k : Nat} (hk : G.tk k = true) : ∀ m, (G.give k).cnt m + (if k < m then 1 else 0) = G.cnt m
  | 0 => rfl
  | m + 1 => by
    have ih := give_cnt hk m
    unfold GS.cnt at ih ⊢
    rw [List.range_succ, List.filter_append, List.filter_append, List.length_append, List.length_append]
    by_cases e : m = k
    · subst e
      have h1 : (G.give m).tk m = false := by simp [GS.give, upd]
      rw [if_neg (show ¬ m < m by omega)] at ih
      rw [if_pos (show m < m + 1 by omega)]
      simp only [List.filter_cons, h1, hk, List.filter_nil]
      simp
      omega
    · have h1 : (G.give k).tk m = G.tk m := by simp [GS.give, upd, e]
      simp only [List.filter_cons, h1, List.filter_nil]
      by_cases h2 : k < m
      · rw [if_pos h2] at ih
        rw [if_pos (show k < m + 1 by omega)]
        omega
      · rw [if_neg h2] at ih
        rw [if_neg (show ¬ k < m + 1 by omega)]
        omega
/-- a block goes, its pointer in a block -/
theorem Tree.del {G : GS} {m : Nat} {n : NodeV} {pr : Nat → Bool} {κ : Nat → Nat} {c p j : Nat} (h : Tree G m n pr κ) (hG : G.Ok) (hc : c < 265) (hpc : pr c = true) (hp : par c = some (p, j))
    (hch : ∀ c' j', c' < 265 → par c' = some (c, j') → pr c' = false) : Tree ((G.give (κ c)).put (κ p) (pointB (G.by_ (κ p)) j 0)) m n (upd pr c false) κ := by
  have hpp := h.cls c p j hpc hp
  obtain ⟨hp5, hj, hp256, hpc'⟩ := par_lt hc hp
  have hby : ∀ x, ((G.give (κ c)).put (κ p) (pointB (G.by_ (κ p)) j 0)).by_ x = if x = κ p then pointB (G.by_ (κ p)) j 0 else G.by_ x := fun x => rfl
  have htk : ∀ x, ((G.give (κ c)).put (κ p) (pointB (G.by_ (κ p)) j 0)).tk x = if x = κ c then false else G.tk x := fun x => rfl
  have hne : ∀ {c'}, upd pr c false c' = true → c' ≠ c ∧ pr c' = true := fun {c'} h' => by
    simp only [upd] at h'
    split at h'
    · cases h'
    · rename_i e; exact ⟨e, h'⟩
  refine ⟨h.dir, fun c' h' => h.rng c' (hne h').2, fun c' p' j' h' hp' => ?_, fun c' hc' hp' => ?_, fun c' p' j' hc' hp' hpr => ?_, fun c' h' => ?_, fun c1 c2 h1 h2 he => h.inj c1 c2 (hne h1).2 (hne h2).2 he⟩
  · have h1 := h.cls c' p' j' (hne h').2 hp'
    have h2 : p' ≠ c := fun e => by subst e; have := hch c' j' (h.rng c' (hne h').2) hp'; rw [(hne h').2] at this; cases this
    rw [upd_other _ _ h2]; exact h1
  · have : c' ≠ c := fun e => by rw [e, hp] at hp'; cases hp'
    rw [upd_other _ _ this]
    exact h.top c' hc' hp'
  · obtain ⟨h1, h2⟩ := hne hpr
    rw [hby]
    by_cases e2 : p' = p
    · subst e2
      rw [if_pos rfl, ptr_point (hG.len _) hj (by omega)]
      by_cases e3 : j' = j
      · subst e3
        have := par_inj hc' hc hp' hp
        subst this
        rw [if_pos rfl, upd_same]
        rfl
      · have : c' ≠ c := fun e => by subst e; rw [hp] at hp'; cases hp'; exact e3 rfl
        rw [if_neg e3, upd_other _ _ this]
        exact h.sub c' p' j' hc' hp' h2
    · have e4 : κ p' ≠ κ p := fun e => e2 (h.inj p' p h2 hpp e)
      have : c' ≠ c := fun e => by subst e; rw [hp] at hp'; cases hp'; exact e2 rfl
      rw [if_neg e4, upd_other _ _ this]
      exact h.sub c' p' j' hc' hp' h2
  · obtain ⟨h1, h2⟩ := hne h'
    rw [htk, if_neg (fun e => h1 (h.inj c' c h2 hpc e))]
    exact h.own c' h2
/-- a block goes, its pointer in the node -/
theorem Tree.delTop {G : GS} {m : Nat} {n n' : NodeV} {pr : Nat → Bool} {κ : Nat → Nat} {c : Nat} (h : Tree G m n pr κ) (hc : c < 265) (hpc : pr c = true) (hp : par c = none)
    (hch : ∀ c' j', c' < 265 → par c' = some (c, j') → pr c' = false) (hd : n'.dir.length = 6) (hn : ∀ c', c' < 265 → par c' = none → n'.slot c' = if c' = c then 0 else n.slot c') : Tree (G.give (κ c)) m n' (upd pr c false) κ := by
  have htk : ∀ x, (G.give (κ c)).tk x = if x = κ c then false else G.tk x := fun x => rfl
  have hne : ∀ {c'}, upd pr c false c' = true → c' ≠ c ∧ pr c' = true := fun {c'} h' => by
    simp only [upd] at h'
    split at h'
    · cases h'
    · rename_i e; exact ⟨e, h'⟩
  refine ⟨hd, fun c' h' => h.rng c' (hne h').2, fun c' p' j' h' hp' => ?_, fun c' hc' hp' => ?_, fun c' p' j' hc' hp' hpr => ?_, fun c' h' => ?_, fun c1 c2 h1 h2 he => h.inj c1 c2 (hne h1).2 (hne h2).2 he⟩
  · have h1 := h.cls c' p' j' (hne h').2 hp'
    have h2 : p' ≠ c := fun e => by subst e; have := hch c' j' (h.rng c' (hne h').2) hp'; rw [(hne h').2] at this; cases this
    rw [upd_other _ _ h2]; exact h1
  · rw [hn c' hc' hp']
    by_cases e : c' = c
    · subst e; rw [if_pos rfl, upd_same]; rfl
    · rw [if_neg e, upd_other _ _ e]
      exact h.top c' hc' hp'
  · obtain ⟨h1, h2⟩ := hne hpr
    have : c' ≠ c := fun e => by subst e; rw [hp] at hp'; cases hp'
    rw [upd_other _ _ this]
    exact h.sub c' p' j' hc' hp' h2
  · obtain ⟨h1, h2⟩ := hne h'
    rw [htk, if_neg (fun e => h1 (h.inj c' c h2 hpc e))]
    exact h.own c' h2
theorem slot_zero {b c : Nat} (hb : b < 256) {n : NodeV} (hd : n.dir.length = 6) (hc : c < 265) (hp : par c = none) : (n.setRoot (wayOf b) 0).slot c = if c = rootK b then 0 else n.slot c := by
  have hc2 : c < 6 ∨ c = 256 ∨ c = 257 := by
    unfold par at hp
    split at hp
    · left; assumption
    · split at hp
      · cases hp
      · split at hp
        · cases hp
        · split at hp
          · right; omega
          · cases hp
  unfold NodeV.setRoot wayOf rootK
  by_cases h6 : b < 6
  · simp only [if_pos h6]
    simp only [if_true]
    unfold NodeV.slot
    rcases hc2 with h | rfl | rfl
    · simp only [if_pos h, List.getD_eq_getElem?_getD, List.getElem?_set]
      by_cases e : b = c
      · subst e; simp [hd, h6]
      · have e2 : ¬ c = b := fun h => e h.symm
        simp [e, e2]
    · have e : ¬ 256 = b := by omega
      simp [e]
    · have e : ¬ 257 = b := by omega
      simp [e]
  · simp only [if_neg h6]
    by_cases h38 : b < 38
    · simp only [if_pos h38]
      unfold NodeV.slot
      rcases hc2 with h | rfl | rfl
      · have e : ¬ c = 256 := by omega
        simp [h, e]
      · simp
      · simp
    · simp only [if_neg h38]
      unfold NodeV.slot
      rcases hc2 with h | rfl | rfl
      · have e : ¬ c = 257 := by omega
        simp [h, e]
      · simp
      · simp
/-- what goes of a file's blocks, and what else stays -/
structure Del (G0 G : GS) (m : Nat) (n0 n : NodeV) (pr0 pr : Nat → Bool) (κ : Nat → Nat) (d : Nat) : Prop where
  tree : Tree G m n pr κ
  ok : G.Ok
  nd : G.nd = G0.nd
  same : n0.same n
  sub : ∀ k, pr k = true → pr0 k = true
  by_ : ∀ x, (∀ k, pr0 k = true → 256 ≤ k → κ k ≠ x) → G.by_ x = G0.by_ x
  tk : ∀ x, (∀ k, pr0 k = true → κ k ≠ x) → G.tk x = G0.tk x
  cnt : G.cnt m + d = G0.cnt m
theorem Del.refl {G : GS} {m : Nat} {n : NodeV} {pr : Nat → Bool} {κ : Nat → Nat} (h : Tree G m n pr κ) (hG : G.Ok) : Del G G m n n pr pr κ 0 :=
  ⟨h, hG, rfl, ⟨rfl, rfl, rfl, rfl⟩, fun _ h => h, fun _ _ => rfl, fun _ _ => rfl, rfl⟩
theorem upd_sub {pr pr0 : Nat → Bool} {c : Nat} (h : ∀ k, pr k = true → pr0 k = true) : ∀ k, upd pr c false k = true → pr0 k = true := fun k hk => by
  simp only [upd] at hk
  split at hk
  · cases hk
  · exact h k hk
theorem Del.step {G0 G : GS} {m : Nat} {n0 n : NodeV} {pr0 pr : Nat → Bool} {κ : Nat → Nat} {d c p j : Nat} (h : Del G0 G m n0 n pr0 pr κ d) (hc : c < 265) (hpc : pr c = true) (hp : par c = some (p, j))
    (hch : ∀ c' j', c' < 265 → par c' = some (c, j') → pr c' = false) : Del G0 ((G.give (κ c)).put (κ p) (pointB (G.by_ (κ p)) j 0)) m n0 n pr0 (upd pr c false) κ (d + 1) where
  tree := h.tree.del h.ok hc hpc hp hch
  ok := (h.ok.give _).put _ (by rw [pointB_length]; exact h.ok.len _)
  nd := h.nd
  same := h.same
  sub := upd_sub h.sub
  by_ x hx := by
    have hpp := h.tree.cls c p j hpc hp
    have : x ≠ κ p := fun e => hx p (h.sub p hpp) (par_lt hc hp).2.2.1 e.symm
    exact (upd_other _ _ this).trans (h.by_ x hx)
  tk x hx := by
    have : x ≠ κ c := fun e => hx c (h.sub c hpc) e.symm
    exact (upd_other _ _ this).trans (h.tk x hx)
  cnt := by
    have h1 := h.tree.own c hpc
    have h2 := give_cnt h1.2 m
    rw [if_pos h1.1] at h2
    have := h.cnt
    rw [put_cnt]
    omega
theorem Del.stepTop {G0 G : GS} {m : Nat} {n0 n n' : NodeV} {pr0 pr : Nat → Bool} {κ : Nat → Nat} {d c : Nat} (h : Del G0 G m n0 n pr0 pr κ d) (hc : c < 265) (hpc : pr c = true) (hp : par c = none)
    (hch : ∀ c' j', c' < 265 → par c' = some (c, j') → pr c' = false) (hs : n.same n') (hd : n'.dir.length = 6) (hn : ∀ c', c' < 265 → par c' = none → n'.slot c' = if c' = c then 0 else n.slot c') :
    Del G0 (G.give (κ c)) m n0 n' pr0 (upd pr c false) κ (d + 1) where
  tree := h.tree.delTop hc hpc hp hch hd hn
  ok := h.ok.give _
  nd := h.nd
  same := h.same.trans hs
  sub := upd_sub h.sub
  by_ x hx := h.by_ x hx
  tk x hx := by
    have : x ≠ κ c := fun e => hx c (h.sub c hpc) e.symm
    exact (upd_other _ _ this).trans (h.tk x hx)
  cnt := by
    have h1 := h.tree.own c hpc
    have h2 := give_cnt h1.2 m
    rw [if_pos h1.1] at h2
    have := h.cnt
    omega
theorem upd_false {pr : Nat → Bool} {c x : Nat} : upd pr c false x = (pr x && decide (x ≠ c)) := by
  unfold upd
  by_cases e : x = c <;> simp [e]
theorem prOf_true {c k : Nat} : prOf c k = true ↔ (k < c ∨ (k = 256 ∧ 6 < c) ∨ (k = 257 ∧ 38 < c) ∨ (258 ≤ k ∧ k < 265 ∧ 38 + 32 * (k - 258) < c)) := by
  unfold prOf; rw [decide_eq_true_iff]
theorem prOf_false {c k : Nat} : prOf c k = false ↔ ¬ (k < c ∨ (k = 256 ∧ 6 < c) ∨ (k = 257 ∧ 38 < c) ∨ (258 ≤ k ∧ k < 265 ∧ 38 + 32 * (k - 258) < c)) := by
  unfold prOf; rw [decide_eq_false_iff_not]
/-- whose block of pointers a block is -/
theorem par_child {c c' j : Nat} (hc' : c' < 265) (h : par c' = some (c, j)) : (c = 256 ∧ 6 ≤ c' ∧ c' < 38 ∧ j = c' - 6) ∨ (c = 257 ∧ 258 ≤ c' ∧ j = c' - 258) ∨ (38 ≤ c' ∧ c' < 256 ∧ c = 258 + (c' - 38) / 32 ∧ j = (c' - 38) % 32) := by
  unfold par at h
  split at h
  · cases h
  · split at h
    · simp only [Option.some.injEq, Prod.mk.injEq] at h; left; omega
    · split at h
      · simp only [Option.some.injEq, Prod.mk.injEq] at h; right; right; omega
      · split at h
        · cases h
        · simp only [Option.some.injEq, Prod.mk.injEq] at h; right; left; omega
theorem par_dir {b : Nat} (h : b < 6) : par b = none := by unfold par; rw [if_pos h]
theorem par_single {b : Nat} (h6 : 6 ≤ b) (h : b < 38) : par b = some (256, b - 6) := by unfold par; rw [if_neg (by omega), if_pos h]
theorem par_double {b : Nat} (h6 : 38 ≤ b) (h : b < 256) : par b = some (258 + (b - 38) / 32, (b - 38) % 32) := by unfold par; rw [if_neg (by omega), if_neg (by omega), if_pos h]
theorem par_mid {b : Nat} (h6 : 258 ≤ b) (h : b < 265) : par b = some (257, b - 258) := by unfold par; rw [if_neg (by omega), if_neg (by omega), if_neg (by omega), if_neg (by omega)]
theorem par_mid' {q : Nat} (h : q < 7) : par (258 + q) = some (257, q) := by have := par_mid (b := 258 + q) (by omega) (by omega); rwa [Nat.add_sub_cancel_left] at this
theorem par_256 : par 256 = none := by decide
theorem par_257 : par 257 = none := by decide
/-- the last data block has no blocks below it -/
theorem no_child {pr : Nat → Bool} {b : Nat} (hb : b < 256) : ∀ c' j', c' < 265 → par c' = some (b, j') → pr c' = false := fun c' j' hc' h => by
  have := par_child hc' h
  omega
/-- one data block less: below the node's own pointers -/
theorem del_dir {G : GS} {m b : Nat} {n : NodeV} {κ : Nat → Nat} (h : Tree G m n (prOf (b + 1)) κ) (hG : G.Ok) (hb : b < 6) :
    Del G (G.give (κ b)) m n (n.setRoot (wayOf b) 0) (prOf (b + 1)) (prOf b) κ 1 := by
  have hr : rootK b = b := by unfold rootK; rw [if_pos hb]
  have hs := (Del.refl h hG).stepTop (n' := n.setRoot (wayOf b) 0) (c := b) (by omega) (prOf_true.2 (by omega)) (par_dir hb) (no_child (by omega)) (setRoot_same _ _ _) (by rw [NodeV.setRoot_dir]; exact h.dir)
    (fun c' h1 h2 => by have := slot_zero (b := b) (by omega) h.dir h1 h2; rw [hr] at this; exact this)
  have e : upd (prOf (b + 1)) b false = prOf b := by
    funext k
    rw [Bool.eq_iff_iff, upd_false, Bool.and_eq_true, prOf_true, prOf_true, decide_eq_true_iff]
    omega
  rw [e] at hs
  exact hs
/-- one data block less: not the first of its block of pointers -/
theorem del_more {G : GS} {m b p j : Nat} {n : NodeV} {κ : Nat → Nat} (h : Tree G m n (prOf (b + 1)) κ) (hG : G.Ok) (hb6 : 6 < b) (hb : b < 256) (hf : 38 ≤ b → (b - 38) % 32 ≠ 0) (hp : par b = some (p, j)) :
    Del G ((G.give (κ b)).put (κ p) (pointB (G.by_ (κ p)) j 0)) m n n (prOf (b + 1)) (prOf b) κ 1 := by
  have hs := (Del.refl h hG).step (c := b) (by omega) (prOf_true.2 (by omega)) hp (no_child hb)
  have e : upd (prOf (b + 1)) b false = prOf b := by
    funext k
    rw [Bool.eq_iff_iff, upd_false, Bool.and_eq_true, prOf_true, prOf_true, decide_eq_true_iff]
    omega
  rw [e] at hs
  exact hs
theorem del_six {G : GS} {m : Nat} {n : NodeV} {κ : Nat → Nat} (h : Tree G m n (prOf 7) κ) (hG : G.Ok) :
    Del G (((G.give (κ 6)).put (κ 256) (pointB (G.by_ (κ 256)) 0 0)).give (κ 256)) m n (n.setRoot (wayOf 6) 0) (prOf 7) (prOf 6) κ 2 := by
  have h1 := (Del.refl h hG).step (c := 6) (p := 256) (j := 0) (by omega) (prOf_true.2 (by omega)) (by decide) (no_child (by omega))
  have h2 := h1.stepTop (n' := n.setRoot (wayOf 6) 0) (c := 256) (by omega) (by rw [upd_other _ _ (by omega)]; exact prOf_true.2 (by omega)) par_256 (fun c' j' hc' hp => by
      rw [upd_false, Bool.and_eq_false_iff, prOf_false, decide_eq_false_iff_not]
      have := par_child hc' hp
      omega) (setRoot_same _ _ _) (by rw [NodeV.setRoot_dir]; exact h.dir)
    (fun c' h1 h2 => slot_zero (b := 6) (by omega) h.dir h1 h2)
  have e : upd (upd (prOf 7) 6 false) 256 false = prOf 6 := by
    funext k
    rw [Bool.eq_iff_iff, upd_false, upd_false, Bool.and_eq_true, Bool.and_eq_true, prOf_true, prOf_true, decide_eq_true_iff, decide_eq_true_iff]
    omega
  rw [e] at h2
  exact h2
/-- the first of a block of pointers, not of the first one -/
theorem del_first {G : GS} {m b q : Nat} {n : NodeV} {κ : Nat → Nat} (h : Tree G m n (prOf (b + 1)) κ) (hG : G.Ok) (hb : b < 256) (hq : b = 38 + 32 * q) (hq0 : 0 < q) :
    Del G (((((G.give (κ b)).put (κ (258 + q)) (pointB (G.by_ (κ (258 + q))) 0 0)).give (κ (258 + q))).put (κ 257) (pointB (G.by_ (κ 257)) q 0))) m n n (prOf (b + 1)) (prOf b) κ 2 := by
  have hp1 : par b = some (258 + q, 0) := by rw [par_double (by omega) hb]; simp only [Option.some.injEq, Prod.mk.injEq]; omega
  have h1 := (Del.refl h hG).step (c := b) (by omega) (prOf_true.2 (by omega)) hp1 (no_child hb)
  have hne : κ 257 ≠ κ (258 + q) := fun e => by have := h.inj 257 (258 + q) (prOf_true.2 (by omega)) (prOf_true.2 (by omega)) e; omega
  have h2 := h1.step (c := 258 + q) (p := 257) (j := q) (by omega) (by rw [upd_other _ _ (by omega)]; exact prOf_true.2 (by omega)) (par_mid' (by omega)) (fun c' j' hc' hp => by
      rw [upd_false, Bool.and_eq_false_iff, prOf_false, decide_eq_false_iff_not]
      have := par_child hc' hp
      omega)
  have e2 : ((G.give (κ b)).put (κ (258 + q)) (pointB (G.by_ (κ (258 + q))) 0 0)).by_ (κ 257) = G.by_ (κ 257) := upd_other _ _ hne
  have e : upd (upd (prOf (b + 1)) b false) (258 + q) false = prOf b := by
    funext k
    rw [Bool.eq_iff_iff, upd_false, upd_false, Bool.and_eq_true, Bool.and_eq_true, prOf_true, prOf_true, decide_eq_true_iff, decide_eq_true_iff]
    omega
  rw [e, e2] at h2
  exact h2
theorem del_38 {G : GS} {m : Nat} {n : NodeV} {κ : Nat → Nat} (h : Tree G m n (prOf 39) κ) (hG : G.Ok) :
    Del G ((((((G.give (κ 38)).put (κ 258) (pointB (G.by_ (κ 258)) 0 0)).give (κ 258)).put (κ 257) (pointB (G.by_ (κ 257)) 0 0))).give (κ 257)) m n (n.setRoot (wayOf 38) 0) (prOf 39) (prOf 38) κ 3 := by
  have h1 := (Del.refl h hG).step (c := 38) (p := 258) (j := 0) (by omega) (prOf_true.2 (by omega)) (by decide) (no_child (by omega))
  have hne : κ 257 ≠ κ 258 := fun e => by have := h.inj 257 258 (prOf_true.2 (by omega)) (prOf_true.2 (by omega)) e; omega
  have h2 := h1.step (c := 258) (p := 257) (j := 0) (by omega) (by rw [upd_other _ _ (by omega)]; exact prOf_true.2 (by omega)) (by decide) (fun c' j' hc' hp => by
      rw [upd_false, Bool.and_eq_false_iff, prOf_false, decide_eq_false_iff_not]
      have := par_child hc' hp
      omega)
  have e2 : ((G.give (κ 38)).put (κ 258) (pointB (G.by_ (κ 258)) 0 0)).by_ (κ 257) = G.by_ (κ 257) := upd_other _ _ hne
  rw [e2] at h2
  have h3 := h2.stepTop (n' := n.setRoot (wayOf 38) 0) (c := 257) (by omega) (by rw [upd_other _ _ (by omega), upd_other _ _ (by omega)]; exact prOf_true.2 (by omega)) par_257 (fun c' j' hc' hp => by
      rw [upd_false, upd_false, Bool.and_eq_false_iff, Bool.and_eq_false_iff, prOf_false, decide_eq_false_iff_not, decide_eq_false_iff_not]
      have := par_child hc' hp
      omega) (setRoot_same _ _ _) (by rw [NodeV.setRoot_dir]; exact h.dir)
    (fun c' h1 h2 => slot_zero (b := 38) (by omega) h.dir h1 h2)
  have e : upd (upd (upd (prOf 39) 38 false) 258 false) 257 false = prOf 38 := by
    funext k
    rw [Bool.eq_iff_iff, upd_false, upd_false, upd_false, Bool.and_eq_true, Bool.and_eq_true, Bool.and_eq_true, prOf_true, prOf_true, decide_eq_true_iff, decide_eq_true_iff, decide_eq_true_iff]
    omega
  rw [e] at h3
  exact h3
end Go.Proofs.YthmkgohfeahdhaaGreat
namespace Go.Proofs.YthmkgohfeahdhaaGreat
open Go.RowKit
set_option linter.unusedSimpArgs false
set_option linter.unusedVariables false

section
variable {w0 w w' : World} {i : Ids} {s0 s : Sto} {gg : Nat} {g : GeoN} {lab : Int} {G G' : GS} {K : List Nat}
theorem Stay.trans {s1 s2 s3 : Sto} (h : Stay s1 s2 g) (h' : Stay s2 s3 g) : Stay s1 s3 g := ⟨h'.D.trans h.D, h'.bad.trans h.bad, fun m hm => (h'.far m hm).trans (h.far m hm)⟩
/-- how a group lies open behind calls on a file's blocks: those to be written are among a list's -/
def CutR (w0 w : World) (i : Ids) (s0 : Sto) (gg : Nat) (g : GeoN) (lab : Int) (G : GS) (K : List Nat) : Prop :=
  ∃ s, GAt w i s gg g lab G ∧ Stay s0 s g ∧ s.In K ∧ Tch w0.heap.size i.own w0 w
theorem CutR.refl (h : GAt w i s gg g lab G) (hK : s.In K) : CutR w w i s gg g lab G K := ⟨s, h, ⟨rfl, rfl, fun _ _ => rfl⟩, hK, Tch.refl _ _ _⟩
theorem CutR.below (h : CutR w0 w i s0 gg g lab G K) (hb : Below w.heap.size w w') : CutR w0 w' i s0 gg g lab G K := by
  obtain ⟨s', h1, h2, h3, h4⟩ := h
  exact ⟨s', h1.below hb, h2, h3, h4.trans ((Tch.of_below hb).mono h4.size fun _ _ h => h)⟩
theorem CutR.drew (h : CutR w0 w i s0 gg g lab G K) : CutR w0 w.drew i s0 gg g lab G K := h.below (Below.refl _ _).drew
theorem CutR.tch (h : CutR w0 w i s0 gg g lab G K) : Tch w0.heap.size i.own w0 w := by
  obtain ⟨s', h1, h2, h3, h4⟩ := h
  exact h4
theorem CutR.gok (h : CutR w0 w i s0 gg g lab G K) : G.Ok := by
  obtain ⟨s', h1, h2, h3, h4⟩ := h
  exact h1.gok
theorem CutR.new_own (h : CutR w0 w i s0 gg g lab G K) : ¬ i.own w.heap.size := fun hk => by
  obtain ⟨s', h1, h2, h3, h4⟩ := h
  exact h1.tx.other_new (Nat.le_refl _) hk
theorem CutR.step {L : List Nat} (h : CutR w0 w i s0 gg g lab G K) (hg : GAt w' i s gg g lab G') (hs : ∃ s1, s1.In K ∧ Stay s0 s1 g ∧ s1.Step s g L) (hL : ∀ x ∈ L, x ∈ K) (ht : Tch w.heap.size i.own w w') : CutR w0 w' i s0 gg g lab G' K := by
  obtain ⟨s', h1, h2, h3, h4⟩ := h
  obtain ⟨s1, k1, k2, k3⟩ := hs
  exact ⟨s, hg, k2.trans ⟨k3.D, k3.bad, k3.far⟩, (k3.in_ k1).mono (fun x hx => by rcases List.mem_append.1 hx with h | h; exact h; exact hL x h), h4.trans (ht.mono h4.size fun _ _ h => h)⟩
/-- taking a block off, in a transaction -/
theorem cut_give {k : Nat} (h : CutR w0 w i s0 gg g lab G K) (hKl : K.length ≤ 28) (hb5 : g.blocks ≤ 512) (hK1 : g.base ∈ K) (hk : k < g.blocks) (hb : G.tk k = true) :
    Calls Tryz.prog 103 #[.pointer (some ⟨gg, 0, none⟩), .int .u16 ((k + 1 : Nat) : Int)] w fun e w' => e = .returned (.int .i64 0) ∧ CutR w0 w' i s0 gg g lab (G.give k) K ∧ Tch w.heap.size i.own w w' := by
  have h' := h
  obtain ⟨s', h1, h2, h3, h4⟩ := h
  exact (gs_give h1 (by have := h3.len h1.tx.ok; omega) hk hb).mono fun e w' ⟨he, s2, k1, k2, k3⟩ => ⟨he, h'.step k1 ⟨s', h3, h2, k2⟩ (fun x hx => by
    obtain rfl : x = g.base + k / 512 := by simpa using hx
    rw [show g.base + k / 512 = g.base from by omega]; exact hK1) k3, k3⟩
theorem cut_put {k : Nat} {b : BlkV} (h : CutR w0 w i s0 gg g lab G K) (hKl : K.length ≤ 28) (hk : k < g.blocks) (hK2 : g.data + k ∈ K) (hb : b.length = 64) :
    Calls Tryz.prog 94 #[.pointer (some ⟨gg, 0, none⟩), .int .u16 ((k + 1 : Nat) : Int), bval b] w fun e w' => e = .returned (.int .i64 0) ∧ CutR w0 w' i s0 gg g lab (G.put k b) K ∧ Tch w.heap.size i.own w w' := by
  have h' := h
  obtain ⟨s', h1, h2, h3, h4⟩ := h
  exact (gs_put h1 (by have := h3.len h1.tx.ok; omega) hk hb).mono fun e w' ⟨he, s2, k1, k2, k3⟩ => ⟨he, h'.step k1 ⟨s', h3, h2, k2⟩ (fun x hx => by
    obtain rfl : x = g.data + k := by simpa using hx
    exact hK2) k3, k3⟩
theorem cut_get {k : Nat} (h : CutR w0 w i s0 gg g lab G K) (hk : k < g.blocks) :
    Calls Tryz.prog 93 #[.pointer (some ⟨gg, 0, none⟩), .int .u16 ((k + 1 : Nat) : Int)] w fun e w' => e = .returned (.tuple #[bval (G.by_ k), .int .i64 0]) ∧ CutR w0 w' i s0 gg g lab G K ∧ Tch w.heap.size i.own w w' := by
  obtain ⟨s', h1, h2, h3, h4⟩ := h
  exact (gs_get' h1 hk).mono fun e w' ⟨he, k1, k2⟩ => ⟨he, ⟨s', k1, h2, h3, h4.trans (k2.mono h4.size fun _ _ h => h)⟩, k2⟩
set_option maxRecDepth 100000 in
set_option maxHeartbeats 4000000 in
theorem lose_leaf {v : WayV} {k p x j : Nat} (h : CutR w0 w i s0 gg g lab G K) (hKl : K.length ≤ 28) (hb5 : g.blocks ≤ 512) (hK1 : g.base ∈ K) (hK2 : g.data + p ∈ K) (hv : v.Ok) (hk : v.steps = k + 1) (hj : v.idx[k]? = some j) (hp : p < g.blocks) (hx : ptrB (G.by_ p) j = x + 1) (hxb : x < g.blocks) (hxt : G.tk x = true) :
    Calls Tryz.prog 149 #[.pointer (some ⟨gg, 0, none⟩), .int .u16 ((p + 1 : Nat) : Int), .agg v.cells, .int .i64 (k : Int)] w fun e w' => e = .returned (.int .i64 0) ∧ CutR w0 w' i s0 gg g lab ((G.give x).put p (pointB (G.by_ p) j 0)) K ∧ Tch w.heap.size i.own w w' := by
  have hwo := hv
  have hjl := hj
  obtain ⟨hj32, hcj, hk3⟩ := WayV.idx_lt hv hj
  have hbl := h.gok.len p
  have hget := fun W (hW : CutR w0 W i s0 gg g lab G K) => cut_get hW hp
  generalize hbk : G.by_ p = bk at *
  have hpt := fun W => pointer_ok W hbl hj32
  rw [hx] at hpt
  have ep : ((p + 1 : Nat) : Int) = (p : Int) + 1 := by omega
  have ex : ((x + 1 : Nat) : Int) = (x : Int) + 1 := by omega
  rw [ep] at hget ⊢
  rw [ex] at hpt
  have hkz : (k : Int) < 3 := by omega
  have hpz : (p : Int) ≤ 511 := by omega
  have hxz : (x : Int) ≤ 511 := by omega
  have hsz : (v.steps : Int) ≤ 3 := by rcases hv with h | h | h <;> omega
  have H := hide h
  have HK := hide (And.intro hKl (And.intro hK1 hK2))
  have HB5 := hide hb5
  have HBK := hide (And.intro hbk hbl)
  have HGT := hide hget
  have HPT := hide hpt
  have HV := hide (And.intro hwo hk)
  have HJ := hide (And.intro hj32 (And.intro hcj hjl))
  have HX := hide (And.intro hxb hxt)
  have HP := hide (And.intro hp (And.intro ep ex))
  clear h hKl hK1 hK2 hb5 hbk hbl hget hpt hwo hk hj32 hcj hjl hxb hxt hp ep ex hj hv hx
  go_enter Tryz.func149, Tryz.ntmps149
  go_upto_region 1 with (fail)
  refine at_world (fun W => ∃ q, q = w.heap.size ∧ Below w.heap.size w W ∧ Blk W q 268 v.cells) ⟨_, rfl, (Below.refl _ _).alloc (Nat.le_refl _) _, Blk.new _ _ _⟩ (fun w1 hw1 => ?_)
  obtain ⟨q, hq, hb1, hQ1⟩ := hw1
  rw [← hq]
  have HA1 := hide (H.out.below hb1)
  have HQ1 := hide hQ1
  have HQO := hide (show ¬ i.own q from by rw [hq]; exact H.out.new_own)
  have HT1 := hide (Tch.of_below (S := i.own) hb1)
  clear hq hb1 hQ1
  go_wp2_with fail
  refine (HGT.out w1 HA1.out).mono ?_
  rintro e w5 ⟨rfl, ha5, ht5⟩
  have HA5 := hide ha5
  have HQ5 := hide (HQ1.out.tch ht5 HQ1.out.lt HQO.out)
  have HT5 := hide (HT1.out.trans (ht5.mono HT1.out.size fun _ _ h => h))
  clear ha5 ht5 HGT HA1 HQ1 HT1
  go_upto_region 2 with (first | ((with_reducible refine at_alloc 106 ?_); refine wpList_alloc_as rfl 106 rfl _ (zero_block _) ?_) | ((with_reducible refine at_store 106 (.tmp 9) (.tmp 18) ?_); refine wpList_store_blk rfl 106 (.tmp 9) (.tmp 18) rfl w5.heap.size 106 _ _ (by rfl) (by rfl) (Blk.new _ _ _) (size_blockOf HBK.out.2) ((bvs_size zeroB_length).trans (bvs_size HBK.out.2).symm) (bvs_oneCell _) (fun _ => ?_)) | fail)
  refine at_world (fun W => ∃ z, z = w5.heap.size ∧ Below w5.heap.size w5 W ∧ Blk W z 106 (bvs bk).toArray) ⟨_, rfl, below_setRow ((Below.refl _ _).alloc (Nat.le_refl _) _) (Nat.le_refl _) _, (Blk.new _ _ _).setRow_same _⟩ (fun w6 hw6 => ?_)
  obtain ⟨z, hz, hb6, hZ6⟩ := hw6
  rw [← hz]
  have HZO := hide (show ¬ i.own z from by rw [hz]; exact HA5.out.new_own)
  have HA6 := hide (HA5.out.below hb6)
  have HQ6 := hide (HQ5.out.below hb6 HQ5.out.lt)
  have HT6 := hide (HT5.out.trans ((Tch.of_below hb6).mono HT5.out.size fun _ _ h => h))
  have HZ6 := hide hZ6
  clear hz hb6 hZ6 HA5 HQ5 HT5
  have cj : w6.cell? ⟨q, 1 + k, none⟩ = some (.int .i64 (j : Int)) := (HQ6.out.cell (1 + k)).trans HJ.out.2.1
  have ql := HQ6.out.lt
  go_upto_region 4 with (fail)
  refine wp_region_text [0, 0, 0, 0, 0, 2, 0] (· = w6.drew) (by kernel_rfl) (by kernel_rfl) rfl ?_
  refine wpOrd_q (v := .agg (bvs bk).toArray) (by rfl) (fun W hW => by cases hW; exact exec_load_blk 106 (.tmp 9) rfl z _ (bvs bk).toArray _ rfl HZ6.out.drew Tryz.underlying106 rfl (size_blockOf HBK.out.2)) ?_
  try simp only [Act.put, List.setIfInBounds_toArray, List.set_cons_zero, List.set_cons_succ]
  iterate 4 (refine wpOrd_q (v := ?_) (by rfl) (fun W hW => ?_) ?_; rotate_left; (focus ((cases hW; go_simp); try with_reducible rfl)); try simp only [Act.put, List.setIfInBounds_toArray, List.set_cons_zero, List.set_cons_succ])
  refine wpOrd_b (by rfl) (fun K hK => ?_)
  go_simp
  refine (HPT.out _).mono ?_
  rintro e w7 ⟨rfl, hb7⟩
  refine hK (fun _ => True) _ _ trivial ?_
  have hb67 : Below w6.heap.size w6 w7 := (Below.refl _ _).drew.trans hb7
  have HA7 := hide (HA6.out.below hb67)
  have HQ7 := hide (HQ6.out.below hb67 HQ6.out.lt)
  have HZ7 := hide (HZ6.out.below hb67 HZ6.out.lt)
  have HT7 := hide (HT6.out.trans ((Tch.of_below hb67).mono HT6.out.size fun _ _ h => h))
  clear hK hb7 hb67 cj ql HA6 HQ6 HZ6 HT6 HPT
  try simp only [Act.put, List.setIfInBounds_toArray, List.set_cons_zero, List.set_cons_succ]
  iterate 1 (refine wpOrd_q (v := ?_) (by rfl) (fun W hW => ?_) ?_; rotate_left; (focus (go_simp; try with_reducible rfl)); try simp only [Act.put, List.setIfInBounds_toArray, List.set_cons_zero, List.set_cons_succ])
  refine wpOrd_nil ?_
  have c0 : w7.cell? ⟨q, 0, none⟩ = some (.int .i64 (v.steps : Int)) := HQ7.out.cell 0
  have ql := HQ7.out.lt
  obtain ⟨k1, hk1⟩ : ∃ k1, k1 = k + 1 := ⟨_, rfl⟩
  have e1 : IntKind.i64.wrap ((k : Int) + 1) = (k1 : Int) := by rw [IntWalk.i64_in _ (by omega)]; omega
  have HK1 := hide hk1
  have t1 : decide (k1 < v.steps) = false := by have := HV.out.2; simp; omega
  clear hk1
  have hgv := cut_give HA7.out HK.out.1 HB5.out HK.out.2.1 HX.out.1 HX.out.2
  rw [HP.out.2.2] at hgv
  have HGV := hide hgv
  clear hgv
  go_wp2_with fail
  refine HGV.out.mono ?_
  rintro e w8 ⟨rfl, ha8, ht8⟩
  have HA8 := hide ha8
  have HQ8 := hide (HQ7.out.tch ht8 HQ7.out.lt HQO.out)
  have HZ8 := hide (HZ7.out.tch ht8 HZ7.out.lt HZO.out)
  have HT8 := hide (HT7.out.trans (ht8.mono HT7.out.size fun _ _ h => h))
  have cj : w8.cell? ⟨q, 1 + k, none⟩ = some (.int .i64 (j : Int)) := (HQ8.out.cell (1 + k)).trans HJ.out.2.1
  have ql := HQ8.out.lt
  clear ha8 ht8 HGV HA7 HQ7 HZ7 HT7
  go_upto_region 14 with (fail)
  refine wp_region_text [0, 0, 0, 0, 0, 0, 0, 1, 2, 0] (Below w8.heap.size w8) (by kernel_rfl) (by kernel_rfl) (Below.refl _ _).drew ?_
  iterate 2 (refine wpOrd_q (v := ?_) (by rfl) (fun W hW => ?_) ?_; rotate_left; (focus ((obtain ⟨hWc, hWf⟩ := bcell hW; go_simp); try with_reducible rfl)); try simp only [Act.put, List.setIfInBounds_toArray, List.set_cons_zero, List.set_cons_succ])
  refine wpOrd_q (v := .agg (bvs bk).toArray) (by rfl) (fun W hW => exec_load_blk 106 (.tmp 9) rfl z _ (bvs bk).toArray _ rfl (HZ8.out.below hW HZ8.out.lt) Tryz.underlying106 rfl (size_blockOf HBK.out.2)) ?_
  try simp only [Act.put, List.setIfInBounds_toArray, List.set_cons_zero, List.set_cons_succ]
  iterate 4 (refine wpOrd_q (v := ?_) (by rfl) (fun W hW => ?_) ?_; rotate_left; (focus ((obtain ⟨hWc, hWf⟩ := bcell hW; go_simp); try with_reducible rfl)); try simp only [Act.put, List.setIfInBounds_toArray, List.set_cons_zero, List.set_cons_succ])
  refine wpOrd_x (by rfl) (fun K hK => ?_)
  go_simp
  have hpo := point_ok w8.drew HBK.out.2 HJ.out.1 (n := 0) (by omega)
  rw [show ((0 : Nat) : Int) = 0 from rfl] at hpo
  refine hpo.mono ?_
  rintro e w9 ⟨rfl, hb9⟩
  have hb89 : Below w8.heap.size w8 w9 := (Below.refl _ _).drew.trans hb9
  refine hK _ _ _ (fun _ h => h) hb89 ?_
  have HA9 := hide (HA8.out.below hb89)
  have HT9 := hide (HT8.out.trans ((Tch.of_below hb89).mono HT8.out.size fun _ _ h => h))
  have hput := cut_put (b := pointB bk j 0) HA9.out HK.out.1 HP.out.1 HK.out.2.2 (by rw [pointB_length]; exact HBK.out.2)
  rw [HP.out.2.1] at hput
  have HPUT := hide hput
  clear hK hpo hb9 hb89 cj ql HA8 HQ8 HZ8 HT8 hput
  try simp only [Act.put, List.setIfInBounds_toArray, List.set_cons_zero, List.set_cons_succ]
  refine wpOrd_b (by rfl) (fun K hK => ?_)
  go_simp
  refine HPUT.out.mono ?_
  rintro e w10 ⟨rfl, ha10, ht10⟩
  refine hK (fun _ => True) _ _ trivial ?_
  have HF := hide (And.intro ha10 (HT9.out.trans (ht10.mono HT9.out.size fun _ _ h => h)))
  clear hK ha10 ht10 HPUT HA9 HT9
  try simp only [Act.put, List.setIfInBounds_toArray, List.set_cons_zero, List.set_cons_succ]
  iterate 1 (refine wpOrd_q (v := ?_) (by rfl) (fun W hW => ?_) ?_; rotate_left; (focus (go_simp; try with_reducible rfl)); try simp only [Act.put, List.setIfInBounds_toArray, List.set_cons_zero, List.set_cons_succ])
  refine wpOrd_nil ?_
  go_wp2
  go_returns
  exact ⟨rfl, HF.out.1, HF.out.2⟩
set_option maxRecDepth 100000 in
set_option maxHeartbeats 4000000 in
theorem lose_two {v : WayV} {k p x j x2 j2 : Nat} (h : CutR w0 w i s0 gg g lab G K) (hKl : K.length ≤ 28) (hb5 : g.blocks ≤ 512) (hK1 : g.base ∈ K) (hK2 : g.data + p ∈ K) (hK3 : g.data + x ∈ K) (hv : v.Ok) (hk : v.steps = k + 2) (hj : v.idx[k]? = some j) (hj2 : v.idx[k + 1]? = some j2) (hp : p < g.blocks) (hx : ptrB (G.by_ p) j = x + 1) (hxb : x < g.blocks) (hxt : G.tk x = true)
    (hx2 : ptrB (G.by_ x) j2 = x2 + 1) (hx2b : x2 < g.blocks) (hx2t : G.tk x2 = true) (hne : x ≠ x2) (hG' : (if 0 < j2 then (G.give x2).put x (pointB (G.by_ x) j2 0) else ((((G.give x2).put x (pointB (G.by_ x) j2 0)).give x).put p (pointB (G.by_ p) j 0))) = G') :
    Calls Tryz.prog 149 #[.pointer (some ⟨gg, 0, none⟩), .int .u16 ((p + 1 : Nat) : Int), .agg v.cells, .int .i64 (k : Int)] w fun e w' => e = .returned (.int .i64 0) ∧ CutR w0 w' i s0 gg g lab G' K ∧ Tch w.heap.size i.own w w' := by
  obtain ⟨-, hcj2, -⟩ := WayV.idx_lt hv hj2
  have hlf := fun W (hW : CutR w0 W i s0 gg g lab G K) => lose_leaf hW hKl hb5 hK1 hK3 hv hk hj2 hxb hx2 hx2b hx2t
  obtain ⟨G1, hG1⟩ : ∃ G1, (G.give x2).put x (pointB (G.by_ x) j2 0) = G1 := ⟨_, rfl⟩
  rw [hG1] at hlf hG'
  have HGG := hide hG'
  clear hG'
  have hxt1 : G1.tk x = true := by rw [← hG1]; exact (upd_other _ _ hne).trans hxt
  have HLF := hide hlf
  have HJ2 := hide hcj2
  have HX1 := hide hxt1
  have hj2z : (j2 : Int) ≤ 31 := by have := (WayV.idx_lt hv hj2).1; omega
  clear hx2 hx2b hx2t hne hG1 hj2 hcj2 hlf hxt1 hK3
  have hwo := hv
  have hjl := hj
  obtain ⟨hj32, hcj, hk3⟩ := WayV.idx_lt hv hj
  have hbl := h.gok.len p
  have hget := fun W (hW : CutR w0 W i s0 gg g lab G K) => cut_get hW hp
  generalize hbk : G.by_ p = bk at *
  have hpt := fun W => pointer_ok W hbl hj32
  rw [hx] at hpt
  have ep : ((p + 1 : Nat) : Int) = (p : Int) + 1 := by omega
  have ex : ((x + 1 : Nat) : Int) = (x : Int) + 1 := by omega
  rw [ep] at hget ⊢
  rw [ex] at hpt
  have hkz : (k : Int) < 3 := by omega
  have hpz : (p : Int) ≤ 511 := by omega
  have hxz : (x : Int) ≤ 511 := by omega
  have hsz : (v.steps : Int) ≤ 3 := by rcases hv with h | h | h <;> omega
  have H := hide h
  have HK := hide (And.intro hKl (And.intro hK1 hK2))
  have HB5 := hide hb5
  have HBK := hide (And.intro hbk hbl)
  have HGT := hide hget
  have HPT := hide hpt
  have HV := hide (And.intro hwo hk)
  have HJ := hide (And.intro hj32 (And.intro hcj hjl))
  have HX := hide (And.intro hxb hxt)
  have HP := hide (And.intro hp (And.intro ep ex))
  clear h hKl hK1 hK2 hb5 hbk hbl hget hpt hwo hk hj32 hcj hjl hxb hxt hp ep ex hj hv hx
  go_enter Tryz.func149, Tryz.ntmps149
  go_upto_region 1 with (fail)
  refine at_world (fun W => ∃ q, q = w.heap.size ∧ Below w.heap.size w W ∧ Blk W q 268 v.cells) ⟨_, rfl, (Below.refl _ _).alloc (Nat.le_refl _) _, Blk.new _ _ _⟩ (fun w1 hw1 => ?_)
  obtain ⟨q, hq, hb1, hQ1⟩ := hw1
  rw [← hq]
  have HA1 := hide (H.out.below hb1)
  have HQ1 := hide hQ1
  have HQO := hide (show ¬ i.own q from by rw [hq]; exact H.out.new_own)
  have HT1 := hide (Tch.of_below (S := i.own) hb1)
  clear hq hb1 hQ1
  go_wp2_with fail
  refine (HGT.out w1 HA1.out).mono ?_
  rintro e w5 ⟨rfl, ha5, ht5⟩
  have HA5 := hide ha5
  have HQ5 := hide (HQ1.out.tch ht5 HQ1.out.lt HQO.out)
  have HT5 := hide (HT1.out.trans (ht5.mono HT1.out.size fun _ _ h => h))
  clear ha5 ht5 HGT HA1 HQ1 HT1
  go_upto_region 2 with (first | ((with_reducible refine at_alloc 106 ?_); refine wpList_alloc_as rfl 106 rfl _ (zero_block _) ?_) | ((with_reducible refine at_store 106 (.tmp 9) (.tmp 18) ?_); refine wpList_store_blk rfl 106 (.tmp 9) (.tmp 18) rfl w5.heap.size 106 _ _ (by rfl) (by rfl) (Blk.new _ _ _) (size_blockOf HBK.out.2) ((bvs_size zeroB_length).trans (bvs_size HBK.out.2).symm) (bvs_oneCell _) (fun _ => ?_)) | fail)
  refine at_world (fun W => ∃ z, z = w5.heap.size ∧ Below w5.heap.size w5 W ∧ Blk W z 106 (bvs bk).toArray) ⟨_, rfl, below_setRow ((Below.refl _ _).alloc (Nat.le_refl _) _) (Nat.le_refl _) _, (Blk.new _ _ _).setRow_same _⟩ (fun w6 hw6 => ?_)
  obtain ⟨z, hz, hb6, hZ6⟩ := hw6
  rw [← hz]
  have HZO := hide (show ¬ i.own z from by rw [hz]; exact HA5.out.new_own)
  have HA6 := hide (HA5.out.below hb6)
  have HQ6 := hide (HQ5.out.below hb6 HQ5.out.lt)
  have HT6 := hide (HT5.out.trans ((Tch.of_below hb6).mono HT5.out.size fun _ _ h => h))
  have HZ6 := hide hZ6
  clear hz hb6 hZ6 HA5 HQ5 HT5
  have cj : w6.cell? ⟨q, 1 + k, none⟩ = some (.int .i64 (j : Int)) := (HQ6.out.cell (1 + k)).trans HJ.out.2.1
  have ql := HQ6.out.lt
  go_upto_region 4 with (fail)
  refine wp_region_text [0, 0, 0, 0, 0, 2, 0] (· = w6.drew) (by kernel_rfl) (by kernel_rfl) rfl ?_
  refine wpOrd_q (v := .agg (bvs bk).toArray) (by rfl) (fun W hW => by cases hW; exact exec_load_blk 106 (.tmp 9) rfl z _ (bvs bk).toArray _ rfl HZ6.out.drew Tryz.underlying106 rfl (size_blockOf HBK.out.2)) ?_
  try simp only [Act.put, List.setIfInBounds_toArray, List.set_cons_zero, List.set_cons_succ]
  iterate 4 (refine wpOrd_q (v := ?_) (by rfl) (fun W hW => ?_) ?_; rotate_left; (focus ((cases hW; go_simp); try with_reducible rfl)); try simp only [Act.put, List.setIfInBounds_toArray, List.set_cons_zero, List.set_cons_succ])
  refine wpOrd_b (by rfl) (fun K hK => ?_)
  go_simp
  refine (HPT.out _).mono ?_
  rintro e w7 ⟨rfl, hb7⟩
  refine hK (fun _ => True) _ _ trivial ?_
  have hb67 : Below w6.heap.size w6 w7 := (Below.refl _ _).drew.trans hb7
  have HA7 := hide (HA6.out.below hb67)
  have HQ7 := hide (HQ6.out.below hb67 HQ6.out.lt)
  have HZ7 := hide (HZ6.out.below hb67 HZ6.out.lt)
  have HT7 := hide (HT6.out.trans ((Tch.of_below hb67).mono HT6.out.size fun _ _ h => h))
  clear hK hb7 hb67 cj ql HA6 HQ6 HZ6 HT6 HPT
  try simp only [Act.put, List.setIfInBounds_toArray, List.set_cons_zero, List.set_cons_succ]
  iterate 1 (refine wpOrd_q (v := ?_) (by rfl) (fun W hW => ?_) ?_; rotate_left; (focus (go_simp; try with_reducible rfl)); try simp only [Act.put, List.setIfInBounds_toArray, List.set_cons_zero, List.set_cons_succ])
  refine wpOrd_nil ?_
  have c0 : w7.cell? ⟨q, 0, none⟩ = some (.int .i64 (v.steps : Int)) := HQ7.out.cell 0
  have ql := HQ7.out.lt
  obtain ⟨k1, hk1⟩ : ∃ k1, k1 = k + 1 := ⟨_, rfl⟩
  have e1 : IntKind.i64.wrap ((k : Int) + 1) = (k1 : Int) := by rw [IntWalk.i64_in _ (by omega)]; omega
  have HK1 := hide hk1
  have t1 : decide (k1 < v.steps) = true := by have := HV.out.2; simp; omega
  clear hk1
  have hcl := HLF.out w7 HA7.out
  rw [HP.out.2.2, show ((k + 1 : Nat) : Int) = (k1 : Int) from by rw [HK1.out]] at hcl
  have HCL := hide hcl
  clear hcl HLF
  go_wp2_with (first | ((with_reducible refine at_load 268 (.tmp 6) ?_); refine wpList_load_blk rfl 268 (.tmp 6) rfl q _ _ _ (by rfl) HQ7.out Tryz.underlying268 rfl (size_way v) ?_) | fail)
  refine HCL.out.mono ?_
  rintro e w7' ⟨rfl, ha7, ht7⟩
  have HA7' := hide ha7
  have HQ7' := hide (HQ7.out.tch ht7 HQ7.out.lt HQO.out)
  have HZ7' := hide (HZ7.out.tch ht7 HZ7.out.lt HZO.out)
  have HT7' := hide (HT7.out.trans (ht7.mono HT7.out.size fun _ _ h => h))
  clear ha7 ht7 HCL HA7 HQ7 HZ7 HT7 c0 ql
  have cj2 : w7'.cell? ⟨q, 1 + k1, none⟩ = some (.int .i64 (j2 : Int)) := (HQ7'.out.cell (1 + k1)).trans (by rw [HK1.out]; exact HJ2.out)
  have ql := HQ7'.out.lt
  have hk1z : (k1 : Int) < 3 := by have := HV.out.2; have := HK1.out; rcases HV.out.1 with h | h | h <;> omega
  by_cases hj0 : 0 < j2
  · have t2 : decide (0 < j2) = true := by simp; omega
    have hgg := HGG.out
    rw [if_pos hj0] at hgg
    have HGG2 := hide hgg
    clear hj0 hgg HGG
    go_wp2
    go_returns
    exact ⟨rfl, by rw [← HGG2.out]; exact HA7'.out, HT7'.out⟩
  have t2 : decide (0 < j2) = false := by simp; omega
  have hgg := HGG.out
  rw [if_neg hj0] at hgg
  have HGG2 := hide hgg
  clear hj0 hgg HGG
  have hgv := cut_give HA7'.out HK.out.1 HB5.out HK.out.2.1 HX.out.1 HX1.out
  rw [HP.out.2.2] at hgv
  have HGV := hide hgv
  clear hgv
  go_wp2_with fail
  refine HGV.out.mono ?_
  rintro e w8 ⟨rfl, ha8, ht8⟩
  have HA8 := hide ha8
  have HQ8 := hide (HQ7'.out.tch ht8 HQ7'.out.lt HQO.out)
  have HZ8 := hide (HZ7'.out.tch ht8 HZ7'.out.lt HZO.out)
  have HT8 := hide (HT7'.out.trans (ht8.mono HT7'.out.size fun _ _ h => h))
  have cj : w8.cell? ⟨q, 1 + k, none⟩ = some (.int .i64 (j : Int)) := (HQ8.out.cell (1 + k)).trans HJ.out.2.1
  have ql := HQ8.out.lt
  clear ha8 ht8 HGV HA7' HQ7' HZ7' HT7'
  go_upto_region 14 with (fail)
  refine wp_region_text [0, 0, 0, 0, 0, 0, 0, 1, 2, 0] (Below w8.heap.size w8) (by kernel_rfl) (by kernel_rfl) (Below.refl _ _).drew ?_
  iterate 2 (refine wpOrd_q (v := ?_) (by rfl) (fun W hW => ?_) ?_; rotate_left; (focus ((obtain ⟨hWc, hWf⟩ := bcell hW; go_simp); try with_reducible rfl)); try simp only [Act.put, List.setIfInBounds_toArray, List.set_cons_zero, List.set_cons_succ])
  refine wpOrd_q (v := .agg (bvs bk).toArray) (by rfl) (fun W hW => exec_load_blk 106 (.tmp 9) rfl z _ (bvs bk).toArray _ rfl (HZ8.out.below hW HZ8.out.lt) Tryz.underlying106 rfl (size_blockOf HBK.out.2)) ?_
  try simp only [Act.put, List.setIfInBounds_toArray, List.set_cons_zero, List.set_cons_succ]
  iterate 4 (refine wpOrd_q (v := ?_) (by rfl) (fun W hW => ?_) ?_; rotate_left; (focus ((obtain ⟨hWc, hWf⟩ := bcell hW; go_simp); try with_reducible rfl)); try simp only [Act.put, List.setIfInBounds_toArray, List.set_cons_zero, List.set_cons_succ])
  refine wpOrd_x (by rfl) (fun K hK => ?_)
  go_simp
  have hpo := point_ok w8.drew HBK.out.2 HJ.out.1 (n := 0) (by omega)
  rw [show ((0 : Nat) : Int) = 0 from rfl] at hpo
  refine hpo.mono ?_
  rintro e w9 ⟨rfl, hb9⟩
  have hb89 : Below w8.heap.size w8 w9 := (Below.refl _ _).drew.trans hb9
  refine hK _ _ _ (fun _ h => h) hb89 ?_
  have HA9 := hide (HA8.out.below hb89)
  have HT9 := hide (HT8.out.trans ((Tch.of_below hb89).mono HT8.out.size fun _ _ h => h))
  have hput := cut_put (b := pointB bk j 0) HA9.out HK.out.1 HP.out.1 HK.out.2.2 (by rw [pointB_length]; exact HBK.out.2)
  rw [HP.out.2.1] at hput
  have HPUT := hide hput
  clear hK hpo hb9 hb89 cj ql HA8 HQ8 HZ8 HT8 hput
  try simp only [Act.put, List.setIfInBounds_toArray, List.set_cons_zero, List.set_cons_succ]
  refine wpOrd_b (by rfl) (fun K hK => ?_)
  go_simp
  refine HPUT.out.mono ?_
  rintro e w10 ⟨rfl, ha10, ht10⟩
  refine hK (fun _ => True) _ _ trivial ?_
  have HF := hide (And.intro ha10 (HT9.out.trans (ht10.mono HT9.out.size fun _ _ h => h)))
  clear hK ha10 ht10 HPUT HA9 HT9
  try simp only [Act.put, List.setIfInBounds_toArray, List.set_cons_zero, List.set_cons_succ]
  iterate 1 (refine wpOrd_q (v := ?_) (by rfl) (fun W hW => ?_) ?_; rotate_left; (focus (go_simp; try with_reducible rfl)); try simp only [Act.put, List.setIfInBounds_toArray, List.set_cons_zero, List.set_cons_succ])
  refine wpOrd_nil ?_
  go_wp2
  go_returns
  exact ⟨rfl, by rw [← HGG2.out]; exact HF.out.1, HF.out.2⟩
theorem CutR.setNode {nb r : Nat} {cs : Array Value} {u : Value} (h : CutR w0 w i s0 gg g lab G K) (hnb : w0.heap.size ≤ nb) (hN : Blk w nb 130 cs) : CutR w0 (w.setCell ⟨nb, r, none⟩ u) i s0 gg g lab G K := by
  obtain ⟨s, h1, h2, h3, h4⟩ := h
  have ht : Tch w.heap.size (· = nb) w (w.setCell ⟨nb, r, none⟩ u) := Tch.setCell fun _ => rfl
  have e1 : ¬ i.own nb := h1.tx.other hN (by decide) (by decide) (by decide)
  have e2 : nb ≠ i.ll := hN.ne h1.tx.log.log (by decide)
  have e3 : gg ≠ nb := h1.gp.ne hN (by decide)
  exact ⟨s, ⟨h1.tx.apart ht (fun k hk => by subst hk; exact ⟨e1, e2⟩), Blk.tch h1.gp ht h1.gp.lt e3, h1.ok, h1.is, h1.gok⟩, h2, h3, h4.trans (ht.mono h4.size fun k hk hs => by omega)⟩
theorem build_three0 (w : World) : (Instr.build 266 #[]).run Tryz.prog w = .ok (.agg #[.int .i64 0, .int .i64 0, .int .i64 0]) w := by kernel_rfl
theorem wf64 {a : Nat} (ha : a < 64) : (Lit.int .i64 (a : Int)).wf = true := by
  simp [Lit.wf, IntKind.min, IntKind.max, IntKind.signed, IntKind.bits]
  omega
theorem at_eq (w : World) {a b : Nat} (ha : a < 64) (hb : b < 64) : (Op.equalIn 10000 266 (.agg #[.int .i64 (a : Int), .int .i64 (b : Int), .int .i64 0]) (.agg #[.int .i64 0, .int .i64 0, .int .i64 0])).run Tryz.prog w = .ok (decide (a = 0 ∧ b = 0)) w := by
  have hl : ∀ x y : Nat, x < 64 → y < 64 → Tryz.prog.keyLits (0 + 2) 266 [.int .i64 (x : Int), .int .i64 (y : Int), .int .i64 0] = some [Lit.int .i64 (x : Int), Lit.int .i64 (y : Int), Lit.int .i64 0] := fun x y hx hy =>
    lits_ints (P := Tryz.prog) (d := 0) Tryz.underlying266 Tryz.underlying3 (by kernel_rfl) (by kernel_rfl) (xs := [(x : Int), (y : Int), 0]) rfl (fun z hz => by
      simp only [List.mem_cons, List.not_mem_nil, or_false] at hz
      rcases hz with rfl | rfl | rfl
      · exact wf64 hx
      · exact wf64 hy
      · exact wf64 (a := 0) (by omega))
  have hf : ∀ x y : Value, (Value.agg #[x, y, .int .i64 0]).formed Tryz.prog 266 = true := fun x y => by
    unfold Value.formed
    rw [Tryz.underlying266]
    simp only [beq_iff_eq]
    kernel_rfl
  obtain ⟨r, h1, h2⟩ := run_equal_lits (P := Tryz.prog) w (m := 2) (D := 2) (by decide) (k := 266) (by kernel_rfl) (hf _ _) (hf (.int .i64 0) (.int .i64 0)) (hl a b ha hb) (hl 0 0 (by omega) (by omega))
  have : r = decide (a = 0 ∧ b = 0) := by
    rw [Bool.eq_iff_iff, h2, decide_eq_true_iff]
    simp
  rw [h1, this]
theorem CutR.node_own {nb : Nat} {cs : Array Value} (h : CutR w0 w i s0 gg g lab G K) (hN : Blk w nb 130 cs) : ¬ i.own nb := by
  obtain ⟨s, h1, h2, h3, h4⟩ := h
  exact h1.tx.other hN (by decide) (by decide) (by decide)
theorem nkeys_next {b : Nat} (hb : b < 256) : (if b = 6 then 2 else if 38 ≤ b ∧ (b - 38) % 32 = 0 then (if b = 38 then 3 else 2) else 1) + nkeys b = nkeys (b + 1) := by
  unfold nkeys
  by_cases h6 : b < 6
  · rw [if_neg (by omega), if_neg (by omega), if_neg (by omega), if_neg (by omega), if_neg (by omega), if_neg (by omega)]
    omega
  · by_cases h38 : b < 38
    · by_cases e : b = 6
      · subst e; decide
      · rw [if_neg e, if_neg (by omega), if_pos (by omega), if_neg (by omega), if_pos (by omega), if_neg (by omega)]
        omega
    · rw [if_neg (by omega), if_pos (by omega : 6 < b), if_pos (by omega : 6 < b + 1), if_pos (by omega : 38 < b + 1)]
      by_cases e : b = 38
      · subst e; decide
      · rw [if_pos (by omega : 38 < b)]
        by_cases e2 : (b - 38) % 32 = 0
        · rw [if_pos ⟨by omega, e2⟩, if_neg e]; omega
        · rw [if_neg (by omega)]; omega
theorem lose_any {n : NodeV} {b : Nat} {κ : Nat → Nat} (hG : G.Ok) (hKl : K.length ≤ 28) (hb5 : g.blocks ≤ 512) (hK1 : g.base ∈ K) (hKp : ∀ k, 256 ≤ k → prOf (b + 1) k = true → g.data + κ k ∈ K) (hb6 : 6 ≤ b) (hb : b < 256) (hT : Tree G g.blocks n (prOf (b + 1)) κ) :
    ∃ G1 p0 d, (n.rootV (wayOf b)).toNat = p0 + 1 ∧ p0 < g.blocks ∧ d + nkeys b = nkeys (b + 1) ∧
      (∀ W, CutR w0 W i s0 gg g lab G K → Calls Tryz.prog 149 #[.pointer (some ⟨gg, 0, none⟩), .int .u16 ((p0 + 1 : Nat) : Int), .agg (wayOf b).cells, .int .i64 ((0 : Nat) : Int)] W fun e w' => e = .returned (.int .i64 0) ∧ CutR w0 w' i s0 gg g lab G1 K ∧ Tch W.heap.size i.own W w') ∧
      (if b = 6 ∨ b = 38 then G1.tk p0 = true ∧ Del G (G1.give p0) g.blocks n (n.setRoot (wayOf b) 0) (prOf (b + 1)) (prOf b) κ d else Del G G1 g.blocks n n (prOf (b + 1)) (prOf b) κ d) := by
  have hwo := wayOf_ok hb
  obtain ⟨hr1, hr2⟩ := par_root hb
  have htop := hT.top _ hr2 hr1
  have hsl := slot_root hb n
  have hnk := nkeys_next hb
  have hob := hT.own b (prOf_true.2 (by omega))
  by_cases h38 : b < 38
  · have hrk : rootK b = 256 := by unfold rootK; rw [if_neg (by omega), if_pos h38]
    have hp256 : prOf (b + 1) 256 = true := prOf_true.2 (by omega)
    rw [hrk, hp256, if_pos rfl] at htop
    rw [hrk] at hsl
    have hor := hT.own 256 hp256
    have hpar : par b = some (256, b - 6) := par_single hb6 h38
    have hsub := hT.sub b 256 (b - 6) (by omega) hpar hp256
    rw [prOf_true.2 (by omega), if_pos rfl] at hsub
    have hst : (wayOf b).steps = 0 + 1 := by unfold wayOf; rw [if_neg (by omega), if_pos h38]
    have hix : (wayOf b).idx[0]? = some (b - 6) := by unfold wayOf; rw [if_neg (by omega), if_pos h38]; rfl
    have hne : κ 256 ≠ κ b := fun e => by have := hT.inj 256 b hp256 (prOf_true.2 (by omega)) e; omega
    refine ⟨_, κ 256, _, by rw [hsl, htop], hor.1, hnk, fun W hW => lose_leaf hW hKl hb5 hK1 (hKp 256 (by omega) hp256) hwo hst hix hor.1 hsub hob.1 hob.2, ?_⟩
    by_cases e : b = 6
    · subst e
      rw [if_pos (.inl rfl), if_pos rfl]
      exact ⟨(upd_other _ _ hne).trans hor.2, del_six hT hG⟩
    · rw [if_neg (by omega), if_neg e, if_neg (by omega)]
      exact del_more hT hG (by omega) hb (fun h => by omega) hpar
  · have hrk : rootK b = 257 := by unfold rootK; rw [if_neg (by omega), if_neg h38]
    have hp257 : prOf (b + 1) 257 = true := prOf_true.2 (by omega)
    rw [hrk, hp257, if_pos rfl] at htop
    rw [hrk] at hsl
    have hor := hT.own 257 hp257
    obtain ⟨q, hq⟩ : ∃ q, q = (b - 38) / 32 := ⟨_, rfl⟩
    have hpq : prOf (b + 1) (258 + q) = true := prOf_true.2 (by omega)
    have hoq := hT.own (258 + q) hpq
    have hpar : par b = some (258 + q, (b - 38) % 32) := by rw [hq]; exact par_double (by omega) hb
    have hpm : par (258 + q) = some (257, q) := par_mid' (by omega)
    have hsub := hT.sub b (258 + q) _ (by omega) hpar hpq
    rw [prOf_true.2 (by omega), if_pos rfl] at hsub
    have hsub2 := hT.sub (258 + q) 257 q (by omega) hpm hp257
    rw [hpq, if_pos rfl] at hsub2
    have hst : (wayOf b).steps = 0 + 2 := by unfold wayOf; rw [if_neg (by omega), if_neg h38]
    have hix : (wayOf b).idx[0]? = some q := by unfold wayOf; rw [if_neg (by omega), if_neg h38, hq]; rfl
    have hix2 : (wayOf b).idx[0 + 1]? = some ((b - 38) % 32) := by unfold wayOf; rw [if_neg (by omega), if_neg h38]; rfl
    have hne : κ (258 + q) ≠ κ b := fun e => by have := hT.inj (258 + q) b hpq (prOf_true.2 (by omega)) e; omega
    have hne2 : κ 257 ≠ κ (258 + q) := fun e => by have := hT.inj 257 (258 + q) hp257 hpq e; omega
    have hne3 : κ 257 ≠ κ b := fun e => by have := hT.inj 257 b hp257 (prOf_true.2 (by omega)) e; omega
    refine ⟨_, κ 257, _, by rw [hsl, htop], hor.1, hnk, fun W hW => lose_two hW hKl hb5 hK1 (hKp 257 (by omega) hp257) (hKp (258 + q) (by omega) hpq) hwo hst hix hix2 hor.1 hsub2 hoq.1 hoq.2 hsub hob.1 hob.2 hne rfl, ?_⟩
    have e6 : ¬ b = 6 := by omega
    by_cases hm : (b - 38) % 32 = 0
    · rw [if_neg (show ¬ 0 < (b - 38) % 32 by omega), if_neg e6, if_pos (show 38 ≤ b ∧ (b - 38) % 32 = 0 from ⟨by omega, hm⟩), hm]
      by_cases e : b = 38
      · subst e
        have hq0 : q = 0 := by omega
        subst hq0
        rw [if_pos (show 38 = 6 ∨ 38 = 38 from .inr rfl), if_pos rfl]
        exact ⟨(upd_other _ _ hne2).trans ((upd_other _ _ hne3).trans hor.2), del_38 hT hG⟩
      · rw [if_neg (show ¬ (b = 6 ∨ b = 38) by omega), if_neg e]
        exact del_first hT hG hb (by omega) (by omega)
    · rw [if_pos (show 0 < (b - 38) % 32 by omega), if_neg (show ¬ (b = 6 ∨ b = 38) by omega), if_neg e6, if_neg (show ¬ (38 ≤ b ∧ (b - 38) % 32 = 0) by omega)]
      exact del_more hT hG (by omega) hb (fun _ => hm) hpar
set_option maxRecDepth 100000 in
set_option maxHeartbeats 4000000 in
theorem fdrop_ok {n : NodeV} {b nb : Nat} {κ : Nat → Nat} (h : CutR w0 w i s0 gg g lab G K) (hKl : K.length ≤ 28) (hb5 : g.blocks ≤ 512) (hK1 : g.base ∈ K) (hKp : ∀ k, 256 ≤ k → prOf (b + 1) k = true → g.data + κ k ∈ K) (hb : b < 256) (hnb : w0.heap.size ≤ nb) (hN : Blk w nb 130 n.cells.toArray) (hT : Tree G g.blocks n (prOf (b + 1)) κ) :
    Calls Tryz.prog 97 #[.pointer (some ⟨gg, 0, none⟩), .pointer (some ⟨nb, 0, none⟩), .int .i64 (b : Int)] w fun e w' => e = .returned (.int .i64 0) ∧ ∃ G' n' d, CutR w0 w' i s0 gg g lab G' K ∧ Blk w' nb 130 n'.cells.toArray ∧ Del G G' g.blocks n n' (prOf (b + 1)) (prOf b) κ d ∧ d + nkeys b = nkeys (b + 1) := by
  have hwo := wayOf_ok hb
  have hpl := fun W => place_ok' W hb
  have hG := h.gok
  have hnd := hT.dir
  have hset := NodeV.setRoot_cells hT.dir hwo 0
  rw [show ((0 : UInt16).toNat : Int) = 0 from rfl] at hset
  obtain ⟨hrc, hr12⟩ := NodeV.rootV_at hT.dir hwo
  have hown := h.node_own hN
  have hloss : 6 ≤ b → _ := fun h6 => lose_any (w0 := w0) (i := i) (s0 := s0) (gg := gg) (lab := lab) hG hKl hb5 hK1 hKp h6 hb hT
  have hdir : b < 6 → (n.rootV (wayOf b)).toNat = κ b + 1 ∧ κ b < g.blocks ∧ G.tk (κ b) = true ∧ Del G (G.give (κ b)) g.blocks n (n.setRoot (wayOf b) 0) (prOf (b + 1)) (prOf b) κ 1 ∧ 1 + nkeys b = nkeys (b + 1) := fun h6 => by
    have hrk : rootK b = b := by unfold rootK; rw [if_pos h6]
    have hsl := slot_root hb n
    have htop := hT.top b (by omega) (par_dir h6)
    have ho := hT.own b (prOf_true.2 (by omega))
    rw [prOf_true.2 (by omega), if_pos rfl] at htop
    have hnk := nkeys_next hb
    rw [if_neg (by omega), if_neg (by omega)] at hnk
    exact ⟨by rw [hsl, hrk, htop], ho.1, ho.2, del_dir hT hG h6, hnk⟩
  have ha01 : (wayOf b).a0 < 64 ∧ (wayOf b).a1 < 64 := by
    unfold wayOf
    split
    · simp; omega
    · split
      · simp; omega
      · simp; omega
  have hst : ((wayOf b).steps = 0 ↔ b < 6) ∧ (((wayOf b).a0 = 0 ∧ (wayOf b).a1 = 0) ↔ (b = 0 ∨ b = 6 ∨ b = 38)) := by
    unfold wayOf
    split
    · simp; omega
    · split
      · simp; omega
      · simp; omega
  obtain ⟨v, hv⟩ : ∃ v, wayOf b = v := ⟨_, rfl⟩
  rw [hv] at hwo hpl hset hrc hr12 hloss hdir hst ha01
  have HA01 := hide ha01
  have H := hide h
  have HPL := hide hpl
  have HWO := hide hwo
  have HL := hide hloss
  have HD := hide hdir
  have HN := hide (And.intro hN (And.intro hnb hown))
  have HS := hide (And.intro hset hrc)
  have HST := hide hst
  have HK := hide (And.intro hKl (And.intro hb5 hK1))
  have hstz : (v.steps : Int) ≤ 3 := by rcases hwo with h | h | h <;> omega
  have HB6 := hide hb
  clear h hpl hwo hloss hdir hN hnb hown hset hrc hr12 hst hKl hb5 hK1 hKp hG hnd hT hv hb
  go_enter Tryz.func97, Tryz.ntmps97
  go_wp2_with fail
  refine (HPL.out w).mono ?_
  rintro e w2 ⟨rfl, hb2⟩
  have HB2 := hide hb2
  clear hb2 HPL
  go_upto_region 2 with (first | ((with_reducible refine at_alloc 268 ?_); refine wpList_alloc_as rfl 268 rfl _ (zero_way _) ?_) | ((with_reducible refine at_store 268 (.tmp 7) (.tmp 16) ?_); refine wpList_store_blk rfl 268 (.tmp 7) (.tmp 16) rfl w2.heap.size _ _ _ (by rfl) (by rfl) (Blk.new _ _ _) (size_way v) rfl (way_one v) (fun _ => ?_)) | fail)
  refine at_world (fun W => ∃ q, q = w2.heap.size ∧ Below w2.heap.size w2 W ∧ Blk W q 268 v.cells) ⟨_, rfl, below_setRow ((Below.refl _ _).alloc (Nat.le_refl _) _) (Nat.le_refl _) _, (Blk.new _ _ _).setRow_same _⟩ (fun w3 hw3 => ?_)
  obtain ⟨q, hq, hb3, hQ3⟩ := hw3
  rw [← hq]
  have HB3 := hide (HB2.out.trans (hb3.mono HB2.out.size))
  have HQ3 := hide hQ3
  clear hq hb3 hQ3 HB2
  go_wp2_with (first | ((with_reducible refine at_load 268 (.tmp 7) ?_); refine wpList_load_blk rfl 268 (.tmp 7) rfl q _ _ _ (by rfl) HQ3.out Tryz.underlying268 rfl (size_way v) ?_) | fail)
  refine (root_ok w3 (nb := nb) HWO.out).mono ?_
  rintro e w4 ⟨rfl, hb4⟩
  have HQ4 := hide (HQ3.out.below hb4 HQ3.out.lt)
  have HB4 := hide (HB3.out.trans (hb4.mono HB3.out.size))
  have HA4 := hide (H.out.below HB4.out)
  have HN4 := hide (HN.out.1.below HB4.out HN.out.1.lt)
  have HQO := hide (show ¬ i.own q ∧ q ≠ nb from ⟨by
    obtain ⟨s1, k1, -⟩ := HA4.out
    exact k1.tx.other HQ4.out (by decide) (by decide) (by decide), HQ4.out.ne HN4.out (by decide)⟩)
  have c0 : w4.cell? ⟨q, 0, none⟩ = some (.int .i64 (v.steps : Int)) := HQ4.out.cell 0
  have ql := HQ4.out.lt
  have nl := HN4.out.lt
  clear hb4 HQ3 HB3 H
  by_cases hb6 : b < 6
  · obtain ⟨hr, hkm, hkt, hdel, hnk⟩ := HD.out hb6
    have t1 : ((v.steps : Int) == 0) = true := by simp [HST.out.1.2 hb6]
    have hrc := HS.out.2
    rw [hr] at hrc
    have cr : w4.cell? ⟨nb, v.root, none⟩ = some (.int .u16 ((κ b : Int) + 1)) := (HN4.out.cell v.root).trans (by rw [List.getElem?_toArray, hrc]; congr 2)
    have cf : w4.frozen? ⟨nb, v.root, none⟩ = false := HN4.out.frozen v.root
    have HDL := hide (And.intro hdel hnk)
    have hN5 := HN4.out.set_ v.root (.int .u16 0)
    rw [HS.out.1] at hN5
    have HN5 := hide hN5
    have HA5 := hide (HA4.out.setNode (r := v.root) (u := .int .u16 0) HN.out.2.1 HN4.out)
    have hgv := cut_give (k := κ b) HA5.out HK.out.1 HK.out.2.1 HK.out.2.2 hkm hkt
    rw [show ((κ b + 1 : Nat) : Int) = (κ b : Int) + 1 from by omega] at hgv
    have HGV := hide hgv
    have hkz : (κ b : Int) ≤ 511 := by have := HK.out.2.1; omega
    generalize κ b = kb at *
    clear hr hdel hnk hN5 hgv hb6 hrc hkm hkt HL HD
    go_wp2_with fail
    refine HGV.out.mono ?_
    rintro e w6 ⟨rfl, ha6, ht6⟩
    have HF := hide (And.intro ha6 (HN5.out.tch ht6 HN5.out.lt HN.out.2.2))
    clear ha6 ht6 HGV cr cf c0 ql nl
    go_wp2
    go_returns
    exact ⟨rfl, _, _, _, HF.out.1, HF.out.2, HDL.out.1, HDL.out.2⟩
  · obtain ⟨G1, p0, d, hr, hp0, hnk, hlose, hfin⟩ := HL.out (by omega)
    have t1 : ((v.steps : Int) == 0) = false := by
      have : v.steps ≠ 0 := fun e => hb6 (HST.out.1.1 e)
      simp [this]
    have hrc := HS.out.2
    rw [hr] at hrc
    have cr : w4.cell? ⟨nb, v.root, none⟩ = some (.int .u16 ((p0 : Int) + 1)) := (HN4.out.cell v.root).trans (by rw [List.getElem?_toArray, hrc]; congr 2)
    have hls := hlose w4.drew HA4.out.drew
    rw [show ((p0 + 1 : Nat) : Int) = (p0 : Int) + 1 from by omega, show ((0 : Nat) : Int) = 0 from rfl] at hls
    have HLS := hide hls
    have HFI := hide (And.intro hfin (And.intro hp0 hnk))
    have HBB := hide (show 6 ≤ b from by omega)
    have HRP := hide hr
    have HST2 := hide (show v.a0 < 64 ∧ v.a1 < 64 from HA01.out)
    have hpz : (p0 : Int) ≤ 511 := by have := HK.out.2.1; omega
    clear hr hlose hfin hrc hls hp0 hnk hb6 HL HD
    go_upto_region 7 with (fail)
    refine wp_region_text [0, 0, 0, 0, 0, 2, 0] (· = w4.drew) (by kernel_rfl) (by kernel_rfl) rfl ?_
    iterate 4 (refine wpOrd_q (v := ?_) (by rfl) (fun W hW => ?_) ?_; rotate_left; (focus ((cases hW; go_simp); try with_reducible rfl)); try simp only [Act.put, List.setIfInBounds_toArray, List.set_cons_zero, List.set_cons_succ])
    refine wpOrd_q (v := .agg v.cells) (by rfl) (fun W hW => by cases hW; exact exec_load_blk 268 (.tmp 7) rfl q _ v.cells _ rfl HQ4.out.drew Tryz.underlying268 rfl (size_way v)) ?_
    try simp only [Act.put, List.setIfInBounds_toArray, List.set_cons_zero, List.set_cons_succ]
    refine wpOrd_b (by rfl) (fun K hK => ?_)
    go_simp
    refine HLS.out.mono ?_
    rintro e w5 ⟨rfl, ha5, ht5⟩
    refine hK (fun _ => True) _ _ trivial ?_
    have HA5 := hide ha5
    have HQ5 := hide (HQ4.out.drew.tch ht5 HQ4.out.lt HQO.out.1)
    have HN5 := hide (HN4.out.drew.tch ht5 HN4.out.lt HN.out.2.2)
    clear hK ha5 ht5 HLS cr c0 ql nl HA4 HQ4 HN4 HB4
    try simp only [Act.put, List.setIfInBounds_toArray, List.set_cons_zero, List.set_cons_succ]
    iterate 1 (refine wpOrd_q (v := ?_) (by rfl) (fun W hW => ?_) ?_; rotate_left; (focus (go_simp; try with_reducible rfl)); try simp only [Act.put, List.setIfInBounds_toArray, List.set_cons_zero, List.set_cons_succ])
    refine wpOrd_nil ?_
    have cl5 := HQ5.out.lt
    have nl := HN5.out.lt
    have hrg : w5.rangeAt q 1 [.int .i64 (v.a0 : Int), .int .i64 (v.a1 : Int), .int .i64 0] := HQ5.out.range (fun j u hj => by
      obtain rfl | rfl | rfl : j = 0 ∨ j = 1 ∨ j = 2 := by have := (List.getElem?_eq_some_iff.1 hj).1; simp at this; omega
      all_goals exact hj)
    have HRG := hide hrg
    have hcmp := at_eq w5 HST2.out.1 HST2.out.2
    have HCM := hide hcmp
    have c0 : True := trivial
    by_cases hz : b = 6 ∨ b = 38
    · have hd : decide (v.a0 = 0 ∧ v.a1 = 0) = true := by rw [decide_eq_true_iff]; exact HST.out.2.2 (by omega)
      obtain ⟨hfin, hp0, hnk⟩ := HFI.out
      rw [if_pos hz] at hfin
      rw [hd] at hcmp
      have HCM := hide hcmp
      have HDL := hide (And.intro hfin (And.intro hp0 hnk))
      have hrc := HS.out.2
      have hp1 := HRP.out
      rw [hp1] at hrc
      have cr : w5.cell? ⟨nb, v.root, none⟩ = some (.int .u16 ((p0 : Int) + 1)) := (HN5.out.cell v.root).trans (by rw [List.getElem?_toArray, hrc]; congr 2)
      have cf : w5.frozen? ⟨nb, v.root, none⟩ = false := HN5.out.frozen v.root
      have hN6 := HN5.out.set_ v.root (.int .u16 0)
      rw [HS.out.1] at hN6
      have HN6 := hide hN6
      have HA6 := hide (HA5.out.setNode (r := v.root) (u := .int .u16 0) HN.out.2.1 HN5.out)
      have hgv := cut_give (k := p0) HA6.out HK.out.1 HK.out.2.1 HK.out.2.2 hp0 hfin.1
      rw [show ((p0 + 1 : Nat) : Int) = (p0 : Int) + 1 from by omega] at hgv
      have HGV := hide hgv
      clear hfin hp0 hnk hrc hp1 hN6 hgv hz hd hcmp c0 hrg
      go_wp2_with (first | ((with_reducible refine at_load 266 (.tmp 41) ?_); refine wpList_load_mid rfl 266 (.tmp 41) rfl q 1 (by rfl) [.int .i64 (v.a0 : Int), .int .i64 (v.a1 : Int), .int .i64 0] _ HRG.out Tryz.underlying266 rfl (by kernel_rfl) ?_) | ((with_reducible refine at_build 266 #[] ?_); refine wpList_zero_as rfl 266 rfl _ (build_three0 _) ?_) | ((with_reducible refine at_binop .eql 266 (.tmp 42) (.tmp 43) 266 ?_); refine wpList_run rfl _ (exec_eql_agg 266 (.tmp 42) (.tmp 43) 266 rfl _ _ rfl rfl (by kernel_rfl) _ HCM.out) ?_) | fail)
      refine HGV.out.mono ?_
      rintro e w6 ⟨rfl, ha6, ht6⟩
      have HF := hide (And.intro ha6 (HN6.out.tch ht6 HN6.out.lt HN.out.2.2))
      clear ha6 ht6 HGV cr cf cl5 nl
      go_wp2
      go_returns
      exact ⟨rfl, _, _, _, HF.out.1, HF.out.2, HDL.out.1.2, HDL.out.2.2⟩
    · have hd : decide (v.a0 = 0 ∧ v.a1 = 0) = false := by rw [decide_eq_false_iff_not]; intro h; have := HST.out.2.1 h; have := HBB.out; omega
      obtain ⟨hfin, hp0, hnk⟩ := HFI.out
      rw [if_neg hz] at hfin
      rw [hd] at hcmp
      have HCM := hide hcmp
      have HDL := hide (And.intro hfin hnk)
      clear hfin hp0 hnk hz hd hcmp c0 hrg
      go_wp2_with (first | ((with_reducible refine at_load 266 (.tmp 41) ?_); refine wpList_load_mid rfl 266 (.tmp 41) rfl q 1 (by rfl) [.int .i64 (v.a0 : Int), .int .i64 (v.a1 : Int), .int .i64 0] _ HRG.out Tryz.underlying266 rfl (by kernel_rfl) ?_) | ((with_reducible refine at_build 266 #[] ?_); refine wpList_zero_as rfl 266 rfl _ (build_three0 _) ?_) | ((with_reducible refine at_binop .eql 266 (.tmp 42) (.tmp 43) 266 ?_); refine wpList_run rfl _ (exec_eql_agg 266 (.tmp 42) (.tmp 43) 266 rfl _ _ rfl rfl (by kernel_rfl) _ HCM.out) ?_) | fail)
      go_returns
      exact ⟨rfl, _, _, _, HA5.out, HN5.out, HDL.out.1, HDL.out.2⟩
end
end Go.Proofs.YthmkgohfeahdhaaGreat

/- A directory's entries, one by one: walked. A directory: is there a name, is there any: walked. Directories as they are meant: places, plain. A directory's entry turned: walked. A directory's calls: what comes of them. An act's name: walked. Two lists of entries, compared: walked. A directory's calls in a transaction of their own: what comes of them. A file removed: walked. A record of an own directory as bytes, and back: walked. The table of own directories: all its places: walked. The table of own directories: which one is a node's: walked. Is a node still there: walked. Own directories: reaped, needed, dropped: walked. Own directories: a nil group; what is not there; the table's writes: walked. -/
import Derived.Test.YthmkgohfeahdhaaGreatMJ1
import Derived.Test.YthmkgohfeahdhaaGreatMJ2
import Derived.Test.YthmkgohfeahdhaaGreatMJ3
import Derived.Test.YthmkgohfeahdhaaGreatMJ4
import Derived.Test.YthmkgohfeahdhaaGreatMJ5
import Derived.Test.YthmkgohfeahdhaaGreatMJ6
import Derived.Test.YthmkgohfeahdhaaGreatMJ7
import Derived.Test.YthmkgohfeahdhaaGreatMJ8
import Derived.Test.YthmkgohfeahdhaaGreatMJ9
import Derived.Test.YthmkgohfeahdhaaGreatProg
import Derived.Deep.RegionHeld3
import Derived.Deep.RegionLaw
import Derived.Deep.QuietTactic
import Derived.BigQuiet
import Derived.Handy
import Derived.WalkKit
import Derived.WalkSpells
import Derived.WalkLawsBesides
import Derived.Maps.AppendAt
import Derived.Deep.Draws
import Derived.Lib.SlBytesConst
import Derived.Deep.LoopGhost
import Derived.Deep.Cut
import Derived.Deep.CutRange
import Derived.Lib.IndexBytes
import Derived.StringKeys
import Derived.Laws.Tables
import Derived.Laws.Rows
import Derived.Deep.CutBlock
import Derived.Lib.BufferWrite
import Derived.Sort.OwnSortedInts
import Derived.DeepKeys
import Derived.Great.FillDense
import Derived.Laws.CopyRow
import Derived.Deep.MidRow
import Derived.OwnWalk
import Derived.Shelf.Small.Bits
import Derived.Shelf.Small.Wraps
import Derived.Shelf.Strconv.Itoa0
import Derived.Shelf.Sort.Plain
import Derived.Ground.Names2Prog
import Derived.Shelf.Slices.SearchI
import Derived.Shelf.Slices.In.SortNone
import Derived.Maps.Keyed
import Derived.DeepKeys4
import Derived.Carry
import Derived.Maps.RangeWalk
import Derived.Lib.SplitLaws
import Derived.ProofKit
import Derived.OpenShut
import Derived.Lib.SmallJoins
import Derived.Deep.Slices
import Derived.Deep.Fields
import Derived.Deep.Strs
import Derived.Handed
namespace Go.Proofs.YthmkgohfeahdhaaGreat
open Go.RowKit
set_option linter.unusedSimpArgs false
set_option linter.unusedVariables false

/-- those that are there -/
def live (l : List EntV) : List EntV := l.filter fun e => decide (e.num ≠ 0)
theorem flat2_get : ∀ {L : List EntV} {k j : Nat} {n : EntV}, L[k]? = some n → j < 2 → (flat2 L)[k * 2 + j]? = n.cells[j]?
  | [], k, j, n, h, _ => by simp at h
  | a :: r, 0, j, n, h, hj => by
    obtain rfl : a = n := by simpa using h
    unfold flat2
    rw [List.flatMap_cons, Nat.zero_mul, Nat.zero_add, List.getElem?_append_left (by simp [EntV.cells]; omega)]
  | a :: r, k + 1, j, n, h, hj => by
    have := flat2_get (L := r) (k := k) (j := j) (n := n) (by simpa using h) hj
    unfold flat2 at this ⊢
    rw [List.flatMap_cons, List.getElem?_append_right (by simp [EntV.cells]; omega), ← this]
    congr 1
    simp [EntV.cells]; omega
theorem ent_range {w : World} {B n co : Nat} {Ao : Option Addr} {L : List EntV} (h : w.ownsRow B 125 2 (.slice Ao n co) n (flat2 L)) (hn : 0 < n) : ∃ g, Ao = some ⟨g, 0, none⟩ ∧ g < w.heap.size ∧ ∀ (k : Nat) (r : EntV), L[k]? = some r → w.rangeAt g (k * 2) r.cells := by
  obtain ⟨g, hA, _, hlt, hc⟩ := own_base h hn
  refine ⟨g, hA, hlt, fun k r hk j v hj => ?_⟩
  have hj2 : j < 2 := by have := (List.getElem?_eq_some_iff.1 hj).1; simpa [EntV.cells] using this
  have := flat2_get hk hj2
  exact hc _ _ (this.trans hj)
theorem live_snoc (l : List EntV) (k : Nat) {e : EntV} (he : l[k]? = some e) : live (l.take (k + 1)) = if e.num = 0 then live (l.take k) else live (l.take k) ++ [e] := by
  unfold live
  rw [List.take_add_one, he, List.filter_append]
  by_cases h : e.num = 0
  · simp [h]
  · simp [h]
section
variable {w w' : World} {i : Ids} {s : Sto} {gg : Nat} {g : GeoN} {lab : Int} {G : GS}
set_option maxRecDepth 100000 in
set_option maxHeartbeats 4000000 in
theorem dlist_ok {num : Nat} {l : List EntV} (h : GAt w i s gg g lab G) (hln : l.length ≤ 1024)
    (hop : ∀ W, GAt W i s gg g lab G → Calls Tryz.prog 119 #[.pointer (some ⟨gg, 0, none⟩), .int .i64 (num : Int)] W fun e w' => ∃ A c, e = .returned (.tuple #[.slice A l.length c, .int .i64 0]) ∧ w'.ownsRow W.heap.size 125 2 (.slice A l.length c) l.length (flat2 l) ∧ GAt w' i s gg g lab G ∧ Tch W.heap.size i.own W w') :
    Calls Tryz.prog 63 #[.pointer (some ⟨gg, 0, none⟩), .int .i64 (num : Int)] w fun e w' => ∃ A c, e = .returned (.tuple #[.slice A (live l).length c, .int .i64 0]) ∧ w'.ownsRow w.heap.size 125 2 (.slice A (live l).length c) (live l).length (flat2 (live l)) ∧ GAt w' i s gg g lab G ∧ Tch w.heap.size i.own w w' := by
  have H := hide h
  have HOP := hide hop
  have HLN := hide hln
  clear h hop hln
  go_enter Tryz.func63, Tryz.ntmps63
  go_wp2_with fail
  refine (HOP.out w H.out).mono ?_
  rintro e w1 ⟨A, c, rfl, hown, ha1, ht1⟩
  obtain ⟨N, hN⟩ : ∃ N, l.length = N := ⟨_, rfl⟩
  have HN := hide hN
  rw [hN] at hown ⊢
  have HO1 := hide hown
  have HA1 := hide ha1
  have HT1 := hide ht1
  clear hown ha1 ht1 hN
  go_wp2_with fail
  have hw1 := HT1.out.size
  have HW1 := hide hw1
  clear hw1
  go_loopg [8, 10, 22] N (fun gh x8 x10 x22 wr => ∃ (k m : Nat) (Ao : Option Addr) (co : Nat), k ≤ N ∧ gh = N - k ∧ x8 = .slice Ao m co ∧ x22 = .int .i64 (k : Int) ∧ Hid ((live (l.take k)).length = m) ∧ Hid (GAt wr i s gg g lab G) ∧ Hid (Tch w.heap.size i.own w wr) ∧ Hid (wr.ownsRow w.heap.size 125 2 (.slice A N c) N (flat2 l)) ∧ Hid (∀ b, (Value.slice A N c).ownBlock = some b → b < w1.heap.size) ∧ Hid (w1.heap.size ≤ wr.heap.size ∧ wr.ownsRow w1.heap.size 125 2 (.slice Ao m co) m (flat2 (live (l.take k)))))
  case atStart => exact ⟨0, 0, none, 0, Nat.zero_le _, rfl, rfl, rfl, hide (by simp [live]), HA1, HT1, HO1, hide (fun b hb => (own_block_ge HO1.out hb).2), hide ⟨Nat.le_refl _, World.ownsRow_nil _ _ _ _⟩⟩
  case round =>
    obtain ⟨k, m, Ao, co, hk, hgh, rfl, rfl, HM, HA, HT, HO, HBB, HS⟩ := hrel
    have HGH := hide hgh
    have hln := HLN.out
    have hnn := HN.out
    clear hgh
    rcases Nat.lt_or_ge k N with hkl | hkl
    · obtain ⟨e, he⟩ : ∃ e, l[k]? = some e := ⟨_, List.getElem?_eq_getElem (by omega)⟩
      obtain ⟨ga, rfl, hga, hrg⟩ := ent_range HO.out (by omega)
      have hrg' : wr.rangeAt ga (k * 2) [.string e.name, .int .u16 (e.num.toNat : Int)] := hrg k e he
      have HRG := hide hrg'
      have HE := hide he
      have t1 : decide ((k : Int) < (N : Int)) = true := by simp; omega
      have t1' : (k : Int) < (N : Int) := by omega
      have e64 : IntKind.i64.wrap ((k : Int) + 1) = (k : Int) + 1 := IntWalk.i64_in _ (by omega)
      have hsz : (Tryz.prog.info? 125).map (·.size) = some ([Value.string e.name, .int .u16 (e.num.toNat : Int)] : List Value).length := size_ent
      have HSZ := hide hsz
      clear hrg hrg' he hsz hln hnn
      go_upto_region 8 with (first | ((with_reducible refine at_load 125 (.tmp 24) ?_); refine wpList_load_mid rfl 125 (.tmp 24) rfl ga (k * 2) (by rfl) [.string e.name, .int .u16 (e.num.toNat : Int)] _ HRG.out Tryz.underlying125 rfl HSZ.out ?_) | fail)
      refine at_world (fun W => ∃ z, z = wr.heap.size ∧ Below wr.heap.size wr W ∧ Blk W z 125 #[.string e.name, .int .u16 (e.num.toNat : Int)]) ⟨_, rfl, (Below.refl _ _).alloc (Nat.le_refl _) _, Blk.new _ _ _⟩ (fun w5 h5 => ?_)
      obtain ⟨z, hz, hb5, hZ5⟩ := h5
      rw [← hz]
      have HZB := hide hZ5
      have HA5 := hide (HA.out.below hb5)
      have HT5 := hide (HT.out.trans ((Tch.of_below hb5).mono HT.out.size fun _ _ h => h))
      have HO5 := hide (own_below HO.out hb5)
      have HS5 := hide (And.intro (Nat.le_trans HS.out.1 hb5.size) (own_below HS.out.2 hb5))
      have z1 := hZ5.cell 1
      have zl := hZ5.lt
      clear hz hb5 hZ5 HA HT HO HS HRG
      have hls := live_snoc l k HE.out
      by_cases hz : e.num = 0
      · rw [if_pos hz] at hls
        have hn0 : e.num.toNat = 0 := by rw [hz]; rfl
        have t2 : decide ((0 : Int) < (e.num.toNat : Int)) = false := by simp; omega
        have HLS := hide hls
        clear hls
        go_wp2_with fail
        go_roundg (N - (k + 1))
        case rel => exact ⟨k + 1, m, Ao, co, by omega, rfl, rfl, by first | rfl | go_num, hide (by rw [HLS.out]; exact HM.out), HA5, HT5, HO5, HBB, hide (by rw [HLS.out]; exact HS5.out)⟩
        case measure => have := HGH.out; omega
      · rw [if_neg hz] at hls
        have hn0 : e.num.toNat ≠ 0 := fun h0 => hz (UInt16.toNat_inj.1 h0)
        have t2 : decide ((0 : Int) < (e.num.toNat : Int)) = true := by simp; omega
        have t2' : (0 : Int) < (e.num.toNat : Int) := by omega
        have HLS := hide hls
        obtain ⟨j0, hj0, j1, j2, j3⟩ := info_ent
        have HJ := hide (And.intro hj0 (And.intro j1 (And.intro j2 j3)))
        have hone : ∀ u ∈ ([.string e.name, .int .u16 (e.num.toNat : Int)] : List Value), u.oneCell' = true := by simp [Value.oneCell']
        have HONE := hide hone
        have hmk : m ≤ 1000000 := by
          have h1 := HM.out
          have h2 : (live (l.take k)).length ≤ (l.take k).length := List.length_filter_le _ _
          rw [List.length_take] at h2
          have := HLN.out
          omega
        clear hls hj0 j1 j2 j3 hone
        go_wp2_with (first | ((with_reducible refine at_load 125 (.tmp 10) ?_); refine wpList_load_blk rfl 125 (.tmp 10) rfl z _ _ _ (by rfl) HZB.out Tryz.underlying125 rfl (by exact size_ent) ?_) | (at_builtin; refine wpList_append_one rfl (.tmp 29) (.tmp 31) 60 rfl w1.heap.size 125 j0 (.agg #[.string ⟨#[]⟩, .int .u16 0]) 2 24 Tryz.underlying60 HJ.out.1 HJ.out.2.1 HJ.out.2.2.1 HJ.out.2.2.2 rfl (by decide) Ao co m (flat2 (live (l.take k))) [.string e.name, .int .u16 (e.num.toNat : Int)] w5 rfl HS5.out.2 rfl rfl rfl HONE.out hmk (by decide) HS5.out.1 ?_; intro A9 c9 w6 hown9 hg9 hb9 hat9) | fail)
        have htg : Tch w5.heap.size (fun g => (Value.slice Ao m co).ownBlock = some g) w5 w6 := Tch.grown hg9 (Nat.le_refl _) (fun g hg _ => hg)
        have hown_ge : ∀ g, (Value.slice Ao m co).ownBlock = some g → w1.heap.size ≤ g := fun g hg => (own_block_ge HS5.out.2 hg).1
        have hll := H.out.tx.log.log.lt
        have hgg := H.out.gp.lt
        have hw1 := HW1.out
        have HA6 := hide (HA5.out.apart htg (fun g hg => ⟨fun ho => H.out.tx.other_new (Nat.le_trans hw1 (hown_ge g hg)) ho, by have := hown_ge g hg; omega, by have := hown_ge g hg; omega⟩))
        have HT6 := hide (HT5.out.trans (htg.mono HT5.out.size (fun g hk hg => by have := hown_ge g hg; omega)))
        have HO6 := hide (own_keep HO5.out fun b hb => htg.block b (own_block_ge HO5.out hb).2 (fun hg => by have := hown_ge b hg; have := HBB.out b hb; omega))
        have hfl : flat2 (live (l.take k)) ++ [.string e.name, .int .u16 (e.num.toNat : Int)] = flat2 (live (l.take (k + 1))) := by
          rw [HLS.out]
          simp [flat2, EntV.cells]
        rw [hfl] at hown9
        have HS6 := hide (And.intro (Nat.le_trans HS5.out.1 htg.size) hown9)
        clear hown9 hg9 hb9 hat9 htg hown_ge hll hgg hw1 hfl HA5 HT5 HO5 HS5
        go_roundg (N - (k + 1))
        case rel => exact ⟨k + 1, m + 1, A9, c9, by omega, rfl, rfl, by first | rfl | go_num, hide (by rw [HLS.out, List.length_append, HM.out]; rfl), HA6, HT6, HO6, HBB, HS6⟩
        case measure => have := HGH.out; omega
    · have hkN : k = N := by omega
      have t1 : decide ((k : Int) < (N : Int)) = false := by simp; omega
      have t1' : ¬ (k : Int) < (N : Int) := by omega
      have htk : l.take k = l := List.take_of_length_le (by omega)
      have HF := hide (And.intro HM.out (own_mono HS.out.2 HW1.out))
      rw [htk] at HF
      clear hkl hk hkN htk hln hnn
      go_wp2
      go_returns
      refine ⟨Ao, co, ?_, ?_, HA.out, HT.out⟩
      · have e1 := HF.out.1
        simp [e1]
      · rw [HF.out.1]
        exact HF.out.2
end
end Go.Proofs.YthmkgohfeahdhaaGreat
namespace Go.Proofs.YthmkgohfeahdhaaGreat
open Go.RowKit
set_option linter.unusedSimpArgs false
set_option linter.unusedVariables false

section
variable {w w' : World} {i : Ids} {s : Sto} {gg : Nat} {g : GeoN} {lab : Int} {G : GS}
/-- what dir.List says -/
def ListsTo (i : Ids) (s : Sto) (gg : Nat) (g : GeoN) (lab : Int) (G : GS) (num : Nat) (l : List EntV) : Prop :=
  ∀ W, GAt W i s gg g lab G → Calls Tryz.prog 63 #[.pointer (some ⟨gg, 0, none⟩), .int .i64 (num : Int)] W fun e w' => ∃ A c, e = .returned (.tuple #[.slice A l.length c, .int .i64 0]) ∧ w'.ownsRow W.heap.size 125 2 (.slice A l.length c) l.length (flat2 l) ∧ GAt w' i s gg g lab G ∧ Tch W.heap.size i.own W w'
set_option maxRecDepth 100000 in
set_option maxHeartbeats 2000000 in
theorem dempty_ok {num : Nat} {l : List EntV} (h : GAt w i s gg g lab G) (hl : ListsTo i s gg g lab G num l) :
    Calls Tryz.prog 65 #[.pointer (some ⟨gg, 0, none⟩), .int .i64 (num : Int)] w fun e w' => e = .returned (.tuple #[.bool (decide (l.length = 0)), .int .i64 0]) ∧ GAt w' i s gg g lab G ∧ Tch w.heap.size i.own w w' := by
  have H := hide h
  have HL := hide hl
  clear h hl
  go_enter Tryz.func65, Tryz.ntmps65
  go_wp2_with fail
  refine (HL.out w H.out).mono ?_
  rintro e w1 ⟨A, c, rfl, hown, ha1, ht1⟩
  obtain ⟨N, hN⟩ : ∃ N, l.length = N := ⟨_, rfl⟩
  have HN := hide hN
  rw [hN]
  have HF := hide (And.intro ha1 ht1)
  clear hown ha1 ht1 hN
  by_cases h0 : N = 0
  · subst h0
    go_wp2_with fail
    go_returns
    refine ⟨?_, HF.out⟩
    have := HN.out
    simp [this]
  · have t1 : ((N : Int) == 0) = false := by rw [beq_eq_false_iff_ne]; omega
    have t2 : ¬ (N : Int) = 0 := by omega
    go_wp2_with fail
    go_returns
    refine ⟨?_, HF.out⟩
    have := HN.out
    simp [this, h0]
end
end Go.Proofs.YthmkgohfeahdhaaGreat
namespace Go.Proofs.YthmkgohfeahdhaaGreat
open Go.RowKit
set_option linter.unusedSimpArgs false
set_option linter.unusedVariables false

def EntV.zero : EntV := ⟨⟨#[]⟩, 0⟩
/-- a directory lies in a group: its places, where its blocks are -/
structure DirN (G : GS) (g : GeoN) (num : Nat) (l : List EntV) (κ : Nat → Nat) : Prop where
  kind : (G.nd num).kind = 2
  links : (G.nd num).links ≠ 0
  size : (G.nd num).size.toNat = 16 * l.length
  file : FileAt G g.blocks (G.nd num) (blks (16 * l.length)) κ (16 * l.length) (fun j => (pks l).getD j 0)
  len : l.length ≤ 1024
  good : ∀ e ∈ l, e.Good
theorem Tree.other {G G' : GS} {m : Nat} {n : NodeV} {pr : Nat → Bool} {κ : Nat → Nat} (h : Tree G m n pr κ) (hb : ∀ c, pr c = true → G'.by_ (κ c) = G.by_ (κ c)) (ht : ∀ c, pr c = true → G'.tk (κ c) = true) : Tree G' m n pr κ :=
  ⟨h.dir, h.rng, h.cls, h.top, fun c p j h1 h2 h3 => by rw [hb p h3]; exact h.sub c p j h1 h2 h3, fun c hc => ⟨(h.own c hc).1, ht c hc⟩, h.inj⟩
theorem FileAt.other {G G' : GS} {m c len : Nat} {n : NodeV} {κ : Nat → Nat} {f : Nat → UInt8} (h : FileAt G m n c κ len f) (hb : ∀ k, prOf c k = true → G'.by_ (κ k) = G.by_ (κ k)) (ht : ∀ k, prOf c k = true → G'.tk (κ k) = true) : FileAt G' m n c κ len f :=
  ⟨h.tree.other hb ht, h.cle, h.fit, fun j hj => by rw [hb _ (prOf_true.2 (by have := h.fit; omega))]; exact h.byte j hj⟩
/-- no block is in both -/
def Apart (p : Nat → Bool) (κ : Nat → Nat) (p' : Nat → Bool) (κ' : Nat → Nat) : Prop := ∀ c c', p c = true → p' c' = true → κ c ≠ κ' c'
theorem FileAt.left {G G' : GS} {m c len num : Nat} {n : NodeV} {κ κ1 κ2 : Nat → Nat} {p1 p2 : Nat → Bool} {f : Nat → UInt8} (h : FileAt G m n c κ len f) (hl : Left G G' num p1 p2 κ1 κ2) (ha : Apart p1 κ1 (prOf c) κ) : FileAt G' m n c κ len f :=
  h.other (fun k hk => hl.by_ _ (h.tree.own k hk).2 fun c' hc' => ha c' k hc' hk) (fun k hk => hl.tk _ (h.tree.own k hk).2)
theorem Apart.left {G G' : GS} {m num : Nat} {n : NodeV} {κ κ1 κ2 : Nat → Nat} {p p1 p2 : Nat → Bool} (ht : Tree G m n p κ) (hl : Left G G' num p1 p2 κ1 κ2) (ha : Apart p1 κ1 p κ) : Apart p2 κ2 p κ := fun c c' h1 h2 => by
  cases hc : p1 c with
  | true => rw [(hl.old c hc).1]; exact ha c c' hc h2
  | false =>
    intro he
    have := hl.fresh c h1 hc
    rw [he, (ht.own c' h2).2] at this
    cases this
theorem FileAt.lost {G G' : GS} {m c len num : Nat} {n : NodeV} {κ κ1 : Nat → Nat} {p1 : Nat → Bool} {f : Nat → UInt8} (h : FileAt G m n c κ len f) (hl : Lost G G' num p1 κ1) (ha : Apart p1 κ1 (prOf c) κ) : FileAt G' m n c κ len f :=
  h.other (fun k hk => hl.by_ _ fun c' hc' => ha c' k hc' hk) (fun k hk => by rw [hl.tk _ fun c' hc' => ha c' k hc' hk]; exact (h.tree.own k hk).2)
theorem DirN.left {G G' : GS} {g : GeoN} {num num' : Nat} {l : List EntV} {κ κ1 κ2 : Nat → Nat} {p1 p2 : Nat → Bool} (h : DirN G g num l κ) (hl : Left G G' num' p1 p2 κ1 κ2) (hn : num ≠ num') (ha : Apart p1 κ1 (prOf (blks (16 * l.length))) κ) : DirN G' g num l κ := by
  have e := hl.nd num hn
  exact ⟨by rw [e]; exact h.kind, by rw [e]; exact h.links, by rw [e]; exact h.size, by rw [e]; exact h.file.left hl ha, h.len, h.good⟩
theorem DirN.lost {G G' : GS} {g : GeoN} {num num' : Nat} {l : List EntV} {κ κ1 : Nat → Nat} {p1 : Nat → Bool} (h : DirN G g num l κ) (hl : Lost G G' num' p1 κ1) (hn : num ≠ num') (ha : Apart p1 κ1 (prOf (blks (16 * l.length))) κ) : DirN G' g num l κ := by
  have e := hl.nd num hn
  exact ⟨by rw [e]; exact h.kind, by rw [e]; exact h.links, by rw [e]; exact h.size, by rw [e]; exact h.file.lost hl ha, h.len, h.good⟩

/-! ### places -/
theorem check_dsize {n n' : NodeV} {x : Nat} (h : n.same n') (hk : n.kind = 2) (hl : n.links ≠ 0) (hs : x ≤ 16384) (h16 : x % 16 = 0) : checkN (n'.sized x) = true := by
  have h1 : (n'.sized x).kind = 2 := h.1.trans hk
  have h2 : (n'.sized x).links = n.links := h.2.1
  have h3 : (n'.sized x).size.toNat = x := by
    unfold NodeV.sized
    simp only
    rw [UInt32.toNat_ofNat', Nat.mod_eq_of_lt (by omega)]
  unfold checkN
  rw [h1, h2, h3]
  simp [hl, h16]
  omega
end Go.Proofs.YthmkgohfeahdhaaGreat
namespace Go.Proofs.YthmkgohfeahdhaaGreat
open Go.RowKit
set_option linter.unusedSimpArgs false
set_option linter.unusedVariables false

section
variable {P : Program} {w : World}
theorem run_slice_all (t e : TypeId) (g n : Nat) (hu : P.underlying t = some (.array n e)) (hs : (P.info? e).map (·.size) = some 1) (hn : 0 < n) :
    (Instr.sliceAt t (.pointer (some ⟨g, 0, none⟩)) none none none).run P w = .ok (.slice (some ⟨g, 0, none⟩) n n) w := by
  cases hq : P.info? e with
  | none => simp [hq] at hs
  | some i =>
    have hi : i.size = 1 := by simpa [hq] using hs
    have h2 : ¬ n = 0 := by omega
    simp [Instr.sliceAt, Instr.sureAddr, run_underlying hu, Instr.sliceBounds, sizeOf, typeInfo, hq, hi, Addr.add_mid, h2, Result.andThen]
end
/-- what dir.open says -/
def OpensTo (i : Ids) (s : Sto) (gg : Nat) (g : GeoN) (lab : Int) (G : GS) (num : Nat) (l : List EntV) : Prop :=
  ∀ W, GAt W i s gg g lab G → Calls Tryz.prog 119 #[.pointer (some ⟨gg, 0, none⟩), .int .i64 (num : Int)] W fun e w' => ∃ A c, e = .returned (.tuple #[.slice A l.length c, .int .i64 0]) ∧ w'.ownsRow W.heap.size 125 2 (.slice A l.length c) l.length (flat2 l) ∧ GAt w' i s gg g lab G ∧ Tch W.heap.size i.own W w'
section
variable {w w' : World} {i : Ids} {s : Sto} {gg : Nat} {g : GeoN} {lab : Int} {G : GS}
theorem dopens {num : Nat} {l : List EntV} {κ : Nat → Nat} (hd : DirN G g num l κ) (h1 : 1 ≤ num) (h2 : num ≤ g.nodes) : OpensTo i s gg g lab G num l := fun W h =>
  dopen_ok h h1 h2 hd.kind (pks_length l) hd.size hd.file (by have := hd.len; omega) hd.good
theorem dlists {num : Nat} {l : List EntV} {κ : Nat → Nat} (hd : DirN G g num l κ) (h1 : 1 ≤ num) (h2 : num ≤ g.nodes) : ListsTo i s gg g lab G num (live l) := fun W h =>
  dlist_ok h hd.len (dopens hd h1 h2)
end
end Go.Proofs.YthmkgohfeahdhaaGreat
namespace Go.Proofs.YthmkgohfeahdhaaGreat
open Go.RowKit
set_option linter.unusedSimpArgs false
set_option linter.unusedVariables false

/-- what a call on one node leaves of a group's other nodes -/
structure Mov (G G' : GS) (num : Nat) (p : Nat → Bool) (κ : Nat → Nat) (p' : Nat → Bool) (κ' : Nat → Nat) : Prop where
  nd : ∀ k, k ≠ num → G'.nd k = G.nd k
  by_ : ∀ x, G.tk x = true → (∀ c, p c = true → κ c ≠ x) → G'.by_ x = G.by_ x
  tk : ∀ x, G.tk x = true → (∀ c, p c = true → κ c ≠ x) → G'.tk x = true
  new : ∀ c, p' c = true → (∃ c0, p c0 = true ∧ κ' c = κ c0) ∨ G.tk (κ' c) = false
  more : ∀ x, G'.tk x = true → G.tk x = true ∨ ∃ c, p' c = true ∧ κ' c = x
theorem Left.mov {G G' : GS} {num : Nat} {p p' : Nat → Bool} {κ κ' : Nat → Nat} (h : Left G G' num p p' κ κ') : Mov G G' num p κ p' κ' :=
  ⟨h.nd, h.by_, fun x hx _ => h.tk x hx, fun c hc => by
    cases hp : p c with
    | true => exact .inl ⟨c, hp, (h.old c hp).1⟩
    | false => exact .inr (h.fresh c hc hp), fun x hx => (h.new x hx).imp id fun ⟨c, h1, _, h2⟩ => ⟨c, h1, h2⟩⟩
theorem Lost.mov {G G' : GS} {m num : Nat} {n : NodeV} {p p' : Nat → Bool} {κ : Nat → Nat} (h : Lost G G' num p κ) (ht : Tree G m n p κ) (hp : ∀ c, p' c = true → p c = true) : Mov G G' num p κ p' κ :=
  ⟨h.nd, fun x _ hx => h.by_ x hx, fun x h1 hx => by rw [h.tk x hx]; exact h1, fun c hc => .inl ⟨c, hp c hc, rfl⟩, fun x hx => by
    by_cases hn : ∃ c, p c = true ∧ κ c = x
    · obtain ⟨c, h1, rfl⟩ := hn
      exact .inl (ht.own c h1).2
    · rw [h.tk x fun c hc e => hn ⟨c, hc, e⟩] at hx
      exact .inl hx⟩
theorem FileAt.mov {G G' : GS} {m c len num : Nat} {n : NodeV} {κ κ1 κ2 : Nat → Nat} {p1 p2 : Nat → Bool} {f : Nat → UInt8} (h : FileAt G m n c κ len f) (hl : Mov G G' num p1 κ1 p2 κ2) (ha : Apart p1 κ1 (prOf c) κ) : FileAt G' m n c κ len f :=
  h.other (fun k hk => hl.by_ _ (h.tree.own k hk).2 fun c' hc' => ha c' k hc' hk) (fun k hk => hl.tk _ (h.tree.own k hk).2 fun c' hc' => ha c' k hc' hk)
theorem Apart.mov {G G' : GS} {m num : Nat} {n : NodeV} {κ κ1 κ2 : Nat → Nat} {p p1 p2 : Nat → Bool} (ht : Tree G m n p κ) (hl : Mov G G' num p1 κ1 p2 κ2) (ha : Apart p1 κ1 p κ) : Apart p2 κ2 p κ := fun c c' h1 h2 => by
  rcases hl.new c h1 with ⟨c0, h3, h4⟩ | h3
  · rw [h4]; exact ha c0 c' h3 h2
  · intro he
    rw [he, (ht.own c' h2).2] at h3
    cases h3
theorem DirN.mov {G G' : GS} {g : GeoN} {num num' : Nat} {l : List EntV} {κ κ1 κ2 : Nat → Nat} {p1 p2 : Nat → Bool} (h : DirN G g num l κ) (hl : Mov G G' num' p1 κ1 p2 κ2) (hn : num ≠ num') (ha : Apart p1 κ1 (prOf (blks (16 * l.length))) κ) : DirN G' g num l κ := by
  have e := hl.nd num hn
  exact ⟨by rw [e]; exact h.kind, by rw [e]; exact h.links, by rw [e]; exact h.size, by rw [e]; exact h.file.mov hl ha, h.len, h.good⟩
/-- a small directory's own blocks -/
def dk (g : GeoN) (num c : Nat) (κ : Nat → Nat) : List Nat := g.base :: (g.base + g.bitmap + (num - 1) / 2) :: ((List.range 6).filter (prOf c)).map fun k => g.data + κ k
/-- a directory's step -/
structure DStep (s s' : Sto) (g : GeoN) (G G' : GS) (num : Nat) (l l' : List EntV) (κ κ' : Nat → Nat) (K0 T : List Nat) : Prop where
  dir : DirN G' g num l' κ'
  links : (G'.nd num).links = (G.nd num).links
  gen : (G'.nd num).gen = (G.nd num).gen
  mov : Mov G G' num (prOf (blks (16 * l.length))) κ (prOf (blks (16 * l'.length))) κ'
  cnt : G'.cnt g.blocks + nkeys (blks (16 * l.length)) = G.cnt g.blocks + nkeys (blks (16 * l'.length))
  inn : s'.In (K0 ++ T)
  tlen : T.length ≤ 12
  small : max (blks (16 * l.length)) (blks (16 * l'.length)) ≤ 6 → ∀ x ∈ T, x ∈ dk g num (max (blks (16 * l.length)) (blks (16 * l'.length))) κ'
  stay : Stay s s' g
  keep : ∀ c, prOf (blks (16 * l.length)) c = true → prOf (blks (16 * l'.length)) c = true → κ' c = κ c
def DRes (w w' : World) (i : Ids) (s : Sto) (gg : Nat) (g : GeoN) (lab : Int) (G : GS) (num : Nat) (l l' : List EntV) (κ : Nat → Nat) (K0 : List Nat) : Prop :=
  ∃ s' G' κ' T, GAt w' i s' gg g lab G' ∧ DStep s s' g G G' num l l' κ κ' K0 T ∧ Tch w.heap.size i.own w w'
/-- there was no room -/
def DFull (w w' : World) (i : Ids) (s : Sto) (gg : Nat) (g : GeoN) (lab : Int) (G : GS) (l l' : List EntV) : Prop :=
  g.blocks + nkeys (blks (16 * l.length)) < G.cnt g.blocks + nkeys (blks (16 * l'.length)) ∧ ∃ s' G', GAt w' i s' gg g lab G' ∧ Stay s s' g ∧ Tch w.heap.size i.own w w'
section
variable {w w' : World} {i : Ids} {s : Sto} {gg : Nat} {g : GeoN} {lab : Int} {G : GS} {K0 : List Nat}
theorem DRes.before {w0 : World} {num : Nat} {l l' : List EntV} {κ : Nat → Nat} (ht : Tch w0.heap.size i.own w0 w) (h : DRes w w' i s gg g lab G num l l' κ K0) : DRes w0 w' i s gg g lab G num l l' κ K0 := by
  obtain ⟨s', G', κ', T, k1, k2, k3⟩ := h
  exact ⟨s', G', κ', T, k1, k2, ht.trans (k3.mono ht.size fun _ _ h => h)⟩
theorem DFull.before {w0 : World} {l l' : List EntV} (ht : Tch w0.heap.size i.own w0 w) (h : DFull w w' i s gg g lab G l l') : DFull w0 w' i s gg g lab G l l' := by
  obtain ⟨k0, s', G', k1, k2, k3⟩ := h
  exact ⟨k0, s', G', k1, k2, ht.trans (k3.mono ht.size fun _ _ h => h)⟩
theorem fresh_own {z : Nat} {w0 : World} (h : GAt w0 i s gg g lab G) (hz : w0.heap.size ≤ z) : ¬ i.own z := h.tx.other_new hz
end
end Go.Proofs.YthmkgohfeahdhaaGreat
namespace Go.Proofs.YthmkgohfeahdhaaGreat
open Go.RowKit
set_option linter.unusedSimpArgs false
set_option linter.unusedVariables false

def fewNames : List ByteArray := [⟨#[97]⟩, ⟨#[98]⟩, ⟨#[99]⟩, ⟨#[100, 100]⟩, ⟨#[101, 46, 102]⟩, ⟨#[102, 111, 117, 114, 116, 101, 101, 110, 45, 98, 121, 116, 101, 115]⟩, ⟨#[103]⟩, ⟨#[104]⟩]
def DAct.nm (a : DAct) : ByteArray := if a.raw then a.text else fewNames.getD (a.name % 8) ⟨#[]⟩
end Go.Proofs.YthmkgohfeahdhaaGreat
namespace Go.Proofs.YthmkgohfeahdhaaGreat
open Go.RowKit
set_option linter.unusedSimpArgs false
set_option linter.unusedVariables false

def EntV.lits (e : EntV) : List Lit := [.string e.name.data.toList, .int .u16 (e.num.toNat : Int)]
end Go.Proofs.YthmkgohfeahdhaaGreat
namespace Go.Proofs.YthmkgohfeahdhaaGreat
open Go.RowKit
set_option linter.unusedSimpArgs false
set_option linter.unusedVariables false

section
variable {w w' : World} {i : Ids} {D : List BlkV} {gg : Nat} {g : GeoN} {lab : Int} {G : GS}
/-- what comes of a call on a directory: an error, or other places -/
def DOut (w w' : World) (i : Ids) (D : List BlkV) (gg : Nat) (g : GeoN) (lab : Int) (G : GS) (num : Nat) (l : List EntV) (κ : Nat → Nat) (c : Int) : Prop :=
  (c ≠ 0 ∧ ∃ s' G', GAt w' i s' gg g lab G' ∧ s'.D = D ∧ Tch w.heap.size i.own w w') ∨ (c = 0 ∧ ∃ l', l'.length ≤ l.length + 1 ∧ DRes w w' i ⟨D, [], 0⟩ gg g lab G num l l' κ [])
theorem DOut.bad {num : Nat} {l : List EntV} {κ : Nat → Nat} {c : Int} (hc : c ≠ 0) (h : GAt w' i ⟨D, [], 0⟩ gg g lab G ∧ Tch w.heap.size i.own w w') : DOut w w' i D gg g lab G num l κ c := .inl ⟨hc, _, G, h.1, rfl, h.2⟩
end
end Go.Proofs.YthmkgohfeahdhaaGreat
namespace Go.Proofs.YthmkgohfeahdhaaGreat
open Go.RowKit
set_option linter.unusedSimpArgs false
set_option linter.unusedVariables false

section
variable {w w' : World} {i : Ids} {s : Sto} {gg : Nat} {g : GeoN} {lab : Int} {G : GS} {K0 : List Nat}
/-- what comes of a file removed -/
structure Gone (s s' : Sto) (g : GeoN) (G G' : GS) (num c : Nat) (κ : Nat → Nat) (K0 T : List Nat) : Prop where
  gone : G'.nd num = goneN (G.nd num)
  lost : Lost G G' num (prOf c) κ
  cnt : G'.cnt g.blocks + nkeys c = G.cnt g.blocks
  inn : s'.In (K0 ++ T)
  tlen : T.length ≤ 13
  stay : Stay s s' g
def GoneRes (w w' : World) (i : Ids) (s : Sto) (gg : Nat) (g : GeoN) (lab : Int) (G : GS) (num c : Nat) (κ : Nat → Nat) (K0 : List Nat) : Prop :=
  ∃ s' G' T, GAt w' i s' gg g lab G' ∧ Gone s s' g G G' num c κ K0 T ∧ Tch w.heap.size i.own w w'
set_option maxRecDepth 100000 in
set_option maxHeartbeats 2000000 in
theorem remove_walk {num : Nat} {R : World → Prop} (h : GAt w i s gg g lab G) (h1 : 1 ≤ num) (h2 : num ≤ g.nodes) (hk0 : (G.nd num).kind ≠ 0) (hk4 : (G.nd num).kind ≠ 4)
    (hc : ∀ W, GAt W i s gg g lab G → Tch w.heap.size i.own w W → Calls Tryz.prog 34 #[.pointer (some ⟨gg, 0, none⟩), .int .i64 (num : Int), .int .i64 0] W fun e w' => e = .returned (.int .i64 0) ∧
      Calls Tryz.prog 104 #[.pointer (some ⟨gg, 0, none⟩), .int .i64 (num : Int)] w' fun e w'' => e = .returned (.int .i64 0) ∧ R w'') :
    Calls Tryz.prog 41 #[.pointer (some ⟨gg, 0, none⟩), .int .i64 (num : Int)] w fun e w' => e = .returned (.int .i64 0) ∧ R w' := by
  have hdir := h.gok.dir num
  have hnd := gs_node' h h1 h2
  obtain ⟨n0, hn0⟩ : ∃ n0, G.nd num = n0 := ⟨_, rfl⟩
  rw [hn0] at hnd hdir hk0 hk4
  have H := hide h
  have HND := hide hnd
  have HD := hide hdir
  have HCU := hide hc
  have k0 : ((n0.kind.toNat : Int) == 0) = false := by
    rw [beq_eq_false_iff_ne]
    exact fun e => hk0 (UInt8.toNat_inj.1 (by show _ = 0; omega))
  have k4 : ((n0.kind.toNat : Int) == 4) = false := by
    rw [beq_eq_false_iff_ne]
    exact fun e => hk4 (UInt8.toNat_inj.1 (by show _ = 4; omega))
  clear h hnd hdir hc hn0 h1 h2 hk0 hk4
  go_enter Tryz.func41, Tryz.ntmps41
  go_wp2_with fail
  refine HND.out.mono ?_
  rintro e w1 ⟨rfl, ha1, ht1⟩
  have HA1 := hide ha1
  have HT1 := hide ht1
  clear ha1 ht1 HND
  go_upto_region 2 with (first | ((with_reducible refine at_alloc 130 ?_); refine wpList_alloc_as rfl 130 rfl _ (zero_node _) ?_) | ((with_reducible refine at_store 130 (.tmp 5) (.tmp 13) ?_); refine wpList_store_blk rfl 130 (.tmp 5) (.tmp 13) rfl w1.heap.size _ _ _ (by rfl) (by rfl) (Blk.new _ _ _) (size_nodeOf HD.out) (by rw [List.size_toArray, List.size_toArray, NodeV.cells_length HD.out]; rfl) (NodeV.cells_one _) (fun _ => ?_)) | fail)
  refine at_world (fun W => ∃ q, q = w1.heap.size ∧ Below w1.heap.size w1 W ∧ Blk W q 130 n0.cells.toArray) ⟨_, rfl, below_setRow ((Below.refl _ _).alloc (Nat.le_refl _) _) (Nat.le_refl _) _, (Blk.new _ _ _).setRow_same _⟩ (fun w2 hw2 => ?_)
  obtain ⟨q, hq, hb2, hQ2⟩ := hw2
  rw [← hq]
  have HA2 := hide (HA1.out.below hb2)
  have HT2 := hide (HT1.out.trans ((Tch.of_below hb2).mono HT1.out.size fun _ _ h => h))
  have q0 := (hQ2.cell 0).trans (node_cells_at n0).1
  have ql := hQ2.lt
  clear hq hb2 hQ2 HA1 HT1
  go_wp2_with fail
  refine (HCU.out w2 HA2.out HT2.out).mono ?_
  rintro e w3 ⟨rfl, hwp⟩
  have HWP := hide hwp
  clear hwp HCU q0 ql
  go_wp2_with fail
  refine HWP.out.mono ?_
  rintro e w4 ⟨rfl, hr⟩
  have HR := hide hr
  clear hr HWP
  go_wp2
  go_returns
  exact ⟨rfl, HR.out⟩
theorem remove_file {num sz : Nat} {κ : Nat → Nat} {f : Nat → UInt8} (h : GAt w i s gg g lab G) (hK0 : s.In K0) (hKl : K0.length ≤ 16) (h1 : 1 ≤ num) (h2 : num ≤ g.nodes) (hb5 : g.blocks ≤ 512)
    (hk0 : (G.nd num).kind ≠ 0) (hk4 : (G.nd num).kind ≠ 4) (hsz : (G.nd num).size.toNat = sz) (hs16 : sz ≤ 16384) (hf : FileAt G g.blocks (G.nd num) (blks sz) κ sz f)
    (hck : ∀ n', (G.nd num).same n' → n'.dir.length = 6 → checkN (n'.sized 0) = true) :
    Calls Tryz.prog 41 #[.pointer (some ⟨gg, 0, none⟩), .int .i64 (num : Int)] w fun e w' => e = .returned (.int .i64 0) ∧ GoneRes w w' i s gg g lab G num (blks sz) κ K0 :=
  remove_walk h h1 h2 hk0 hk4 fun W hW hT => by
    have hct := cut_file (num := num) (size := 0) (sz := sz) (K0 := K0) hW hK0 (by split <;> (try split) <;> omega) h1 h2 hb5 hk0 hsz hs16 hf (Nat.zero_le _) hck
    rw [show ((0 : Nat) : Int) = 0 from rfl] at hct
    refine hct.mono ?_
    rintro e w1 ⟨he, s1, G1, k1, k2, k3, k4, k5, k6, k7, k8, k9, k10, k11⟩
    refine ⟨he, ?_⟩
    have hl1 := k9.len k1.tx.ok
    have hcl := cutL_length g K0 (blks sz) (0 / 64) κ
    have hM : s1.M.length ≤ 29 := by
      simp only [List.length_append, List.length_cons, List.length_nil] at hl1
      split at hcl <;> (try split at hcl) <;> omega
    refine (gs_wipe k1 hM h1 h2).mono ?_
    rintro e w2 ⟨he2, s2, ha2, hs2, ht2⟩
    refine ⟨he2, s2, _, (g.base :: (([256, 257, 258, 259, 260, 261, 262, 263, 264].filter (prOf (blks sz))).map fun k => g.data + κ k) ++ [g.data + κ (0 / 64)]) ++ [g.base + g.bitmap + (num - 1) / 2] ++ [g.base + g.bitmap + (num - 1) / 2], ha2, ⟨?_, ⟨fun k hk => ?_, fun x hx => k7.by_ x hx, fun x hx => k7.tk x hx⟩, ?_, ?_, ?_, ⟨hs2.D.trans k10.D, hs2.bad.trans k10.bad, fun m hm => (hs2.far m hm).trans (k10.far m hm)⟩⟩, hT.trans ((k11.trans (ht2.mono k11.size fun _ _ h => h)).mono hT.size fun _ _ h => h)⟩
    · have e1 : (G1.set num (goneN (G1.nd num))).nd num = goneN (G1.nd num) := upd_same _ _ _
      rw [e1]
      unfold goneN
      rw [k6]
    · exact (upd_other (f := G1.nd) (k := num) (j := k) _ hk).trans (k7.nd k hk)
    · have : nkeys (blks 0) = 0 := rfl
      have e1 : (G1.set num (goneN (G1.nd num))).cnt g.blocks = G1.cnt g.blocks := rfl
      rw [e1]
      omega
    · have h0 := hs2.in_ k9
      unfold cutL at h0
      simp only [List.append_assoc, List.cons_append, List.nil_append] at h0 ⊢
      exact h0
    · have := List.length_filter_le (prOf (blks sz)) [256, 257, 258, 259, 260, 261, 262, 263, 264]
      simp only [List.length_append, List.length_cons, List.length_map, List.length_nil] at this ⊢
      omega
end
end Go.Proofs.YthmkgohfeahdhaaGreat
namespace Go.Proofs.YthmkgohfeahdhaaGreat
open Go.RowKit
set_option linter.unusedSimpArgs false
set_option linter.unusedVariables false

/-- a record of an own directory -/
structure InR where
  lab : UInt8
  num : UInt16
  gen : UInt16
  own : UInt16
def InR.zero : InR := ⟨0, 0, 0, 0⟩
def InR.ino (r : InR) : List Value := [.int .u8 (r.lab.toNat : Int), .int .u16 (r.num.toNat : Int), .int .u16 (r.gen.toNat : Int)]
def InR.cells (r : InR) : List Value := [.int .u8 (r.lab.toNat : Int), .int .u16 (r.num.toNat : Int), .int .u16 (r.gen.toNat : Int), .int .u16 (r.own.toNat : Int)]
def InR.Good (r : InR) : Prop := r = InR.zero ∨ (r.num ≠ 0 ∧ 3 < r.own.toNat)
/-- a record's bytes -/
def recP (r : InR) : List UInt8 := [r.lab, 1, UInt8.ofNat r.num.toNat, UInt8.ofNat (r.num.toNat / 256), UInt8.ofNat r.gen.toNat, UInt8.ofNat (r.gen.toNat / 256), UInt8.ofNat r.own.toNat, UInt8.ofNat (r.own.toNat / 256)]
/-- a place's bytes -/
def placeR (r : InR) : List UInt8 := if r.own = 0 then List.replicate 8 0 else recP r
theorem recP_length (r : InR) : (recP r).length = 8 := rfl
theorem placeR_length (r : InR) : (placeR r).length = 8 := by unfold placeR; split <;> rfl
theorem lo_byte (n : Nat) : IntKind.u8.wrap (n : Int) = (((UInt8.ofNat n).toNat : Nat) : Int) := by rw [UInt8.toNat_ofNat', IntKind.wrap_u8]; omega
theorem hi_byte (n : Nat) : IntKind.u8.wrap ((n : Int) / 256) = (((UInt8.ofNat (n / 256)).toNat : Nat) : Int) := by rw [UInt8.toNat_ofNat', IntKind.wrap_u8]; omega
theorem build_rec8 (w : World) (a b c d e f g : Int) : (Instr.build 245 #[(0, .int .u8 a), (1, .int .u8 1), (2, .int .u8 b), (3, .int .u8 c), (4, .int .u8 d), (5, .int .u8 e), (6, .int .u8 f), (7, .int .u8 g)]).run Tryz.prog w = .ok (.agg #[.int .u8 a, .int .u8 1, .int .u8 b, .int .u8 c, .int .u8 d, .int .u8 e, .int .u8 f, .int .u8 g]) w := by kernel_rfl
theorem size_inr : (Tryz.prog.info? 244).map (·.size) = some 4 := by kernel_rfl
theorem size_rec8 (l : List UInt8) (h : l.length = 8) : (Tryz.prog.info? 245).map (·.size) = some (bvs l).toArray.size := by
  have : (Tryz.prog.info? 245).map (·.size) = some 8 := by kernel_rfl
  rw [this, List.size_toArray, bvs_length, h]
set_option maxRecDepth 100000 in
set_option maxHeartbeats 1000000 in
theorem inpack_ok (r : InR) (w : World) :
    Calls Tryz.prog 127 #[.agg r.cells.toArray] w fun e w' => e = .returned (.agg (bvs (recP r)).toArray) ∧ Below w.heap.size w w' := by
  have hcs : r.cells.toArray = #[.int .u8 (r.lab.toNat : Int), .int .u16 (r.num.toNat : Int), .int .u16 (r.gen.toNat : Int), .int .u16 (r.own.toNat : Int)] := rfl
  rw [hcs]
  have a1 := lo_byte r.num.toNat
  have a2 := hi_byte r.num.toNat
  have a3 := lo_byte r.gen.toNat
  have a4 := hi_byte r.gen.toNat
  have a5 := lo_byte r.own.toNat
  have a6 := hi_byte r.own.toNat
  have hb : (bvs (recP r)).toArray = #[.int .u8 (r.lab.toNat : Int), .int .u8 1, .int .u8 (((UInt8.ofNat r.num.toNat).toNat : Nat) : Int), .int .u8 (((UInt8.ofNat (r.num.toNat / 256)).toNat : Nat) : Int), .int .u8 (((UInt8.ofNat r.gen.toNat).toNat : Nat) : Int), .int .u8 (((UInt8.ofNat (r.gen.toNat / 256)).toNat : Nat) : Int), .int .u8 (((UInt8.ofNat r.own.toNat).toNat : Nat) : Int), .int .u8 (((UInt8.ofNat (r.own.toNat / 256)).toNat : Nat) : Int)] := rfl
  have hsz := size_rec8 (recP r) (recP_length r)
  rw [hb] at hsz
  generalize ((UInt8.ofNat r.num.toNat).toNat : Nat) = b1 at *
  generalize ((UInt8.ofNat (r.num.toNat / 256)).toNat : Nat) = b2 at *
  generalize ((UInt8.ofNat r.gen.toNat).toNat : Nat) = b3 at *
  generalize ((UInt8.ofNat (r.gen.toNat / 256)).toNat : Nat) = b4 at *
  generalize ((UInt8.ofNat r.own.toNat).toNat : Nat) = b5 at *
  generalize ((UInt8.ofNat (r.own.toNat / 256)).toNat : Nat) = b6 at *
  have HB := hide hb
  have HS := hide hsz
  clear hcs hb hsz
  go_enter Tryz.func127, Tryz.ntmps127
  go_upto_region 1 with (fail)
  refine at_world (fun W => ∃ p q, p = w.heap.size ∧ q = w.heap.size + 1 ∧ Below w.heap.size w W ∧ Blk W p 244 #[.int .u8 (r.lab.toNat : Int), .int .u16 (r.num.toNat : Int), .int .u16 (r.gen.toNat : Int), .int .u16 (r.own.toNat : Int)] ∧ Blk W q 245 (bvs (List.replicate 8 0)).toArray) ⟨_, _, rfl, rfl, ((Below.refl _ _).alloc (Nat.le_refl _) _).alloc (by simp) _, (Blk.new w _ _).alloc _, ?_⟩ (fun w1 h1 => ?_)
  · have h := Blk.new (w.alloc (.cells #[.int .u8 (r.lab.toNat : Int), .int .u16 (r.num.toNat : Int), .int .u16 (r.gen.toNat : Int), .int .u16 (r.own.toNat : Int)] 244)) 245 (bvs (List.replicate 8 0)).toArray
    rw [World.size_alloc] at h
    exact h
  obtain ⟨p, q, hp, hq, hb1, hP, hQ⟩ := h1
  rw [← hq, ← hp]
  have HBW := hide (And.intro hb1 (show w.heap.size ≤ q by omega))
  have HQ := hide hQ
  have p0 := hP.cell 0
  have p1 := hP.cell 1
  have p2 := hP.cell 2
  have p3 := hP.cell 3
  have pl := hP.lt
  clear hp hq hb1 hP hQ
  go_wp2_with (first | ((with_reducible refine at_build 245 #[(0, .tmp 5), (1, .const (.int .u8 1)), (2, .tmp 9), (3, .tmp 14), (4, .tmp 18), (5, .tmp 23), (6, .tmp 26), (7, .tmp 30)] ?_); refine wpList_run rfl _ (exec_build 245 #[(0, .tmp 5), (1, .const (.int .u8 1)), (2, .tmp 9), (3, .tmp 14), (4, .tmp 18), (5, .tmp 23), (6, .tmp 26), (7, .tmp 30)] rfl #[(0, .int .u8 (r.lab.toNat : Int)), (1, .int .u8 1), (2, .int .u8 (b1 : Int)), (3, .int .u8 (b2 : Int)), (4, .int .u8 (b3 : Int)), (5, .int .u8 (b4 : Int)), (6, .int .u8 (b5 : Int)), (7, .int .u8 (b6 : Int))] (by simp only [List.map_toArray, List.map_cons, List.map_nil]; rfl) _ (build_rec8 _ _ _ _ _ _ _ _)) ?_) | ((with_reducible refine at_store 245 (.tmp 2) (.tmp 31) ?_); refine wpList_store_blk rfl 245 (.tmp 2) (.tmp 31) rfl q _ _ _ (by rfl) (by rfl) HQ.out HS.out rfl (by simp [Value.oneCell']) (fun hB5 => ?_)) | ((with_reducible refine at_end ?_); refine bodyPost_ret (v := .agg #[.int .u8 (r.lab.toNat : Int), .int .u8 1, .int .u8 (b1 : Int), .int .u8 (b2 : Int), .int .u8 (b3 : Int), .int .u8 (b4 : Int), .int .u8 (b5 : Int), .int .u8 (b6 : Int)]) (results_run1 rfl (ResV.row rfl hB5 Tryz.underlying245 rfl HS.out)) rfl ⟨by rw [HB.out], below_setRow HBW.out.1 HBW.out.2 _⟩) | fail)
theorem rec8_lits (d : Nat) {b : List UInt8} (hb : b.length = 8) : Tryz.prog.keyLits (d + 2) 245 (bvs b) = some (b.map fun x => Lit.int .u8 (x.toNat : Int)) := by
  have := lits_ints (P := Tryz.prog) (d := d) Tryz.underlying245 Tryz.underlying5 (by kernel_rfl) (by kernel_rfl) (xs := b.map fun x => (x.toNat : Int)) (by simpa using hb) (fun x hx => by
    obtain ⟨y, _, rfl⟩ := List.mem_map.1 hx
    exact wf8 y)
  simpa [bvs, bv, List.map_map, Function.comp_def] using this
theorem rec8_eq (w : World) {a b : List UInt8} (ha : a.length = 8) (hb : b.length = 8) (q : Bool) (hq : q = true ↔ a = b) : (Op.equalIn 10000 245 (.agg (bvs a).toArray) (.agg (bvs b).toArray)).run Tryz.prog w = .ok q w := by
  have hf : ∀ {b : List UInt8}, b.length = 8 → (Value.agg (bvs b).toArray).formed Tryz.prog 245 = true := fun {b} hb => by
    unfold Value.formed
    rw [Tryz.underlying245]
    simp only [beq_iff_eq]
    rw [List.size_toArray, bvs_length, hb]
    kernel_rfl
  obtain ⟨r, h1, h2⟩ := run_equal_lits (P := Tryz.prog) w (m := 2) (D := 2) (by decide) (k := 245) (by kernel_rfl) (hf ha) (hf hb) (rec8_lits 0 ha) (rec8_lits 0 hb)
  rw [lit_inj8] at h2
  rw [h1, show r = q from by cases r <;> cases q <;> simp_all]
theorem zero_rec8 (w : World) : (Instr.build 245 #[]).run Tryz.prog w = .ok (.agg (bvs (List.replicate 8 0)).toArray) w := by kernel_rfl
theorem zero_inr (w : World) : (Instr.build 244 #[]).run Tryz.prog w = .ok (.agg InR.zero.cells.toArray) w := by kernel_rfl
theorem zero_inr' (w : World) : (zeroValue 244).run Tryz.prog w = .ok (.agg InR.zero.cells.toArray) w := by kernel_rfl
theorem build_inr (w : World) (a b c d : Int) : (Instr.build 244 #[(0, .agg #[.int .u8 a, .int .u16 b, .int .u16 c]), (1, .int .u16 d)]).run Tryz.prog w = .ok (.agg #[.int .u8 a, .int .u16 b, .int .u16 c, .int .u16 d]) w := by kernel_rfl
theorem size_inrc (r : InR) : (Tryz.prog.info? 244).map (·.size) = some r.cells.toArray.size := size_inr
theorem inr_one (r : InR) : r.cells.toArray.all (·.oneCell') = true := by simp [InR.cells, Value.oneCell']
theorem two_bytes (n : UInt16) : bits BinOp.or IntKind.u16 (((UInt8.ofNat n.toNat).toNat : Nat) : Int) ((((UInt8.ofNat (n.toNat / 256)).toNat : Nat) : Int) * 256) = (n.toNat : Int) := by
  have h := or_two (UInt8.toNat_lt (UInt8.ofNat n.toNat)) (UInt8.toNat_lt (UInt8.ofNat (n.toNat / 256)))
  rw [show ((256 * (UInt8.ofNat (n.toNat / 256)).toNat : Nat) : Int) = (((UInt8.ofNat (n.toNat / 256)).toNat : Nat) : Int) * 256 from by omega] at h
  have e : (UInt8.ofNat n.toNat).toNat + 256 * (UInt8.ofNat (n.toNat / 256)).toNat = n.toNat := by
    have := n.toNat_lt
    rw [UInt8.toNat_ofNat', UInt8.toNat_ofNat']
    omega
  rw [e] at h
  exact h
section
variable {w w' : World}
set_option maxRecDepth 100000 in
set_option maxHeartbeats 2000000 in
theorem inunpack_ok (r : InR) (hg : r.Good) {A : Option Addr} {c : Nat} (hc8 : 8 ≤ c) (h : Rd w w.heap.size 1 A 8 (bvs (placeR r))) :
    Calls Tryz.prog 162 #[.slice A 8 c] w fun e w' => e = .returned (.tuple #[.agg r.cells.toArray, .bool true]) ∧ Below w.heap.size w w' := by
  obtain ⟨ba, oa, rfl, hba, hca⟩ := h.byte (i := 0) (by omega)
  have hrg : w.rangeAt ba oa (bvs (placeR r)) := by
    obtain ⟨b, o, e, _, hc⟩ := h.2 (by omega)
    cases e
    exact fun j v hj => hc j v hj
  have HG := hide hg
  have HC := hide hca
  have HRG := hide hrg
  have HBA := hide hba
  clear hg h hca hrg hba
  go_enter Tryz.func162, Tryz.ntmps162
  go_upto_region 1 with (first | ((with_reducible refine at_alloc 244 ?_); refine wpList_alloc_as rfl 244 rfl _ (zero_inr' _) ?_) | fail)
  refine at_world (fun W => ∃ p, p = w.heap.size ∧ Below w.heap.size w W ∧ Blk W p 244 InR.zero.cells.toArray) ⟨_, rfl, (Below.refl _ _).alloc (Nat.le_refl _) _, Blk.new _ _ _⟩ (fun w1 h1 => ?_)
  obtain ⟨p, hp, hb1, hP1⟩ := h1
  rw [← hp]
  have HB := hide hb1
  have HP := hide hP1
  have HPW := hide (show w.heap.size ≤ p from Nat.le_of_eq hp.symm)
  have HRG1 := hide (show w1.rangeAt ba oa (bvs (placeR r)) from fun j v hj => (World.cell?_of_block (w := w) (a := ⟨ba, oa + j, none⟩) (hb1.block ba HBA.out)).trans (HRG.out j v hj))
  have HC1 := hide (show ∀ j, j < 8 → w1.cell? ⟨ba, oa + j, none⟩ = some (.int .u8 (((placeR r).getD j 0).toNat : Int)) from fun j hj => (World.cell?_of_block (w := w) (a := ⟨ba, oa + j, none⟩) (hb1.block ba HBA.out)).trans (HC.out j hj))
  have bal : ba < w1.heap.size := Nat.lt_of_lt_of_le HBA.out hb1.size
  have HL8 := hide (show (Tryz.prog.info? 245).map (·.size) = some (bvs (placeR r)).length from by
    have h0 := size_rec8 (placeR r) (placeR_length r)
    rwa [List.size_toArray] at h0)
  clear hp hb1 hP1
  by_cases hz : r.own = 0
  · have hr0 : r = InR.zero := by
      rcases HG.out with h0 | ⟨-, h0⟩
      · exact h0
      · rw [hz] at h0; exact absurd h0 (by decide)
    have heq : ∀ W, (Op.equalIn 10000 245 (.agg (bvs (placeR r)).toArray) (.agg (bvs (List.replicate 8 0)).toArray)).run Tryz.prog W = .ok true W := fun W => rec8_eq W (placeR_length r) rfl true (by unfold placeR; rw [if_pos hz]; simp)
    have HEQ := hide heq
    have HR0 := hide hr0
    clear heq hz hr0
    go_wp2_with (first | ((with_reducible refine at_sap 245 (.tmp 9) ?_); refine wpList_run rfl _ (exec_sap 245 (.tmp 9) rfl 8 ⟨ba, oa, none⟩ _ _ _ rfl Tryz.underlying245 (by omega)) ?_) | ((with_reducible refine at_load 245 (.tmp 10) ?_); refine wpList_load_mid rfl 245 (.tmp 10) rfl ba oa (by rfl) (bvs (placeR r)) _ HRG1.out Tryz.underlying245 rfl HL8.out ?_) | ((with_reducible refine at_build 245 #[] ?_); refine wpList_zero_as rfl 245 rfl _ (zero_rec8 _) ?_) | ((with_reducible refine at_binop .eql 245 (.tmp 11) (.tmp 12) 245 ?_); refine wpList_run rfl _ (exec_eql_agg 245 (.tmp 11) (.tmp 12) 245 rfl _ _ rfl rfl (by kernel_rfl) _ (HEQ.out _)) ?_) | ((with_reducible refine at_build 244 #[] ?_); refine wpList_zero_as rfl 244 rfl _ (zero_inr _) ?_) | ((with_reducible refine at_store 244 (.tmp 2) (.tmp 14) ?_); refine wpList_store_blk rfl 244 (.tmp 2) (.tmp 14) rfl p _ _ _ (by rfl) (by rfl) HP.out (size_inrc _) rfl (inr_one _) (fun hB5 => ?_)) | ((with_reducible refine at_end ?_); refine bodyPost_ret (v := .tuple #[.agg InR.zero.cells.toArray, .bool true]) (results_run2 rfl (ResV.row rfl hB5 Tryz.underlying244 rfl (size_inrc _)) rfl) rfl ⟨by rw [HR0.out], below_setRow HB.out HPW.out _⟩) | fail)
  · have heq : ∀ W, (Op.equalIn 10000 245 (.agg (bvs (placeR r)).toArray) (.agg (bvs (List.replicate 8 0)).toArray)).run Tryz.prog W = .ok false W := fun W => rec8_eq W (placeR_length r) rfl false (by
      unfold placeR
      rw [if_neg hz]
      constructor
      · intro h; cases h
      · intro h
        have := congrArg (fun l => l.getD 1 0) h
        have h1 : (1 : UInt8) = 0 := this
        exact absurd h1 (by decide))
    have hpl : placeR r = recP r := by unfold placeR; rw [if_neg hz]
    have HEQ := hide heq
    have HPL := hide hpl
    have hgo : r.num ≠ 0 ∧ 3 < r.own.toNat := by
      rcases HG.out with h0 | h0
      · rw [h0] at hz; exact absurd rfl hz
      · exact h0
    have HGO := hide hgo
    clear heq hz hpl hgo
    go_upto_region 5 with (first | ((with_reducible refine at_sap 245 (.tmp 9) ?_); refine wpList_run rfl _ (exec_sap 245 (.tmp 9) rfl 8 ⟨ba, oa, none⟩ _ _ _ rfl Tryz.underlying245 (by omega)) ?_) | ((with_reducible refine at_load 245 (.tmp 10) ?_); refine wpList_load_mid rfl 245 (.tmp 10) rfl ba oa (by rfl) (bvs (placeR r)) _ HRG1.out Tryz.underlying245 rfl HL8.out ?_) | ((with_reducible refine at_build 245 #[] ?_); refine wpList_zero_as rfl 245 rfl _ (zero_rec8 _) ?_) | ((with_reducible refine at_binop .eql 245 (.tmp 11) (.tmp 12) 245 ?_); refine wpList_run rfl _ (exec_eql_agg 245 (.tmp 11) (.tmp 12) 245 rfl _ _ rfl rfl (by kernel_rfl) _ (HEQ.out _)) ?_) | fail)
    have hcc := HC1.out
    rw [HPL.out] at hcc
    have c0 : w1.cell? ⟨ba, oa, none⟩ = some (.int .u8 (r.lab.toNat : Int)) := hcc 0 (by omega)
    have c1 : w1.cell? ⟨ba, oa + 1, none⟩ = some (.int .u8 1) := hcc 1 (by omega)
    have c2 : w1.cell? ⟨ba, oa + 2, none⟩ = some (.int .u8 (((UInt8.ofNat r.num.toNat).toNat : Nat) : Int)) := hcc 2 (by omega)
    have c3 : w1.cell? ⟨ba, oa + 3, none⟩ = some (.int .u8 (((UInt8.ofNat (r.num.toNat / 256)).toNat : Nat) : Int)) := hcc 3 (by omega)
    have c4 : w1.cell? ⟨ba, oa + 4, none⟩ = some (.int .u8 (((UInt8.ofNat r.gen.toNat).toNat : Nat) : Int)) := hcc 4 (by omega)
    have c5 : w1.cell? ⟨ba, oa + 5, none⟩ = some (.int .u8 (((UInt8.ofNat (r.gen.toNat / 256)).toNat : Nat) : Int)) := hcc 5 (by omega)
    have c6 : w1.cell? ⟨ba, oa + 6, none⟩ = some (.int .u8 (((UInt8.ofNat r.own.toNat).toNat : Nat) : Int)) := hcc 6 (by omega)
    have c7 : w1.cell? ⟨ba, oa + 7, none⟩ = some (.int .u8 (((UInt8.ofNat (r.own.toNat / 256)).toNat : Nat) : Int)) := hcc 7 (by omega)
    have o1 := two_bytes r.num
    have o2 := two_bytes r.gen
    have o3 := two_bytes r.own
    have l1 := UInt8.toNat_lt (UInt8.ofNat r.num.toNat)
    have l2 := UInt8.toNat_lt (UInt8.ofNat (r.num.toNat / 256))
    have l3 := UInt8.toNat_lt (UInt8.ofNat r.gen.toNat)
    have l4 := UInt8.toNat_lt (UInt8.ofNat (r.gen.toNat / 256))
    have l5 := UInt8.toNat_lt (UInt8.ofNat r.own.toNat)
    have l6 := UInt8.toNat_lt (UInt8.ofNat (r.own.toNat / 256))
    generalize ((UInt8.ofNat r.num.toNat).toNat : Nat) = b1 at *
    generalize ((UInt8.ofNat (r.num.toNat / 256)).toNat : Nat) = b2 at *
    generalize ((UInt8.ofNat r.gen.toNat).toNat : Nat) = b3 at *
    generalize ((UInt8.ofNat (r.gen.toNat / 256)).toNat : Nat) = b4 at *
    generalize ((UInt8.ofNat r.own.toNat).toNat : Nat) = b5 at *
    generalize ((UInt8.ofNat (r.own.toNat / 256)).toNat : Nat) = b6 at *
    have e1 : IntKind.u16.wrap (b1 : Int) = (b1 : Int) := by rw [IntKind.wrap_u16]; omega
    have e2 : IntKind.u16.wrap (b2 : Int) = (b2 : Int) := by rw [IntKind.wrap_u16]; omega
    have e3 : IntKind.u16.wrap (b3 : Int) = (b3 : Int) := by rw [IntKind.wrap_u16]; omega
    have e4 : IntKind.u16.wrap (b4 : Int) = (b4 : Int) := by rw [IntKind.wrap_u16]; omega
    have e5 : IntKind.u16.wrap (b5 : Int) = (b5 : Int) := by rw [IntKind.wrap_u16]; omega
    have e6 : IntKind.u16.wrap (b6 : Int) = (b6 : Int) := by rw [IntKind.wrap_u16]; omega
    have f2 : IntKind.u16.wrap ((b2 : Int) * 256) = (b2 : Int) * 256 := by rw [IntKind.wrap_u16]; omega
    have f4 : IntKind.u16.wrap ((b4 : Int) * 256) = (b4 : Int) * 256 := by rw [IntKind.wrap_u16]; omega
    have f6 : IntKind.u16.wrap ((b6 : Int) * 256) = (b6 : Int) * 256 := by rw [IntKind.wrap_u16]; omega
    clear hcc l1 l2 l3 l4 l5 l6
    refine wp_region_text [0, 0, 0, 0, 0, 0, 0, 0, 0, 0, 0, 0, 0, 0, 0, 0, 0, 0, 0, 0, 0, 0, 0, 0, 0, 0, 0, 0, 0, 0, 0, 0, 0, 0, 0, 1, 1] (fun W => Below w1.heap.size w1 W) (by kernel_rfl) (by kernel_rfl) (Below.refl _ _).drew ?_
    iterate 12 (refine wpOrd_q (v := ?_) (by rfl) (fun W hW => ?_) ?_; rotate_left; (focus ((obtain ⟨hWc, hWf⟩ := bcell hW; go_simp); try with_reducible rfl)); try simp only [Act.put, List.setIfInBounds_toArray, List.set_cons_zero, List.set_cons_succ])
    refine wpOrd_q (v := .int .u16 (r.num.toNat : Int)) (by rfl) (fun W hW => by go_simp; try exact o1) ?_
    try simp only [Act.put, List.setIfInBounds_toArray, List.set_cons_zero, List.set_cons_succ]
    iterate 9 (refine wpOrd_q (v := ?_) (by rfl) (fun W hW => ?_) ?_; rotate_left; (focus ((obtain ⟨hWc, hWf⟩ := bcell hW; go_simp); try with_reducible rfl)); try simp only [Act.put, List.setIfInBounds_toArray, List.set_cons_zero, List.set_cons_succ])
    refine wpOrd_q (v := .int .u16 (r.gen.toNat : Int)) (by rfl) (fun W hW => by go_simp; try exact o2) ?_
    try simp only [Act.put, List.setIfInBounds_toArray, List.set_cons_zero, List.set_cons_succ]
    refine wpOrd_q (v := .agg #[.int .u8 (r.lab.toNat : Int), .int .u16 (r.num.toNat : Int), .int .u16 (r.gen.toNat : Int)]) (by rfl) (fun W hW => exec_build 152 #[(0, .tmp 17), (1, .tmp 27), (2, .tmp 37)] rfl #[(0, .int .u8 (r.lab.toNat : Int)), (1, .int .u16 (r.num.toNat : Int)), (2, .int .u16 (r.gen.toNat : Int))] (by simp only [List.map_toArray, List.map_cons, List.map_nil]; rfl) _ (build_ino _ _ _ _)) ?_
    try simp only [Act.put, List.setIfInBounds_toArray, List.set_cons_zero, List.set_cons_succ]
    iterate 9 (refine wpOrd_q (v := ?_) (by rfl) (fun W hW => ?_) ?_; rotate_left; (focus ((obtain ⟨hWc, hWf⟩ := bcell hW; go_simp); try with_reducible rfl)); try simp only [Act.put, List.setIfInBounds_toArray, List.set_cons_zero, List.set_cons_succ])
    refine wpOrd_q (v := .int .u16 (r.own.toNat : Int)) (by rfl) (fun W hW => by go_simp; try exact o3) ?_
    try simp only [Act.put, List.setIfInBounds_toArray, List.set_cons_zero, List.set_cons_succ]
    refine wpOrd_q (v := .agg r.cells.toArray) (by rfl) (fun W hW => exec_build 244 #[(0, .tmp 38), (1, .tmp 48)] rfl #[(0, .agg #[.int .u8 (r.lab.toNat : Int), .int .u16 (r.num.toNat : Int), .int .u16 (r.gen.toNat : Int)]), (1, .int .u16 (r.own.toNat : Int))] (by simp only [List.map_toArray, List.map_cons, List.map_nil]; rfl) _ (build_inr _ _ _ _ _)) ?_
    try simp only [Act.put, List.setIfInBounds_toArray, List.set_cons_zero, List.set_cons_succ]
    refine wpOrd_x (by rfl) (fun KK hKK => ?_)
    refine wp_alloc_as 244 rfl _ (zero_inr' _) ?_
    have hb2 : Below w1.heap.size w1 (w1.drew.alloc (.cells InR.zero.cells.toArray 244)) := (Below.refl _ _).drew.alloc (Nat.le_refl _) _
    refine hKK _ _ _ (fun _ h => h) hb2 ?_
    clear hKK KK
    try simp only [Act.put, List.setIfInBounds_toArray, List.set_cons_zero, List.set_cons_succ]
    refine wpOrd_x (by rfl) (fun KK hKK => ?_)
    refine wp_store_blk 244 (.tmp 4) (.tmp 49) rfl w1.heap.size 244 _ _ (by rfl) (by rfl) (Blk.new _ _ _) (size_inrc r) rfl (inr_one r) (fun hG => ?_)
    have hb3 := below_setRow hb2 (Nat.le_refl _) r.cells.toArray
    refine hKK _ _ _ (fun _ h => h) hb3 ?_
    clear hKK KK
    try simp only [Act.put, List.setIfInBounds_toArray, List.set_cons_zero, List.set_cons_succ]
    refine wpOrd_nil ?_
    refine at_world (fun W => ∃ q, q = w1.heap.size ∧ Below w.heap.size w W ∧ Blk W p 244 InR.zero.cells.toArray ∧ Blk W q 244 r.cells.toArray ∧ W.cell? ⟨ba, oa + 1, none⟩ = some (.int .u8 1) ∧ ba < W.heap.size) ⟨_, rfl, HB.out.trans (hb3.mono HB.out.size), HP.out.below hb3 HP.out.lt, hG, (World.cell?_of_block (w := w1) (a := ⟨ba, oa + 1, none⟩) (hb3.block ba bal)).trans c1, Nat.lt_of_lt_of_le bal hb3.size⟩ (fun w3 h3 => ?_)
    obtain ⟨q, hq, hb3', hP3, hQ3, c1', bal'⟩ := h3
    rw [show w1.drew.heap.size = w1.heap.size from rfl, ← hq]
    have HB3 := hide hb3'
    have HP3 := hide hP3
    have HQ3 := hide hQ3
    have HPQ := hide (show p ≠ q from fun e => by have := HP.out.lt; omega)
    have q1 : w3.cell? ⟨q, 1, none⟩ = some (.int .u16 (r.num.toNat : Int)) := hQ3.cell 1
    have q3 : w3.cell? ⟨q, 3, none⟩ = some (.int .u16 (r.own.toNat : Int)) := hQ3.cell 3
    have ql := hQ3.lt
    have g1 : decide ((3 : Int) < (r.own.toNat : Int)) = true := by have := HGO.out.2; simp; omega
    have g1' : (3 : Int) < (r.own.toNat : Int) := by have := HGO.out.2; omega
    have hn0 : r.num.toNat ≠ 0 := fun h0 => HGO.out.1 (UInt16.toNat_inj.1 h0)
    have g2 : decide ((0 : Int) < (r.num.toNat : Int)) = true := by simp; omega
    have g2' : (0 : Int) < (r.num.toNat : Int) := by omega
    clear hq hb3 hG hb2 hb3' hP3 hQ3 c0 c1 c2 c3 c4 c5 c6 c7 o1 o2 o3 e1 e2 e3 e4 e5 e6 f2 f4 f6 bal hn0
    go_upto_region 6 with (fail)
    have g3 : decide (0 < r.num.toNat) = true := by simp; omega
    have hS3 : Blk w3 q 244 r.cells.toArray ∧ w3.cell? ⟨ba, oa + 1, none⟩ = some (.int .u8 1) ∧ ba < w3.heap.size := ⟨HQ3.out, c1', bal'⟩
    have HS3 := hide hS3
    have hbp : ba ≠ p := fun e => by have := HBA.out; have := HPW.out; omega
    have HBP := hide hbp
    clear q1 q3 ql c1' bal' hS3 hbp
    refine wp_region_text [0, 0, 0, 0, 0, 0, 0, 0, 0, 0, 0, 0, 0, 0, 0, 0, 1, 0] (fun W => Blk W q 244 r.cells.toArray ∧ W.cell? ⟨ba, oa + 1, none⟩ = some (.int .u8 1) ∧ ba < W.heap.size) (by kernel_rfl) (by kernel_rfl) ⟨HS3.out.1.drew, HS3.out.2.1, HS3.out.2.2⟩ ?_
    refine wpOrd_q (v := .agg r.cells.toArray) (by rfl) (fun W hW => exec_load_blk 244 (.tmp 4) rfl q _ r.cells.toArray _ rfl hW.1 Tryz.underlying244 rfl (size_inrc r)) ?_
    try simp only [Act.put, List.setIfInBounds_toArray, List.set_cons_zero, List.set_cons_succ]
    iterate 15 (refine wpOrd_q (v := ?_) (by rfl) (fun W hW => ?_) ?_; rotate_left; (focus (have q1 : W.cell? ⟨q, 1, none⟩ = some (.int .u16 (r.num.toNat : Int)) := hW.1.cell 1; have q3 : W.cell? ⟨q, 3, none⟩ = some (.int .u16 (r.own.toNat : Int)) := hW.1.cell 3; have ql := hW.1.lt; have c1' := hW.2.1; have bal' := hW.2.2; go_simp; try with_reducible rfl)); try simp only [Act.put, List.setIfInBounds_toArray, List.set_cons_zero, List.set_cons_succ])
    refine wpOrd_x (by rfl) (fun KK hKK => ?_)
    refine wp_store_blk 244 (.tmp 2) (.tmp 50) rfl p 244 _ _ (by rfl) (by rfl) HP3.out.drew (size_inrc r) rfl (inr_one r) (fun hG => ?_)
    refine hKK _ _ _ (fun _ h => h) ⟨HS3.out.1.drew.setRow_far HPQ.out.symm _, (World.cell?_of_block (w := w3.drew) (a := ⟨ba, oa + 1, none⟩) (setRow_other _ _ _ _ HBP.out)).trans HS3.out.2.1, by simpa using HS3.out.2.2⟩ ?_
    clear hKK KK
    try simp only [Act.put, List.setIfInBounds_toArray, List.set_cons_zero, List.set_cons_succ]
    iterate 1 (refine wpOrd_q (v := ?_) (by rfl) (fun W hW => ?_) ?_; rotate_left; (focus (go_simp; try with_reducible rfl)); try simp only [Act.put, List.setIfInBounds_toArray, List.set_cons_zero, List.set_cons_succ])
    refine wpOrd_nil ?_
    go_wp2_with (first | ((with_reducible refine at_end ?_); refine bodyPost_ret (v := .tuple #[.agg r.cells.toArray, .bool true]) (results_run2 rfl (ResV.row rfl hG Tryz.underlying244 rfl (size_inrc r)) rfl) rfl ⟨rfl, below_setRow HB3.out.drew HPW.out _⟩) | fail)
end
end Go.Proofs.YthmkgohfeahdhaaGreat
namespace Go.Proofs.YthmkgohfeahdhaaGreat
open Go.RowKit
set_option linter.unusedSimpArgs false
set_option linter.unusedVariables false

def flatI (l : List InR) : List Value := l.flatMap InR.cells
/-- a table's bytes -/
def pls (l : List InR) : List UInt8 := l.flatMap placeR
theorem pls_length : ∀ l : List InR, (pls l).length = 8 * l.length
  | [] => rfl
  | e :: l => by
    have := pls_length l
    unfold pls at this ⊢
    rw [List.flatMap_cons, List.length_append, this, placeR_length, List.length_cons]
    omega
theorem pls_piece : ∀ {l : List InR} {k : Nat} {e : InR}, l[k]? = some e → ((pls l).drop (8 * k)).take 8 = placeR e
  | [], k, e, h => by simp at h
  | a :: l, 0, e, h => by
    obtain rfl : a = e := by simpa using h
    unfold pls
    rw [List.flatMap_cons, Nat.mul_zero, List.drop_zero, ← placeR_length a, List.take_left']
    rw [placeR_length]
  | a :: l, k + 1, e, h => by
    have h1 := pls_piece (l := l) (k := k) (e := e) (by simpa using h)
    unfold pls at h1 ⊢
    rw [List.flatMap_cons, show 8 * (k + 1) = (placeR a).length + 8 * k from by rw [placeR_length]; omega, List.drop_append, List.drop_eq_nil_of_le (by omega), List.nil_append, Nat.add_sub_cancel_left, h1]
/-- a group's table lies in its second node -/
structure TabN (G : GS) (g : GeoN) (l : List InR) (κ : Nat → Nat) : Prop where
  kind : (G.nd 2).kind = 1
  links : (G.nd 2).links ≠ 0
  size : (G.nd 2).size.toNat = 8 * l.length
  file : FileAt G g.blocks (G.nd 2) (blks (8 * l.length)) κ (8 * l.length) (fun j => (pls l).getD j 0)
  len : l.length ≤ 2048
  good : ∀ e ∈ l, e.Good
theorem info_inr : ∃ i, Tryz.prog.info? 244 = some i ∧ i.zero = some (.agg InR.zero.cells.toArray) ∧ i.size = 4 ∧ i.bytes = 8 := by
  have h : (Tryz.prog.info? 244).map (fun i => (i.zero, i.size, i.bytes)) = some (some (.agg InR.zero.cells.toArray), 4, 8) := by kernel_rfl
  cases hi : Tryz.prog.info? 244 with
  | none => rw [hi] at h; cases h
  | some i =>
    rw [hi] at h
    simp only [Option.map_some, Option.some.injEq, Prod.mk.injEq] at h
    exact ⟨i, rfl, h.1, h.2.1, h.2.2⟩
section
variable {w w' : World} {i : Ids} {s : Sto} {gg : Nat} {g : GeoN} {lab : Int} {G : GS}
set_option maxRecDepth 100000 in
set_option maxHeartbeats 4000000 in
theorem inopen_ok {l : List InR} {κ : Nat → Nat} (h : GAt w i s gg g lab G) (h2 : 2 ≤ g.nodes) (ht : TabN G g l κ) :
    Calls Tryz.prog 125 #[.pointer (some ⟨gg, 0, none⟩)] w fun e w' => ∃ A c, e = .returned (.tuple #[.slice A l.length c, .int .i64 0]) ∧ w'.ownsRow w.heap.size 244 4 (.slice A l.length c) l.length (flatI l) ∧ GAt w' i s gg g lab G ∧ Tch w.heap.size i.own w w' := by
  have hdir := h.gok.dir 2
  have hnd := gs_node' (num := 2) h (by omega) h2
  obtain ⟨n0, hn0⟩ : ∃ n0, G.nd 2 = n0 := ⟨_, rfl⟩
  rw [hn0, show ((2 : Nat) : Int) = 2 from rfl] at hnd
  rw [hn0] at hdir
  obtain ⟨sz, hsz0⟩ : ∃ sz, 8 * l.length = sz := ⟨_, rfl⟩
  have H := hide h
  have HND := hide hnd
  have HN0 := hide hn0
  have HD := hide hdir
  have HK := hide (And.intro h2 (And.intro ht hsz0))
  have hL : sz ≤ 16384 := by have := ht.len; omega
  have HL := hide hL
  clear h hnd hn0 hdir h2 ht hsz0
  go_enter Tryz.func125, Tryz.ntmps125
  go_wp2_with fail
  refine HND.out.mono ?_
  rintro e w1 ⟨rfl, ha1, ht1⟩
  have HA1 := hide ha1
  have HT1 := hide ht1
  clear ha1 ht1 HND
  go_upto_region 2 with (first | ((with_reducible refine at_alloc 130 ?_); refine wpList_alloc_as rfl 130 rfl _ (zero_node _) ?_) | ((with_reducible refine at_store 130 (.tmp 4) (.tmp 14) ?_); refine wpList_store_blk rfl 130 (.tmp 4) (.tmp 14) rfl w1.heap.size _ _ _ (by rfl) (by rfl) (Blk.new _ _ _) (size_nodeOf HD.out) (by rw [List.size_toArray, List.size_toArray, NodeV.cells_length HD.out]; rfl) (NodeV.cells_one _) (fun _ => ?_)) | fail)
  refine at_world (fun W => ∃ q, q = w1.heap.size ∧ Below w1.heap.size w1 W ∧ Blk W q 130 n0.cells.toArray) ⟨_, rfl, below_setRow ((Below.refl _ _).alloc (Nat.le_refl _) _) (Nat.le_refl _) _, (Blk.new _ _ _).setRow_same _⟩ (fun w2 hw2 => ?_)
  obtain ⟨q, hq, hb2, hQ2⟩ := hw2
  rw [← hq]
  have HA2 := hide (HA1.out.below hb2)
  have HT2 := hide (HT1.out.trans ((Tch.of_below hb2).mono HT1.out.size fun _ _ h => h))
  have q3 := (hQ2.cell 3).trans (node_cells_at n0).2.2.2
  have ql := hQ2.lt
  have hsz2 : n0.size.toNat = sz := by rw [← HN0.out, HK.out.2.1.size]; exact HK.out.2.2
  rw [hsz2] at q3
  have e1 : IntKind.i64.wrap (sz : Int) = (sz : Int) := IntWalk.i64_in _ (by omega)
  have hf := HK.out.2.1.file
  rw [HK.out.2.2] at hf
  have hrd := read_file (num := 2) (off := 0) (many := sz) (en := sz) (c := blks sz) (sz := sz) (κ := κ) (f := fun j => (pls l).getD j 0) HA2.out (by omega) HK.out.1 (by rw [HK.out.2.1.kind]; decide) (by rw [HK.out.2.1.size]; exact HK.out.2.2) hf (by omega) (by omega) HL.out (by have := HL.out; omega)
  have hmap : (List.range sz).map (fun k => (pls l).getD (0 + k) 0) = pls l := by
    have hlen := (pls_length l).trans HK.out.2.2
    apply List.ext_getElem?
    intro j
    rw [List.getElem?_map]
    by_cases hj : j < sz
    · rw [List.getElem?_range hj, List.getElem?_eq_getElem (by rw [hlen]; exact hj), Option.map_some, List.getD_eq_getElem?_getD, Nat.zero_add, List.getElem?_eq_getElem (by rw [hlen]; exact hj)]
      rfl
    · rw [List.getElem?_eq_none (by simpa using hj), List.getElem?_eq_none (by rw [hlen]; omega)]
      rfl
  rw [Nat.sub_zero, hmap, show ((0 : Nat) : Int) = 0 from rfl, show ((2 : Nat) : Int) = 2 from rfl] at hrd
  have HRD := hide hrd
  clear hq hb2 hQ2 hsz2 hmap hrd hL HA1 HT1 hf
  go_wp2_with fail
  refine HRD.out.mono ?_
  rintro e w3 ⟨A3, c3, rfl, hr3, ha3, ht3, -, hc3, hown3⟩
  have HBT3 := hide (BT.of_own hown3)
  have HA3 := hide ha3
  have HT3 := hide (HT2.out.trans (ht3.mono HT2.out.size fun _ _ h => h))
  have HR3 := hide (And.intro hr3 hc3)
  clear hr3 ha3 ht3 hc3 hown3 HRD HA2 HT2 q3 ql e1
  obtain ⟨N, hN⟩ : ∃ N, l.length = N := ⟨_, rfl⟩
  have hszN : sz = 8 * N := by rw [← hN]; exact HK.out.2.2.symm
  have HN := hide hN
  have HSZ := hide hszN
  clear hN hszN
  go_wp2_with fail
  go_loopg [7, 8, 9, 10] N (fun gh x7 x8 x9 x10 wr => ∃ (k : Nat) (Ao : Option Addr) (co : Nat), k ≤ N ∧ gh = N - k ∧ x7 = .slice Ao k co ∧ x8 = .int .i64 ((8 * k : Nat) : Int) ∧ Hid (GAt wr i s gg g lab G) ∧ Hid (Tch w.heap.size i.own w wr) ∧ Hid (Rd wr wr.heap.size 1 A3 sz (bvs (pls l)) ∧ sz ≤ c3) ∧ Hid (BT wr A3) ∧ Hid (wr.ownsRow w.heap.size 244 4 (.slice Ao k co) k (flatI (l.take k))))
  case atStart => exact ⟨0, none, 0, Nat.zero_le _, rfl, rfl, rfl, HA3, HT3, HR3, HBT3, hide (World.ownsRow_nil _ _ _ _)⟩
  case round =>
    clear HA3 HT3 HR3 HBT3
    obtain ⟨k, Ao, co, hk, hgh, rfl, rfl, HA, HT, HB, HBT, HO⟩ := hrel
    have HGH := hide hgh
    have hLL := HL.out
    clear hgh
    obtain ⟨y, hy⟩ : ∃ y : Nat, 8 * k = y := ⟨_, rfl⟩
    rw [hy]
    rcases Nat.lt_or_ge k N with hkl | hkl
    · obtain ⟨e, he⟩ : ∃ e, l[k]? = some e := ⟨_, List.getElem?_eq_getElem (by rw [HN.out]; exact hkl)⟩
      have hysz : y + 8 ≤ sz := by have := HSZ.out; omega
      obtain ⟨ba, oa, rfl, hba, -⟩ := HB.out.1.byte (i := 0) (by omega)
      have hc3 := HB.out.2
      have hrd : Rd wr wr.heap.size 1 (some ⟨ba, oa + y, none⟩) 8 (bvs (placeR e)) := by
        have h0 := HB.out.1.part HB.out.2 (lo := y) (hi := y + 8) (by omega) hysz
        rw [Nat.add_sub_cancel_left, ← hy, pls_piece he, hy] at h0
        unfold slA at h0
        rw [if_neg (by omega)] at h0
        simpa [Addr.add_mid] using h0
      have hup := inunpack_ok e (HK.out.2.1.good e (List.mem_of_getElem? he)) (c := c3 - y) (by omega) hrd
      have HUP := hide hup
      have HE := hide he
      have t1 : decide ((y : Int) < (sz : Int)) = true := by simp; omega
      have t1' : (y : Int) < (sz : Int) := by omega
      have e64 : IntKind.i64.wrap ((y : Int) + 8) = (y : Int) + 8 := IntWalk.i64_in _ (by omega)
      have hmin : min ((y : Int) + 8) (sz : Int) = (y : Int) + 8 := by omega
      have m1 : (y : Int) + 8 ≤ (sz : Int) := by omega
      have m2 : ¬ (sz : Int) < (y : Int) + 8 := by omega
      have m3 : (y : Int) + 8 ≤ (c3 : Int) := by omega
      have m4 : y < c3 := by omega
      have m5 : ¬ y = c3 := by omega
      have m6 : ¬ c3 = y := by omega
      clear hup hrd he hba
      have m7 : ((y : Int) + 8).toNat - y = 8 := by omega
      go_wp2_with fail
      refine HUP.out.mono ?_
      rintro _ w4 ⟨rfl, hb4⟩
      have HA4 := hide (HA.out.below hb4)
      have HT4 := hide (HT.out.trans ((Tch.of_below hb4).mono HT.out.size fun _ _ h => h))
      have HO4 := hide (own_below HO.out hb4)
      have HB4 := hide (And.intro ((HB.out.1.below hb4).more hb4.size) HB.out.2)
      have HBT4 := hide (HBT.out.below hb4)
      have hce : e.cells.toArray = #[.int .u8 (e.lab.toNat : Int), .int .u16 (e.num.toNat : Int), .int .u16 (e.gen.toNat : Int), .int .u16 (e.own.toNat : Int)] := rfl
      rw [hce]
      clear hb4 hce HUP HA HT HO HB HBT t1 t1' hmin m1 m2 m3 m4 m5 m6 m7
      go_upto_region 12 with (first | ((with_reducible refine at_alloc 244 ?_); refine wpList_alloc_as rfl 244 rfl _ (zero_inr' _) ?_) | ((with_reducible refine at_store 244 (.tmp 9) (.tmp 46) ?_); refine wpList_store_blk rfl 244 (.tmp 9) (.tmp 46) rfl w4.heap.size _ _ _ (by rfl) (by rfl) (Blk.new _ _ _) (size_inrc e) rfl (inr_one e) (fun _ => ?_)) | fail)
      refine at_world (fun W => ∃ z, z = w4.heap.size ∧ Below w4.heap.size w4 W ∧ Blk W z 244 #[.int .u8 (e.lab.toNat : Int), .int .u16 (e.num.toNat : Int), .int .u16 (e.gen.toNat : Int), .int .u16 (e.own.toNat : Int)]) ⟨_, rfl, below_setRow ((Below.refl _ _).alloc (Nat.le_refl _) _) (Nat.le_refl _) _, (Blk.new _ _ _).setRow_same _⟩ (fun w5 h5 => ?_)
      obtain ⟨z, hz, hb5, hZ5⟩ := h5
      rw [← hz]
      have HZB := hide hZ5
      have HA5 := hide (HA4.out.below hb5)
      have HT5 := hide (HT4.out.trans ((Tch.of_below hb5).mono HT4.out.size fun _ _ h => h))
      have HO5 := hide (own_below HO4.out hb5)
      have HB5 := hide (And.intro ((HB4.out.1.below hb5).more hb5.size) HB4.out.2)
      have HBT5 := hide (HBT4.out.below hb5)
      clear hz hb5 hZ5 HA4 HT4 HO4 HB4 HBT4
      obtain ⟨j0, hj0, j1, j2, j3⟩ := info_inr
      have HJ := hide (And.intro hj0 (And.intro j1 (And.intro j2 j3)))
      have hone : ∀ u ∈ ([.int .u8 (e.lab.toNat : Int), .int .u16 (e.num.toNat : Int), .int .u16 (e.gen.toNat : Int), .int .u16 (e.own.toNat : Int)] : List Value), u.oneCell' = true := by simp [Value.oneCell']
      have HONE := hide hone
      have hk6 : k ≤ 1000000 := by have := HSZ.out; omega
      have hs5 := HT5.out.size
      clear hj0 j1 j2 j3 hone
      go_wp2_with (first | ((with_reducible refine at_load 244 (.tmp 9) ?_); refine wpList_load_blk rfl 244 (.tmp 9) rfl z _ _ _ (by rfl) HZB.out Tryz.underlying244 rfl (size_inrc e) ?_) | (at_builtin; refine wpList_append_one rfl (.tmp 50) (.tmp 52) 240 rfl w.heap.size 244 j0 (.agg InR.zero.cells.toArray) 4 8 Tryz.underlying240 HJ.out.1 HJ.out.2.1 HJ.out.2.2.1 HJ.out.2.2.2 rfl (by decide) Ao co k (flatI (l.take k)) [.int .u8 (e.lab.toNat : Int), .int .u16 (e.num.toNat : Int), .int .u16 (e.gen.toNat : Int), .int .u16 (e.own.toNat : Int)] w5 rfl HO5.out rfl rfl rfl HONE.out hk6 (by decide) hs5 ?_; intro A9 c9 w6 hown9 hg9 hb9 hat9) | fail)
      have htg : Tch w5.heap.size (fun g => (Value.slice Ao k co).ownBlock = some g) w5 w6 := Tch.grown hg9 (Nat.le_refl _) (fun g hg _ => hg)
      have hown_ge : ∀ g, (Value.slice Ao k co).ownBlock = some g → w.heap.size ≤ g := fun g hg => (own_block_ge HO5.out hg).1
      have hav : ∀ (t : TypeId) g cur, t ≠ 244 → Blk w5 g t cur → ¬ (Value.slice Ao k co).ownBlock = some g := fun t g cur ht hB => row_not_blk HO5.out hB ht
      have hll := H.out.tx.log.log.lt
      have hgg := H.out.gp.lt
      have HA6 := hide (HA5.out.apart htg (fun g hg => ⟨fun ho => H.out.tx.other_new (hown_ge g hg) ho, by have := hown_ge g hg; omega, by have := hown_ge g hg; omega⟩))
      have HT6 := hide (HT5.out.trans (htg.mono HT5.out.size (fun g hk hg => by have := hown_ge g hg; omega)))
      have HB6 := hide (And.intro (HB5.out.1.keepT HBT5.out htg (fun g cur hB => hav _ g cur (by decide) hB)) HB5.out.2)
      have HBT6 := hide (HBT5.out.tch htg (fun g cur hB => hav _ g cur (by decide) hB))
      have hfl : flatI (l.take k) ++ [.int .u8 (e.lab.toNat : Int), .int .u16 (e.num.toNat : Int), .int .u16 (e.gen.toNat : Int), .int .u16 (e.own.toNat : Int)] = flatI (l.take (k + 1)) := by
        rw [List.take_add_one, HE.out]
        simp [flatI, InR.cells]
      rw [hfl] at hown9
      have HO6 := hide hown9
      clear hown9 hg9 hb9 hat9 htg hown_ge hav hll hgg hfl HA5 HT5 HO5 HB5 HBT5
      go_roundg (N - (k + 1))
      case rel => exact ⟨k + 1, A9, c9, by omega, rfl, rfl, by rw [Nat.mul_add, hy]; first | rfl | go_num, HA6, HT6, HB6, HBT6, HO6⟩
      case measure => have := HGH.out; omega
    · have hkN : k = N := by omega
      have t1 : decide ((y : Int) < (sz : Int)) = false := by have := HSZ.out; simp; omega
      have t1' : ¬ (y : Int) < (sz : Int) := by have := HSZ.out; omega
      have HKN := hide hkN
      clear hkl hk hkN hLL
      go_wp2
      go_returns
      refine ⟨Ao, co, ?_, ?_, HA.out, HT.out⟩
      · have e1 := HN.out
        have e2 := HKN.out
        simp [e1, e2]
      · have h0 := HO.out
        rw [HKN.out, List.take_of_length_le (by rw [HN.out]; exact Nat.le_refl _)] at h0
        rw [HN.out]
        exact h0
end
end Go.Proofs.YthmkgohfeahdhaaGreat
namespace Go.Proofs.YthmkgohfeahdhaaGreat
open Go.RowKit
set_option linter.unusedSimpArgs false
set_option linter.unusedVariables false

def InR.isZ (r : InR) : Bool := (r.lab == 0 && r.num == 0) && (r.gen == 0 && r.own == 0)
theorem isZ_iff {r : InR} : r.isZ = true ↔ r = InR.zero := by
  obtain ⟨a, b, c, d⟩ := r
  simp only [InR.isZ, Bool.and_eq_true, beq_iff_eq, InR.zero, InR.mk.injEq]
  constructor
  · rintro ⟨⟨h1, h2⟩, h3, h4⟩; exact ⟨h1, h2, h3, h4⟩
  · rintro ⟨h1, h2, h3, h4⟩; exact ⟨⟨h1, h2⟩, h3, h4⟩
def inoB (o r : InR) : Bool := (r.lab == o.lab && r.num == o.num) && r.gen == o.gen
def hitB (o r : InR) : Bool := !r.isZ && inoB o r
def InR.lits3 (r : InR) : List Lit := [.int .u8 (r.lab.toNat : Int), .int .u16 (r.num.toNat : Int), .int .u16 (r.gen.toNat : Int)]
def InR.lits (r : InR) : List Lit := [.int .u8 (r.lab.toNat : Int), .int .u16 (r.num.toNat : Int), .int .u16 (r.gen.toNat : Int), .int .u16 (r.own.toNat : Int)]
theorem ino_lits (d : Nat) (r : InR) : Tryz.prog.keyLits (d + 3) 152 r.ino = some r.lits3 := by
  have h8 : ∀ (x : UInt8) j, Tryz.prog.keyLits (j + 1) 5 [.int .u8 (x.toNat : Int)] = some [.int .u8 (x.toNat : Int)] := fun x j => by unfold Program.keyLits; rw [Tryz.underlying5]; simp [wf8]
  have h16 : ∀ (x : UInt16) j, Tryz.prog.keyLits (j + 1) 37 [.int .u16 (x.toNat : Int)] = some [.int .u16 (x.toNat : Int)] := fun x j => by unfold Program.keyLits; rw [Tryz.underlying37]; simp [wf16]
  have c1 : Tryz.prog.cellsOf 5 = 1 := by kernel_rfl
  have c3 : Tryz.prog.cellsOf 37 = 1 := by kernel_rfl
  have c6 : Tryz.prog.cellsOf 152 = 3 := by kernel_rfl
  obtain ⟨a, b, c, e⟩ := r
  unfold Program.keyLits
  rw [Tryz.underlying152]
  simp only [InR.ino, InR.lits3]
  simp [c1, c3, c6, h8, h16]
theorem inr_lits (d : Nat) (r : InR) : Tryz.prog.keyLits (d + 4) 244 r.cells = some r.lits := by
  have hi := ino_lits d r
  have h16 : ∀ (x : UInt16) j, Tryz.prog.keyLits (j + 1) 37 [.int .u16 (x.toNat : Int)] = some [.int .u16 (x.toNat : Int)] := fun x j => by unfold Program.keyLits; rw [Tryz.underlying37]; simp [wf16]
  have c3 : Tryz.prog.cellsOf 37 = 1 := by kernel_rfl
  have c5 : Tryz.prog.cellsOf 152 = 3 := by kernel_rfl
  have c6 : Tryz.prog.cellsOf 244 = 4 := by kernel_rfl
  obtain ⟨a, b, c, e⟩ := r
  simp only [InR.ino, InR.lits3] at hi
  unfold Program.keyLits
  rw [Tryz.underlying244]
  simp only [InR.cells, InR.lits]
  simp [c3, c5, c6, h16, hi]
theorem lits3_inj {a b : InR} : a.lits3 = b.lits3 ↔ inoB b a = true := by
  obtain ⟨a1, a2, a3, a4⟩ := a
  obtain ⟨b1, b2, b3, b4⟩ := b
  simp only [InR.lits3, inoB, Bool.and_eq_true, beq_iff_eq, List.cons.injEq, Lit.int.injEq, true_and, and_true]
  constructor
  · rintro ⟨h1, h2, h3⟩
    exact ⟨⟨UInt8.toNat_inj.1 (by omega), UInt16.toNat_inj.1 (by omega)⟩, UInt16.toNat_inj.1 (by omega)⟩
  · rintro ⟨⟨rfl, rfl⟩, rfl⟩; exact ⟨rfl, rfl, rfl⟩
theorem lits_inj {a b : InR} : a.lits = b.lits ↔ a = b := by
  obtain ⟨a1, a2, a3, a4⟩ := a
  obtain ⟨b1, b2, b3, b4⟩ := b
  simp only [InR.lits, List.cons.injEq, Lit.int.injEq, true_and, and_true, InR.mk.injEq]
  constructor
  · rintro ⟨h1, h2, h3, h4⟩
    exact ⟨UInt8.toNat_inj.1 (by omega), UInt16.toNat_inj.1 (by omega), UInt16.toNat_inj.1 (by omega), UInt16.toNat_inj.1 (by omega)⟩
  · rintro ⟨rfl, rfl, rfl, rfl⟩; exact ⟨rfl, rfl, rfl, rfl⟩
theorem inr_eq (w : World) (a b : InR) (q : Bool) (hq : q = true ↔ a = b) : (Op.equalIn 10000 244 (.agg a.cells.toArray) (.agg b.cells.toArray)).run Tryz.prog w = .ok q w := by
  have hf : ∀ n : InR, (Value.agg n.cells.toArray).formed Tryz.prog 244 = true := fun n => by
    unfold Value.formed
    rw [Tryz.underlying244]
    simp only [beq_iff_eq, List.size_toArray]
    kernel_rfl
  obtain ⟨r, h1, h2⟩ := run_equal_lits (P := Tryz.prog) w (m := 4) (D := 4) (by decide) (k := 244) (by kernel_rfl) (hf a) (hf b) (inr_lits 0 a) (inr_lits 0 b)
  rw [lits_inj] at h2
  rw [h1, show r = q from by cases r <;> cases q <;> simp_all]
theorem ino_eq (w : World) (a b : InR) : (Op.equalIn 10000 152 (.agg a.ino.toArray) (.agg b.ino.toArray)).run Tryz.prog w = .ok (inoB b a) w := by
  have hf : ∀ n : InR, (Value.agg n.ino.toArray).formed Tryz.prog 152 = true := fun n => by
    unfold Value.formed
    rw [Tryz.underlying152]
    simp only [beq_iff_eq, List.size_toArray]
    kernel_rfl
  obtain ⟨r, h1, h2⟩ := run_equal_lits (P := Tryz.prog) w (m := 3) (D := 3) (by decide) (k := 152) (by kernel_rfl) (hf a) (hf b) (ino_lits 0 a) (ino_lits 0 b)
  rw [lits3_inj] at h2
  rw [h1, show r = inoB b a from by cases r <;> cases hb : inoB b a <;> simp_all]
theorem size_inoc (r : InR) : (Tryz.prog.info? 152).map (·.size) = some r.ino.toArray.size := by
  have : (Tryz.prog.info? 152).map (·.size) = some 3 := by kernel_rfl
  rw [this]; rfl
theorem flatI_get : ∀ {L : List InR} {k j : Nat} {n : InR}, L[k]? = some n → j < 4 → (flatI L)[k * 4 + j]? = n.cells[j]?
  | [], k, j, n, h, _ => by simp at h
  | a :: r, 0, j, n, h, hj => by
    obtain rfl : a = n := by simpa using h
    unfold flatI
    rw [List.flatMap_cons, Nat.zero_mul, Nat.zero_add, List.getElem?_append_left (by simp [InR.cells]; omega)]
  | a :: r, k + 1, j, n, h, hj => by
    have := flatI_get (L := r) (k := k) (j := j) (n := n) (by simpa using h) hj
    unfold flatI at this ⊢
    rw [List.flatMap_cons, List.getElem?_append_right (by simp [InR.cells]; omega), ← this]
    congr 1
    simp [InR.cells]; omega
theorem inr_range {w : World} {B n co : Nat} {Ao : Option Addr} {L : List InR} (h : w.ownsRow B 244 4 (.slice Ao n co) n (flatI L)) (hn : 0 < n) : ∃ g, Ao = some ⟨g, 0, none⟩ ∧ g < w.heap.size ∧ ∀ (k : Nat) (r : InR), L[k]? = some r → w.rangeAt g (k * 4) r.cells := by
  obtain ⟨g, hA, _, hlt, hc⟩ := own_base h hn
  refine ⟨g, hA, hlt, fun k r hk j v hj => ?_⟩
  have hj2 : j < 4 := by have := (List.getElem?_eq_some_iff.1 hj).1; simpa [InR.cells] using this
  have := flatI_get hk hj2
  exact hc _ _ (this.trans hj)
/-- what inst.open says -/
def InOpens (i : Ids) (s : Sto) (gg : Nat) (g : GeoN) (lab : Int) (G : GS) (l : List InR) : Prop :=
  ∀ W, GAt W i s gg g lab G → Calls Tryz.prog 125 #[.pointer (some ⟨gg, 0, none⟩)] W fun e w' => ∃ A c, e = .returned (.tuple #[.slice A l.length c, .int .i64 0]) ∧ w'.ownsRow W.heap.size 244 4 (.slice A l.length c) l.length (flatI l) ∧ GAt w' i s gg g lab G ∧ Tch W.heap.size i.own W w'
section
variable {w w' : World} {i : Ids} {s : Sto} {gg : Nat} {g : GeoN} {lab : Int} {G : GS}
theorem inopens {l : List InR} {κ : Nat → Nat} (h2 : 2 ≤ g.nodes) (ht : TabN G g l κ) : InOpens i s gg g lab G l := fun W h => inopen_ok h h2 ht
set_option maxRecDepth 100000 in
set_option maxHeartbeats 4000000 in
theorem infind_ok {l : List InR} {o : InR} (h : GAt w i s gg g lab G) (hop : InOpens i s gg g lab G l) (hln : l.length ≤ 2048) :
    Calls Tryz.prog 69 #[.pointer (some ⟨gg, 0, none⟩), .agg o.ino.toArray] w fun e w' => (∃ (K : Nat) (r : InR), l[K]? = some r ∧ hitB o r = true ∧ (∀ j, j < K → ∀ x, l[j]? = some x → hitB o x = false) ∧ e = .returned (.tuple #[.int .i64 (r.own.toNat : Int), .int .i64 0]) ∧ GAt w' i s gg g lab G ∧ Tch w.heap.size i.own w w') ∨
      ((∀ x ∈ l, hitB o x = false) ∧ e = .returned (.tuple #[.int .i64 0, .int .i64 0]) ∧ GAt w' i s gg g lab G ∧ Tch w.heap.size i.own w w') := by
  have H := hide h
  have HOP := hide hop
  have HLN := hide hln
  clear h hop hln
  go_enter Tryz.func69, Tryz.ntmps69
  go_upto_region 1 with (fail)
  refine at_world (fun W => ∃ q, q = w.heap.size ∧ Below w.heap.size w W ∧ Blk W q 152 o.ino.toArray) ⟨_, rfl, (Below.refl _ _).alloc (Nat.le_refl _) _, Blk.new _ _ _⟩ (fun w0 h0 => ?_)
  obtain ⟨q, hq, hb0, hQ0⟩ := h0
  rw [← hq]
  have HA0 := hide (H.out.below hb0)
  have HT0 := hide (Tch.of_below (S := i.own) hb0)
  have HQ0 := hide hQ0
  have HQN := hide (show ¬ i.own q from H.out.tx.other_new (Nat.le_of_eq hq.symm))
  clear hq hb0 hQ0
  go_wp2_with fail
  refine (HOP.out w0 HA0.out).mono ?_
  rintro e w1 ⟨A, c, rfl, hown, ha1, ht1⟩
  obtain ⟨N, hN⟩ : ∃ N, l.length = N := ⟨_, rfl⟩
  have HN := hide hN
  rw [hN] at hown ⊢
  have HO1 := hide hown
  have HA1 := hide ha1
  have HT1 := hide (HT0.out.trans (ht1.mono HT0.out.size fun _ _ h => h))
  have HQ1 := hide (Blk.tch HQ0.out ht1 HQ0.out.lt HQN.out)
  clear hown ha1 ht1 hN HA0 HT0 HQ0
  go_wp2_with fail
  go_loopg [9, 17] N (fun gh x9 x17 wr => ∃ k : Nat, k ≤ N ∧ gh = N - k ∧ x17 = .int .i64 (k : Int) ∧ Hid (GAt wr i s gg g lab G) ∧ Hid (Tch w.heap.size i.own w wr) ∧ Hid (wr.ownsRow w0.heap.size 244 4 (.slice A N c) N (flatI l)) ∧ Hid (Blk wr q 152 o.ino.toArray) ∧ Hid (∀ j, j < k → ∀ x, l[j]? = some x → hitB o x = false))
  case atStart => exact ⟨0, Nat.zero_le _, rfl, rfl, HA1, HT1, HO1, HQ1, hide fun j hj => absurd hj (Nat.not_lt_zero _)⟩
  case round =>
    clear HA1 HT1 HO1 HQ1
    obtain ⟨k, hk, hgh, rfl, HA, HT, HO, HQ, HNO⟩ := hrel
    have HGH := hide hgh
    have hln := HLN.out
    have hnn := HN.out
    clear hgh
    rcases Nat.lt_or_ge k N with hkl | hkl
    · obtain ⟨e, he⟩ : ∃ e, l[k]? = some e := ⟨_, List.getElem?_eq_getElem (by omega)⟩
      obtain ⟨ga, rfl, hga, hrg⟩ := inr_range HO.out (by omega)
      have hrg' := hrg k e he
      have HRG := hide hrg'
      have HE := hide he
      have t1 : decide ((k : Int) < (N : Int)) = true := by simp; omega
      have t1' : (k : Int) < (N : Int) := by omega
      have e64 : IntKind.i64.wrap ((k : Int) + 1) = (k : Int) + 1 := IntWalk.i64_in _ (by omega)
      have hsz : (Tryz.prog.info? 244).map (·.size) = some e.cells.length := size_inr
      have HSZ := hide hsz
      clear hrg hrg' he hsz hln hnn
      go_upto_region 5 with (first | ((with_reducible refine at_load 244 (.tmp 19) ?_); refine wpList_load_mid rfl 244 (.tmp 19) rfl ga (k * 4) (by rfl) e.cells _ HRG.out Tryz.underlying244 rfl HSZ.out ?_) | ((with_reducible refine at_alloc 244 ?_); refine wpList_alloc_as rfl 244 rfl _ (zero_inr' _) ?_) | ((with_reducible refine at_store 244 (.tmp 9) (.tmp 20) ?_); refine wpList_store_blk rfl 244 (.tmp 9) (.tmp 20) rfl wr.heap.size _ _ _ (by rfl) (by rfl) (Blk.new _ _ _) (size_inrc e) rfl (inr_one e) (fun _ => ?_)) | fail)
      refine at_world (fun W => ∃ z, z = wr.heap.size ∧ Below wr.heap.size wr W ∧ Blk W z 244 e.cells.toArray) ⟨_, rfl, below_setRow ((Below.refl _ _).alloc (Nat.le_refl _) _) (Nat.le_refl _) _, (Blk.new _ _ _).setRow_same _⟩ (fun w5 h5 => ?_)
      obtain ⟨z, hz, hb5, hZ5⟩ := h5
      rw [← hz]
      have HA5 := hide (HA.out.below hb5)
      have HT5 := hide (HT.out.trans ((Tch.of_below hb5).mono HT.out.size fun _ _ h => h))
      have HO5 := hide (own_below HO.out hb5)
      have HQ5 := hide (HQ.out.below hb5 HQ.out.lt)
      have HZ5 := hide hZ5
      have z3 : w5.cell? ⟨z, 3, none⟩ = some (.int .u16 (e.own.toNat : Int)) := hZ5.cell 3
      have zl := hZ5.lt
      have HRI := hide (show w5.rangeAt z 0 e.ino from fun j v hj => by
        have hj3 : j < 3 := by have := (List.getElem?_eq_some_iff.1 hj).1; simpa [InR.ino] using this
        have h0 := hZ5.cell j
        rw [Nat.zero_add, h0, List.getElem?_toArray, ← hj]
        have : j = 0 ∨ j = 1 ∨ j = 2 := by omega
        rcases this with rfl | rfl | rfl <;> rfl)
      have HSI := hide (show (Tryz.prog.info? 152).map (·.size) = some e.ino.length from size_inoc e)
      clear hz hb5 hZ5 HA HT HO HQ HRG
      have hzq : ∀ W, (Op.equalIn 10000 244 (.agg e.cells.toArray) (.agg InR.zero.cells.toArray)).run Tryz.prog W = .ok e.isZ W := fun W => inr_eq W e InR.zero e.isZ isZ_iff
      obtain ⟨zb, hzb⟩ : ∃ zb, e.isZ = zb := ⟨_, rfl⟩
      obtain ⟨ib, hib⟩ : ∃ ib, inoB o e = ib := ⟨_, rfl⟩
      have hiq := fun W => ino_eq W e o
      rw [hzb] at hzq
      rw [hib] at hiq
      have HZQ := hide hzq
      have HIQ := hide hiq
      have hht : hitB o e = (!zb && ib) := by unfold hitB; rw [hzb, hib]
      have HHT := hide hht
      clear hzq hiq hzb hib hht
      have hno' : hitB o e = false → ∀ j, j < k + 1 → ∀ x, l[j]? = some x → hitB o x = false := fun h0 j hj x hx => by
        rcases Nat.lt_succ_iff_lt_or_eq.1 hj with h1 | rfl
        · exact HNO.out j h1 x hx
        · rw [HE.out] at hx
          cases hx
          exact h0
      have HNO' := hide hno'
      clear hno'
      cases zb with
      | true =>
        go_wp2_with (first | ((with_reducible refine at_load 244 (.tmp 9) ?_); refine wpList_load_blk rfl 244 (.tmp 9) rfl z _ _ _ (by rfl) HZ5.out Tryz.underlying244 rfl (size_inrc e) ?_) | ((with_reducible refine at_build 244 #[] ?_); refine wpList_zero_as rfl 244 rfl _ (zero_inr _) ?_) | ((with_reducible refine at_binop .neq 244 (.tmp 21) (.tmp 22) 244 ?_); refine wpList_run rfl _ (exec_neq_agg 244 (.tmp 21) (.tmp 22) 244 rfl _ _ rfl rfl (by kernel_rfl) _ (HZQ.out _)) ?_) | fail)
        go_roundg (N - (k + 1))
        case rel => exact ⟨k + 1, by omega, rfl, by first | rfl | go_num, HA5, HT5, HO5, HQ5, hide (HNO'.out HHT.out)⟩
        case measure => have := HGH.out; omega
      | false =>
        cases ib with
        | false =>
          go_wp2_with (first | (refine wpList_take (by kernel_rfl) ?_) | ((with_reducible refine at_load 244 (.tmp 9) ?_); refine wpList_load_blk rfl 244 (.tmp 9) rfl z _ _ _ (by rfl) HZ5.out Tryz.underlying244 rfl (size_inrc e) ?_) | ((with_reducible refine at_build 244 #[] ?_); refine wpList_zero_as rfl 244 rfl _ (zero_inr _) ?_) | ((with_reducible refine at_binop .neq 244 (.tmp 21) (.tmp 22) 244 ?_); refine wpList_run rfl _ (exec_neq_agg 244 (.tmp 21) (.tmp 22) 244 rfl _ _ rfl rfl (by kernel_rfl) _ (HZQ.out _)) ?_) | ((with_reducible refine at_load 152 (.tmp 25) ?_); refine wpList_load_mid rfl 152 (.tmp 25) rfl z 0 (by rfl) e.ino _ HRI.out Tryz.underlying152 rfl HSI.out ?_) | ((with_reducible refine at_load 152 (.tmp 3) ?_); refine wpList_load_blk rfl 152 (.tmp 3) rfl q _ _ _ (by rfl) HQ5.out Tryz.underlying152 rfl (size_inoc o) ?_) | ((with_reducible refine at_binop .eql 152 (.tmp 26) (.tmp 27) 152 ?_); refine wpList_run rfl _ (exec_eql_agg 152 (.tmp 26) (.tmp 27) 152 rfl _ _ rfl rfl (by kernel_rfl) _ (HIQ.out _)) ?_) | fail)
          go_roundg (N - (k + 1))
          case rel => exact ⟨k + 1, by omega, rfl, by first | rfl | go_num, HA5, HT5, HO5, HQ5, hide (HNO'.out HHT.out)⟩
          case measure => have := HGH.out; omega
        | true =>
          have e7 : IntKind.i64.wrap (e.own.toNat : Int) = (e.own.toNat : Int) := IntWalk.i64_in _ (by have := e.own.toNat_lt; omega)
          go_wp2_with (first | (refine wpList_take (by kernel_rfl) ?_) | ((with_reducible refine at_load 244 (.tmp 9) ?_); refine wpList_load_blk rfl 244 (.tmp 9) rfl z _ _ _ (by rfl) HZ5.out Tryz.underlying244 rfl (size_inrc e) ?_) | ((with_reducible refine at_build 244 #[] ?_); refine wpList_zero_as rfl 244 rfl _ (zero_inr _) ?_) | ((with_reducible refine at_binop .neq 244 (.tmp 21) (.tmp 22) 244 ?_); refine wpList_run rfl _ (exec_neq_agg 244 (.tmp 21) (.tmp 22) 244 rfl _ _ rfl rfl (by kernel_rfl) _ (HZQ.out _)) ?_) | ((with_reducible refine at_load 152 (.tmp 25) ?_); refine wpList_load_mid rfl 152 (.tmp 25) rfl z 0 (by rfl) e.ino _ HRI.out Tryz.underlying152 rfl HSI.out ?_) | ((with_reducible refine at_load 152 (.tmp 3) ?_); refine wpList_load_blk rfl 152 (.tmp 3) rfl q _ _ _ (by rfl) HQ5.out Tryz.underlying152 rfl (size_inoc o) ?_) | ((with_reducible refine at_binop .eql 152 (.tmp 26) (.tmp 27) 152 ?_); refine wpList_run rfl _ (exec_eql_agg 152 (.tmp 26) (.tmp 27) 152 rfl _ _ rfl rfl (by kernel_rfl) _ (HIQ.out _)) ?_) | fail)
          go_returns
          exact .inl ⟨k, e, HE.out, HHT.out, HNO.out, rfl, HA5.out, HT5.out⟩
    · have t1 : decide ((k : Int) < (N : Int)) = false := by simp; omega
      have t1' : ¬ (k : Int) < (N : Int) := by omega
      have hno : ∀ x ∈ l, hitB o x = false := fun x hx => by
        obtain ⟨j, hj⟩ := List.getElem?_of_mem hx
        exact HNO.out j (by have := (List.getElem?_eq_some_iff.1 hj).1; omega) x hj
      have HNO' := hide hno
      clear hkl hk hln hnn hno
      go_wp2
      go_returns
      exact .inr ⟨HNO'.out, rfl, HA.out, HT.out⟩
end
end Go.Proofs.YthmkgohfeahdhaaGreat
namespace Go.Proofs.YthmkgohfeahdhaaGreat
open Go.RowKit
set_option linter.unusedSimpArgs false
set_option linter.unusedVariables false

/-- is a node there, one that each label has its own of, of that generation -/
def aliveB (G : GS) (nodes : Nat) (o : InR) : Bool := decide (1 ≤ o.num.toNat ∧ o.num.toNat ≤ nodes ∧ (G.nd o.num.toNat).kind = 3 ∧ (G.nd o.num.toNat).gen = o.gen)
theorem gnode_at (n : NodeV) : n.cells.toArray[2]? = some (.int .u16 (n.gen.toNat : Int)) := rfl
section
variable {w w' : World} {i : Ids} {s : Sto} {B cc : Nat} {R : List RegV} {K : List MarkV} {tb nb lb : Nat} {A1 A2 A3 : Option Addr} {c1 c2 c3 : Nat} {u : GeoN} {G : GS}
theorem ino_arr (o : InR) : o.ino.toArray = #[.int .u8 (o.lab.toNat : Int), .int .u16 (o.num.toNat : Int), .int .u16 (o.gen.toNat : Int)] := rfl
set_option maxRecDepth 100000 in
set_option maxHeartbeats 4000000 in
theorem alive_ok {v : GeoV} {o : InR} (hin : ConfIn B w cc R K tb nb lb A1 A2 A3 c1 c2 c3) (hv : (geosOf 32 R)[o.lab.toNat]? = some v) (hu : geoN v = u) (hval : u.val = .agg v.cells.toArray) (hn : v.nodes = (u.nodes : Int)) (hx : TxAt w i s) (huok : u.Ok s.D.length) (his : s.Is u G) (hgk : G.Ok) :
    Calls Tryz.prog 70 #[.pointer (some ⟨i.tt, 0, none⟩), .pointer (some ⟨cc, 0, none⟩), .agg o.ino.toArray] w fun e w' => e = .returned (.tuple #[.bool (aliveB G u.nodes o), .int .i64 0]) ∧ TxAt w' i s ∧ Tch w.heap.size i.own w w' := by
  rw [ino_arr]
  have hop := fun W (hW : Below w.heap.size w W) => gopen_yes (tt := i.tt) (hin.below hW) hv (by rw [hu]; exact hval)
  rw [hu] at hop
  have hge := fun W (hW : Below w.heap.size w W) => geo_ok (hin.below hW) hv
  rw [hn] at hge
  obtain ⟨lv, hlv⟩ : ∃ lv, o.lab.toNat = lv := ⟨_, rfl⟩
  obtain ⟨nm, hnm⟩ : ∃ nm, o.num.toNat = nm := ⟨_, rfl⟩
  have hnm16 := o.num.toNat_lt
  have hlv8 := o.lab.toNat_lt
  rw [hlv] at hop hge hlv8 ⊢
  rw [hnm] at hnm16 ⊢
  have hal : aliveB G u.nodes o = decide (1 ≤ nm ∧ nm ≤ u.nodes ∧ (G.nd nm).kind = 3 ∧ (G.nd nm).gen = o.gen) := by unfold aliveB; rw [hnm]
  have HX := hide hx
  have HOP := hide hop
  have HGE := hide hge
  have HU := hide (And.intro huok (And.intro his hgk))
  have HAL := hide hal
  have e0 : IntKind.i64.wrap (lv : Int) = (lv : Int) := IntWalk.i64_in _ (by omega)
  have e1 : IntKind.i64.wrap (nm : Int) = (nm : Int) := IntWalk.i64_in _ (by omega)
  clear hin hv hval hx huok his hgk hop hge hlv hnm hal hu hn hlv8 hnm16
  go_enter Tryz.func70, Tryz.ntmps70
  go_upto_region 1 with (fail)
  refine at_world (fun W => ∃ q, q = w.heap.size ∧ Below w.heap.size w W ∧ Blk W q 152 #[.int .u8 (lv : Int), .int .u16 (nm : Int), .int .u16 (o.gen.toNat : Int)]) ⟨_, rfl, (Below.refl _ _).alloc (Nat.le_refl _) _, Blk.new _ _ _⟩ (fun w0 h0 => ?_)
  obtain ⟨q, hq, hb0, hQ0⟩ := h0
  rw [← hq]
  have HB0 := hide hb0
  have HQ0 := hide hQ0
  have HQN := hide (show ¬ i.own q from HX.out.other_new (Nat.le_of_eq hq.symm))
  have q0 := hQ0.cell 0
  have q1 := hQ0.cell 1
  have ql := hQ0.lt
  clear hq hb0 hQ0
  go_wp2_with fail
  refine (HOP.out w0 HB0.out).mono ?_
  rintro e w1 ⟨gg, rfl, -, hG1, hb1⟩
  have HB1 := hide (HB0.out.trans (hb1.mono HB0.out.size))
  have HQ1 := hide (HQ0.out.below hb1 HQ0.out.lt)
  have HA1 : Hid (GAt w1 i s gg u (lv : Int) G) := hide ⟨HX.out.below HB1.out, hG1, HU.out.1, HU.out.2.1, HU.out.2.2⟩
  clear hG1 hb1 q0 q1 ql HB0 HQ0
  have q0 := HQ1.out.cell 0
  have q1 := HQ1.out.cell 1
  have ql := HQ1.out.lt
  go_wp2_with fail
  refine (HGE.out w1 HB1.out).mono ?_
  rintro e w2 ⟨rfl, hb2⟩
  have HB2 := hide (HB1.out.trans (hb2.mono HB1.out.size))
  have HQ2 := hide (HQ1.out.below hb2 HQ1.out.lt)
  have HA2 := hide (HA1.out.below hb2)
  clear hb2 q0 q1 ql HB1 HQ1 HA1
  go_upto_region 5 with (fail)
  refine at_world (fun W => ∃ z, z = w2.heap.size ∧ Below w2.heap.size w2 W ∧ W.cell? ⟨z, 5, none⟩ = some (.int .i64 (u.nodes : Int)) ∧ z < W.heap.size) ⟨_, rfl, (Below.refl _ _).alloc (Nat.le_refl _) _, (Blk.new w2 _ _).cell 5, by simp⟩ (fun w3 h3 => ?_)
  obtain ⟨z, hz, hb3, z5, zl⟩ := h3
  rw [← hz]
  have HB3 := hide (HB2.out.trans (hb3.mono HB2.out.size))
  have HQ3 := hide (HQ2.out.below hb3 HQ2.out.lt)
  have HA3 := hide (HA2.out.below hb3)
  have q1 := HQ3.out.cell 1
  have ql := HQ3.out.lt
  clear hz hb3 HB2 HQ2 HA2
  by_cases h1 : nm < 1
  · have t1 : decide ((nm : Int) < 1) = true := by simp; omega
    have t1' : (nm : Int) < 1 := by omega
    have HR := hide (show decide (1 ≤ nm ∧ nm ≤ u.nodes ∧ (G.nd nm).kind = 3 ∧ (G.nd nm).gen = o.gen) = false from decide_eq_false (by omega))
    clear h1
    go_wp2
    go_returns
    exact ⟨by rw [HAL.out, HR.out]; rfl, HA3.out.tx, Tch.of_below HB3.out⟩
  have t1 : decide ((nm : Int) < 1) = false := by simp; omega
  have t1' : ¬ (nm : Int) < 1 := by omega
  by_cases h2 : u.nodes < nm
  · have t2 : decide ((u.nodes : Int) < (nm : Int)) = true := by simp; omega
    have t2' : (u.nodes : Int) < (nm : Int) := by omega
    have HR := hide (show decide (1 ≤ nm ∧ nm ≤ u.nodes ∧ (G.nd nm).kind = 3 ∧ (G.nd nm).gen = o.gen) = false from decide_eq_false (by omega))
    clear h1 h2
    go_wp2
    go_returns
    exact ⟨by rw [HAL.out, HR.out]; rfl, HA3.out.tx, Tch.of_below HB3.out⟩
  have t2 : decide ((u.nodes : Int) < (nm : Int)) = false := by simp; omega
  have t2' : ¬ (u.nodes : Int) < (nm : Int) := by omega
  have hdir := HA3.out.gok.dir nm
  have hnd := fun W (hW : GAt W i s gg u (lv : Int) G) => gs_node' (num := nm) hW (by omega) (by omega)
  have HR1 := hide (show decide (1 ≤ nm ∧ nm ≤ u.nodes ∧ (G.nd nm).kind = 3 ∧ (G.nd nm).gen = o.gen) = decide ((G.nd nm).kind = 3 ∧ (G.nd nm).gen = o.gen) from by
    have q1 : 1 ≤ nm := by omega
    have q2 : nm ≤ u.nodes := by omega
    simp [q1, q2])
  obtain ⟨n0, hn0⟩ : ∃ n0, G.nd nm = n0 := ⟨_, rfl⟩
  rw [hn0] at hnd hdir HR1 HAL
  have HND := hide hnd
  have HD := hide hdir
  clear h1 h2 hnd hdir hn0
  go_wp2_with fail
  refine (HND.out w3 HA3.out).mono ?_
  rintro e w4 ⟨rfl, ha4, ht4⟩
  have HA4 := hide ha4
  have HT4 := hide ((Tch.of_below (S := i.own) HB3.out).trans (ht4.mono HB3.out.size fun _ _ h => h))
  have HQ4 := hide (HQ3.out.tch ht4 HQ3.out.lt HQN.out)
  clear ha4 ht4 HND HA3 q1 ql z5 zl HB3 HQ3
  go_upto_region 8 with (first | ((with_reducible refine at_alloc 130 ?_); refine wpList_alloc_as rfl 130 rfl _ (zero_node _) ?_) | ((with_reducible refine at_store 130 (.tmp 12) (.tmp 50) ?_); refine wpList_store_blk rfl 130 (.tmp 12) (.tmp 50) rfl w4.heap.size _ _ _ (by rfl) (by rfl) (Blk.new _ _ _) (size_nodeOf HD.out) (by rw [List.size_toArray, List.size_toArray, NodeV.cells_length HD.out]; rfl) (NodeV.cells_one _) (fun _ => ?_)) | fail)
  refine at_world (fun W => ∃ y, y = w4.heap.size ∧ Below w4.heap.size w4 W ∧ Blk W y 130 n0.cells.toArray) ⟨_, rfl, below_setRow ((Below.refl _ _).alloc (Nat.le_refl _) _) (Nat.le_refl _) _, (Blk.new _ _ _).setRow_same _⟩ (fun w5 h5 => ?_)
  obtain ⟨y, hy, hb5, hY5⟩ := h5
  rw [← hy]
  have HA5 := hide (HA4.out.below hb5)
  have HT5 := hide (HT4.out.trans ((Tch.of_below hb5).mono HT4.out.size fun _ _ h => h))
  have hq5 := HQ4.out.below hb5 HQ4.out.lt
  have q2 := hq5.cell 2
  have ql := hq5.lt
  have y0 := (hY5.cell 0).trans (node_cells_at n0).1
  have y2 := (hY5.cell 2).trans (gnode_at n0)
  have yl := hY5.lt
  clear hy hb5 hY5 hq5 HA4 HT4 HQ4
  by_cases hk : n0.kind = 3
  · have k1 : ((n0.kind.toNat : Int) == 3) = true := by rw [hk]; rfl
    by_cases hg : n0.gen = o.gen
    · have g1 : ((n0.gen.toNat : Int) == (o.gen.toNat : Int)) = true := by rw [hg]; simp
      have HR := hide (show decide (n0.kind = 3 ∧ n0.gen = o.gen) = true from decide_eq_true ⟨hk, hg⟩)
      clear hk hg
      go_wp2
      go_returns
      exact ⟨by rw [HAL.out, HR1.out, HR.out]; rfl, HA5.out.tx, HT5.out⟩
    · have g1 : ((n0.gen.toNat : Int) == (o.gen.toNat : Int)) = false := by rw [beq_eq_false_iff_ne]; exact fun e => hg (UInt16.toNat_inj.1 (by omega))
      have HR := hide (show decide (n0.kind = 3 ∧ n0.gen = o.gen) = false from decide_eq_false fun h => hg h.2)
      clear hk hg
      go_wp2
      go_returns
      exact ⟨by rw [HAL.out, HR1.out, HR.out]; rfl, HA5.out.tx, HT5.out⟩
  · have k1 : ((n0.kind.toNat : Int) == 3) = false := by rw [beq_eq_false_iff_ne]; exact fun e => hk (UInt8.toNat_inj.1 (by show _ = 3; omega))
    have HR := hide (show decide (n0.kind = 3 ∧ n0.gen = o.gen) = false from decide_eq_false fun h => hk h.1)
    clear hk
    go_wp2
    go_returns
    exact ⟨by rw [HAL.out, HR1.out, HR.out]; rfl, HA5.out.tx, HT5.out⟩
end
end Go.Proofs.YthmkgohfeahdhaaGreat
namespace Go.Proofs.YthmkgohfeahdhaaGreat
open Go.RowKit
set_option linter.unusedSimpArgs false
set_option linter.unusedVariables false

section
variable {w w' : World} {i : Ids} {s : Sto} {gg : Nat} {g : GeoN} {lab : Int} {G : GS}
set_option maxRecDepth 100000 in
set_option maxHeartbeats 4000000 in
theorem inreap_none {t p : Option Addr} {l : List InR} (h : GAt w i s gg g lab G) (hop : InOpens i s gg g lab G l) (hln : l.length ≤ 2048)
    (hal : ∀ r ∈ l, r.isZ = false → ∀ W, GAt W i s gg g lab G → Tch w.heap.size i.own w W → Calls Tryz.prog 70 #[.pointer t, .pointer p, .agg r.ino.toArray] W fun e w' => e = .returned (.tuple #[.bool true, .int .i64 0]) ∧ GAt w' i s gg g lab G ∧ Tch W.heap.size i.own W w') :
    Calls Tryz.prog 71 #[.pointer t, .pointer p, .pointer (some ⟨gg, 0, none⟩)] w fun e w' => e = .returned (.tuple #[.int .i64 0, .int .i64 0]) ∧ GAt w' i s gg g lab G ∧ Tch w.heap.size i.own w w' := by
  have H := hide h
  have HOP := hide hop
  have HLN := hide hln
  have HAL := hide hal
  clear h hop hln hal
  go_enter Tryz.func71, Tryz.ntmps71
  go_wp2_with fail
  refine (HOP.out w H.out).mono ?_
  rintro e w1 ⟨A, c, rfl, hown, ha1, ht1⟩
  obtain ⟨N, hN⟩ : ∃ N, l.length = N := ⟨_, rfl⟩
  have HN := hide hN
  rw [hN] at hown ⊢
  have HO1 := hide hown
  have HA1 := hide ha1
  have HT1 := hide ht1
  clear hown ha1 ht1 hN
  go_wp2_with fail
  go_loopg [10, 11, 12, 13, 14, 15, 16, 27] N (fun gh x10 x11 x12 x13 x14 x15 x16 x27 wr => ∃ k : Nat, k ≤ N ∧ gh = N - k ∧ x10 = .int .i64 0 ∧ x27 = .int .i64 (k : Int) ∧ Hid (GAt wr i s gg g lab G) ∧ Hid (Tch w.heap.size i.own w wr) ∧ Hid (wr.ownsRow w.heap.size 244 4 (.slice A N c) N (flatI l)) ∧ Hid (∀ b, (Value.slice A N c).ownBlock = some b → ¬ i.own b))
  case atStart => exact ⟨0, Nat.zero_le _, rfl, rfl, rfl, HA1, HT1, HO1, hide fun b hb ho => H.out.tx.other_new (own_block_ge HO1.out hb).1 ho⟩
  case round =>
    clear HA1 HT1 HO1
    obtain ⟨k, hk, hgh, rfl, rfl, HA, HT, HO, HON⟩ := hrel
    have HGH := hide hgh
    have hln := HLN.out
    have hnn := HN.out
    clear hgh
    rcases Nat.lt_or_ge k N with hkl | hkl
    · obtain ⟨e, he⟩ : ∃ e, l[k]? = some e := ⟨_, List.getElem?_eq_getElem (by omega)⟩
      obtain ⟨ga, rfl, hga, hrg⟩ := inr_range HO.out (by omega)
      have hrg' := hrg k e he
      have HRG := hide hrg'
      have HE := hide he
      have t1 : decide ((k : Int) < (N : Int)) = true := by simp; omega
      have t1' : (k : Int) < (N : Int) := by omega
      have e64 : IntKind.i64.wrap ((k : Int) + 1) = (k : Int) + 1 := IntWalk.i64_in _ (by omega)
      have hsz : (Tryz.prog.info? 244).map (·.size) = some e.cells.length := size_inr
      have HSZ := hide hsz
      clear hrg hrg' he hsz hln hnn
      go_upto_region 8 with (first | ((with_reducible refine at_load 244 (.tmp 30) ?_); refine wpList_load_mid rfl 244 (.tmp 30) rfl ga (k * 4) (by rfl) e.cells _ HRG.out Tryz.underlying244 rfl HSZ.out ?_) | ((with_reducible refine at_alloc 244 ?_); refine wpList_alloc_as rfl 244 rfl _ (zero_inr' _) ?_) | ((with_reducible refine at_store 244 (.tmp 12) (.tmp 31) ?_); refine wpList_store_blk rfl 244 (.tmp 12) (.tmp 31) rfl wr.heap.size _ _ _ (by rfl) (by rfl) (Blk.new _ _ _) (size_inrc e) rfl (inr_one e) (fun _ => ?_)) | fail)
      refine at_world (fun W => ∃ z, z = wr.heap.size ∧ Below wr.heap.size wr W ∧ Blk W z 244 e.cells.toArray) ⟨_, rfl, below_setRow ((Below.refl _ _).alloc (Nat.le_refl _) _) (Nat.le_refl _) _, (Blk.new _ _ _).setRow_same _⟩ (fun w5 h5 => ?_)
      obtain ⟨z, hz, hb5, hZ5⟩ := h5
      rw [← hz]
      have HA5 := hide (HA.out.below hb5)
      have HT5 := hide (HT.out.trans ((Tch.of_below hb5).mono HT.out.size fun _ _ h => h))
      have HO5 := hide (own_below HO.out hb5)
      have HZ5 := hide hZ5
      have zl := hZ5.lt
      have HRI := hide (show w5.rangeAt z 0 e.ino from fun j v hj => by
        have hj3 : j < 3 := by have := (List.getElem?_eq_some_iff.1 hj).1; simpa [InR.ino] using this
        have h0 := hZ5.cell j
        rw [Nat.zero_add, h0, List.getElem?_toArray, ← hj]
        have : j = 0 ∨ j = 1 ∨ j = 2 := by omega
        rcases this with rfl | rfl | rfl <;> rfl)
      have HSI := hide (show (Tryz.prog.info? 152).map (·.size) = some e.ino.length from size_inoc e)
      have hzq : ∀ W, (Op.equalIn 10000 244 (.agg e.cells.toArray) (.agg InR.zero.cells.toArray)).run Tryz.prog W = .ok e.isZ W := fun W => inr_eq W e InR.zero e.isZ isZ_iff
      clear hz hb5 hZ5 HA HT HO HRG
      obtain ⟨zb, hzb⟩ : ∃ zb, e.isZ = zb := ⟨_, rfl⟩
      rw [hzb] at hzq
      have HZQ := hide hzq
      have HZB := hide hzb
      clear hzq hzb
      cases zb with
      | true =>
        go_wp2_with (first | ((with_reducible refine at_load 244 (.tmp 12) ?_); refine wpList_load_blk rfl 244 (.tmp 12) rfl z _ _ _ (by rfl) HZ5.out Tryz.underlying244 rfl (size_inrc e) ?_) | ((with_reducible refine at_build 244 #[] ?_); refine wpList_zero_as rfl 244 rfl _ (zero_inr _) ?_) | ((with_reducible refine at_binop .eql 244 (.tmp 32) (.tmp 33) 244 ?_); refine wpList_run rfl _ (exec_eql_agg 244 (.tmp 32) (.tmp 33) 244 rfl _ _ rfl rfl (by kernel_rfl) _ (HZQ.out _)) ?_) | fail)
        go_roundg (N - (k + 1))
        case rel => exact ⟨k + 1, by omega, rfl, rfl, by first | rfl | go_num, HA5, HT5, HO5, HON⟩
        case measure => have := HGH.out; omega
      | false =>
        have hcall := HAL.out e (List.mem_of_getElem? HE.out) HZB.out w5 HA5.out HT5.out
        have HCALL := hide hcall
        clear hcall
        go_wp2_with (first | ((with_reducible refine at_load 244 (.tmp 12) ?_); refine wpList_load_blk rfl 244 (.tmp 12) rfl z _ _ _ (by rfl) HZ5.out Tryz.underlying244 rfl (size_inrc e) ?_) | ((with_reducible refine at_build 244 #[] ?_); refine wpList_zero_as rfl 244 rfl _ (zero_inr _) ?_) | ((with_reducible refine at_binop .eql 244 (.tmp 32) (.tmp 33) 244 ?_); refine wpList_run rfl _ (exec_eql_agg 244 (.tmp 32) (.tmp 33) 244 rfl _ _ rfl rfl (by kernel_rfl) _ (HZQ.out _)) ?_) | ((with_reducible refine at_load 152 (.tmp 42) ?_); refine wpList_load_mid rfl 152 (.tmp 42) rfl z 0 (by rfl) e.ino _ HRI.out Tryz.underlying152 rfl HSI.out ?_) | fail)
        refine HCALL.out.mono ?_
        rintro e_ w6 ⟨rfl, ha6, ht6⟩
        have HA6 := hide ha6
        have HT6 := hide (HT5.out.trans (ht6.mono HT5.out.size fun _ _ h => h))
        have HO6 := hide (own_keep HO5.out fun b hb => ht6.block b (own_block_ge HO5.out hb).2 (HON.out b hb))
        clear ha6 ht6 HCALL HA5 HT5 HO5 zl HZ5 HRI
        go_wp2_with fail
        go_roundg (N - (k + 1))
        case rel => exact ⟨k + 1, by omega, rfl, rfl, by first | rfl | go_num, HA6, HT6, HO6, HON⟩
        case measure => have := HGH.out; omega
    · have t1 : decide ((k : Int) < (N : Int)) = false := by simp; omega
      have t1' : ¬ (k : Int) < (N : Int) := by omega
      clear hkl hk hln hnn
      go_wp2
      go_returns
      exact ⟨rfl, HA.out, HT.out⟩
/-- where a record comes: the first empty place, or behind all -/
def zAt (l : List InR) : Nat := l.findIdx InR.isZ
theorem zAt_eq {l : List InR} {j : Nat} (h0 : ∀ i, i < j → ∀ e, l[i]? = some e → e.isZ = false) (h1 : j = l.length ∨ ∃ e, l[j]? = some e ∧ e.isZ = true) : zAt l = j := by
  unfold zAt
  rcases h1 with rfl | ⟨e, he, hz⟩
  · rw [List.findIdx_eq_length]
    intro x hx
    obtain ⟨k, hk, rfl⟩ := List.mem_iff_getElem.1 hx
    exact h0 k hk _ (List.getElem?_eq_getElem hk)
  · obtain ⟨hj, rfl⟩ := List.getElem?_eq_some_iff.1 he
    rw [List.findIdx_eq hj]
    exact ⟨hz, fun i hi => h0 i hi _ (List.getElem?_eq_getElem (by omega))⟩
set_option maxRecDepth 100000 in
set_option maxHeartbeats 6000000 in
theorem inneed_main {t p : Option Addr} {l : List InR} {o : InR} {num : Nat} {ow : UInt16} {P : Sto → Prop} {G1 : GS} {R : Int → World → Prop} (h : GAt w i s gg g lab G) (hop : InOpens i s gg g lab G l) (hln : l.length ≤ 2048) (hno : ∀ x ∈ l, hitB o x = false) (how : ow.toNat = num)
    (hre : ∀ W, GAt W i s gg g lab G → Tch w.heap.size i.own w W → Calls Tryz.prog 71 #[.pointer t, .pointer p, .pointer (some ⟨gg, 0, none⟩)] W fun e w' => e = .returned (.tuple #[.int .i64 0, .int .i64 0]) ∧ GAt w' i s gg g lab G ∧ Tch W.heap.size i.own W w')
    (hmk : ∀ W, GAt W i s gg g lab G → Calls Tryz.prog 39 #[.pointer (some ⟨gg, 0, none⟩), .int .u8 2] W fun e w' => e = .returned (.tuple #[.int .i64 (num : Int), .int .i64 0]) ∧ ∃ s1, P s1 ∧ GAt w' i s1 gg g lab G1 ∧ Tch W.heap.size i.own W w')
    (hop1 : ∀ s1, P s1 → InOpens i s1 gg g lab G1 l)
    (hw : ∀ s1, P s1 → ∀ W z, GAt W i s1 gg g lab G1 → Tch w.heap.size i.own w W → w.heap.size ≤ z → Blk W z 245 (bvs (recP ⟨o.lab, o.num, o.gen, ow⟩)).toArray →
      Calls Tryz.prog 33 #[.pointer (some ⟨gg, 0, none⟩), .int .i64 2, .int .i64 ((8 * zAt l : Nat) : Int), .slice (some ⟨z, 0, none⟩) 8 8] W fun e w' => ∃ x, e = .returned (.int .i64 x) ∧ R x w') :
    Calls Tryz.prog 72 #[.pointer t, .pointer p, .pointer (some ⟨gg, 0, none⟩), .agg o.ino.toArray] w fun e w' => ∃ x, e = .returned (.tuple #[.int .i64 (num : Int), .int .i64 x]) ∧ R x w' := by
  have H := hide h
  have HOP := hide hop
  have HLN := hide hln
  have HNH := hide hno
  have HRE := hide hre
  have HMK := hide hmk
  have HOP1 := hide hop1
  have HW := hide hw
  have e5 : IntKind.u16.wrap (num : Int) = (ow.toNat : Int) := by rw [IntKind.wrap_u16, ← how]; have := ow.toNat_lt; omega
  clear h hop hln hno hre hmk hop1 hw how
  go_enter Tryz.func72, Tryz.ntmps72
  go_upto_region 1 with (fail)
  refine at_world (fun W => ∃ q, q = w.heap.size ∧ Below w.heap.size w W ∧ Blk W q 152 o.ino.toArray) ⟨_, rfl, (Below.refl _ _).alloc (Nat.le_refl _) _, Blk.new _ _ _⟩ (fun w0 h0 => ?_)
  obtain ⟨q, hq, hb0, hQ0⟩ := h0
  rw [← hq]
  have HA0 := hide (H.out.below hb0)
  have HT0 := hide (Tch.of_below (S := i.own) hb0)
  have HQ0 := hide hQ0
  have HQN := hide (show ¬ i.own q from H.out.tx.other_new (Nat.le_of_eq hq.symm))
  clear hq hb0 hQ0
  go_wp2_with (first | ((with_reducible refine at_load 152 (.tmp 7) ?_); refine wpList_load_blk rfl 152 (.tmp 7) rfl q _ _ _ (by rfl) HQ0.out Tryz.underlying152 rfl (size_inoc o) ?_) | fail)
  refine (infind_ok HA0.out HOP.out HLN.out).mono ?_
  rintro e w1 (⟨K, r, hK, hh, -⟩ | ⟨-, rfl, ha1, ht1⟩)
  · rw [HNH.out r (List.mem_of_getElem? hK)] at hh
    cases hh
  have HA1 := hide ha1
  have HT1 := hide (HT0.out.trans (ht1.mono HT0.out.size fun _ _ h => h))
  have HQ1 := hide (Blk.tch HQ0.out ht1 HQ0.out.lt HQN.out)
  clear ha1 ht1 HA0 HT0 HQ0
  go_wp2_with fail
  refine (HRE.out w1 HA1.out HT1.out).mono ?_
  rintro e w2 ⟨rfl, ha2, ht2⟩
  have HA2 := hide ha2
  have HT2 := hide (HT1.out.trans (ht2.mono HT1.out.size fun _ _ h => h))
  have HQ2 := hide (Blk.tch HQ1.out ht2 HQ1.out.lt HQN.out)
  clear ha2 ht2 HA1 HT1 HQ1
  go_wp2_with fail
  refine (HMK.out w2 HA2.out).mono ?_
  rintro e w3 ⟨rfl, s1, hp1, ha3, ht3⟩
  have HP1 := hide hp1
  clear hp1
  have HA3 := hide ha3
  have HT3 := hide (HT2.out.trans (ht3.mono HT2.out.size fun _ _ h => h))
  have HQ3 := hide (Blk.tch HQ2.out ht3 HQ2.out.lt HQN.out)
  clear ha3 ht3 HA2 HT2 HQ2
  go_wp2_with fail
  refine (HOP1.out s1 HP1.out w3 HA3.out).mono ?_
  rintro e w4 ⟨A, c, rfl, hown, ha4, ht4⟩
  obtain ⟨N, hN⟩ : ∃ N, l.length = N := ⟨_, rfl⟩
  have HN := hide hN
  rw [hN] at hown ⊢
  have HO4 := hide hown
  have HA4 := hide ha4
  have HT4 := hide (HT3.out.trans (ht4.mono HT3.out.size fun _ _ h => h))
  have HQ4 := hide (Blk.tch HQ3.out ht4 HQ3.out.lt HQN.out)
  clear hown ha4 ht4 hN HA3 HT3 HQ3
  go_wp2_with fail
  go_loopg [15, 16, 17, 63] N (fun gh x15 x16 x17 x63 wr => ∃ k : Nat, k ≤ N ∧ gh = N - k ∧ x63 = .int .i64 (k : Int) ∧ x15 = .int .i64 (N : Int) ∧ Hid (GAt wr i s1 gg g lab G1) ∧ Hid (Tch w.heap.size i.own w wr) ∧ Hid (wr.ownsRow w3.heap.size 244 4 (.slice A N c) N (flatI l)) ∧ Hid (Blk wr q 152 o.ino.toArray) ∧ Hid (∀ j, j < k → ∀ x, l[j]? = some x → x.isZ = false))
  case atStart => exact ⟨0, Nat.zero_le _, rfl, rfl, rfl, HA4, HT4, HO4, HQ4, hide fun j hj => absurd hj (Nat.not_lt_zero _)⟩
  case round =>
    clear HA4 HT4 HO4 HQ4
    obtain ⟨k, hk, hgh, rfl, rfl, HA, HT, HO, HQ, HZN⟩ := hrel
    have HGH := hide hgh
    have hln := HLN.out
    have hnn := HN.out
    clear hgh
    rcases Nat.lt_or_ge k N with hkl | hkl
    · obtain ⟨e, he⟩ : ∃ e, l[k]? = some e := ⟨_, List.getElem?_eq_getElem (by omega)⟩
      obtain ⟨ga, rfl, hga, hrg⟩ := inr_range HO.out (by omega)
      have hrg' := hrg k e he
      have HRG := hide hrg'
      have HE := hide he
      have t1 : decide ((k : Int) < (N : Int)) = true := by simp; omega
      have t1' : (k : Int) < (N : Int) := by omega
      have e64 : IntKind.i64.wrap ((k : Int) + 1) = (k : Int) + 1 := IntWalk.i64_in _ (by omega)
      have hsz : (Tryz.prog.info? 244).map (·.size) = some e.cells.length := size_inr
      have HSZ := hide hsz
      clear hrg hrg' he hsz 
      go_upto_region 17 with (first | ((with_reducible refine at_load 244 (.tmp 66) ?_); refine wpList_load_mid rfl 244 (.tmp 66) rfl ga (k * 4) (by rfl) e.cells _ HRG.out Tryz.underlying244 rfl HSZ.out ?_) | ((with_reducible refine at_alloc 244 ?_); refine wpList_alloc_as rfl 244 rfl _ (zero_inr' _) ?_) | ((with_reducible refine at_store 244 (.tmp 17) (.tmp 67) ?_); refine wpList_store_blk rfl 244 (.tmp 17) (.tmp 67) rfl wr.heap.size _ _ _ (by rfl) (by rfl) (Blk.new _ _ _) (size_inrc e) rfl (inr_one e) (fun _ => ?_)) | fail)
      refine at_world (fun W => ∃ z, z = wr.heap.size ∧ Below wr.heap.size wr W ∧ Blk W z 244 e.cells.toArray) ⟨_, rfl, below_setRow ((Below.refl _ _).alloc (Nat.le_refl _) _) (Nat.le_refl _) _, (Blk.new _ _ _).setRow_same _⟩ (fun w5 h5 => ?_)
      obtain ⟨z, hz, hb5, hZ5⟩ := h5
      rw [← hz]
      have HA5 := hide (HA.out.below hb5)
      have HT5 := hide (HT.out.trans ((Tch.of_below hb5).mono HT.out.size fun _ _ h => h))
      have HO5 := hide (own_below HO.out hb5)
      have HQ5 := hide (HQ.out.below hb5 HQ.out.lt)
      have HZ5 := hide hZ5
      have zl := hZ5.lt
      have HRI := hide (show w5.rangeAt z 0 e.ino from fun j v hj => by
        have hj3 : j < 3 := by have := (List.getElem?_eq_some_iff.1 hj).1; simpa [InR.ino] using this
        have h0 := hZ5.cell j
        rw [Nat.zero_add, h0, List.getElem?_toArray, ← hj]
        have : j = 0 ∨ j = 1 ∨ j = 2 := by omega
        rcases this with rfl | rfl | rfl <;> rfl)
      have HSI := hide (show (Tryz.prog.info? 152).map (·.size) = some e.ino.length from size_inoc e)
      have hzq : ∀ W, (Op.equalIn 10000 244 (.agg e.cells.toArray) (.agg InR.zero.cells.toArray)).run Tryz.prog W = .ok e.isZ W := fun W => inr_eq W e InR.zero e.isZ isZ_iff
      clear hz hb5 hZ5 HA HT HO HQ HRG
      obtain ⟨zb, hzb⟩ : ∃ zb, e.isZ = zb := ⟨_, rfl⟩
      rw [hzb] at hzq
      have HZQ := hide hzq
      have HZB := hide hzb
      clear hzq hzb
      cases zb with
      | false =>
        have hzn : ∀ j, j < k + 1 → ∀ x, l[j]? = some x → x.isZ = false := fun j hj x hx => by
          rcases Nat.lt_succ_iff_lt_or_eq.1 hj with h1 | rfl
          · exact HZN.out j h1 x hx
          · rw [HE.out] at hx
            cases hx
            exact HZB.out
        have HZN' := hide hzn
        clear hzn hln hnn
        go_wp2_with (first | ((with_reducible refine at_load 244 (.tmp 17) ?_); refine wpList_load_blk rfl 244 (.tmp 17) rfl z _ _ _ (by rfl) HZ5.out Tryz.underlying244 rfl (size_inrc e) ?_) | ((with_reducible refine at_build 244 #[] ?_); refine wpList_zero_as rfl 244 rfl _ (zero_inr _) ?_) | ((with_reducible refine at_binop .eql 244 (.tmp 68) (.tmp 69) 244 ?_); refine wpList_run rfl _ (exec_eql_agg 244 (.tmp 68) (.tmp 69) 244 rfl _ _ rfl rfl (by kernel_rfl) _ (HZQ.out _)) ?_) | fail)
        go_roundg (N - (k + 1))
        case rel => exact ⟨k + 1, by omega, rfl, by first | rfl | go_num, rfl, HA5, HT5, HO5, HQ5, HZN'⟩
        case measure => have := HGH.out; omega
      | true =>
        have hat : zAt l = k := zAt_eq HZN.out (.inr ⟨e, HE.out, HZB.out⟩)
        obtain ⟨y, hy⟩ : ∃ y : Nat, 8 * k = y := ⟨_, rfl⟩
        have e16 : IntKind.i64.wrap ((k : Int) * 8) = (y : Int) := by rw [IntWalk.i64_in _ (by omega)]; omega
        have HY := hide hy
        have HAT := hide hat
        clear hat hy hln hnn hk hkl
        go_wp2_with (first | ((with_reducible refine at_load 244 (.tmp 17) ?_); refine wpList_load_blk rfl 244 (.tmp 17) rfl z _ _ _ (by rfl) HZ5.out Tryz.underlying244 rfl (size_inrc e) ?_) | ((with_reducible refine at_build 244 #[] ?_); refine wpList_zero_as rfl 244 rfl _ (zero_inr _) ?_) | ((with_reducible refine at_binop .eql 244 (.tmp 68) (.tmp 69) 244 ?_); refine wpList_run rfl _ (exec_eql_agg 244 (.tmp 68) (.tmp 69) 244 rfl _ _ rfl rfl (by kernel_rfl) _ (HZQ.out _)) ?_) | ((with_reducible refine at_load 152 (.tmp 7) ?_); refine wpList_load_blk rfl 152 (.tmp 7) rfl q _ _ _ (by rfl) HQ5.out Tryz.underlying152 rfl (size_inoc o) ?_) | ((with_reducible refine at_build 244 #[(0, .tmp 73), (1, .tmp 75)] ?_); refine wpList_run rfl _ (exec_build 244 #[(0, .tmp 73), (1, .tmp 75)] rfl #[(0, .agg o.ino.toArray), (1, .int .u16 (ow.toNat : Int))] (by simp only [List.map_toArray, List.map_cons, List.map_nil]; rfl) _ (build_inr _ _ _ _ _)) ?_) | fail)
        refine (inpack_ok ⟨o.lab, o.num, o.gen, ow⟩ _).mono ?_
        rintro _ w6 ⟨rfl, hb6⟩
        have HA6 := hide (HA5.out.below hb6)
        have HT6 := hide (HT5.out.trans ((Tch.of_below hb6).mono HT5.out.size fun _ _ h => h))
        have HPS := hide (size_rec8 (recP ⟨o.lab, o.num, o.gen, ow⟩) rfl)
        clear hb6
        go_upto_region 21 with (first | ((with_reducible refine at_store 245 (.tmp 18) (.tmp 77) ?_); refine wpList_store_blk rfl 245 (.tmp 18) (.tmp 77) rfl w6.heap.size _ _ _ (by rfl) (by rfl) (Blk.new _ _ _) HPS.out (by rw [List.size_toArray, List.size_toArray, bvs_length, recP_length]; rfl) (bvs_oneCell _) (fun _ => ?_)) | fail)
        refine at_world (fun W => ∃ z, z = w6.heap.size ∧ Below w6.heap.size w6 W ∧ Blk W z 245 (bvs (recP ⟨o.lab, o.num, o.gen, ow⟩)).toArray) ⟨_, rfl, below_setRow ((Below.refl _ _).alloc (Nat.le_refl _) _) (Nat.le_refl _) _, (Blk.new _ _ _).setRow_same _⟩ (fun w7 h7 => ?_)
        obtain ⟨z', hz', hb7, hZ7⟩ := h7
        rw [← hz']
        have HA7 := hide (HA6.out.below hb7)
        have HT7 := hide (HT6.out.trans ((Tch.of_below hb7).mono HT6.out.size fun _ _ h => h))
        have hzw : w.heap.size ≤ z' := by rw [hz']; exact HT6.out.size
        have HZ7 := hide (And.intro hzw hZ7)
        clear hz' hb7 hZ7 hzw HA6 HT6
        have hres := HW.out s1 HP1.out w7 z' HA7.out HT7.out HZ7.out.1 HZ7.out.2
        rw [HAT.out, HY.out] at hres
        have HRES := hide hres
        clear hres
        go_wp2_with (first | ((with_reducible refine at_slice 245 (.tmp 18) none none ?_); refine wpList_run rfl _ (exec_slice 245 (.tmp 18) none none rfl (run_slice_all 245 5 z' 8 Tryz.underlying245 (by kernel_rfl) (by decide))) ?_) | fail)
        refine HRES.out.mono ?_
        rintro _ w8 ⟨x, rfl, hr⟩
        have HR := hide hr
        clear hr HRES
        go_wp2_with fail
        go_returns
        exact ⟨x, rfl, HR.out⟩
    · have t1 : decide ((k : Int) < (N : Int)) = false := by simp; omega
      have t1' : ¬ (k : Int) < (N : Int) := by omega
      have hkN : k = N := by omega
      have hat : zAt l = N := zAt_eq (fun j hj => HZN.out j (by omega)) (.inl hnn.symm)
      obtain ⟨y, hy⟩ : ∃ y : Nat, 8 * N = y := ⟨_, rfl⟩
      have e16 : IntKind.i64.wrap ((N : Int) * 8) = (y : Int) := by rw [IntWalk.i64_in _ (by omega)]; omega
      have HY := hide hy
      have HAT := hide hat
      clear hkl hk hln hnn hkN hat hy
      go_wp2_with (first | ((with_reducible refine at_load 152 (.tmp 7) ?_); refine wpList_load_blk rfl 152 (.tmp 7) rfl q _ _ _ (by rfl) HQ.out Tryz.underlying152 rfl (size_inoc o) ?_) | ((with_reducible refine at_build 244 #[(0, .tmp 73), (1, .tmp 75)] ?_); refine wpList_run rfl _ (exec_build 244 #[(0, .tmp 73), (1, .tmp 75)] rfl #[(0, .agg o.ino.toArray), (1, .int .u16 (ow.toNat : Int))] (by simp only [List.map_toArray, List.map_cons, List.map_nil]; rfl) _ (build_inr _ _ _ _ _)) ?_) | fail)
      refine (inpack_ok ⟨o.lab, o.num, o.gen, ow⟩ _).mono ?_
      rintro _ w6 ⟨rfl, hb6⟩
      have HA6 := hide (HA.out.below hb6)
      have HT6 := hide (HT.out.trans ((Tch.of_below hb6).mono HT.out.size fun _ _ h => h))
      have HPS := hide (size_rec8 (recP ⟨o.lab, o.num, o.gen, ow⟩) rfl)
      clear hb6
      go_upto_region 21 with (first | ((with_reducible refine at_store 245 (.tmp 18) (.tmp 77) ?_); refine wpList_store_blk rfl 245 (.tmp 18) (.tmp 77) rfl w6.heap.size _ _ _ (by rfl) (by rfl) (Blk.new _ _ _) HPS.out (by rw [List.size_toArray, List.size_toArray, bvs_length, recP_length]; rfl) (bvs_oneCell _) (fun _ => ?_)) | fail)
      refine at_world (fun W => ∃ z, z = w6.heap.size ∧ Below w6.heap.size w6 W ∧ Blk W z 245 (bvs (recP ⟨o.lab, o.num, o.gen, ow⟩)).toArray) ⟨_, rfl, below_setRow ((Below.refl _ _).alloc (Nat.le_refl _) _) (Nat.le_refl _) _, (Blk.new _ _ _).setRow_same _⟩ (fun w7 h7 => ?_)
      obtain ⟨z', hz', hb7, hZ7⟩ := h7
      rw [← hz']
      have HA7 := hide (HA6.out.below hb7)
      have HT7 := hide (HT6.out.trans ((Tch.of_below hb7).mono HT6.out.size fun _ _ h => h))
      have hzw : w.heap.size ≤ z' := by rw [hz']; exact HT6.out.size
      have HZ7 := hide (And.intro hzw hZ7)
      clear hz' hb7 hZ7 hzw HA6 HT6
      have hres := HW.out s1 HP1.out w7 z' HA7.out HT7.out HZ7.out.1 HZ7.out.2
      rw [HAT.out, HY.out] at hres
      have HRES := hide hres
      clear hres
      go_wp2_with (first | ((with_reducible refine at_slice 245 (.tmp 18) none none ?_); refine wpList_run rfl _ (exec_slice 245 (.tmp 18) none none rfl (run_slice_all 245 5 z' 8 Tryz.underlying245 (by kernel_rfl) (by decide))) ?_) | fail)
      refine HRES.out.mono ?_
      rintro _ w8 ⟨x, rfl, hr⟩
      have HR := hide hr
      clear hr HRES
      go_wp2_with fail
      go_returns
      exact ⟨x, rfl, HR.out⟩
end
end Go.Proofs.YthmkgohfeahdhaaGreat
namespace Go.Proofs.YthmkgohfeahdhaaGreat
open Go.RowKit
set_option linter.unusedSimpArgs false
set_option linter.unusedVariables false

section
variable {w w' : World} {p t c : Option Addr} {x : Int} {o : InR} {R : World → Prop}
end
section
variable {w w' : World} {i : Ids} {s : Sto} {gg : Nat} {g : GeoN} {lab : Int} {G : GS} {K0 : List Nat}
/-- a table's step -/
structure TStep (s s' : Sto) (g : GeoN) (G G' : GS) (l l' : List InR) (κ κ' : Nat → Nat) (K0 T : List Nat) : Prop where
  tab : TabN G' g l' κ'
  mov : Mov G G' 2 (prOf (blks (8 * l.length))) κ (prOf (blks (8 * l'.length))) κ'
  cnt : G'.cnt g.blocks + nkeys (blks (8 * l.length)) = G.cnt g.blocks + nkeys (blks (8 * l'.length))
  inn : s'.In (K0 ++ T)
  tlen : T.length ≤ 12
  stay : Stay s s' g
def TRes (w w' : World) (i : Ids) (s : Sto) (gg : Nat) (g : GeoN) (lab : Int) (G : GS) (l l' : List InR) (κ : Nat → Nat) (K0 : List Nat) : Prop :=
  ∃ s' G' κ' T, GAt w' i s' gg g lab G' ∧ TStep s s' g G G' l l' κ κ' K0 T ∧ Tch w.heap.size i.own w w'
def TFull (w w' : World) (i : Ids) (s : Sto) (gg : Nat) (g : GeoN) (lab : Int) (G : GS) (l l' : List InR) : Prop :=
  g.blocks + nkeys (blks (8 * l.length)) < G.cnt g.blocks + nkeys (blks (8 * l'.length)) ∧ ∃ s' G', GAt w' i s' gg g lab G' ∧ Stay s s' g ∧ Tch w.heap.size i.own w w'
theorem one_blk8 (a : Nat) : blks (8 * a + 8) - 8 * a / 64 = 1 := by unfold blks; omega
theorem twrite {at_ z : Nat} {l l' : List InR} {d : List UInt8} {κ : Nat → Nat} (h : GAt w i s gg g lab G) (hK0 : s.In K0) (hKl : K0.length ≤ 16) (h2 : 2 ≤ g.nodes) (hb5 : g.blocks ≤ 512) (ht : TabN G g l κ) (hdl : d.length = 8)
    (hat : at_ ≤ l.length) (hat2 : at_ < 2048) (hlen : l'.length = max l.length (at_ + 1)) (hgd : ∀ e ∈ l', e.Good) (hby : ∀ j, j < 8 * l'.length → over (fun j => (pls l).getD j 0) (8 * at_) d 8 j = (pls l').getD j 0)
    (hzo : ¬ i.own z) (hZ : Rd w w.heap.size 1 (some ⟨z, 0, none⟩) 8 (bvs d)) :
    Calls Tryz.prog 33 #[.pointer (some ⟨gg, 0, none⟩), .int .i64 2, .int .i64 ((8 * at_ : Nat) : Int), .slice (some ⟨z, 0, none⟩) 8 8] w fun e w' =>
      (e = .returned (.int .i64 10) ∧ TFull w w' i s gg g lab G l l') ∨ (e = .returned (.int .i64 0) ∧ TRes w w' i s gg g lab G l l' κ K0) := by
  have hll := ht.len
  have hmax : max (blks (8 * l.length)) (blks (8 * at_ + 8)) = blks (8 * l'.length) := by rw [hlen]; unfold blks; omega
  have hms : max (8 * l.length) (8 * at_ + 8) = 8 * l'.length := by rw [hlen]; omega
  have h1b := one_blk8 at_
  have hwr := write_file (num := 2) (off := 8 * at_) (cap := 8) (c := blks (8 * l.length)) (sz := 8 * l.length) (κ := κ) (f := fun j => (pls l).getD j 0) (K0 := K0) (data := d) (A := some ⟨z, 0, none⟩) h hK0 (by omega) h2 hb5 (by rw [ht.kind]; decide) ht.size ht.file (by omega) (by omega) (by omega) (by omega) (by rw [hdl]; exact hZ) (fun b hb => by cases hb; exact hzo)
    (by rw [hdl]; omega) (by rw [hdl, h1b]; split <;> omega) (by unfold blks; omega) (fun n' hs hd' => check_grow hs ht.kind ht.links (by rw [ht.size, hdl]; omega))
  rw [hdl, hmax, hms, h1b, show ((2 : Nat) : Int) = 2 from rfl] at hwr
  refine hwr.mono ?_
  rintro e w' (⟨he, hno, hs⟩ | ⟨he, s', G', κ', k1, k2, k3, k4, k5, k6, k7, k8, k9, k10, k11⟩)
  · exact .inl ⟨he, hno, hs⟩
  · refine .inr ⟨he, s', G', κ', (g.base :: ((tkeys (8 * at_ / 64) 1).filter (prOf (blks (8 * l'.length)))).map fun k => g.data + κ' k) ++ [g.base + g.bitmap + (2 - 1) / 2], k1, ⟨⟨k4.trans ht.kind, by rw [k5]; exact ht.links, k3, k2.congr hby, by omega, hgd⟩, k7.mov, k8, ?_, ?_, k10⟩, k11⟩
    · unfold KL at k9
      rw [List.append_assoc] at k9
      exact k9
    · have := List.length_filter_le (prOf (blks (8 * l'.length))) (tkeys (8 * at_ / 64) 1)
      have e1 : (tkeys (8 * at_ / 64) 1).length = 5 := rfl
      simp only [List.length_append, List.length_cons, List.length_map, List.length_nil]
      omega
theorem fresh_tab (g : GeoN) (κ : Nat → Nat) : TabN GS.fresh g [] κ :=
  ⟨rfl, by decide, rfl, file_empty κ _ rfl (fresh_slot 1), by decide, fun e he => absurd he (by simp)⟩
end
end Go.Proofs.YthmkgohfeahdhaaGreat

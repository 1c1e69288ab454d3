/- Groups, walked: Make, MakeLink, Wipe, Ino, Usage. A transaction is written: Blocks, Drop, install, Commit. A transaction is written: what comes of it, plain; install, walked. A transaction is written: install, Commit: walked. A transaction is written: Commit, walked. A group as it is meant: which blocks are taken, their bytes, nodes. Plain: what the calls come to. A group's calls, over a group as it is meant. A disk's image: walked. Files: where a file's block is; pointers in blocks: walked. Files: which block a file's block is: walked. Files: the block that a file's block needs: walked. Slices of arrays and of rows of bytes: operations. No program in sight. Files: bytes read: walked. Files: bytes written: walked. Files: the blocks of a file, plain: which there are, how one more is taken. Files: one block more, plain. Files: the way to a block, plain. Files: as many blocks as a file needs, plain. Files: bytes written into a file: what comes of it. Files: Write and Read over a file as it is meant. Files: blocks less, plain. Files: the last block goes: walked. Files: Cut: walked. The document's groups: how they lie in memory, how much they take. The document's groups: what they take; bytes written, cut: walked. The document's groups: made, written into, cut: walked. The fixed facts of layer 7's laws: walked. A fresh disk of a configuration: walked. The fixed facts of layer 8's laws, their bytes: walked. A group's records: one more, all of them, one of them: walked. A group's records: all of them, one of them: walked. Files: calls on a node that is none, or free: walked. Files: all blocks of a node, in a group that is none: walked. What comes in, opened: bytes, numbers. No program in sight. What comes in, opened: sizes of configurations, small numbers. No program in sight. A directory's acts that came in, opened. Paths, the plain layer: what a text is as a part and as a path. No program in sight. A directory's names: walked (as for the paths). A directory's entries as bytes: walked. -/
import Derived.Test.YthmkgohfeahdhaaGreatCkSuperLawP3
import Derived.Sort.OwnSortedInts
import Derived.BigQuiet
import Derived.ProofKit
import Derived.OpenShut
import Derived.Lib.SmallJoins
import Derived.Deep.Slices
import Derived.Deep.Strs
import Derived.Handed
import Derived.Lib.SplitLaws
import Derived.Lib.IndexBytes
import Derived.Deep.RegionHeld3
import Derived.Deep.RegionLaw
import Derived.Deep.QuietTactic
import Derived.Handy
import Derived.Deep.LoopGhost
import Derived.Deep.Cut
import Derived.Deep.CutRange
import Derived.Lib.BufferWrite
namespace Go.Proofs.YthmkgohfeahdhaaGreat
open Go.RowKit
set_option linter.unusedSimpArgs false
set_option linter.unusedVariables false

theorem node_can {s : Sto} {g : GeoN} {num : Nat} (hg : g.Ok s.D.length) (hr : s.M.length ≤ 29) (h1 : 1 ≤ num) (h2 : num ≤ g.nodes) : s.Can (g.base + g.bitmap + (num - 1) / 2) := by
  have := hg.fits; have := hg.data; have := hg.tab; have := hg.base
  exact can_of (by omega) (by omega) (by omega)
section
variable {w w' : World} {i : Ids} {s : Sto} {gg : Nat} {g : GeoN} {lab : Int}





/-- which node is meant -/
def inoC (l n g : Int) : Array Value := #[.int .u8 l, .int .u16 n, .int .u16 g]
theorem build_ino (w : World) (l n g : Int) : (Instr.build 152 #[(0, .int .u8 l), (1, .int .u16 n), (2, .int .u16 g)]).run Tryz.prog w = .ok (.agg (inoC l n g)) w := by kernel_rfl

end
end Go.Proofs.YthmkgohfeahdhaaGreat
namespace Go.Proofs.YthmkgohfeahdhaaGreat
open Go.RowKit
set_option linter.unusedSimpArgs false
set_option linter.unusedVariables false

theorem info_int : ∃ i, Tryz.prog.info? 3 = some i ∧ i.zero = some (.int .i64 0) ∧ i.size = 1 ∧ i.bytes = 8 := by
  have h : (Tryz.prog.info? 3).map (fun i => (i.zero, i.size, i.bytes)) = some (some (.int .i64 0), 1, 8) := by kernel_rfl
  cases hi : Tryz.prog.info? 3 with
  | none => rw [hi] at h; cases h
  | some i =>
    rw [hi] at h
    simp only [Option.map_some, Option.some.injEq, Prod.mk.injEq] at h
    exact ⟨i, rfl, h.1, h.2.1, h.2.2⟩
theorem keys_vals {M : List (Nat × BlkV)} (hM : ∀ x ∈ M, x.1 < 65536) {done : List NKey} (h : done.Perm ((dm M).map (·.1))) : (done.map (·.val)).Perm (M.map (·.1)) := by
  have := h.map (fun k : NKey => k.val)
  rw [List.map_map] at this
  rw [← dm_keys hM]
  exact this

theorem wpList_next_nkv {P : Program} {ops : Array Oper} {rest : List Oper} {o : Oper} {a : Act} {w : World} {Q : Exit → Act → World → Prop} {m r : Nat} {L : List (NKey × Value)} {done : List NKey} (hg : o.guard = none) (it : Operand) (hop : o.op = Op.next it false)
    (hit : a.eval it = .pointer (some ⟨r, 0, none⟩)) (h : Iter nkv w m r L done) (hk : ∀ a b, nkv a = nkv b → a = b)
    (hDone : (∀ k ∈ L.map (·.1), k ∈ done) → wpList P ops Q rest (a.put o.dst (.tuple #[.bool false])) w)
    (hMore : ∀ (k : NKey) (v : Value) (w' : World), (k, v) ∈ L → k ∉ done → Iter nkv w' m r L (done ++ [k]) → w.grownBy w' (some r) →
      (Instr.entry (.pointer (some ⟨r, 0, none⟩))).run P w' = .ok (.tuple #[.int .i64 (k.val : Int), v]) w' → wpList P ops Q rest (a.put o.dst (.tuple #[.bool true, .int .i64 (k.val : Int), v])) w') :
    wpList P ops Q (o :: rest) a w := wpList_next_map hg it hop hit h hk hDone fun k v w' h1 h2 h3 h4 _ h5 => hMore k v w' h1 h2 h3 h4 h5

section
variable {w w' : World} {i : Ids} {s : Sto}
set_option maxRecDepth 100000 in
set_option maxHeartbeats 1600000 in
theorem blocks_ok (h : TxAt w i s) :
    Calls Tryz.prog 83 #[.pointer (some ⟨i.tt, 0, none⟩)] w fun e w' => ∃ (A : Option Addr) (c : Nat) (l : List Nat), e = .returned (.slice A l.length c) ∧ Rd w' w'.heap.size 1 A l.length (nvs l) ∧ l.Perm (s.M.map (·.1)) ∧ Below w.heap.size w w' ∧ (∀ b, A = some b → w.heap.size ≤ b.block) := by
  obtain ⟨i0, hi0, i1, i2, i3⟩ := info_int
  have c1 := h.txn.cell 1
  have cl := h.txn.lt
  have HI := hide (And.intro hi0 (And.intro i1 (And.intro i2 i3)))
  have H := hide h
  clear hi0 i1 i2 i3 h
  go_enter Tryz.func83, Tryz.ntmps83
  go_wp2_with (first | (at_range; refine wpList_range_map rfl (.tmp 10) 181 rfl Tryz.underlying181 (by rfl) H.out.map (fun w1 hit hb1 hs1 => ?_)) | fail)
  go_frame
  have hr1 : w.heap.size < w1.heap.size := by omega
  have HIT := hide (And.intro hit hb1)
  clear hs1 hit hb1
  go_loopg [3] (s.M.length + 1) (fun gh x3 wr => ∃ (A : Option Addr) (c : Nat) (done : List NKey), gh = s.M.length + 1 - done.length ∧ x3 = .slice A done.length c ∧ Hid (Iter nkv wr i.mm w.heap.size (dm s.M) done) ∧ Hid (wr.ownsRow (w.heap.size + 1) 3 1 (.slice A done.length c) done.length (nvs (done.map (·.val)))) ∧ Hid (Below w.heap.size w wr))
  case atStart => exact ⟨none, 0, [], rfl, rfl, hide HIT.out.1, hide ⟨by simp [nvs], .inl ⟨rfl, rfl⟩⟩, hide HIT.out.2⟩
  case round =>
    obtain ⟨A, c, done, hg, rfl, HIR, HO, HBR⟩ := hrel
    have HG := hide hg
    clear hg HIT
    have hsub := HIR.out.sub
    rw [dm_length] at hsub
    have hfew := H.out.ok.few
    have hrl := HIR.out.lt
    go_wp2_with (first | (at_next; refine wpList_next_nkv rfl (.tmp 11) rfl (by rfl) HIR.out nEnc.inj (fun hdone => ?_) (fun k v w2 hkv hknd hit2 hg2 hen => ?_)) | (at_builtin; have ho2 := own_keep HO.out (fun g hv => hg2.block g (own_block_ge HO.out hv).2 (fun e => by have := (own_block_ge HO.out hv).1; cases e; omega)); have hs2' : w.heap.size + 1 ≤ w2.heap.size := (by have := hg2.size; omega); refine wpList_append_one rfl (.tmp 16) (.tmp 18) 187 rfl (w.heap.size + 1) 3 i0 (.int .i64 0) 1 8 Tryz.underlying187 HI.out.1 HI.out.2.1 HI.out.2.2.1 HI.out.2.2.2 rfl (by decide) A c done.length (nvs (done.map (·.val))) (nvs [k.val]) w2 rfl ho2 rfl rfl rfl (by simp [nvs, Value.oneCell']) (by omega) (by decide) hs2' ?_; intro A' c' w5 hown5 hg5 hb5 hat5) | fail)
    · have hperm := keys_vals H.out.ok.small (HIR.out.perm hdone)
      have hlen : (done.map (·.val)).length = done.length := List.length_map _
      have HP := hide hperm
      have HL := hide hlen
      clear hdone hperm hlen
      rcases HO.out.2 with ⟨hnil, h0⟩ | ⟨q, cap, cur, hv, hq, hh, hnc, hcm, hcs, htk⟩
      · have hA : A = none ∧ done.length = 0 ∧ c = 0 := by simpa using hnil
        obtain ⟨rfl, h1, rfl⟩ := hA
        have hd : done = [] := List.eq_nil_of_length_eq_zero h1
        subst hd
        refine (Tryz.slices_Sort_int_none none 0 wr).mono ?_
        rintro e w3 ⟨rfl, rfl⟩
        have HPP := HP.out
        clear hnil h0 h1
        go_wp2
        go_returns
        exact ⟨none, 0, [], rfl, Rd.nil _ _ _ _, HPP, HBR.out, fun b hb => by cases hb⟩
      · simp only [Value.slice.injEq] at hv
        obtain ⟨rfl, hdl, rfl⟩ := hv
        obtain ⟨zs, hzs⟩ : ∃ zs : List Int, (done.map (·.val)).map (fun n : Nat => (n : Int)) = zs := ⟨_, rfl⟩
        have hzl : zs.length = done.length := by rw [← hzs]; simp
        have hzv : zs.map (Value.int .i64) = nvs (done.map (·.val)) := by rw [← hzs]; simp [nvs, Function.comp_def]
        have hH := holds_of_blockI (ss := zs) hh (by rw [hzv, hzl]; simpa using htk)
        have hsort := Tryz.slices_Sort_int q 0 c zs wr hH (Array.getElem?_eq_some_iff.1 hh).1 (by omega)
        rw [hzl] at hsort
        have HSO := hide hsort
        have HZ := hide (And.intro hzs (And.intro hzl hzv))
        have HH := hide (And.intro hq (And.intro hh (And.intro hnc (And.intro hcm hcs))))
        clear hzs hzl hzv hH hsort hq hh hnc hcm hcs htk
        refine HSO.out.mono ?_
        rintro e w3 ⟨rfl, n3, os, hw3⟩
        have hsl : (zs.mergeSort fun x y => decide (x ≤ y)).length = zs.length := List.length_mergeSort _
        have hown := ownsRow_sortedI (w := wr) (base := w.heap.size + 1) (g := q) (cap := c) (n := n3) (os := os) (ss := zs) (ts := zs.mergeSort fun x y => decide (x ≤ y)) hsl HH.out.1 HH.out.2.1 (by rw [HZ.out.2.1]; exact HH.out.2.2.1) HH.out.2.2.2.1 HH.out.2.2.2.2
        have hgb := grownBy_sortedI (w := wr) (g := q) (n := n3) (os := os) (zs.mergeSort fun x y => decide (x ≤ y)).toArray
        rw [← hw3] at hown hgb
        have hb3 : Below w.heap.size w w3 := HBR.out.trans ((Tch.grown (S := fun _ => False) hgb HBR.out.size (fun k hk hlt => by cases hk; have := HH.out.1; omega)).below fun _ _ h => h)
        -- the sorted numbers as natural ones
        have hpz : (zs.mergeSort fun x y => decide (x ≤ y)).Perm zs := List.mergeSort_perm _ _
        obtain ⟨l, hl⟩ : ∃ l : List Nat, (zs.mergeSort fun x y => decide (x ≤ y)).map Int.toNat = l := ⟨_, rfl⟩
        have hnn : ∀ z ∈ zs.mergeSort fun x y => decide (x ≤ y), 0 ≤ z := fun z hz => by
          have := hpz.mem_iff.1 hz
          rw [← HZ.out.1] at this
          obtain ⟨m, _, rfl⟩ := List.mem_map.1 this
          omega
        have hlv : (zs.mergeSort fun x y => decide (x ≤ y)).map (Value.int .i64) = nvs l := by
          rw [← hl, nvs, List.map_map]
          apply List.map_congr_left
          intro z hz
          have := hnn z hz
          simp only [Function.comp, Value.int.injEq, true_and]
          omega
        have hlp : l.Perm (s.M.map (·.1)) := by
          rw [← hl]
          refine (hpz.map Int.toNat).trans ?_
          rw [← HZ.out.1, List.map_map]
          refine List.Perm.trans (List.Perm.of_eq ?_) HP.out
          conv => rhs; rw [← List.map_id (done.map (·.val))]
          apply List.map_congr_left
          intro m _
          simp
        have hll : l.length = done.length := by rw [← hl, List.length_map, hsl]; exact HZ.out.2.1
        rw [hlv] at hown
        rw [HZ.out.2.1, ← hll] at hown
        have HF := hide (And.intro (Rd.of_own hown) (And.intro hlp (And.intro hb3 hll)))
        clear hw3 hsl hown hgb hb3 hpz hl hnn hlv hlp hll HSO
        go_wp2
        go_returns
        exact ⟨_, c, l, by rw [HF.out.2.2.2]; rfl, HF.out.1, HF.out.2.1, HF.out.2.2.1, fun b hb => by cases hb; have := HH.out.1; simp only; omega⟩
    · have hbr5 : Below w.heap.size w w5 := HBR.out.trans ((Tch.grown (S := fun _ => False) hg2 HBR.out.size (fun k hk hlt => by cases hk; omega)).below (fun _ _ h => h) |>.trans (hb5.mono (by omega)))
      have hit5 : Iter nkv w5 i.mm w.heap.size (dm s.M) (done ++ [k]) := hit2.kept hg5 (fun e => hit2.map.is.not_own ho2 e.symm) (fun e => by have := (own_block_ge ho2 e.symm).1; omega)
      have hown6 : w5.ownsRow (w.heap.size + 1) 3 1 (.slice A' (done.length + 1) c') (done.length + 1) (nvs ((done ++ [k]).map (·.val))) := by
        have : nvs ((done ++ [k]).map (·.val)) = nvs (done.map (·.val)) ++ nvs [k.val] := by simp [nvs]
        rw [this]; exact hown5
      go_roundg (s.M.length + 1 - (done ++ [k]).length)
      case rel => exact ⟨A', c', done ++ [k], rfl, by rw [List.length_append]; rfl, hide hit5, hide (by rw [List.length_append]; exact hown6), hide hbr5⟩
      case measure => have := HG.out; rw [List.length_append]; simp; omega

theorem at_call1 {P : Program} {ops : Array Oper} {rest : List Oper} {a : Act} {w : World} {Q : Exit → Act → World → Prop} (b : Builtin) (x : Operand) (t : TypeId) {d : Option Tmp} {k : TypeId} {p : String} {f : Array Edge} {g : Option (Nat × Bool)} (h : wpList P ops Q (⟨d, .call { callee := .builtin b, args := #[x], argTypes := #[t] }, k, p, f, g⟩ :: rest) a w) : wpList P ops Q (⟨d, .call { callee := .builtin b, args := #[x], argTypes := #[t] }, k, p, f, g⟩ :: rest) a w := h
theorem wpList_clear_map {P : Program} {ops : Array Oper} {rest : List Oper} {o : Oper} {a : Act} {w : World} {Q : Exit → Act → World → Prop} {κ : Type} {kv : κ → Value} {K E : TypeId} {m : Nat} {L : List (κ × Value)} (hgd : o.guard = none) (x : Operand) (t : TypeId)
    (ho : o.op = .call { callee := .builtin .clear, args := #[x], argTypes := #[t] }) (hm : a.eval x = .map (some m)) (h : MapR kv w m L) (ht : P.underlying t = some (.map K E))
    (hK : ∀ w', MapR kv w' m ([] : List (κ × Value)) → OnlyMap w w' m → wpList P ops Q rest (a.put o.dst (.tuple #[])) w') : wpList P ops Q (o :: rest) a w := by
  obtain ⟨w', hrun, h1, h2⟩ := h.clear (P := P) (t := t) (ty := o.type) ht
  refine wpList_plain hgd fun K' hK' => ?_
  unfold Oper.wp execOp
  simp only [ho, resolve, invoke, builtin, Sem.run_bind, Sem.run_pure, Result.andThen_ok, List.map_toArray, List.map_cons, List.map_nil, hm, hrun]
  exact hK' _ _ (hK w' h1 h2)

set_option maxRecDepth 100000 in
theorem drop_ok (h : TxAt w i s) :
    Calls Tryz.prog 86 #[.pointer (some ⟨i.tt, 0, none⟩)] w fun e w' => e = .returned (.tuple #[]) ∧ TxAt w' i ⟨s.D, [], 0⟩ ∧ Tch w.heap.size i.own w w' := by
  have c1 := h.txn.cell 1
  have cl := h.txn.lt
  have H := hide h
  clear h
  go_enter Tryz.func86, Tryz.ntmps86
  go_upto_region 2 with (first | ((with_reducible refine at_call1 .clear (.tmp 7) 181 ?_); refine wpList_clear_map rfl (.tmp 7) 181 rfl (by rfl) H.out.map Tryz.underlying181 (fun w1 hm1 ho1 => ?_)) | fail)
  have hx := H.out
  have hg1 := ho1.1
  have a1 := hx.txn.lt
  have a2 := hx.log.log.lt
  have a3 := hx.log.disk.dlt
  have a4 := hx.log.disk.row.lt
  have ht1 : Blk w1 i.tt 183 #[.pointer (some ⟨i.ll, 0, none⟩), .map (some i.mm), .int .i64 s.bad] := (hg1.block _ a1 (fun e => hx.ntm (Option.some.inj e))).trans hx.txn
  have hl1 : LogAt w1 i.ll i.dd i.rr s.D := ⟨(hg1.block _ a2 (fun e => hx.nml (Option.some.inj e).symm)).trans hx.log.log, hx.log.disk.keep (hg1.block _ a3 (fun e => hx.nmd (Option.some.inj e).symm)) (hg1.block _ a4 (fun e => hx.nmr (Option.some.inj e).symm))⟩
  have htc : Tch w.heap.size i.own w w1 := (Tch.of_only ho1 (Nat.le_refl _)).sub fun _ h => Ids.own_mm h
  have HT := hide (And.intro ht1 (And.intro hl1 (And.intro hm1 htc)))
  clear hx hg1 a1 a2 a3 a4 ht1 hl1 htc hm1 ho1 c1 cl
  have c2 := HT.out.1.cell 2
  have f2 := HT.out.1.frozen 2
  have cl := HT.out.1.lt
  go_wp2
  go_returns
  obtain ⟨ht1, hl1, hm1, htc⟩ := HT.out
  have hx := H.out
  refine ⟨rfl, ⟨ht1.set_ 2 _, hm1.keep (heap_setCell_other _ _ _ _ hx.ntm.symm), ⟨hl1.log.far hx.ntl.symm _, hl1.disk.keep (heap_setCell_other _ _ _ _ hx.ntd.symm) (heap_setCell_other _ _ _ _ hx.ntr.symm)⟩, ⟨hx.ok.dlen, by simp, by simp, hx.ok.many, hx.ok.most, by simp, by simp, by simp⟩⟩, htc.trans (Tch.setCell (p := ⟨i.tt, 2, none⟩) fun _ => Ids.own_tt rfl)⟩
end
end Go.Proofs.YthmkgohfeahdhaaGreat
namespace Go.Proofs.YthmkgohfeahdhaaGreat
open Go.RowKit
set_option linter.unusedSimpArgs false
set_option linter.unusedVariables false

/-- the log's blocks go to their places -/
def instD : List BlkV → Nat → List Nat → List BlkV
  | D, _, [] => D
  | D, j, n :: r => instD (D.set n (D.getD (2 + j) zeroB)) (j + 1) r
/-- blocks are written into the log -/
def logD (M : List (Nat × BlkV)) : List BlkV → Nat → List Nat → List BlkV
  | D, _, [] => D
  | D, j, n :: r => logD M (D.set (2 + j) ((mget M n).getD zeroB)) (j + 1) r
theorem getD_set {D : List BlkV} {n m : Nat} {b : BlkV} (hn : n < D.length) : (D.set n b).getD m zeroB = if n = m then b else D.getD m zeroB := by
  simp only [List.getD_eq_getElem?_getD, List.getElem?_set]
  by_cases h : n = m
  · subst h; simp [hn]
  · simp [h]
theorem getD_len {D : List BlkV} (h : ∀ b ∈ D, b.length = 64) (n : Nat) : (D.getD n zeroB).length = 64 := by
  rw [List.getD_eq_getElem?_getD]
  cases hd : D[n]? with
  | none => exact zeroB_length
  | some b => exact h b (List.mem_of_getElem? hd)
theorem instD_length : ∀ (l : List Nat) (D : List BlkV) (j : Nat), (instD D j l).length = D.length
  | [], _, _ => rfl
  | n :: r, D, j => by rw [instD, instD_length r, List.length_set]
theorem logD_length (M : List (Nat × BlkV)) : ∀ (l : List Nat) (D : List BlkV) (j : Nat), (logD M D j l).length = D.length
  | [], _, _ => rfl
  | n :: r, D, j => by rw [logD, logD_length M r, List.length_set]
theorem mget_lens {M : List (Nat × BlkV)} (hM : ∀ x ∈ M, x.2.length = 64) (n : Nat) : ((mget M n).getD zeroB).length = 64 := by
  cases h : mget M n with
  | none => exact zeroB_length
  | some b => exact hM _ (mget_mem h)
/-- the log's writing leaves what is ahead of it, and behind it -/
theorem logD_out (M : List (Nat × BlkV)) : ∀ (l : List Nat) (D : List BlkV) (j m : Nat), 2 + j + l.length ≤ D.length → (m < 2 + j ∨ 2 + j + l.length ≤ m) → (logD M D j l).getD m zeroB = D.getD m zeroB
  | [], _, _, _, _, _ => rfl
  | n :: r, D, j, m, hl, hm => by
    simp only [List.length_cons] at hl hm
    rw [logD, logD_out M r _ _ _ (by rw [List.length_set]; omega) (by omega), getD_set (by omega), if_neg (by omega)]
theorem logD_at (M : List (Nat × BlkV)) : ∀ (l : List Nat) (D : List BlkV) (j k : Nat) (n : Nat), 2 + j + l.length ≤ D.length → l[k]? = some n → (logD M D j l).getD (2 + j + k) zeroB = (mget M n).getD zeroB
  | [], _, _, _, _, _, h => by simp at h
  | n :: r, D, j, 0, n', hl, h => by
    simp at h
    subst h
    simp only [List.length_cons] at hl
    rw [logD, logD_out M r _ _ _ (by rw [List.length_set]; omega) (by omega), getD_set (by omega), if_pos (by omega)]
  | n :: r, D, j, k + 1, n', hl, h => by
    simp at h
    simp only [List.length_cons] at hl
    rw [logD, show 2 + j + (k + 1) = 2 + (j + 1) + k from by omega]
    exact logD_at M r _ _ k n' (by rw [List.length_set]; omega) h
theorem instD_out : ∀ (l : List Nat) (D : List BlkV) (j m : Nat), (∀ n ∈ l, n < D.length) → m ∉ l → (instD D j l).getD m zeroB = D.getD m zeroB
  | [], _, _, _, _, _ => rfl
  | n :: r, D, j, m, hl, hm => by
    have h1 : n ≠ m := fun e => hm (by simp [e])
    rw [instD, instD_out r _ _ _ (fun x hx => by rw [List.length_set]; exact hl x (by simp [hx])) (fun h => hm (by simp [h])), getD_set (hl n (by simp)), if_neg h1]
theorem instD_at : ∀ (l : List Nat) (D : List BlkV) (j k n : Nat), (∀ n ∈ l, n < D.length ∧ Sto.free n) → l.Nodup → 2 + j + l.length ≤ 32 → l[k]? = some n → (instD D j l).getD n zeroB = D.getD (2 + j + k) zeroB
  | [], _, _, _, _, _, _, _, h => by simp at h
  | n :: r, D, j, 0, n', hl, hnd, hj, h => by
    simp at h
    subst h
    rw [List.nodup_cons] at hnd
    rw [instD, instD_out r _ _ _ (fun x hx => by rw [List.length_set]; exact (hl x (by simp [hx])).1) hnd.1, getD_set (hl n (by simp)).1, if_pos rfl]
    rfl
  | n :: r, D, j, k + 1, n', hl, hnd, hj, h => by
    simp at h
    rw [List.nodup_cons] at hnd
    simp only [List.length_cons] at hj
    have hk : k < r.length := (List.getElem?_eq_some_iff.1 h).1
    rw [instD, instD_at r _ _ k n' (fun x hx => by rw [List.length_set]; exact hl x (by simp [hx])) hnd.2 (by omega) h, getD_set (hl n (by simp)).1, if_neg (by
      have := (hl n (by simp)).2
      rcases this with h0 | h0 <;> omega)]
    congr 1
    omega

/-- what a commit leaves on the disk -/
def commitD (s : Sto) (l : List Nat) : List BlkV := if l = [] then s.D else (instD ((logD s.M s.D 0 l).set 1 (headB l)) 0 l).set 1 (headB [])
theorem commit_len (s : Sto) (l : List Nat) : (commitD s l).length = s.D.length := by
  unfold commitD
  split
  · rfl
  · rw [List.length_set, instD_length, List.length_set, logD_length]
theorem commit_at {s : Sto} (h : s.Ok) {l : List Nat} (hp : l.Perm (s.M.map (·.1))) {m : Nat} (hm : Sto.free m) : (commitD s l).getD m zeroB = s.at_ m := by
  have hl30 : l.length ≤ 30 := by rw [hp.length_eq, List.length_map]; exact h.few
  have hmem : ∀ n ∈ l, n < s.D.length ∧ Sto.free n := fun n hn => by
    obtain ⟨x, hx, rfl⟩ := List.mem_map.1 (hp.mem_iff.1 hn)
    exact ⟨h.keys x hx, h.off x hx⟩
  have hnd : l.Nodup := hp.nodup_iff.2 h.nodup
  have h32 := h.many
  have hm1 : 1 ≠ m := by rcases hm with h0 | h0 <;> omega
  unfold commitD
  by_cases hl : l = []
  · rw [if_pos hl]
    subst hl
    have hM : s.M = [] := by
      have := hp.length_eq
      simp at this
      exact List.eq_nil_of_length_eq_zero this.symm
    unfold Sto.at_
    rw [hM]
    rfl
  · rw [if_neg hl, getD_set (by rw [instD_length, List.length_set, logD_length]; omega), if_neg hm1]
    by_cases hml : m ∈ l
    · obtain ⟨k, hk, rfl⟩ := List.mem_iff_getElem.1 hml
      rw [instD_at l _ 0 k _ (fun n hn => by rw [List.length_set, logD_length]; exact hmem n hn) hnd (by omega) (List.getElem?_eq_getElem hk), getD_set (by rw [logD_length]; omega), if_neg (by omega),
        logD_at s.M l s.D 0 k _ (by omega) (List.getElem?_eq_getElem hk)]
      unfold Sto.at_
      have hs : (mget s.M l[k]).isSome = true := by
        cases hg : mget s.M l[k] with
        | some _ => rfl
        | none => exact absurd (hp.mem_iff.1 (List.getElem_mem hk)) (mget_none_iff.1 hg)
      obtain ⟨b, hb⟩ := Option.isSome_iff_exists.1 hs
      rw [hb]
      rfl
    · rw [instD_out l _ 0 m (fun n hn => by rw [List.length_set, logD_length]; exact (hmem n hn).1) hml, getD_set (by rw [logD_length]; omega), if_neg hm1,
        logD_out s.M l s.D 0 m (by omega) (by rcases hm with h0 | h0 <;> omega)]
      unfold Sto.at_
      have hg : mget s.M m = none := mget_none_iff.2 fun hc => hml (hp.mem_iff.2 hc)
      rw [hg]
      rfl
end Go.Proofs.YthmkgohfeahdhaaGreat
namespace Go.Proofs.YthmkgohfeahdhaaGreat
open Go.RowKit
set_option linter.unusedSimpArgs false
set_option linter.unusedVariables false

section
variable {w w' : World} {ll dd rr : Nat} {D : List BlkV}
theorem LogAt.two (h : LogAt w ll dd rr D) {D' : List BlkV} (hd : DiskAt w' dd rr D') (ht : Tch w.heap.size (fun x => x = dd ∨ x = rr) w w') : LogAt w' ll dd rr D' := ⟨h.log.tch ht h.log.lt (by rintro (e | e); exact h.nd e; exact h.nr e), hd⟩
/-- what the log's install comes to -/
def instAll (D : List BlkV) (l : List Nat) : List BlkV := if l = [] then D else (instD D 0 l).set 1 (headB [])
set_option maxRecDepth 100000 in
set_option maxHeartbeats 1600000 in
theorem install_ok {A : Option Addr} {n c : Nat} {l : List Nat} (h : LogAt w ll dd rr D) (hR : Rd w w.heap.size 1 A n (nvs l)) (hA : ∀ b, A = some b → ¬ (b.block = dd ∨ b.block = rr)) (hD : ∀ x ∈ l, x < D.length) (hl : 2 + l.length ≤ D.length) (h30 : l.length ≤ 30) (hm : 32 ≤ D.length) :
    Calls Tryz.prog 87 #[.pointer (some ⟨ll, 0, none⟩), .slice A n c] w fun e w' => e = .returned (.int .i64 0) ∧ LogAt w' ll dd rr (instAll D l) ∧ Tch w.heap.size (fun x => x = dd ∨ x = rr) w w' := by
  have hln : n = l.length := by have := hR.len; simp [nvs] at this; omega
  subst hln
  have hmost := h.disk.most
  have H := hide h
  have HR := hide hR
  have HA := hide hA
  have HD := hide hD
  have h11 : IntKind.i64.wrap 2 = 2 := rfl
  clear h hR hA hD
  go_enter Tryz.func87, Tryz.ntmps87
  go_wp2_with fail
  go_loopg [12] l.length (fun gh x12 wr => ∃ (k : Nat) (Dk : List BlkV), k ≤ l.length ∧ gh = l.length - k ∧ x12 = .int .i64 (k : Int) ∧ Hid (LogAt wr ll dd rr Dk) ∧ Hid (Tch w.heap.size (fun x => x = dd ∨ x = rr) w wr) ∧ Hid (instD Dk k (l.drop k) = instD D 0 l ∧ Dk.length = D.length))
  case atStart => exact ⟨0, D, Nat.zero_le _, rfl, rfl, H, hide (Tch.refl _ _ _), hide ⟨by simp, rfl⟩⟩
  case round =>
    obtain ⟨k, Dk, hk, hg, rfl, HL, HT, HI⟩ := hrel
    have HGH := hide hg
    clear hg
    rcases Nat.lt_or_ge k l.length with hkl | hkl
    · have hkz : (k : Int) < l.length := by omega
      obtain ⟨bA, o, hAe, hbA, hc⟩ := HR.out.2 (by omega)
      subst hAe
      have hnb := HA.out _ rfl
      have y0 := hc k _ (nvs_get (List.getElem?_eq_getElem hkl))
      have y : wr.cell? ⟨bA, o + k, none⟩ = some (.int .i64 ((l[k] : Nat) : Int)) := by
        rw [← y0]
        exact World.cell?_of_block (w := w) (HT.out.block bA hbA hnb)
      have hx := HD.out _ (List.getElem_mem hkl)
      have HX : Hid (instD (Dk.set l[k] (Dk.getD (2 + k) zeroB)) (k + 1) (l.drop (k + 1)) = instD D 0 l) := hide (by
        have := HI.out.1
        rw [List.drop_eq_getElem_cons hkl, instD] at this
        exact this)
      have hb : Dk[2 + k]? = some (Dk.getD (2 + k) zeroB) := by
        have : 2 + k < Dk.length := by rw [HI.out.2]; omega
        rw [List.getD_eq_getElem?_getD, List.getElem?_eq_getElem this]; rfl
      have hb64 : (Dk.getD (2 + k) zeroB).length = 64 := getD_len HL.out.disk.len _
      generalize Dk.getD (2 + k) zeroB = b at hb hb64 HX
      generalize l[k] = x at y hx HX y0
      have bl : bA < wr.heap.size := Nat.lt_of_lt_of_le hbA HT.out.size
      have e2 : IntKind.i64.wrap (2 + (k : Int)) = ((2 + k : Nat) : Int) := by rw [IntWalk.i64_in _ (by omega)]; omega
      have hxk : x < Dk.length := by rw [HI.out.2]; exact hx
      have HLN := hide HI.out.2
      have HB := hide hb
      have HB64 := hide hb64
      clear hc y0 hnb hb hb64 hx HI
      generalize 2 + k = j at e2 HB
      go_upto_region 4 with (fail)
      have c0 := HL.out.log.cell 0
      have c1 := HL.out.log.cell 1
      have cl := HL.out.log.lt
      go_cut [7, 8] from 13 to 45 (fun x7 x8 wc => ∃ g, x7 = .pointer (some ⟨g, 0, none⟩) ∧ x8 = .int .i64 0 ∧ Hid (LogAt wc ll dd rr Dk) ∧ Hid (Tch w.heap.size (fun x => x = dd ∨ x = rr) w wc) ∧ Hid (Blk wc g 106 (bvs b).toArray ∧ w.heap.size ≤ g))
      case first =>
        refine wp_region_tree (.q 0 (.q 1 (.q 2 (.q 3 (.q 4 (.q 5 (.q 6 (.q 7 (.q 8 (.q 9 (.q 10 (.br 11 (.q 12 (.q 13 (.q 14 (.x 15 (.x 16 (.q 17 .nil)))))) 15 (.x 11 (.q 12 (.q 13 (.q 14 (.x 16 (.q 17 .nil)))))))))))))))))) (fun W => LogAt W ll dd rr Dk ∧ Tch w.heap.size (fun x => x = dd ∨ x = rr) w W) (by kernel_rfl) (by kernel_rfl) ⟨HL.out.below (Below.refl _ _).drew, HT.out.drew⟩ ?_
        iterate 11 (refine wpT_q (v := ?_) (by simp only [List.getElem?_toArray, List.getElem?_cons_succ, List.getElem?_cons_zero]; try rfl) (by rfl) (fun W hW => ?_) ?_; rotate_left; (focus ((have hc0 := hW.1.log.cell 0; have hc1 := hW.1.log.cell 1; have hcl := hW.1.log.lt; go_simp); try with_reducible rfl)); try simp only [Act.put, List.setIfInBounds_toArray, List.set_cons_zero, List.set_cons_succ])
        refine wpT_br ?_ ?_
        · refine wpT_x (by simp only [List.getElem?_toArray, List.getElem?_cons_succ, List.getElem?_cons_zero]; try rfl) (by rfl) (fun K hK => ?_)
          go_simp
          refine (disk_read (HL.out.disk.below (Below.refl _ _).drew) HB.out).mono ?_
          rintro e w2 ⟨rfl, hd2, ht2⟩
          have hL2 : LogAt w2 ll dd rr Dk := LogAt.two (w := wr) HL.out hd2 ((Tch.refl _ _ _).drew.trans (ht2.sub fun _ h => .inl h))
          have hT2 := HT.out.drew.trans ((ht2.sub (S' := fun x => x = dd ∨ x = rr) fun _ h => .inl h).mono (by have := HT.out.size; exact this) fun _ _ h => h)
          refine hK _ _ _ (fun _ h => h) ⟨hL2, hT2⟩ ?_
          clear hK K
          try simp only [Act.put, List.setIfInBounds_toArray, List.set_cons_zero, List.set_cons_succ]
          iterate 3 (refine wpT_q (v := ?_) (by simp only [List.getElem?_toArray, List.getElem?_cons_succ, List.getElem?_cons_zero]; try rfl) (by rfl) (fun W hW => ?_) ?_; rotate_left; (focus ((go_simp); try with_reducible rfl)); try simp only [Act.put, List.setIfInBounds_toArray, List.set_cons_zero, List.set_cons_succ])
          refine wpT_x (by simp only [List.getElem?_toArray, List.getElem?_cons_succ, List.getElem?_cons_zero]; try rfl) (by rfl) (fun K hK => ?_)
          refine wp_alloc_as 106 rfl _ (zero_block _) ?_
          have hbl : Below w2.heap.size w2 (w2.alloc (.cells (bvs zeroB).toArray 106)) := (Below.refl _ _).alloc (Nat.le_refl _) _
          refine hK _ _ _ (fun _ h => h) ⟨hL2.below hbl, hT2.alloc (Nat.le_refl _) _⟩ ?_
          clear hK K
          try simp only [Act.put, List.setIfInBounds_toArray, List.set_cons_zero, List.set_cons_succ]
          refine wpT_x (by simp only [List.getElem?_toArray, List.getElem?_cons_succ, List.getElem?_cons_zero]; try rfl) (by rfl) (fun K hK => ?_)
          refine wp_store_blk 106 (.tmp 7) (.tmp 30) rfl w2.heap.size 106 _ _ (by rfl) (by rfl) (Blk.new _ _ _) (size_blockOf HB64.out) ((bvs_size zeroB_length).trans (bvs_size HB64.out).symm) (bvs_oneCell _) (fun hG => ?_)
          have hfin : LogAt ((w2.alloc (.cells (bvs zeroB).toArray 106)).setRow w2.heap.size (bvs b).toArray) ll dd rr Dk ∧ Tch w.heap.size (fun x => x = dd ∨ x = rr) w ((w2.alloc (.cells (bvs zeroB).toArray 106)).setRow w2.heap.size (bvs b).toArray) :=
            ⟨hL2.below (below_setRow hbl (Nat.le_refl _) _), hT2.trans ((Tch.of_below (below_setRow hbl (Nat.le_refl _) _)).mono hT2.size fun _ _ h => h)⟩
          refine hK _ _ _ (fun _ h => h) hfin ?_
          have HF := hide hfin
          have HG2 := hide (And.intro hG hT2.size)
          clear hK K hfin hG hL2 hd2 hT2 ht2 hbl
          try simp only [Act.put, List.setIfInBounds_toArray, List.set_cons_zero, List.set_cons_succ]
          iterate 1 (refine wpT_q (v := ?_) (by simp only [List.getElem?_toArray, List.getElem?_cons_succ, List.getElem?_cons_zero]; try rfl) (by rfl) (fun W hW => ?_) ?_; rotate_left; (focus ((go_simp); try with_reducible rfl)); try simp only [Act.put, List.setIfInBounds_toArray, List.set_cons_zero, List.set_cons_succ])
          refine wpT_nil ?_
          go_wp2
          go_meet
          case rel => exact ⟨_, rfl, rfl, hide HF.out.1, hide HF.out.2, HG2⟩
        · refine wpT_x (by simp only [List.getElem?_toArray, List.getElem?_cons_succ, List.getElem?_cons_zero]; try rfl) (by rfl) (fun K hK => ?_)
          refine wp_alloc_as 106 rfl _ (zero_block _) ?_
          have hbl : Below wr.heap.size wr (wr.drew.alloc (.cells (bvs zeroB).toArray 106)) := (Below.refl _ _).drew.alloc (Nat.le_refl _) _
          have hL1 := HL.out.below hbl
          have hT1 : Tch w.heap.size (fun x => x = dd ∨ x = rr) w (wr.drew.alloc (.cells (bvs zeroB).toArray 106)) := HT.out.trans ((Tch.of_below hbl).mono HT.out.size fun _ _ h => h)
          have hG1 := Blk.new wr.drew 106 (bvs zeroB).toArray
          refine hK _ _ _ (fun _ h => h) ⟨hL1, hT1⟩ ?_
          clear hK K
          try simp only [Act.put, List.setIfInBounds_toArray, List.set_cons_zero, List.set_cons_succ]
          refine wpT_x (by simp only [List.getElem?_toArray, List.getElem?_cons_succ, List.getElem?_cons_zero]; try rfl) (by rfl) (fun K hK => ?_)
          go_simp
          refine (disk_read hL1.disk HB.out).mono ?_
          rintro e w2 ⟨rfl, hd2, ht2⟩
          have hL2 : LogAt w2 ll dd rr Dk := hL1.two hd2 (ht2.sub fun _ h => .inl h)
          have hT2 := hT1.trans ((ht2.sub (S' := fun x => x = dd ∨ x = rr) fun _ h => .inl h).mono hT1.size fun _ _ h => h)
          have hgd : wr.heap.size ≠ dd := by have := HL.out.disk.dlt; omega
          have hgr : wr.heap.size ≠ rr := by have := HL.out.disk.row.lt; omega
          have hgl : wr.heap.size ≠ ll := by have := HL.out.log.lt; omega
          have hG2 := hG1.tch ht2 hG1.lt hgd
          refine hK _ _ _ (fun _ h => h) ⟨hL2, hT2⟩ ?_
          clear hK K
          try simp only [Act.put, List.setIfInBounds_toArray, List.set_cons_zero, List.set_cons_succ]
          iterate 3 (refine wpT_q (v := ?_) (by simp only [List.getElem?_toArray, List.getElem?_cons_succ, List.getElem?_cons_zero]; try rfl) (by rfl) (fun W hW => ?_) ?_; rotate_left; (focus ((go_simp); try with_reducible rfl)); try simp only [Act.put, List.setIfInBounds_toArray, List.set_cons_zero, List.set_cons_succ])
          refine wpT_x (by simp only [List.getElem?_toArray, List.getElem?_cons_succ, List.getElem?_cons_zero]; try rfl) (by rfl) (fun K hK => ?_)
          refine wp_store_blk 106 (.tmp 7) (.tmp 30) rfl wr.heap.size 106 _ _ (by rfl) (by rfl) hG2 (size_blockOf HB64.out) ((bvs_size zeroB_length).trans (bvs_size HB64.out).symm) (bvs_oneCell _) (fun hG => ?_)
          have hfin : LogAt (w2.setRow wr.heap.size (bvs b).toArray) ll dd rr Dk ∧ Tch w.heap.size (fun x => x = dd ∨ x = rr) w (w2.setRow wr.heap.size (bvs b).toArray) :=
            ⟨⟨hL2.log.setRow_far hgl.symm _, hL2.disk.keep (setRow_other _ _ _ _ hgd.symm) (setRow_other _ _ _ _ hgr.symm)⟩, hT2.trans (Tch.setRow fun hp => absurd hp (by have := HT.out.size; omega))⟩
          refine hK _ _ _ (fun _ h => h) hfin ?_
          have HF := hide hfin
          have HG2 := hide (And.intro hG HT.out.size)
          clear hK K hfin hG hL2 hd2 hT2 ht2 hbl hG2 hG1 hL1 hT1 hgd hgr hgl
          try simp only [Act.put, List.setIfInBounds_toArray, List.set_cons_zero, List.set_cons_succ]
          iterate 1 (refine wpT_q (v := ?_) (by simp only [List.getElem?_toArray, List.getElem?_cons_succ, List.getElem?_cons_zero]; try rfl) (by rfl) (fun W hW => ?_) ?_; rotate_left; (focus ((go_simp); try with_reducible rfl)); try simp only [Act.put, List.setIfInBounds_toArray, List.set_cons_zero, List.set_cons_succ])
          refine wpT_nil ?_
          go_wp2
          go_meet
          case rel => exact ⟨_, rfl, rfl, hide HF.out.1, hide HF.out.2, HG2⟩
      case rest =>
        obtain ⟨g, rfl, rfl, HL2, HT2, HG2⟩ := hcut
        clear c0 c1 cl
        have c0 := HL2.out.log.cell 0
        have cl := HL2.out.log.lt
        go_upto_region 7 with (fail)
        refine wp_region_text [0, 0, 0, 0, 0, 0, 2, 0] (· = wc.drew) (by kernel_rfl) (by kernel_rfl) rfl ?_
        iterate 5 (refine wpOrd_q (v := ?_) (by rfl) (fun W hW => ?_) ?_; rotate_left; (focus ((cases hW; go_simp); try with_reducible rfl)); try simp only [Act.put, List.setIfInBounds_toArray, List.set_cons_zero, List.set_cons_succ])
        refine wpOrd_q (v := .agg (bvs b).toArray) (by rfl) (fun W hW => by cases hW; exact exec_load_blk 106 (.tmp 7) rfl g _ (bvs b).toArray _ rfl HG2.out.1.drew Tryz.underlying106 rfl (size_blockOf HB64.out)) ?_
        try simp only [Act.put, List.setIfInBounds_toArray, List.set_cons_zero, List.set_cons_succ]
        refine wpOrd_b (by rfl) (fun K hK => ?_)
        go_simp
        refine (disk_write (HL2.out.disk.below (Below.refl _ _).drew) hxk HB64.out).mono ?_
        rintro e w3 ⟨rfl, hd3, ht3⟩
        refine hK (fun _ => True) _ _ trivial ?_
        clear hK K
        try simp only [Act.put, List.setIfInBounds_toArray, List.set_cons_zero, List.set_cons_succ]
        iterate 1 (refine wpOrd_q (v := ?_) (by rfl) (fun W hW => ?_) ?_; rotate_left; (focus (go_simp; try with_reducible rfl)); try simp only [Act.put, List.setIfInBounds_toArray, List.set_cons_zero, List.set_cons_succ])
        refine wpOrd_nil ?_
        have hL3 : LogAt w3 ll dd rr (Dk.set x b) := LogAt.two (w := wc) HL2.out hd3 ((Tch.refl _ _ _).drew.trans ht3)
        have hT3 := HT2.out.drew.trans (ht3.mono (by have := HT2.out.size; exact this) fun _ _ h => h)
        have HL3 := hide hL3
        have HT3 := hide hT3
        clear hL3 hT3 hd3 ht3 c0 cl
        go_wp2
        go_roundg (l.length - (k + 1))
        case rel => exact ⟨k + 1, Dk.set x b, by omega, rfl, by go_num, HL3, HT3, hide ⟨HX.out, by rw [List.length_set]; exact HLN.out⟩⟩
        case measure => have := HGH.out; omega
    · have hD2 : instD D 0 l = Dk := by rw [← HI.out.1, List.drop_of_length_le hkl]; rfl
      have HE := hide (And.intro hD2 HI.out.2)
      have hkf : decide ((k : Int) < l.length) = false := by simp; omega
      clear hD2 HI
      by_cases hl0 : l = []
      · have hz : ((l.length : Int) == 0) = true := by rw [hl0]; rfl
        have HL0 := hide hl0
        clear hl0
        go_wp2
        go_returns
        refine ⟨rfl, ?_, HT.out⟩
        unfold instAll
        rw [if_pos HL0.out]
        have h1 := HE.out.1
        rw [HL0.out, instD] at h1
        rw [h1]
        exact HL.out
      · have hz : ((l.length : Int) == 0) = false := by
          have : 0 < l.length := List.length_pos_iff.2 hl0
          simp; omega
        have HL0 := hide hl0
        have hfo := format_ok HL.out (by rw [HE.out.2]; exact hm)
        have HFO := hide hfo
        clear hl0 hfo
        go_wp2_with fail
        refine HFO.out.mono ?_
        rintro e w3 ⟨rfl, hL3, ht3⟩
        have HF := hide (And.intro hL3 (HT.out.trans (ht3.mono HT.out.size fun _ _ h => h)))
        clear hL3 ht3 HFO
        go_wp2
        go_returns
        refine ⟨rfl, ?_, HF.out.2⟩
        unfold instAll
        rw [if_neg HL0.out, HE.out.1]
        exact HF.out.1
end
end Go.Proofs.YthmkgohfeahdhaaGreat
namespace Go.Proofs.YthmkgohfeahdhaaGreat
open Go.RowKit
set_option linter.unusedSimpArgs false
set_option linter.unusedVariables false

theorem Rd.tch {w w' : World} {S : Nat → Prop} {A : Option Addr} {n sz : Nat} {xs : List Value} (h : Rd w w.heap.size sz A n xs) (ht : Tch w.heap.size S w w') (hA : ∀ b, A = some b → ¬ S b.block) : Rd w' w'.heap.size sz A n xs :=
  ⟨h.1, fun hn => by
    obtain ⟨b, o, e, hb, hc⟩ := h.2 hn
    exact ⟨b, o, e, Nat.lt_of_lt_of_le hb ht.size, fun j u hu => (World.cell?_of_block (w := w) (ht.block b hb (hA _ e))).trans (hc j u hu)⟩⟩
section
variable {w w' : World} {i : Ids} {s : Sto}
theorem TxAt.write (h : TxAt w i s) {D' : List BlkV} (hl : LogAt w' i.ll i.dd i.rr D') (ht : Tch w.heap.size (fun x => x = i.dd ∨ x = i.rr) w w') (hn : D'.length = s.D.length) : TxAt w' i { s with D := D' } :=
  ⟨h.txn.tch ht h.txn.lt (by rintro (e | e); exact h.ntd e; exact h.ntr e), h.map.keep (ht.block _ h.map.lt (by rintro (e | e); exact h.nmd e; exact h.nmr e)), hl,
    ⟨hl.disk.len, h.ok.mlen, fun x hx => by rw [hn]; exact h.ok.keys x hx, by rw [hn]; exact h.ok.many, by rw [hn]; exact h.ok.most, h.ok.few, h.ok.nodup, h.ok.off⟩⟩

set_option maxRecDepth 100000 in
set_option maxHeartbeats 1600000 in
theorem commit_ok (h : TxAt w i s) (hb : s.bad = 0) :
    Calls Tryz.prog 26 #[.pointer (some ⟨i.tt, 0, none⟩)] w fun e w' => ∃ l, e = .returned (.int .i64 0) ∧ l.Perm (s.M.map (·.1)) ∧ TxAt w' i ⟨commitD s l, [], 0⟩ ∧ Tch w.heap.size i.own w w' := by
  have c2 := h.txn.cell 2
  simp only [hb] at c2
  have cl := h.txn.lt
  have H := hide h
  have HB := hide hb
  have h11 : IntKind.i64.wrap 2 = 2 := rfl
  clear h hb
  go_enter Tryz.func26, Tryz.ntmps26
  go_wp2_with fail
  refine (blocks_ok H.out).mono ?_
  rintro e w1 ⟨A, c, l, rfl, hR, hp, hb1, hAn⟩
  have hx1 := H.out.below hb1
  have hlen : l.length ≤ 30 := by rw [hp.length_eq, List.length_map]; exact H.out.ok.few
  have hmem : ∀ n ∈ l, n < s.D.length ∧ Sto.free n := fun n hn => by
    obtain ⟨x, hx, rfl⟩ := List.mem_map.1 (hp.mem_iff.1 hn)
    exact ⟨H.out.ok.keys x hx, H.out.ok.off x hx⟩
  have hmost := H.out.ok.most
  have h32 := H.out.ok.many
  have HX1 := hide hx1
  have HR := hide hR
  have HP := hide hp
  have HB1 := hide hb1
  have HA := hide (show ∀ b, A = some b → ¬ i.own b.block from fun b e hk => H.out.other_new (hAn b e) hk)
  have HM := hide hmem
  clear hR hp hb1 hx1 hmem hAn c2 cl
  by_cases hl0 : l = []
  · have hz : ((l.length : Int) == 0) = true := by rw [hl0]; rfl
    have HL0 := hide hl0
    clear hl0
    go_wp2
    go_returns
    refine ⟨l, rfl, HP.out, ?_, Tch.of_below HB1.out⟩
    have hM : s.M = [] := by
      have := HP.out.length_eq
      rw [HL0.out] at this
      simp at this
      exact List.eq_nil_of_length_eq_zero this.symm
    have he : (⟨commitD s l, [], 0⟩ : Sto) = s := by
      unfold commitD
      rw [if_pos HL0.out]
      obtain ⟨D, M, bad⟩ := s
      simp only at hM ⊢
      rw [hM, ← HB.out]
    rw [he]
    exact HX1.out
  · have hz : ((l.length : Int) == 0) = false := by
      have : 0 < l.length := List.length_pos_iff.2 hl0
      simp; omega
    have HL0 := hide hl0
    clear hl0
    go_upto_region 8 with (fail)
    have c0 := HX1.out.txn.cell 0
    have c1 := HX1.out.txn.cell 1
    have cl := HX1.out.txn.lt
    have e0 := HX1.out.log.log.cell 0
    have e1 := HX1.out.log.log.cell 1
    have el := HX1.out.log.log.lt
    go_quiet (fail)
    refine at_world (fun W => TxAt W i s ∧ Rd W W.heap.size 1 A l.length (nvs l) ∧ Tch w.heap.size i.own w W) ⟨HX1.out.below (by first | exact below_drewN (Below.refl _ _) _ | exact (Below.refl _ _).drew), by exact HR.out, (Tch.of_below HB1.out).trans ((Tch.of_below (by first | exact below_drewN (Below.refl _ _) _ | exact (Below.refl _ _).drew)))⟩ (fun w2 h2 => ?_)
    obtain ⟨hx2, hR2, hT2⟩ := h2
    have HX2 := hide hx2
    have HR2 := hide hR2
    have HT2 := hide hT2
    clear c0 c1 cl e0 e1 el hx2 hR2 hT2 HX1 HR HB1
    go_wp2_with fail
    go_loopg [44] l.length (fun gh x44 wr => ∃ (k : Nat) (Dk : List BlkV), k ≤ l.length ∧ gh = l.length - k ∧ x44 = .int .i64 (k : Int) ∧ Hid (TxAt wr i { s with D := Dk }) ∧ Hid (Tch w2.heap.size (fun x => x = i.dd ∨ x = i.rr) w2 wr) ∧ Hid (logD s.M Dk k (l.drop k) = logD s.M s.D 0 l ∧ Dk.length = s.D.length))
    case atStart => exact ⟨0, s.D, Nat.zero_le _, rfl, rfl, HX2, hide (Tch.refl _ _ _), hide ⟨by simp, rfl⟩⟩
    case round =>
      obtain ⟨k, Dk, hk, hg, rfl, HX, HT, HI⟩ := hrel
      have HGH := hide hg
      clear hg
      have HRr := hide (HR2.out.tch HT.out (fun b e hs => HA.out b e (by rcases hs with h | h; exact .inr (.inr (.inl h)); exact .inr (.inr (.inr h)))))
      rcases Nat.lt_or_ge k l.length with hkl | hkl
      · have hkz : (k : Int) < l.length := by omega
        obtain ⟨bA, o, hAe, hbA, hc⟩ := HRr.out.2 (by omega)
        subst hAe
        have y := hc k _ (nvs_get (List.getElem?_eq_getElem hkl))
        have hx := HM.out _ (List.getElem_mem hkl)
        have hin : l[k] ∈ s.M.map (·.1) := HP.out.mem_iff.1 (List.getElem_mem hkl)
        have HX3 : Hid (logD s.M (Dk.set (2 + k) ((mget s.M l[k]).getD zeroB)) (k + 1) (l.drop (k + 1)) = logD s.M s.D 0 l) := hide (by
          have := HI.out.1
          rw [List.drop_eq_getElem_cons hkl, logD] at this
          exact this)
        have hb64 := mget_lens H.out.ok.mlen l[k]
        generalize l[k] = x at y hx HX3 hin hb64
        have hx16 : x < 65536 := Nat.lt_of_lt_of_le hx.1 hmost
        have hkv : (.int .i64 (x : Int) : Value) = nkv (nk x) := (nkv_nk hx16).symm
        have hv : (if false = true then .tuple #[(mget (dm s.M) (nk x)).getD (.agg (bvs zeroB).toArray), .bool (mget (dm s.M) (nk x)).isSome] else (mget (dm s.M) (nk x)).getD (.agg (bvs zeroB).toArray)) = bval ((mget s.M x).getD zeroB) := by
          rw [dm_get H.out.ok.small hx16]
          cases mget s.M x <;> rfl
        generalize (mget s.M x).getD zeroB = b at hv HX3 hb64
        have e2 : IntKind.i64.wrap (2 + (k : Int)) = ((2 + k : Nat) : Int) := by rw [IntWalk.i64_in _ (by omega)]; omega
        have hjk : 2 + k < Dk.length := by rw [HI.out.2]; omega
        have HLN := hide HI.out.2
        have HKV := hide hkv
        have HV := hide hv
        have HB64 := hide hb64
        have HMP := hide HX.out.map.is
        clear hc hx hin hkv hv hb64 HI
        have c1 := HX.out.txn.cell 1
        have cl := HX.out.txn.lt
        generalize hj : 2 + k = j at e2 hjk HX3
        have HJ := hide hj
        clear hj
        go_wp2_with (first | ((with_reducible refine at_look 181 (.tmp 57) (.tmp 58) false ?_); refine wpList_lookup_map rfl 181 (.tmp 57) (.tmp 58) false rfl (nk x) (by rfl) HKV.out HMP.out nEnc Tryz.underlying181 (zero_block _) _ HV.out ?_) | fail)
        refine (disk_write HX.out.log.disk hjk HB64.out).mono ?_
        rintro e w3 ⟨rfl, hd3, ht3⟩
        have hL3 := HX.out.log.two hd3 ht3
        have hx3 := HX.out.write hL3 ht3 (by rw [List.length_set])
        have HX4 := hide hx3
        have HT4 := hide (HT.out.trans (ht3.mono HT.out.size fun _ _ h => h))
        clear hd3 ht3 hL3 hx3 c1 cl
        go_wp2
        go_roundg (l.length - (k + 1))
        case rel => exact ⟨k + 1, Dk.set j b, by omega, rfl, by go_num, HX4, HT4, hide ⟨HX3.out, by rw [List.length_set]; exact HLN.out⟩⟩
        case measure => have := HGH.out; omega
      · have hD2 : logD s.M s.D 0 l = Dk := by rw [← HI.out.1, List.drop_of_length_le hkl]; rfl
        have HE := hide (And.intro hD2 HI.out.2)
        have hkf : decide ((k : Int) < l.length) = false := by simp; omega
        have hDl : 1 < Dk.length := by rw [HI.out.2]; omega
        clear hD2 HI
        go_wp2_with fail
        refine (head_ok wr HRr.out hlen (fun x hx => Nat.lt_of_lt_of_le (HM.out x hx).1 hmost)).mono ?_
        rintro e w3 ⟨rfl, hb3⟩
        have hx3 := HX.out.below hb3
        have HX3 := hide hx3
        have HT3 := hide (HT.out.trans ((Tch.of_below hb3).mono HT.out.size fun _ _ h => h))
        clear hb3 hx3
        go_wp2_with fail
        refine (disk_write HX3.out.log.disk (k := 1) hDl (headB_length l)).mono ?_
        rintro e w4 ⟨rfl, hd4, ht4⟩
        have hx4 := HX3.out.write (HX3.out.log.two hd4 ht4) ht4 (by rw [List.length_set])
        have HX4 := hide hx4
        have HT4 := hide (HT3.out.trans (ht4.mono HT3.out.size fun _ _ h => h))
        clear hd4 ht4 hx4 HX3 HT3
        go_wp2_with fail
        refine (drop_ok HX4.out).mono ?_
        rintro e w5 ⟨rfl, hx5, ht5⟩
        have hsub : ∀ k, (k = i.dd ∨ k = i.rr) → i.own k := fun k h => by rcases h with h | h; exact .inr (.inr (.inl h)); exact .inr (.inr (.inr h))
        have HT5 := hide ((HT4.out.sub hsub).trans (ht5.mono HT4.out.size fun _ _ h => h))
        have hR5 := HR2.out.tch HT5.out (fun b e hs => HA.out b e hs)
        have HX5 := hide hx5
        have hins := install_ok (c := c) HX5.out.log hR5 (fun b e hs => HA.out b e (hsub _ hs)) (fun x hx => by simp only [List.length_set]; rw [HE.out.2]; exact (HM.out x hx).1) (by simp only [List.length_set]; rw [HE.out.2]; omega) hlen (by simp only [List.length_set]; rw [HE.out.2]; exact h32)
        have HINS := hide hins
        have c0 := HX5.out.txn.cell 0
        have cl := HX5.out.txn.lt
        clear hx5 ht5 hR5 hins HT4 HX4
        go_wp2_with fail
        refine HINS.out.mono ?_
        rintro e w6 ⟨rfl, hL6, ht6⟩
        have hx6 := HX5.out.write hL6 ht6 (by simp only [instAll]; split; rfl; rw [List.length_set, instD_length])
        have hT6 := HT2.out.trans ((HT5.out.trans ((ht6.sub hsub).mono HT5.out.size fun _ _ h => h)).mono HT2.out.size fun _ _ h => h)
        have HF := hide (And.intro hx6 hT6)
        clear hL6 ht6 hx6 hT6 HINS c0 cl
        go_wp2
        go_returns
        refine ⟨l, rfl, HP.out, ?_, HF.out.2⟩
        have he : instAll (Dk.set 1 (headB l)) l = commitD s l := by
          unfold instAll commitD
          rw [if_neg HL0.out, if_neg HL0.out, HE.out.1]
        rw [← he]
        exact HF.out.1
end
end Go.Proofs.YthmkgohfeahdhaaGreat
namespace Go.Proofs.YthmkgohfeahdhaaGreat
open Go.RowKit
set_option linter.unusedSimpArgs false
set_option linter.unusedVariables false


def upd {α : Type} (f : Nat → α) (k : Nat) (v : α) : Nat → α := fun j => if j = k then v else f j
theorem upd_same {α : Type} (f : Nat → α) (k : Nat) (v : α) : upd f k v k = v := by simp [upd]
theorem upd_other {α : Type} (f : Nat → α) {k j : Nat} (v : α) (h : j ≠ k) : upd f k v j = f j := by simp [upd, h]
/-- a group: which blocks are taken, their bytes, its nodes -/
structure GS where
  tk : Nat → Bool
  by_ : Nat → BlkV
  nd : Nat → NodeV
structure GS.Ok (G : GS) : Prop where
  dir : ∀ num, (G.nd num).dir.length = 6
  chk : ∀ num, checkN (G.nd num) = true
  len : ∀ k, (G.by_ k).length = 64
/-- a group lies in a transaction's blocks -/
structure Sto.Is (s : Sto) (g : GeoN) (G : GS) : Prop where
  bit : ∀ k, k < g.blocks → s.bit g.base k = G.tk k
  byt : ∀ k, k < g.blocks → s.at_ (g.data + k) = G.by_ k
  nod : ∀ num, 1 ≤ num → num ≤ g.nodes → s.nodeX g num = encN (G.nd num)
namespace GS
def none : GS := ⟨fun _ => false, fun _ => zeroB, fun _ => NodeV.zero⟩
def take (G : GS) (k : Nat) : GS := ⟨upd G.tk k true, upd G.by_ k zeroB, G.nd⟩
def give (G : GS) (k : Nat) : GS := ⟨upd G.tk k false, G.by_, G.nd⟩
def put (G : GS) (k : Nat) (b : BlkV) : GS := ⟨G.tk, upd G.by_ k b, G.nd⟩
def set (G : GS) (num : Nat) (n : NodeV) : GS := ⟨G.tk, G.by_, upd G.nd num n⟩
theorem none_ok : none.Ok := ⟨fun _ => rfl, fun _ => rfl, fun _ => zeroB_length⟩
theorem Ok.take {G : GS} (h : G.Ok) (k : Nat) : (G.take k).Ok := ⟨h.dir, h.chk, fun j => by simp only [GS.take, upd]; split; exact zeroB_length; exact h.len j⟩
theorem Ok.give {G : GS} (h : G.Ok) (k : Nat) : (G.give k).Ok := ⟨h.dir, h.chk, h.len⟩
theorem Ok.put {G : GS} (h : G.Ok) (k : Nat) {b : BlkV} (hb : b.length = 64) : (G.put k b).Ok := ⟨h.dir, h.chk, fun j => by simp only [GS.put, upd]; split; exact hb; exact h.len j⟩
theorem Ok.set {G : GS} (h : G.Ok) (num : Nat) {n : NodeV} (hd : n.dir.length = 6) (hc : checkN n = true) : (G.set num n).Ok :=
  ⟨fun j => by simp only [GS.set, upd]; split; exact hd; exact h.dir j, fun j => by simp only [GS.set, upd]; split; exact hc; exact h.chk j, h.len⟩
/-- the first block that isn't taken -/
def free (G : GS) (m : Nat) : Option Nat := (List.range m).find? fun k => !G.tk k
def cnt (G : GS) (m : Nat) : Nat := ((List.range m).filter G.tk).length
end GS
theorem find_congr {α : Type} {p q : α → Bool} : ∀ {l : List α}, (∀ x ∈ l, p x = q x) → l.find? p = l.find? q
  | [], _ => rfl
  | a :: r, h => by
    simp only [List.find?_cons, h a (by simp), find_congr (l := r) fun x hx => h x (by simp [hx])]
/-- only these blocks are to be written -/
def Sto.In (s : Sto) (L : List Nat) : Prop := ∀ x ∈ s.M, x.1 ∈ L
theorem nodup_le : ∀ {l L : List Nat}, l.Nodup → (∀ x ∈ l, x ∈ L) → l.length ≤ L.length
  | [], _, _, _ => Nat.zero_le _
  | a :: r, L, hn, h => by
    rw [List.nodup_cons] at hn
    have ha : a ∈ L := h a (by simp)
    have := nodup_le (l := r) (L := L.erase a) hn.2 (fun x hx => (List.mem_erase_of_ne (by rintro rfl; exact hn.1 hx)).2 (h x (by simp [hx])))
    rw [List.length_erase_of_mem ha] at this
    have : 0 < L.length := List.length_pos_of_mem ha
    simp only [List.length_cons]
    omega
theorem Sto.In.len {s : Sto} {L : List Nat} (h : s.In L) (hk : s.Ok) : s.M.length ≤ L.length := by
  have := nodup_le hk.nodup (L := L) (fun x hx => by obtain ⟨y, hy, rfl⟩ := List.mem_map.1 hx; exact h y hy)
  rwa [List.length_map] at this
/-- what a call in a group leaves: the disk, the fault, what is outside; which blocks are to be written now -/
structure Sto.Step (s s' : Sto) (g : GeoN) (L : List Nat) : Prop where
  D : s'.D = s.D
  bad : s'.bad = s.bad
  far : ∀ n, (n < g.base ∨ g.data + g.blocks ≤ n) → s'.at_ n = s.at_ n
  key : ∀ x ∈ s'.M, (∃ y ∈ s.M, y.1 = x.1) ∨ x.1 ∈ L
theorem Sto.Step.refl (s : Sto) (g : GeoN) (L : List Nat) : s.Step s g L := ⟨rfl, rfl, fun _ _ => rfl, fun x hx => .inl ⟨x, hx, rfl⟩⟩
theorem Sto.Step.trans {s1 s2 s3 : Sto} {g : GeoN} {L L' : List Nat} (h : s1.Step s2 g L) (h' : s2.Step s3 g L') : s1.Step s3 g (L ++ L') :=
  ⟨h'.D.trans h.D, h'.bad.trans h.bad, fun n hn => (h'.far n hn).trans (h.far n hn), fun x hx => by
    rcases h'.key x hx with ⟨y, hy, e⟩ | hx
    · rcases h.key y hy with ⟨z, hz, e'⟩ | hy
      · exact .inl ⟨z, hz, e'.trans e⟩
      · exact .inr (by rw [← e]; simp [hy])
    · exact .inr (by simp [hx])⟩
theorem Sto.Step.mono {s1 s2 : Sto} {g : GeoN} {L L' : List Nat} (h : s1.Step s2 g L) (hL : ∀ x ∈ L, x ∈ L') : s1.Step s2 g L' :=
  ⟨h.D, h.bad, h.far, fun x hx => (h.key x hx).imp id (hL _)⟩
theorem Sto.Step.in_ {s1 s2 : Sto} {g : GeoN} {L K : List Nat} (h : s1.Step s2 g L) (hK : s1.In K) : s2.In (K ++ L) := fun x hx => by
  rcases h.key x hx with ⟨y, hy, e⟩ | hx
  · rw [← e]; exact List.mem_append_left _ (hK y hy)
  · exact List.mem_append_right _ hx
theorem Sto.In.mono {s : Sto} {L L' : List Nat} (h : s.In L) (hL : ∀ x ∈ L, x ∈ L') : s.In L' := fun x hx => hL _ (h x hx)

section
variable {s s' : Sto} {f k j n num : Nat} {b : BlkV} {on : Bool} {g u : GeoN} {G : GS}
theorem nodeX_of (h : s'.at_ (g.base + g.bitmap + (num - 1) / 2) = s.at_ (g.base + g.bitmap + (num - 1) / 2)) : s'.nodeX g num = s.nodeX g num := by
  unfold Sto.nodeX; rw [h]
theorem bit_of (h : s'.at_ (f + k / 512) = s.at_ (f + k / 512)) : s'.bit f k = s.bit f k := by
  unfold Sto.bit; rw [h]
/-- another group is what it was -/
theorem Sto.Is.keep (h : s.Is u G) (hu : u.Ok n) (ha : ∀ m, u.base ≤ m → m < u.data + u.blocks → s'.at_ m = s.at_ m) : s'.Is u G := by
  have h1 := hu.data; have h2 := hu.map; have h3 := hu.tab
  exact ⟨fun k hk => (bit_of (ha _ (by omega) (by omega))).trans (h.bit k hk), fun k hk => (ha _ (by omega) (by omega)).trans (h.byt k hk),
    fun num k1 k2 => (nodeX_of (ha _ (by omega) (by omega))).trans (h.nod num k1 k2)⟩
theorem Sto.Is.far {L : List Nat} (h : s.Is u G) (hu : u.Ok n) (hs : s.Step s' g L) (ha : u.data + u.blocks ≤ g.base ∨ g.data + g.blocks ≤ u.base) : s'.Is u G :=
  h.keep hu fun m h1 h2 => hs.far m (by omega)
theorem Sto.Is.commit (h : s.Is u G) (hu : u.Ok n) (hs : s.Ok) {l : List Nat} (hp : l.Perm (s.M.map (·.1))) : Sto.Is ⟨commitD s l, [], 0⟩ u G :=
  h.keep hu fun m h1 h2 => commit_at hs hp (.inr (by have := hu.base; omega))
theorem Sto.Is.nodeV (h : s.Is g G) (hG : G.Ok) (h1 : 1 ≤ num) (h2 : num ≤ g.nodes) : s.nodeV g num = G.nd num := by
  unfold Sto.nodeV
  rw [h.nod num h1 h2, isN_enc (hG.dir num), dec_enc (hG.dir num), if_pos (hG.chk num)]
theorem Sto.Is.nodeE (h : s.Is g G) (hG : G.Ok) (h1 : 1 ≤ num) (h2 : num ≤ g.nodes) : s.nodeE g num = 0 := by
  unfold Sto.nodeE
  rw [h.nod num h1 h2, isN_enc (hG.dir num), if_pos (hG.chk num)]
theorem Sto.Is.free (h : s.Is g G) : s.freeBit g.base g.blocks = G.free g.blocks :=
  find_congr fun x hx => by rw [h.bit x (List.mem_range.1 hx)]
theorem Sto.Is.cnt (h : s.Is g G) : s.cntBit g.base g.blocks = G.cnt g.blocks := by
  unfold Sto.cntBit GS.cnt
  rw [List.filter_congr fun x hx => h.bit x (List.mem_range.1 hx)]

theorem zero_enc : encN NodeV.zero = List.replicate 32 0 := by decide +kernel
theorem begun_is (hu : u.Ok n) : Sto.Is ⟨begD n, [], 0⟩ u GS.none := by
  have h1 := hu.base
  refine ⟨fun k hk => begD_bit (by omega), fun k hk => begD_at (by have := hu.data; omega), fun num h1 h2 => ?_⟩
  unfold Sto.nodeX GS.none
  rw [begD_at (by omega), zero_enc, zeroB, List.drop_replicate, List.take_replicate]
  congr 1
  omega

theorem put_mem {x : Nat × BlkV} (h : x ∈ (s.put n b).M) : x ∈ s.M ∨ x.1 = n := by
  rcases mput_mem (L := s.M) h with h | rfl
  · exact .inl h
  · exact .inr rfl

theorem wrB_same {bs l : List UInt8} {a : Nat} (h : a + l.length ≤ bs.length) : ((wrB bs a l).drop a).take l.length = l := by
  unfold wrB
  rw [List.append_assoc, List.drop_append, List.drop_of_length_le (by rw [List.length_take]; omega), List.length_take, Nat.min_eq_left (by omega), Nat.sub_self, List.drop_zero, List.nil_append, List.take_left']
  rfl
theorem wrB_other {bs l : List UInt8} {a c m : Nat} (h : a + l.length ≤ bs.length) (hd : c + m ≤ a ∨ a + l.length ≤ c) : ((wrB bs a l).drop c).take m = (bs.drop c).take m := by
  have ht : (bs.take a).length = a := by rw [List.length_take]; omega
  apply List.ext_getElem?
  intro j
  simp only [List.getElem?_take, List.getElem?_drop]
  split
  · unfold wrB
    rcases hd with hd | hd
    · rw [List.append_assoc, List.getElem?_append_left (by omega), List.getElem?_take, if_pos (by omega)]
    · rw [List.getElem?_append_right (by simp only [List.length_append]; omega), List.getElem?_drop]
      congr 1
      simp only [List.length_append]
      omega
  · rfl
/-- Set -/
theorem is_set {v : NodeV} (hs : s.Ok) (hg : g.Ok s.D.length) (h1' : 1 ≤ num) (h2' : num ≤ g.nodes) (hv : v.dir.length = 6) (h : s.Is g G) : (s.setNode g num v).Is g (G.set num v) ∧ s.Step (s.setNode g num v) g [g.base + g.bitmap + (num - 1) / 2] := by
  have h1 := hg.data; have h2 := hg.map; have h3 := hg.tab
  have hl := Sto.at_length hs (g.base + g.bitmap + (num - 1) / 2)
  have he := encN_length hv
  refine ⟨⟨fun j hj => ?_, fun j hj => ?_, fun m n1 n2 => ?_⟩, ⟨rfl, rfl, fun n hn => ?_, fun x hx => ?_⟩⟩
  · unfold Sto.setNode; rw [bit_put_far (by omega)]; exact h.bit j hj
  · unfold Sto.setNode; rw [Sto.at_put, if_neg (by omega)]; exact h.byt j hj
  · simp only [GS.set, upd]
    by_cases e : m = num
    · subst e
      rw [if_pos rfl]
      unfold Sto.nodeX Sto.setNode
      rw [Sto.at_put, if_pos rfl]
      have := wrB_same (bs := s.at_ (g.base + g.bitmap + (m - 1) / 2)) (a := (m - 1) % 2 * 32) (l := encN v) (by omega)
      rwa [he] at this
    · rw [if_neg e, ← h.nod m n1 n2]
      by_cases e2 : (m - 1) / 2 = (num - 1) / 2
      · unfold Sto.nodeX Sto.setNode
        rw [Sto.at_put, if_pos (by omega), e2, wrB_other (by omega) (by omega)]
      · refine nodeX_of ?_
        unfold Sto.setNode
        rw [Sto.at_put, if_neg (by omega)]
  · unfold Sto.setNode; rw [Sto.at_put, if_neg (by omega)]
  · unfold Sto.setNode at hx
    rcases put_mem hx with hx | hx
    · exact .inl ⟨x, hx, rfl⟩
    · exact .inr (by simp [hx])
end
end Go.Proofs.YthmkgohfeahdhaaGreat
namespace Go.Proofs.YthmkgohfeahdhaaGreat
open Go.RowKit
set_option linter.unusedSimpArgs false
set_option linter.unusedVariables false

/-- a group lies open, over a transaction -/
structure GAt (w : World) (i : Ids) (s : Sto) (gg : Nat) (g : GeoN) (lab : Int) (G : GS) : Prop where
  tx : TxAt w i s
  gp : GroupAt w gg i.tt g lab
  ok : g.Ok s.D.length
  is : s.Is g G
  gok : G.Ok
/-- what a call on it leaves -/
def GRes (w w' : World) (i : Ids) (s : Sto) (gg : Nat) (g : GeoN) (lab : Int) (G' : GS) (L : List Nat) : Prop :=
  ∃ s', GAt w' i s' gg g lab G' ∧ s.Step s' g L ∧ Tch w.heap.size i.own w w'
section
variable {w w' : World} {i : Ids} {s : Sto} {gg : Nat} {g : GeoN} {lab : Int} {G G' : GS} {L : List Nat}
theorem GAt.below (h : GAt w i s gg g lab G) (hb : Below w.heap.size w w') : GAt w' i s gg g lab G := ⟨h.tx.below hb, h.gp.below hb, h.ok, h.is, h.gok⟩
theorem GAt.res (h : GAt w i s gg g lab G) {s' : Sto} (hx : TxAt w' i s') (ht : Tch w.heap.size i.own w w') (hi : s'.Is g G' ∧ s.Step s' g L) (hk : G'.Ok) : GRes w w' i s gg g lab G' L :=
  ⟨s', ⟨hx, h.gp.tch h.tx ht, by rw [hi.2.D]; exact h.ok, hi.1, hk⟩, hi.2, ht⟩
theorem GAt.same (h : GAt w i s gg g lab G) (hx : TxAt w' i s) (ht : Tch w.heap.size i.own w w') : GRes w w' i s gg g lab G L :=
  h.res hx ht ⟨h.is, Sto.Step.refl _ _ _⟩ h.gok
theorem gs_free_lt {m k : Nat} (hf : G.free m = some k) : k < m := List.mem_range.1 (List.mem_of_find?_eq_some hf)
end
end Go.Proofs.YthmkgohfeahdhaaGreat
namespace Go.Proofs.YthmkgohfeahdhaaGreat
open Go.RowKit
set_option linter.unusedSimpArgs false
set_option linter.unusedVariables false

/-- a row of blocks, read at one -/
theorem Rd.block {w : World} {B n : Nat} {A : Option Addr} {D : List BlkV} (h : Rd w B 64 A n (flatB D)) (hD : ∀ b ∈ D, b.length = 64) {k : Nat} {b : BlkV} (hk : D[k]? = some b) :
    ∃ g o, A = some ⟨g, o, none⟩ ∧ g < B ∧ w.rangeAt g (o + k * 64) (bvs b) := by
  have hn : n = D.length := by have := h.1; rw [flatB_length hD] at this; omega
  have hkl : k < D.length := (List.getElem?_eq_some_iff.1 hk).1
  obtain ⟨g, o, hA, hg, hc⟩ := h.2 (by omega)
  refine ⟨g, o, hA, hg, fun j v hj => ?_⟩
  have hb : b.length = 64 := hD b (List.mem_of_getElem? hk)
  have hj64 : j < 64 := by have := (List.getElem?_eq_some_iff.1 hj).1; rw [bvs_length, hb] at this; exact this
  have := hc (64 * k + j) v (by rw [flatB_get hD hk hj64]; exact hj)
  rw [show o + k * 64 + j = o + (64 * k + j) from by omega]
  exact this
section
variable {w w' : World} {dd rr : Nat} {D : List BlkV}
end
end Go.Proofs.YthmkgohfeahdhaaGreat
namespace Go.Proofs.YthmkgohfeahdhaaGreat
open Go.RowKit
set_option linter.unusedSimpArgs false
set_option linter.unusedVariables false

/-- a pointer in a block -/
def ptrB (b : BlkV) (i : Nat) : Nat := (b.getD (2 * i) 0).toNat + 256 * (b.getD (2 * i + 1) 0).toNat
/-- a block with a pointer changed -/
def pointB (b : BlkV) (i n : Nat) : BlkV := put2B b (2 * i) n
theorem pointB_length (b : BlkV) (i n : Nat) : (pointB b i n).length = b.length := put2B_length _ _ _
theorem ptrB_lt (b : BlkV) (i : Nat) : ptrB b i < 65536 := by
  have h1 := (b.getD (2 * i) 0).toNat_lt
  have h2 := (b.getD (2 * i + 1) 0).toNat_lt
  unfold ptrB
  omega
theorem getD_set_ (b : List UInt8) (i j : Nat) (x : UInt8) (hi : i < b.length) : (b.set i x).getD j 0 = if i = j then x else b.getD j 0 := by
  simp only [List.getD_eq_getElem?_getD, List.getElem?_set]
  by_cases h : i = j
  · subst h; simp [hi]
  · simp [h]
theorem ptr_point {b : BlkV} (hb : b.length = 64) {i n : Nat} (hi : i < 32) (hn : n < 65536) (j : Nat) : ptrB (pointB b i n) j = if j = i then n else ptrB b j := by
  unfold ptrB pointB put2B
  have h1 : 2 * i < b.length := by omega
  have h2 : 2 * i + 1 < (b.set (2 * i) (UInt8.ofNat (n % 256))).length := by rw [List.length_set]; omega
  rw [getD_set_ _ _ _ _ h2, getD_set_ _ _ _ _ h1, getD_set_ _ _ _ _ h2, getD_set_ _ _ _ _ h1]
  by_cases h : j = i
  · subst h
    rw [if_neg (by omega), if_pos rfl, if_pos rfl, if_pos rfl, UInt8.toNat_ofNat', UInt8.toNat_ofNat']
    omega
  · rw [if_neg (by omega), if_neg (by omega), if_neg (by omega), if_neg (by omega), if_neg h]
theorem ptr_zero (i : Nat) : ptrB zeroB i = 0 := by
  have h : ∀ j, zeroB.getD j 0 = 0 := fun j => by
    unfold zeroB
    rw [List.getD_eq_getElem?_getD, List.getElem?_replicate]
    split <;> rfl
  unfold ptrB
  rw [h, h]
  rfl

/-- how a file's block is come to: how many steps, which pointer at each -/
structure WayV where
  steps : Nat
  a0 : Nat
  a1 : Nat
def wayOf (n : Nat) : WayV := if n < 6 then ⟨0, n, 0⟩ else if n < 38 then ⟨1, n - 6, 0⟩ else ⟨2, (n - 38) / 32, (n - 38) % 32⟩
def WayV.cells (v : WayV) : Array Value := #[.int .i64 (v.steps : Int), .int .i64 (v.a0 : Int), .int .i64 (v.a1 : Int), .int .i64 0]
/-- where a node has the pointer with which a way begins -/
def WayV.root (v : WayV) : Nat := if v.steps = 0 then 4 + v.a0 else if v.steps = 1 then 10 else 11
def WayV.Ok (v : WayV) : Prop := (v.steps = 0 ∧ v.a0 < 6) ∨ (v.steps = 1 ∧ v.a0 < 32) ∨ (v.steps = 2 ∧ v.a0 < 32 ∧ v.a1 < 32)
theorem wayOf_ok {n : Nat} (h : n < 256) : (wayOf n).Ok := by
  unfold wayOf WayV.Ok
  split
  · left; simp; omega
  · split
    · right; left; simp; omega
    · right; right; simp; omega
theorem zero_way (w : World) : (zeroValue 268).run Tryz.prog w = .ok (.agg (WayV.cells ⟨0, 0, 0⟩)) w := by kernel_rfl
theorem size_way (v : WayV) : (Tryz.prog.info? 268).map (·.size) = some v.cells.size := by
  have : (Tryz.prog.info? 268).map (·.size) = some 4 := by kernel_rfl
  rw [this]; rfl
theorem way_one (v : WayV) : v.cells.all (·.oneCell') = true := by simp [WayV.cells, Value.oneCell']
section
variable {w w' : World}
set_option maxRecDepth 100000 in
set_option maxHeartbeats 800000 in
theorem place_ok' (w : World) {n : Nat} (hn : n < 256) :
    Calls Tryz.prog 143 #[.int .i64 (n : Int)] w fun e w' => e = .returned (.tuple #[.agg (wayOf n).cells, .bool true]) ∧ Below w.heap.size w w' := by
  have hz : (n : Int) ≤ 255 := by omega
  have t1 : decide ((256 : Int) ≤ (n : Int)) = false := by simp; omega
  obtain ⟨v, hv⟩ : ∃ v, wayOf n = v := ⟨_, rfl⟩
  rw [hv]
  go_enter Tryz.func143, Tryz.ntmps143
  go_upto_region 1 with (first | ((with_reducible refine at_alloc 268 ?_); refine wpList_alloc_as rfl 268 rfl _ (zero_way _) ?_) | fail)
  refine at_world (fun W => ∃ p, p = w.heap.size ∧ Below w.heap.size w W ∧ Blk W p 268 (WayV.cells ⟨0, 0, 0⟩)) ⟨_, rfl, (Below.refl _ _).alloc (Nat.le_refl _) _, Blk.new _ _ _⟩ (fun w1 hw1 => ?_)
  obtain ⟨p, hp, hb1, hP⟩ := hw1
  rw [← hp]
  have HB := hide (And.intro hb1 (show w.heap.size ≤ p from Nat.le_of_eq hp.symm))
  have HP := hide hP
  clear hp hb1 hP
  by_cases h6 : n < 6
  · have t2 : decide ((n : Int) < 6) = true := by simp; omega
    have e : v = ⟨0, n, 0⟩ := by rw [← hv]; unfold wayOf; rw [if_pos h6]
    clear hv
    subst e
    have hbw : ∀ W, (Instr.build 268 #[(0, .int .i64 0), (1, .agg #[.int .i64 (n : Int), .int .i64 0, .int .i64 0])]).run Tryz.prog W = .ok (.agg (WayV.cells ⟨0, n, 0⟩)) W := fun W => by kernel_rfl
    have hba : ∀ W, (Instr.build 266 #[(0, .int .i64 (n : Int))]).run Tryz.prog W = .ok (.agg #[.int .i64 (n : Int), .int .i64 0, .int .i64 0]) W := fun W => by kernel_rfl
    clear h6
    go_wp2_with (first | ((with_reducible refine at_build 266 #[(0, .tmp 15)] ?_); refine wpList_run rfl _ (exec_build 266 #[(0, .tmp 15)] rfl #[(0, .int .i64 (n : Int))] (by simp only [List.map_toArray, List.map_cons, List.map_nil]; rfl) _ (hba _)) ?_) | ((with_reducible refine at_build 268 #[(0, .const (.int .i64 0)), (1, .tmp 16)] ?_); refine wpList_run rfl _ (exec_build 268 #[(0, .const (.int .i64 0)), (1, .tmp 16)] rfl #[(0, .int .i64 0), (1, .agg #[.int .i64 (n : Int), .int .i64 0, .int .i64 0])] (by simp only [List.map_toArray, List.map_cons, List.map_nil]; rfl) _ (hbw _)) ?_) | ((with_reducible refine at_store 268 (.tmp 2) (.tmp 17) ?_); refine wpList_store_blk rfl 268 (.tmp 2) (.tmp 17) rfl p _ _ _ (by rfl) (by rfl) HP.out (size_way ⟨0, n, 0⟩) rfl (way_one ⟨0, n, 0⟩) (fun hB3 => ?_)) | ((with_reducible refine at_end ?_); refine bodyPost_ret (v := .tuple #[.agg (WayV.cells ⟨0, n, 0⟩), .bool true]) (results_run2 rfl (ResV.row rfl hB3 Tryz.underlying268 rfl (size_way _)) rfl) rfl ⟨rfl, below_setRow HB.out.1 HB.out.2 _⟩) | fail)
  · have t2 : decide ((n : Int) < 6) = false := by simp; omega
    by_cases h38 : n < 38
    · have t3 : decide ((n : Int) < 38) = true := by simp; omega
      have e : v = ⟨1, n - 6, 0⟩ := by rw [← hv]; unfold wayOf; rw [if_neg h6, if_pos h38]
      clear hv
      have e1 : IntKind.i64.wrap ((n : Int) - 6) = ((n - 6 : Nat) : Int) := by rw [IntWalk.i64_in _ (by omega)]; omega
      generalize n - 6 = a at e1 e
      subst e
      have hbw : ∀ W, (Instr.build 268 #[(0, .int .i64 1), (1, .agg #[.int .i64 (a : Int), .int .i64 0, .int .i64 0])]).run Tryz.prog W = .ok (.agg (WayV.cells ⟨1, a, 0⟩)) W := fun W => by kernel_rfl
      have hba : ∀ W, (Instr.build 266 #[(0, .int .i64 (a : Int))]).run Tryz.prog W = .ok (.agg #[.int .i64 (a : Int), .int .i64 0, .int .i64 0]) W := fun W => by kernel_rfl
      clear h6 h38
      go_wp2_with (first | ((with_reducible refine at_build 266 #[(0, .tmp 22)] ?_); refine wpList_run rfl _ (exec_build 266 #[(0, .tmp 22)] rfl #[(0, .int .i64 (a : Int))] (by simp only [List.map_toArray, List.map_cons, List.map_nil]; rfl) _ (hba _)) ?_) | ((with_reducible refine at_build 268 #[(0, .const (.int .i64 1)), (1, .tmp 23)] ?_); refine wpList_run rfl _ (exec_build 268 #[(0, .const (.int .i64 1)), (1, .tmp 23)] rfl #[(0, .int .i64 1), (1, .agg #[.int .i64 (a : Int), .int .i64 0, .int .i64 0])] (by simp only [List.map_toArray, List.map_cons, List.map_nil]; rfl) _ (hbw _)) ?_) | ((with_reducible refine at_store 268 (.tmp 2) (.tmp 24) ?_); refine wpList_store_blk rfl 268 (.tmp 2) (.tmp 24) rfl p _ _ _ (by rfl) (by rfl) HP.out (size_way ⟨1, a, 0⟩) rfl (way_one ⟨1, a, 0⟩) (fun hB3 => ?_)) | ((with_reducible refine at_end ?_); refine bodyPost_ret (v := .tuple #[.agg (WayV.cells ⟨1, a, 0⟩), .bool true]) (results_run2 rfl (ResV.row rfl hB3 Tryz.underlying268 rfl (size_way _)) rfl) rfl ⟨rfl, below_setRow HB.out.1 HB.out.2 _⟩) | fail)
    · have t3 : decide ((n : Int) < 38) = false := by simp; omega
      have e : v = ⟨2, (n - 38) / 32, (n - 38) % 32⟩ := by rw [← hv]; unfold wayOf; rw [if_neg h6, if_neg h38]
      clear hv
      have e1 : IntKind.i64.wrap ((n : Int) - 38) = ((n - 38 : Nat) : Int) := by rw [IntWalk.i64_in _ (by omega)]; omega
      have hq0 : ((n - 38 : Nat) : Int) ≤ 217 := by omega
      generalize n - 38 = q at e1 hq0 e
      have e2 : ((q : Int)).tdiv 32 = ((q / 32 : Nat) : Int) := by rw [Int.tdiv_eq_ediv_of_nonneg (by omega)]; omega
      have e3 : ((q : Int)).tmod 32 = ((q % 32 : Nat) : Int) := by rw [Int.tmod_eq_emod_of_nonneg (by omega)]; omega
      have hbw : ∀ W, (Instr.build 268 #[(0, .int .i64 2), (1, .agg #[.int .i64 ((q / 32 : Nat) : Int), .int .i64 ((q % 32 : Nat) : Int), .int .i64 0])]).run Tryz.prog W = .ok (.agg (WayV.cells ⟨2, q / 32, q % 32⟩)) W := fun W => by kernel_rfl
      have hba : ∀ W, (Instr.build 266 #[(0, .int .i64 ((q / 32 : Nat) : Int)), (1, .int .i64 ((q % 32 : Nat) : Int))]).run Tryz.prog W = .ok (.agg #[.int .i64 ((q / 32 : Nat) : Int), .int .i64 ((q % 32 : Nat) : Int), .int .i64 0]) W := fun W => by kernel_rfl
      have e4 : IntKind.i64.wrap ((q / 32 : Nat) : Int) = ((q / 32 : Nat) : Int) := IntWalk.i64_in _ (by omega)
      generalize q / 32 = a at *
      generalize q % 32 = b at *
      subst e
      clear h6 h38
      go_wp2_with (first | ((with_reducible refine at_build 266 #[(0, .tmp 28), (1, .tmp 30)] ?_); refine wpList_run rfl _ (exec_build 266 #[(0, .tmp 28), (1, .tmp 30)] rfl #[(0, .int .i64 (a : Int)), (1, .int .i64 (b : Int))] (by simp only [List.map_toArray, List.map_cons, List.map_nil]; rfl) _ (hba _)) ?_) | ((with_reducible refine at_build 268 #[(0, .const (.int .i64 2)), (1, .tmp 31)] ?_); refine wpList_run rfl _ (exec_build 268 #[(0, .const (.int .i64 2)), (1, .tmp 31)] rfl #[(0, .int .i64 2), (1, .agg #[.int .i64 (a : Int), .int .i64 (b : Int), .int .i64 0])] (by simp only [List.map_toArray, List.map_cons, List.map_nil]; rfl) _ (hbw _)) ?_) | ((with_reducible refine at_store 268 (.tmp 2) (.tmp 32) ?_); refine wpList_store_blk rfl 268 (.tmp 2) (.tmp 32) rfl p _ _ _ (by rfl) (by rfl) HP.out (size_way ⟨2, a, b⟩) rfl (way_one ⟨2, a, b⟩) (fun hB3 => ?_)) | ((with_reducible refine at_end ?_); refine bodyPost_ret (v := .tuple #[.agg (WayV.cells ⟨2, a, b⟩), .bool true]) (results_run2 rfl (ResV.row rfl hB3 Tryz.underlying268 rfl (size_way _)) rfl) rfl ⟨rfl, below_setRow HB.out.1 HB.out.2 _⟩) | fail)

theorem or_two {a b : Nat} (ha : a < 256) (hb : b < 256) : bits BinOp.or IntKind.u16 (a : Int) (((256 * b : Nat)) : Int) = ((a + 256 * b : Nat) : Int) := by
  have h := (bits_nat .u16 16 (by decide) (fun n h0 h1 => by rw [IntKind.wrap_u16]; omega) a (256 * b) (by omega) (by omega)).2
  rw [h]
  have : a ||| 256 * b = a + 256 * b := by
    rw [Nat.or_comm, Nat.add_comm]
    exact (Nat.two_pow_add_eq_or_of_lt (i := 8) ha b).symm
  rw [this]
set_option maxRecDepth 100000 in
set_option maxHeartbeats 800000 in
theorem pointer_ok (w : World) {b : BlkV} (hb : b.length = 64) {i : Nat} (hi : i < 32) :
    Calls Tryz.prog 146 #[bval b, .int .i64 (i : Int)] w fun e w' => e = .returned (.int .u16 (ptrB b i : Int)) ∧ Below w.heap.size w w' := by
  have hz : (i : Int) < 32 := by omega
  have e1 : IntKind.i64.wrap (2 * (i : Int)) = 2 * (i : Int) := IntWalk.i64_in _ (by omega)
  have e2 : IntKind.i64.wrap (2 * (i : Int) + 1) = 2 * (i : Int) + 1 := IntWalk.i64_in _ (by omega)
  obtain ⟨r, hr⟩ : ∃ r, ptrB b i = r := ⟨_, rfl⟩
  rw [hr]
  go_enter Tryz.func146, Tryz.ntmps146
  go_upto_region 1 with (fail)
  refine at_world (fun W => ∃ p, p = w.heap.size ∧ Below w.heap.size w W ∧ Blk W p 106 (bvs b).toArray) ⟨_, rfl, (Below.refl _ _).alloc (Nat.le_refl _) _, Blk.new _ _ _⟩ (fun w1 hw1 => ?_)
  obtain ⟨p, hp, hb1, hP⟩ := hw1
  rw [← hp]
  have HB := hide hb1
  have pl := hP.lt
  have c1 : w1.cell? ⟨p, 2 * i, none⟩ = some (.int .u8 ((b.getD (2 * i) 0).toNat : Int)) := (hP.cell (2 * i)).trans (by
    rw [List.getElem?_toArray, bvs_get, List.getElem?_eq_getElem (by omega), List.getD_eq_getElem?_getD, List.getElem?_eq_getElem (by omega)]; rfl)
  have c2 : w1.cell? ⟨p, 2 * i + 1, none⟩ = some (.int .u8 ((b.getD (2 * i + 1) 0).toNat : Int)) := (hP.cell (2 * i + 1)).trans (by
    rw [List.getElem?_toArray, bvs_get, List.getElem?_eq_getElem (by omega), List.getD_eq_getElem?_getD, List.getElem?_eq_getElem (by omega)]; rfl)
  have k1 := (b.getD (2 * i) 0).toNat_lt
  have k2 := (b.getD (2 * i + 1) 0).toNat_lt
  unfold ptrB at hr
  generalize (b.getD (2 * i) 0).toNat = x at c1 k1 hr
  generalize (b.getD (2 * i + 1) 0).toNat = y at c2 k2 hr
  have o1 := or_two k1 k2
  have e3 : IntKind.u16.wrap (x : Int) = (x : Int) := by rw [IntKind.wrap_u16]; omega
  have e4 : IntKind.u16.wrap (y : Int) = (y : Int) := by rw [IntKind.wrap_u16]; omega
  have e5 : IntKind.u16.wrap ((y : Int) * 256) = ((256 * y : Nat) : Int) := by rw [IntKind.wrap_u16]; omega
  rw [hr, show ((256 * y : Nat) : Int) = 256 * (y : Int) from by omega] at o1
  clear hp hP hb1 hr k1 k2
  go_quiet (fail)
  go_wp2
  go_returns
  exact ⟨rfl, below_drewN HB.out _⟩
set_option maxRecDepth 100000 in
set_option maxHeartbeats 800000 in
theorem root_ok (w : World) {nb : Nat} {v : WayV} (hv : v.Ok) :
    Calls Tryz.prog 144 #[.pointer (some ⟨nb, 0, none⟩), .agg v.cells] w fun e w' => e = .returned (.pointer (some ⟨nb, v.root, none⟩)) ∧ Below w.heap.size w w' := by
  obtain ⟨st, a0, a1⟩ := v
  obtain ⟨r, hr⟩ : ∃ r, WayV.root ⟨st, a0, a1⟩ = r := ⟨_, rfl⟩
  rw [hr]
  unfold WayV.Ok at hv
  simp only at hv
  unfold WayV.root at hr
  simp only at hr
  go_enter Tryz.func144, Tryz.ntmps144
  go_upto_region 1 with (fail)
  refine at_world (fun W => ∃ p, p = w.heap.size ∧ Below w.heap.size w W ∧ Blk W p 268 (WayV.cells ⟨st, a0, a1⟩)) ⟨_, rfl, (Below.refl _ _).alloc (Nat.le_refl _) _, Blk.new _ _ _⟩ (fun w1 hw1 => ?_)
  obtain ⟨p, hp, hb1, hP⟩ := hw1
  rw [← hp]
  have HB := hide hb1
  have c0 : w1.cell? ⟨p, 0, none⟩ = some (.int .i64 (st : Int)) := hP.cell 0
  have c1 : w1.cell? ⟨p, 1, none⟩ = some (.int .i64 (a0 : Int)) := hP.cell 1
  have pl := hP.lt
  clear hp hb1 hP
  rcases hv with ⟨rfl, h0⟩ | ⟨rfl, h0⟩ | ⟨rfl, h0, h1⟩
  · have e : r = 4 + a0 := hr.symm
    have hz : (a0 : Int) < 6 := by omega
    clear hr
    subst e
    go_upto_region 3 with (fail)
    go_quiet (fail)
    go_wp2
    go_returns
    exact ⟨rfl, below_drewN HB.out _⟩
  · have e : r = 10 := hr.symm
    clear hr
    subst e
    go_wp2
    go_returns
    exact ⟨rfl, HB.out⟩
  · have e : r = 11 := hr.symm
    clear hr
    subst e
    go_wp2
    go_returns
    exact ⟨rfl, HB.out⟩
end
end Go.Proofs.YthmkgohfeahdhaaGreat
namespace Go.Proofs.YthmkgohfeahdhaaGreat
open Go.RowKit
set_option linter.unusedSimpArgs false
set_option linter.unusedVariables false

/-- the pointers on the way, behind the root -/
def WayV.idx (v : WayV) : List Nat := if v.steps = 0 then [] else if v.steps = 1 then [v.a0] else [v.a0, v.a1]
theorem WayV.idx_length {v : WayV} (h : v.Ok) : v.idx.length = v.steps := by
  obtain ⟨s, a, b⟩ := v
  rcases h with ⟨rfl, _⟩ | ⟨rfl, _⟩ | ⟨rfl, _, _⟩ <;> rfl
theorem WayV.idx_lt {v : WayV} (h : v.Ok) {k j : Nat} (hk : v.idx[k]? = some j) : j < 32 ∧ v.cells[1 + k]? = some (.int .i64 (j : Int)) ∧ k < 3 := by
  obtain ⟨s, a, b⟩ := v
  rcases h with ⟨rfl, _⟩ | ⟨rfl, h1⟩ | ⟨rfl, h1, h2⟩
  · simp [WayV.idx] at hk
  · rcases k with _ | k
    · simp [WayV.idx] at hk; subst hk; exact ⟨h1, rfl, by omega⟩
    · simp [WayV.idx] at hk
  · rcases k with _ | _ | k
    · simp [WayV.idx] at hk; subst hk; exact ⟨h1, rfl, by omega⟩
    · simp [WayV.idx] at hk; subst hk; exact ⟨h2, rfl, by omega⟩
    · simp [WayV.idx] at hk
/-- the pointer with which a way begins -/
def NodeV.rootV (n : NodeV) (v : WayV) : UInt16 := if v.steps = 0 then n.dir.getD v.a0 0 else if v.steps = 1 then n.single else n.double
theorem NodeV.rootV_at {n : NodeV} (hn : n.dir.length = 6) {v : WayV} (h : v.Ok) : n.cells[v.root]? = some (.int .u16 ((n.rootV v).toNat : Int)) ∧ v.root < 12 := by
  obtain ⟨k, l, g, s, dir, x, y⟩ := n
  simp only at hn
  obtain ⟨d0, d1, d2, d3, d4, d5, rfl⟩ : ∃ d0 d1 d2 d3 d4 d5, dir = [d0, d1, d2, d3, d4, d5] := by
    match dir, hn with
    | [d0, d1, d2, d3, d4, d5], _ => exact ⟨d0, d1, d2, d3, d4, d5, rfl⟩
  obtain ⟨s, a, b⟩ := v
  rcases h with ⟨rfl, h0⟩ | ⟨rfl, _⟩ | ⟨rfl, _, _⟩
  · simp only at h0
    obtain rfl | rfl | rfl | rfl | rfl | rfl : a = 0 ∨ a = 1 ∨ a = 2 ∨ a = 3 ∨ a = 4 ∨ a = 5 := by omega
    all_goals exact ⟨rfl, by unfold WayV.root; simp⟩
  · exact ⟨rfl, by unfold WayV.root; simp⟩
  · exact ⟨rfl, by unfold WayV.root; simp⟩
/-- the steps of a way -/
def blkGo (G : GS) : List Nat → Nat → Nat
  | [], p => p
  | j :: r, p => if p = 0 then 0 else blkGo G r (ptrB (G.by_ (p - 1)) j)
def blkOk (G : GS) (m : Nat) : List Nat → Nat → Prop
  | [], _ => True
  | j :: r, p => p ≠ 0 → p ≤ m ∧ blkOk G m r (ptrB (G.by_ (p - 1)) j)
section
variable {w w' : World} {i : Ids} {s : Sto} {gg : Nat} {g : GeoN} {lab : Int} {G G' : GS} {L : List Nat}
theorem GAt.stay (h : GAt w i s gg g lab G) (hx : TxAt w' i s) (ht : Tch w.heap.size i.own w w') : GAt w' i s gg g lab G := ⟨hx, h.gp.tch h.tx ht, h.ok, h.is, h.gok⟩
theorem gs_get' {k : Nat} (h : GAt w i s gg g lab G) (hk : k < g.blocks) :
    Calls Tryz.prog 93 #[.pointer (some ⟨gg, 0, none⟩), .int .u16 ((k + 1 : Nat) : Int)] w fun e w' => e = .returned (.tuple #[bval (G.by_ k), .int .i64 0]) ∧ GAt w' i s gg g lab G ∧ Tch w.heap.size i.own w w' := by
  have := gget_ok h.tx h.gp h.ok hk
  rw [h.is.byt k hk] at this
  exact this.mono fun e w' ⟨he, hx, ht⟩ => ⟨he, h.stay hx ht, ht⟩
theorem gs_node' {num : Nat} (h : GAt w i s gg g lab G) (h1 : 1 ≤ num) (h2 : num ≤ g.nodes) :
    Calls Tryz.prog 56 #[.pointer (some ⟨gg, 0, none⟩), .int .i64 (num : Int)] w fun e w' => e = .returned (.tuple #[(G.nd num).val, .int .i64 0]) ∧ GAt w' i s gg g lab G ∧ Tch w.heap.size i.own w w' := by
  have := gnode_ok h.tx h.gp h.ok h1 h2
  rw [h.is.nodeV h.gok h1 h2, h.is.nodeE h.gok h1 h2] at this
  exact this.mono fun e w' ⟨he, hx, ht⟩ => ⟨he, h.stay hx ht, ht⟩
set_option maxRecDepth 100000 in
set_option maxHeartbeats 1600000 in
theorem block_ok {n : NodeV} {b : Nat} (h : GAt w i s gg g lab G) (hb : b < 256) (hn : n.dir.length = 6) (hp : blkOk G g.blocks (wayOf b).idx (n.rootV (wayOf b)).toNat) :
    Calls Tryz.prog 99 #[.pointer (some ⟨gg, 0, none⟩), n.val, .int .i64 (b : Int)] w fun e w' => e = .returned (.tuple #[.int .u16 (blkGo G (wayOf b).idx (n.rootV (wayOf b)).toNat : Int), .int .i64 0]) ∧ GAt w' i s gg g lab G ∧ Tch w.heap.size i.own w w' := by
  have hwo := wayOf_ok hb
  have hpl := fun W => place_ok' W hb
  obtain ⟨v, hv⟩ : ∃ v, wayOf b = v := ⟨_, rfl⟩
  rw [hv] at hp hwo hpl ⊢
  obtain ⟨hrc, hr12⟩ := NodeV.rootV_at hn hwo
  have hp0 : (n.rootV v).toNat < 65536 := (n.rootV v).toNat_lt
  generalize (n.rootV v).toNat = p0 at *
  obtain ⟨R, hR⟩ : ∃ R, blkGo G v.idx p0 = R := ⟨_, rfl⟩
  rw [hR]
  have H := hide h
  have HP := hide hp
  have HPL := hide hpl
  have HR := hide (And.intro hR hp0)
  have HN := hide hn
  have HWO := hide hwo
  have HRC := hide hrc
  clear h hp hpl hR hp0 hn hwo hrc hv hb hr12
  go_enter Tryz.func99, Tryz.ntmps99
  go_upto_region 1 with (fail)
  refine at_world (fun W => ∃ nb, nb = w.heap.size ∧ Below w.heap.size w W ∧ Blk W nb 130 n.cells.toArray) ⟨_, rfl, (Below.refl _ _).alloc (Nat.le_refl _) _, Blk.new _ _ _⟩ (fun w1 hw1 => ?_)
  obtain ⟨nb, hnb, hb1, hN1⟩ := hw1
  rw [← hnb]
  have HN1 := hide hN1
  have HB1 := hide hb1
  clear hnb hN1 hb1
  go_wp2_with fail
  refine (HPL.out w1).mono ?_
  rintro e w2 ⟨rfl, hb2⟩
  have HN2 := hide (HN1.out.below hb2 HN1.out.lt)
  have HB2 := hide (HB1.out.trans (hb2.mono HB1.out.size))
  clear hb2 HN1 HB1 HPL
  go_upto_region 2 with (first | ((with_reducible refine at_alloc 268 ?_); refine wpList_alloc_as rfl 268 rfl _ (zero_way _) ?_) | ((with_reducible refine at_store 268 (.tmp 8) (.tmp 17) ?_); refine wpList_store_blk rfl 268 (.tmp 8) (.tmp 17) rfl w2.heap.size _ _ _ (by rfl) (by rfl) (Blk.new _ _ _) (size_way v) rfl (way_one v) (fun _ => ?_)) | fail)
  refine at_world (fun W => ∃ q, q = w2.heap.size ∧ Below w2.heap.size w2 W ∧ Blk W q 268 v.cells) ⟨_, rfl, below_setRow ((Below.refl _ _).alloc (Nat.le_refl _) _) (Nat.le_refl _) _, (Blk.new _ _ _).setRow_same _⟩ (fun w3 hw3 => ?_)
  obtain ⟨q, hq, hb3, hQ3⟩ := hw3
  rw [← hq]
  have HN3 := hide (HN2.out.below hb3 HN2.out.lt)
  have HB3 := hide (HB2.out.trans (hb3.mono HB2.out.size))
  have HQ3 := hide hQ3
  clear hq hb3 hQ3 HN2 HB2
  go_wp2_with (first | ((with_reducible refine at_load 268 (.tmp 8) ?_); refine wpList_load_blk rfl 268 (.tmp 8) rfl q _ _ _ (by rfl) HQ3.out Tryz.underlying268 rfl (size_way v) ?_) | fail)
  refine (root_ok w3 (nb := nb) HWO.out).mono ?_
  rintro e w4 ⟨rfl, hb4⟩
  have HQ4 := hide (HQ3.out.below hb4 HQ3.out.lt)
  have HB4 := hide (HB3.out.trans (hb4.mono HB3.out.size))
  have hN4 := HN3.out.below hb4 HN3.out.lt
  have cr : w4.cell? ⟨nb, v.root, none⟩ = some (.int .u16 (p0 : Int)) := (hN4.cell v.root).trans (by rw [List.getElem?_toArray]; exact HRC.out)
  have nl := hN4.lt
  have c0 : w4.cell? ⟨q, 0, none⟩ = some (.int .i64 (v.steps : Int)) := HQ4.out.cell 0
  have ql := HQ4.out.lt
  have HA4 := hide (H.out.below HB4.out)
  have HQO := hide (show ¬ i.own q from HA4.out.tx.other HQ4.out (by decide) (by decide) (by decide))
  have HT4 := hide (Tch.of_below (S := i.own) HB4.out)
  have HLN := hide (WayV.idx_length HWO.out)
  have hst : (v.steps : Int) ≤ 3 := by rcases HWO.out with h | h | h <;> omega
  clear hb4 hN4 HN3 HB3 HQ3
  go_wp2_with fail
  clear cr nl c0 ql
  go_loopg [10, 27] v.steps (fun gh x10 x27 wr => ∃ k p : Nat, k ≤ v.steps ∧ gh = v.steps - k ∧ x10 = .int .u16 (p : Int) ∧ x27 = .int .i64 (k : Int) ∧ Hid (GAt wr i s gg g lab G) ∧ Hid (Tch w.heap.size i.own w wr) ∧ Hid (blkGo G (v.idx.drop k) p = R ∧ p < 65536) ∧ Hid (blkOk G g.blocks (v.idx.drop k) p) ∧ Hid (Blk wr q 268 v.cells))
  case atStart => exact ⟨0, p0, Nat.zero_le _, rfl, rfl, rfl, HA4, HT4, HR, HP, HQ4⟩
  case round =>
    obtain ⟨k, p, hk, hgh, rfl, rfl, HA, HT, HG, HO, HQ⟩ := hrel
    have HGH := hide hgh
    clear hgh
    rcases Nat.lt_or_ge k v.steps with hkl | hkl
    · have hkz : decide ((k : Int) < (v.steps : Int)) = true := by simp; omega
      have hkl2 : k < v.idx.length := by rw [HLN.out]; exact hkl
      obtain ⟨hj32, hcj, hk3⟩ := WayV.idx_lt HWO.out (List.getElem?_eq_getElem hkl2)
      have hdrop := List.drop_eq_getElem_cons hkl2
      have hg := HG.out
      have ho := HO.out
      rw [hdrop] at hg ho
      generalize v.idx[k] = j at *
      rw [blkGo] at hg
      rw [blkOk] at ho
      have cj : wr.cell? ⟨q, 1 + k, none⟩ = some (.int .i64 (j : Int)) := (HQ.out.cell (1 + k)).trans hcj
      have hk3z : (k : Int) < 3 := by omega
      by_cases hp0 : p = 0
      · have t1 : ((p : Int) == 0) = true := by simp [hp0]
        rw [if_pos hp0] at hg
        have HE := hide hg.1
        clear hcj hdrop hg ho hp0 cj
        go_wp2
        go_returns
        exact ⟨by rw [← HE.out]; rfl, HA.out, HT.out⟩
      · have t1 : ((p : Int) == 0) = false := by simp [hp0]
        rw [if_neg hp0] at hg
        obtain ⟨hpm, ho2⟩ := ho hp0
        have hget := gs_get' (k := p - 1) HA.out (by omega)
        rw [show ((p - 1 + 1 : Nat) : Int) = (p : Int) from by omega] at hget
        have hbl := HA.out.gok.len (p - 1)
        generalize G.by_ (p - 1) = bk at *
        have hpt := fun W => pointer_ok W hbl hj32
        have hlt := ptrB_lt bk j
        generalize ptrB bk j = p2 at *
        have HGT := hide hget
        have HPT := hide hpt
        have HBL := hide hbl
        have HE := hide (And.intro hg.1 hlt)
        have HO2 := hide ho2
        have HCJ := hide hcj
        clear hcj hdrop hg ho hp0 cj hpm ho2 hget hbl hpt hlt HG HO hj32
        go_wp2_with fail
        refine HGT.out.mono ?_
        rintro e w5 ⟨rfl, ha5, ht5⟩
        have HA5 := hide ha5
        have HT5 := hide (HT.out.trans (ht5.mono HT.out.size fun _ _ h => h))
        have HQ5 := hide (HQ.out.tch ht5 HQ.out.lt HQO.out)
        clear ha5 ht5 HGT HA HT HQ
        go_upto_region 11 with (first | ((with_reducible refine at_alloc 106 ?_); refine wpList_alloc_as rfl 106 rfl _ (zero_block _) ?_) | ((with_reducible refine at_store 106 (.tmp 12) (.tmp 36) ?_); refine wpList_store_blk rfl 106 (.tmp 12) (.tmp 36) rfl w5.heap.size 106 _ _ (by rfl) (by rfl) (Blk.new _ _ _) (size_blockOf HBL.out) ((bvs_size zeroB_length).trans (bvs_size HBL.out).symm) (bvs_oneCell _) (fun _ => ?_)) | fail)
        refine at_world (fun W => ∃ z, z = w5.heap.size ∧ Below w5.heap.size w5 W ∧ Blk W z 106 (bvs bk).toArray) ⟨_, rfl, below_setRow ((Below.refl _ _).alloc (Nat.le_refl _) _) (Nat.le_refl _) _, (Blk.new _ _ _).setRow_same _⟩ (fun w6 hw6 => ?_)
        obtain ⟨z, hz, hb6, hZ6⟩ := hw6
        rw [← hz]
        have HA6 := hide (HA5.out.below hb6)
        have HT6 := hide (HT5.out.trans ((Tch.of_below hb6).mono HT5.out.size fun _ _ h => h))
        have HQ6 := hide (HQ5.out.below hb6 HQ5.out.lt)
        have HZ6 := hide hZ6
        clear hz hb6 hZ6 HA5 HT5 HQ5
        have cj : w6.cell? ⟨q, 1 + k, none⟩ = some (.int .i64 (j : Int)) := (HQ6.out.cell (1 + k)).trans HCJ.out
        have ql := HQ6.out.lt
        go_upto_region 13 with (fail)
        refine wp_region_text [0, 0, 0, 0, 0, 2, 0] (· = w6.drew) (by kernel_rfl) (by kernel_rfl) rfl ?_
        refine wpOrd_q (v := .agg (bvs bk).toArray) (by rfl) (fun W hW => by cases hW; exact exec_load_blk 106 (.tmp 12) rfl z _ (bvs bk).toArray _ rfl HZ6.out.drew Tryz.underlying106 rfl (size_blockOf HBL.out)) ?_
        try simp only [Act.put, List.setIfInBounds_toArray, List.set_cons_zero, List.set_cons_succ]
        iterate 4 (refine wpOrd_q (v := ?_) (by rfl) (fun W hW => ?_) ?_; rotate_left; (focus ((cases hW; go_simp); try with_reducible rfl)); try simp only [Act.put, List.setIfInBounds_toArray, List.set_cons_zero, List.set_cons_succ])
        refine wpOrd_b (by rfl) (fun K hK => ?_)
        go_simp
        refine (HPT.out _).mono ?_
        rintro e w7 ⟨rfl, hb7⟩
        refine hK (fun _ => True) _ _ trivial ?_
        have hb67 : Below w6.heap.size w6 w7 := (Below.refl _ _).drew.trans hb7
        have HA7 := hide (HA6.out.below hb67)
        have HT7 := hide (HT6.out.trans ((Tch.of_below hb67).mono HT6.out.size fun _ _ h => h))
        have HQ7 := hide (HQ6.out.below hb67 HQ6.out.lt)
        clear hK K hb7 hb67 cj ql HA6 HT6 HQ6 HZ6
        try simp only [Act.put, List.setIfInBounds_toArray, List.set_cons_zero, List.set_cons_succ]
        iterate 1 (refine wpOrd_q (v := ?_) (by rfl) (fun W hW => ?_) ?_; rotate_left; (focus (go_simp; try with_reducible rfl)); try simp only [Act.put, List.setIfInBounds_toArray, List.set_cons_zero, List.set_cons_succ])
        refine wpOrd_nil ?_
        go_wp2
        go_roundg (v.steps - (k + 1))
        case rel => exact ⟨k + 1, p2, by omega, rfl, rfl, by first | rfl | go_num, HA7, HT7, HE, HO2, HQ7⟩
        case measure => have := HGH.out; omega
    · have hkz : decide ((k : Int) < (v.steps : Int)) = false := by simp; omega
      have hE : p = R := by
        have := HG.out.1
        rwa [List.drop_of_length_le (by rw [HLN.out]; exact hkl)] at this
      have HE := hide hE
      clear hE
      go_wp2
      go_returns
      exact ⟨by rw [← HE.out]; rfl, HA.out, HT.out⟩
end
end Go.Proofs.YthmkgohfeahdhaaGreat
namespace Go.Proofs.YthmkgohfeahdhaaGreat
open Go.RowKit
set_option linter.unusedSimpArgs false
set_option linter.unusedVariables false

/-- the last of the pointers gone through -/
def lastP (l : List Nat) : Nat := l.getLast?.getD 0
section
variable {w w' : World} {i : Ids} {s : Sto} {gg : Nat} {g : GeoN} {lab : Int} {G G' : GS} {K : List Nat}
/-- which blocks are to be written behind it -/
def needL (g : GeoN) (K V : List Nat) : List Nat := K ++ g.base :: V.map fun p => g.data + (p - 1)
theorem needL_sub {g : GeoN} {K V V' : List Nat} (h : ∀ x ∈ V, x ∈ V') : ∀ x ∈ needL g K V, x ∈ needL g K V' := by
  intro x hx
  simp only [needL, List.mem_append, List.mem_cons, List.mem_map] at hx ⊢
  rcases hx with hx | hx | ⟨y, hy, e⟩
  · exact .inl hx
  · exact .inr (.inl hx)
  · exact .inr (.inr ⟨y, h y hy, e⟩)
/-- how far the getting has come -/
structure NeedAt (w0 w : World) (i : Ids) (s0 s : Sto) (gg : Nat) (g : GeoN) (lab : Int) (G : GS) (K V : List Nat) (nb : Nat) (n : NodeV) : Prop where
  ga : GAt w i s gg g lab G
  D : s.D = s0.D
  bad : s.bad = s0.bad
  far : ∀ m, (m < g.base ∨ g.data + g.blocks ≤ m) → s.at_ m = s0.at_ m
  in_ : s.In (needL g K V)
  node : Blk w nb 130 n.cells.toArray
  tch : Tch w0.heap.size (fun k => i.own k ∨ k = nb) w0 w
theorem NeedAt.below {w0 : World} {s0 : Sto} {V : List Nat} {nb : Nat} {n : NodeV} (h : NeedAt w0 w i s0 s gg g lab G K V nb n) (hb : Below w.heap.size w w') : NeedAt w0 w' i s0 s gg g lab G K V nb n :=
  ⟨h.ga.below hb, h.D, h.bad, h.far, h.in_, h.node.below hb h.node.lt, h.tch.trans ((Tch.of_below hb).mono h.tch.size fun _ _ h => h)⟩
theorem NeedAt.step {w0 : World} {s0 s' : Sto} {V V' L : List Nat} {nb : Nat} {n : NodeV} (h : NeedAt w0 w i s0 s gg g lab G K V nb n) (hg : GAt w' i s' gg g lab G') (hs : s.Step s' g L) (ht : Tch w.heap.size i.own w w') (hn : ¬ i.own nb)
    (hV : ∀ x ∈ V, x ∈ V') (hL : ∀ x ∈ L, x ∈ needL g K V') : NeedAt w0 w' i s0 s' gg g lab G' K V' nb n :=
  ⟨hg, hs.D.trans h.D, hs.bad.trans h.bad, fun m hm => (hs.far m hm).trans (h.far m hm), (hs.in_ h.in_).mono fun x hx => by
    rcases List.mem_append.1 hx with hx | hx
    · exact needL_sub hV x hx
    · exact hL x hx, h.node.tch ht h.node.lt hn, h.tch.trans (ht.mono h.tch.size fun _ _ h => .inl h)⟩
end
section
variable {w w' : World} {i : Ids} {s : Sto} {gg : Nat} {g : GeoN} {lab : Int} {G G' : GS} {K : List Nat}
/-- what lies apart from a transaction's own blocks may change -/
theorem TxAt.apart {S : Nat → Prop} (h : TxAt w i s) (ht : Tch w.heap.size S w w') (hS : ∀ k, S k → ¬ i.own k ∧ k ≠ i.ll) : TxAt w' i s :=
  ⟨h.txn.tch ht h.txn.lt (fun hk => (hS _ hk).1 (.inl rfl)), h.map.keep (ht.block _ h.map.lt (fun hk => (hS _ hk).1 (.inr (.inl rfl)))),
    ⟨h.log.log.tch ht h.log.log.lt (fun hk => (hS _ hk).2 rfl), h.log.disk.keep (ht.block _ h.log.disk.dlt (fun hk => (hS _ hk).1 (.inr (.inr (.inl rfl))))) (ht.block _ h.log.disk.row.lt (fun hk => (hS _ hk).1 (.inr (.inr (.inr rfl)))))⟩, h.ok⟩
theorem NeedAt.setNode {w0 : World} {s0 : Sto} {V : List Nat} {nb r : Nat} {n n' : NodeV} {u : Value} (h : NeedAt w0 w i s0 s gg g lab G K V nb n) (hc : n.cells.toArray.setIfInBounds r u = n'.cells.toArray) : NeedAt w0 (w.setCell ⟨nb, r, none⟩ u) i s0 s gg g lab G K V nb n' := by
  have ht : Tch w.heap.size (· = nb) w (w.setCell ⟨nb, r, none⟩ u) := Tch.setCell fun _ => rfl
  have h1 : ¬ i.own nb := h.ga.tx.other h.node (by decide) (by decide) (by decide)
  have h2 : nb ≠ i.ll := h.node.ne h.ga.tx.log.log (by decide)
  have h3 : gg ≠ nb := h.ga.gp.ne h.node (by decide)
  exact ⟨⟨h.ga.tx.apart ht (fun k hk => by subst hk; exact ⟨h1, h2⟩), Blk.tch h.ga.gp ht h.ga.gp.lt h3, h.ga.ok, h.ga.is, h.ga.gok⟩, h.D, h.bad, h.far, h.in_, by rw [← hc]; exact h.node.set_ r u,
    h.tch.trans (ht.mono h.tch.size fun k _ hk => .inr hk)⟩
theorem NeedAt.more {w0 : World} {s0 : Sto} {V V' : List Nat} {nb : Nat} {n : NodeV} (h : NeedAt w0 w i s0 s gg g lab G K V nb n) (hV : ∀ x ∈ V, x ∈ V') : NeedAt w0 w i s0 s gg g lab G K V' nb n :=
  ⟨h.ga, h.D, h.bad, h.far, h.in_.mono (needL_sub hV), h.node, h.tch⟩
theorem NeedAt.res {w0 : World} {s0 : Sto} {V V' L : List Nat} {nb : Nat} {n : NodeV} (h : NeedAt w0 w i s0 s gg g lab G K V nb n) (hr : GRes w w' i s gg g lab G' L)
    (hV : ∀ x ∈ V, x ∈ V') (hL : ∀ x ∈ L, x ∈ needL g K V') : ∃ s', NeedAt w0 w' i s0 s' gg g lab G' K V' nb n := by
  obtain ⟨s', hg, hs, ht⟩ := hr
  exact ⟨s', h.step hg hs ht (h.ga.tx.other h.node (by decide) (by decide) (by decide)) hV hL⟩
end
section
variable {w w' : World} {i : Ids} {s : Sto} {gg : Nat} {g : GeoN} {lab : Int} {G G' : GS} {K : List Nat}
end
end Go.Proofs.YthmkgohfeahdhaaGreat
namespace Go.Proofs.YthmkgohfeahdhaaGreat
open Go.RowKit
set_option linter.unusedSimpArgs false
set_option linter.unusedVariables false

section
variable {P : Program} {w : World}
theorem run_slice_arr (t e : TypeId) (g n l : Nat) (k : IntKind) (hu : P.underlying t = some (.array n e)) (hs : (P.info? e).map (·.size) = some 1) (hl : l < n) :
    (Instr.sliceAt t (.pointer (some ⟨g, 0, none⟩)) (some (.int k (l : Int))) none none).run P w = .ok (.slice (some ⟨g, l, none⟩) (n - l) (n - l)) w := by
  cases hq : P.info? e with
  | none => simp [hq] at hs
  | some i =>
    have hi : i.size = 1 := by simpa [hq] using hs
    have h1 : (l : Int) ≤ (n : Int) := by omega
    have h2 : ¬ n = l := by omega
    simp [Instr.sliceAt, Instr.sureAddr, run_underlying hu, Instr.sliceBounds, run_sliceBound, h1, sizeOf, typeInfo, hq, hi, Addr.add_mid, h2, Result.andThen]
theorem run_slice_hi (t e : TypeId) (A : Option Addr) (len cap h : Nat) (k : IntKind) (hu : P.underlying t = some (.slice e)) (hs : (P.info? e).map (·.size) = some 1) (hl : h ≤ cap) :
    (Instr.sliceAt t (.slice A len cap) none (some (.int k (h : Int))) none).run P w = .ok (.slice A h cap) w := by
  cases hq : P.info? e with
  | none => simp [hq] at hs
  | some i =>
    have hi : i.size = 1 := by simpa [hq] using hs
    have h1 : (h : Int) ≤ (cap : Int) := by omega
    cases A <;> simp [Instr.sliceAt, Instr.slice, run_underlying hu, Instr.sliceBounds, run_sliceBound, h1, sizeOf, typeInfo, hq, hi, sliced, Addr.add, Result.andThen]
end
section
variable {P : Program} {ops : Array Oper} {rest : List Oper} {o : Oper} {a : Act} {w : World} {Q : Exit → Act → World → Prop}
theorem at_slice (ty : TypeId) (x : Operand) (lo hi : Option Operand) {d : Option Tmp} {k : TypeId} {p : String} {f : Array Edge} {g : Option (Nat × Bool)} (h : wpList P ops Q (⟨d, .slice ty x lo hi none, k, p, f, g⟩ :: rest) a w) : wpList P ops Q (⟨d, .slice ty x lo hi none, k, p, f, g⟩ :: rest) a w := h
theorem exec_slice (ty : TypeId) (x : Operand) (lo hi : Option Operand) (ho : o.op = .slice ty x lo hi none) {v : Value} (hr : (Instr.sliceAt ty (a.eval x) (lo.map a.eval) (hi.map a.eval) none).run P w = .ok v w) : (execOp a.eval o).run P w = .ok (.value v) w := by
  unfold execOp
  simp only [ho, Option.map_none, Sem.run_bind, hr, Result.andThen_ok, Sem.run_pure]
theorem exec_slice_arr (ty e : TypeId) (x lo : Operand) (ho : o.op = .slice ty x (some lo) none none) (g n l : Nat) (k : IntKind) (hx : a.eval x = .pointer (some ⟨g, 0, none⟩)) (hlo : a.eval lo = .int k (l : Int))
    (hu : P.underlying ty = some (.array n e)) (hs : (P.info? e).map (·.size) = some 1) (hl : l < n) : (execOp a.eval o).run P w = .ok (.value (.slice (some ⟨g, l, none⟩) (n - l) (n - l))) w :=
  exec_slice ty x (some lo) none ho (by rw [hx, Option.map_some, hlo]; exact run_slice_arr ty e g n l k hu hs hl)
theorem exec_slice_hi (ty e : TypeId) (x hi : Operand) (ho : o.op = .slice ty x none (some hi) none) (A : Option Addr) (len cap h : Nat) (k : IntKind) (hx : a.eval x = .slice A len cap) (hhi : a.eval hi = .int k (h : Int))
    (hu : P.underlying ty = some (.slice e)) (hs : (P.info? e).map (·.size) = some 1) (hl : h ≤ cap) : (execOp a.eval o).run P w = .ok (.value (.slice A h cap)) w :=
  exec_slice ty x none (some hi) ho (by rw [hx, Option.map_some, hhi]; exact run_slice_hi ty e A len cap h k hu hs hl)
end
/-- where a slice's part begins -/
def slA (A : Option Addr) (c l : Nat) : Option Addr := if c = l then A else A.map (·.add (l * 1))
section
variable {P : Program} {w : World}
theorem run_slice_lh (t e : TypeId) (A : Option Addr) (len cap l h : Nat) (k1 k2 : IntKind) (hu : P.underlying t = some (.slice e)) (hs : (P.info? e).map (·.size) = some 1) (hl : l ≤ h) (hh : h ≤ cap) :
    (Instr.sliceAt t (.slice A len cap) (some (.int k1 (l : Int))) (some (.int k2 (h : Int))) none).run P w = .ok (.slice (slA A cap l) (h - l) (cap - l)) w := by
  cases hq : P.info? e with
  | none => simp [hq] at hs
  | some i =>
    have hi : i.size = 1 := by simpa [hq] using hs
    have h1 : (l : Int) ≤ (h : Int) := by omega
    have h2 : (h : Int) ≤ (cap : Int) := by omega
    cases A <;> simp [Instr.sliceAt, Instr.slice, run_underlying hu, Instr.sliceBounds, run_sliceBound, h1, h2, sizeOf, typeInfo, hq, hi, sliced, slA, Result.andThen]
end
section
variable {P : Program} {o : Oper} {a : Act} {w : World}
theorem exec_slice_lh (ty e : TypeId) (x lo hi : Operand) (ho : o.op = .slice ty x (some lo) (some hi) none) (A : Option Addr) (len cap l h : Nat) (k1 k2 : IntKind) (hx : a.eval x = .slice A len cap) (hlo : a.eval lo = .int k1 (l : Int)) (hhi : a.eval hi = .int k2 (h : Int))
    (hu : P.underlying ty = some (.slice e)) (hs : (P.info? e).map (·.size) = some 1) (hl : l ≤ h) (hh : h ≤ cap) : (execOp a.eval o).run P w = .ok (.value (.slice (slA A cap l) (h - l) (cap - l))) w :=
  exec_slice ty x (some lo) (some hi) ho (by rw [hx, Option.map_some, hlo, Option.map_some, hhi]; exact run_slice_lh ty e A len cap l h k1 k2 hu hs hl hh)
/-- bytes as a string -/
theorem exec_str (src dst e : TypeId) (x : Operand) (ho : o.op = .convert src dst x) (A : Option Addr) (n c : Nat) (l : List UInt8) (B : Nat) (hx : a.eval x = .slice A n c) (hs : P.underlying src = some (.slice e)) (he : P.underlying e = some (.int .u8)) (hd : P.underlying dst = some .string)
    (h : Rd w B 1 A n (bvs l)) : (execOp a.eval o).run P w = .ok (.value (.string (str l))) w := by
  have hr := run_string_rd (P := P) (w := w) src e dst hs he hd (c := c) h
  unfold execOp
  simp only [ho, hx, Sem.run_bind, hr, Result.andThen_ok, Sem.run_pure]
end
theorem Rd.part {w : World} {B n c : Nat} {A : Option Addr} {l : List UInt8} (h : Rd w B 1 A n (bvs l)) (hc : n ≤ c) {lo hi : Nat} (h1 : lo ≤ hi) (h2 : hi ≤ n) : Rd w B 1 (slA A c lo) (hi - lo) (bvs ((l.drop lo).take (hi - lo))) := by
  have hn : l.length = n := by have := h.1; rw [bvs_length] at this; omega
  refine ⟨by rw [bvs_length, List.length_take, List.length_drop]; omega, fun hp => ?_⟩
  obtain ⟨b, o, rfl, hb, hcs⟩ := h.2 (by omega)
  unfold slA
  rw [if_neg (by omega)]
  refine ⟨b, o + lo, by simp [Addr.add_mid], hb, fun j u hu => ?_⟩
  have hj : j < hi - lo := by
    have := (List.getElem?_eq_some_iff.1 hu).1
    rw [bvs_length, List.length_take] at this
    omega
  rw [bvs_get, List.getElem?_take, if_pos hj, List.getElem?_drop, ← bvs_get] at hu
  have := hcs _ _ hu
  rw [show o + lo + j = o + (lo + j) from by omega]
  exact this
theorem Rd.head {w : World} {B n : Nat} {A : Option Addr} {l : List UInt8} (h : Rd w B 1 A n (bvs l)) {hi : Nat} (h2 : hi ≤ n) : Rd w B 1 A hi (bvs (l.take hi)) := by
  have hn : l.length = n := by have := h.1; rw [bvs_length] at this; omega
  refine ⟨by rw [bvs_length, List.length_take]; omega, fun hp => ?_⟩
  obtain ⟨b, o, rfl, hb, hcs⟩ := h.2 (by omega)
  refine ⟨b, o, rfl, hb, fun j u hu => ?_⟩
  have hj : j < hi := by
    have := (List.getElem?_eq_some_iff.1 hu).1
    rw [bvs_length, List.length_take] at this
    omega
  rw [bvs_get, List.getElem?_take, if_pos hj, ← bvs_get] at hu
  exact hcs _ _ hu
end Go.Proofs.YthmkgohfeahdhaaGreat
namespace Go.Proofs.YthmkgohfeahdhaaGreat
open Go.RowKit
set_option linter.unusedSimpArgs false
set_option linter.unusedVariables false

theorem info_byte : ∃ i, Tryz.prog.info? 5 = some i ∧ i.zero = some (.int .u8 0) ∧ i.size = 1 ∧ i.bytes = 1 := by
  have h : (Tryz.prog.info? 5).map (fun i => (i.zero, i.size, i.bytes)) = some (some (.int .u8 0), 1, 1) := by kernel_rfl
  cases hi : Tryz.prog.info? 5 with
  | none => rw [hi] at h; cases h
  | some i =>
    rw [hi] at h
    simp only [Option.map_some, Option.some.injEq, Prod.mk.injEq] at h
    exact ⟨i, rfl, h.1, h.2.1, h.2.2⟩
theorem own_tch {w w' : World} {base n : Nat} {e : TypeId} {size : Nat} {v : Value} {xs : List Value} {S : Nat → Prop} (h : w.ownsRow base e size v n xs) (ht : Tch w.heap.size S w w') (hS : ∀ k, base ≤ k → ¬ S k) : w'.ownsRow base e size v n xs :=
  own_keep h fun g hg => ht.block g (own_block_ge h hg).2 (hS g (own_block_ge h hg).1)
theorem row_not_blk {w : World} {base n size q : Nat} {e t : TypeId} {v : Value} {xs : List Value} {cs : Array Value} (h : w.ownsRow base e size v n xs) (hB : Blk w q t cs) (hne : t ≠ e) : v.ownBlock ≠ some q := by
  rcases h.2 with ⟨rfl, _⟩ | ⟨g, cap, cur, rfl, hg, hh, _⟩
  · simp [Value.ownBlock]
  · simp only [Value.ownBlock]
    intro he
    cases he
    rw [hB] at hh
    cases hh
    exact hne rfl
theorem GAt.apart {w w' : World} {i : Ids} {s : Sto} {gg : Nat} {g : GeoN} {lab : Int} {G : GS} {S : Nat → Prop} (h : GAt w i s gg g lab G) (ht : Tch w.heap.size S w w') (hS : ∀ k, S k → ¬ i.own k ∧ k ≠ i.ll ∧ k ≠ gg) : GAt w' i s gg g lab G :=
  ⟨h.tx.apart ht (fun k hk => ⟨(hS k hk).1, (hS k hk).2.1⟩), Blk.tch h.gp ht h.gp.lt (fun hk => (hS _ hk).2.2 rfl), h.ok, h.is, h.gok⟩
theorem own_le_cap {w : World} {base n c : Nat} {e : TypeId} {sz : Nat} {A : Option Addr} {xs : List Value} (h : w.ownsRow base e sz (.slice A n c) n xs) : n ≤ c := by
  obtain ⟨A', c', he, hn, _⟩ := own_form h
  cases he
  exact hn
/-- the data block of a file's block -/
def dataP (G : GS) (n : NodeV) (b : Nat) : Nat := blkGo G (wayOf b).idx (n.rootV (wayOf b)).toNat
/-- a file's block can be read -/
structure Rdy (G : GS) (m : Nat) (n : NodeV) (b : Nat) : Prop where
  ok : blkOk G m (wayOf b).idx (n.rootV (wayOf b)).toNat
  ge : 1 ≤ dataP G n b
  le : dataP G n b ≤ m
/-- a byte of a file -/
def fbyte (G : GS) (n : NodeV) (j : Nat) : UInt8 := (G.by_ (dataP G n (j / 64) - 1)).getD (j % 64) 0
def fbytes (G : GS) (n : NodeV) (off len : Nat) : List UInt8 := (List.range len).map fun k => fbyte G n (off + k)
theorem fbytes_add (G : GS) (n : NodeV) (off l m : Nat) : fbytes G n off (l + m) = fbytes G n off l ++ fbytes G n (off + l) m := by
  simp only [fbytes, List.range_add, List.map_append, List.map_map]
  congr 1
  apply List.map_congr_left
  intro k _
  simp only [Function.comp, Nat.add_assoc]
theorem fbytes_block {G : GS} {n : NodeV} {a m : Nat} (hm : a % 64 + m ≤ 64) (hl : (G.by_ (dataP G n (a / 64) - 1)).length = 64) : fbytes G n a m = ((G.by_ (dataP G n (a / 64) - 1)).drop (a % 64)).take m := by
  apply List.ext_getElem?
  intro j
  simp only [fbytes, List.getElem?_map, List.getElem?_take, List.getElem?_drop]
  by_cases hj : j < m
  · rw [List.getElem?_range hj, if_pos hj, Option.map_some]
    have h1 : (a + j) / 64 = a / 64 := by omega
    have h2 : (a + j) % 64 = a % 64 + j := by omega
    unfold fbyte
    rw [h1, h2, List.getD_eq_getElem?_getD, List.getElem?_eq_getElem (by omega)]
    rfl
  · rw [if_neg hj, List.getElem?_eq_none (by simp; omega)]
    rfl
section
variable {w w' : World} {i : Ids} {s : Sto} {gg : Nat} {g : GeoN} {lab : Int} {G : GS}
set_option maxRecDepth 100000 in
set_option maxHeartbeats 4000000 in
theorem read_walk {num off many en : Nat} {n : NodeV} (h : GAt w i s gg g lab G) (h1 : 1 ≤ num) (h2 : num ≤ g.nodes) (hn : G.nd num = n) (hk : n.kind ≠ 0) (hoff : off ≤ 65536) (hmany : many ≤ 4611686018427387904)
    (hen : en = min n.size.toNat (off + min many 16384)) (hs16 : n.size.toNat ≤ 16384) (hr : ∀ b, off / 64 ≤ b → b * 64 < en → Rdy G g.blocks n b) :
    Calls Tryz.prog 36 #[.pointer (some ⟨gg, 0, none⟩), .int .i64 (num : Int), .int .i64 (off : Int), .int .i64 (many : Int)] w fun e w' => ∃ (A : Option Addr) (c : Nat), e = .returned (.tuple #[.slice A (en - off) c, .int .i64 0]) ∧ Rd w' w'.heap.size 1 A (en - off) (bvs (fbytes G n off (en - off))) ∧ GAt w' i s gg g lab G ∧ Tch w.heap.size i.own w w' ∧ (∀ b, A = some b → w.heap.size ≤ b.block) ∧ en - off ≤ c ∧ w'.ownsRow w.heap.size 5 1 (.slice A (en - off) c) (en - off) (bvs (fbytes G n off (en - off))) := by
  have hnd := gs_node' h h1 h2
  rw [hn] at hnd
  have hdir : n.dir.length = 6 := by rw [← hn]; exact h.gok.dir num
  obtain ⟨i0, hi0, i1, i2, i3⟩ := info_byte
  have hkz : (n.kind.toNat : Int) ≠ 0 := fun e => hk (UInt8.toNat_inj.1 (by simpa using e))
  have tk : ((n.kind.toNat : Int) == 0) = false := by rw [beq_eq_false_iff_ne]; exact hkz
  have H := hide h
  have HND := hide hnd
  have HD := hide hdir
  have HI := hide (And.intro hi0 (And.intro i1 (And.intro i2 i3)))
  have HR := hide hr
  have HEN := hide hen
  clear h hnd hdir hi0 i1 i2 i3 hr hk hkz hn h1 h2
  go_enter Tryz.func36, Tryz.ntmps36
  go_wp2_with fail
  refine HND.out.mono ?_
  rintro e w2 ⟨rfl, ha2, ht2⟩
  have HA2 := hide ha2
  have HT2 := hide ht2
  clear ha2 ht2 HND
  go_upto_region 2 with (first | ((with_reducible refine at_alloc 130 ?_); refine wpList_alloc_as rfl 130 rfl _ (zero_node _) ?_) | ((with_reducible refine at_store 130 (.tmp 10) (.tmp 23) ?_); refine wpList_store_blk rfl 130 (.tmp 10) (.tmp 23) rfl w2.heap.size _ _ _ (by rfl) (by rfl) (Blk.new _ _ _) (size_nodeOf HD.out) (by rw [List.size_toArray, List.size_toArray, NodeV.cells_length HD.out]; rfl) (NodeV.cells_one _) (fun _ => ?_)) | fail)
  refine at_world (fun W => ∃ q, q = w2.heap.size ∧ Below w2.heap.size w2 W ∧ Blk W q 130 n.cells.toArray) ⟨_, rfl, below_setRow ((Below.refl _ _).alloc (Nat.le_refl _) _) (Nat.le_refl _) _, (Blk.new _ _ _).setRow_same _⟩ (fun w3 hw3 => ?_)
  obtain ⟨q, hq, hb3, hQ3⟩ := hw3
  rw [← hq]
  have HA3 := hide (HA2.out.below hb3)
  have HT3 := hide (HT2.out.trans ((Tch.of_below hb3).mono HT2.out.size fun _ _ h => h))
  have HQ3 := hide hQ3
  have HQO := hide (show ¬ i.own q from fun hk => HA2.out.tx.other_new (Nat.le_of_eq hq.symm) hk)
  have q0 := (hQ3.cell 0).trans (node_cells_at n).1
  have q3 := (hQ3.cell 3).trans (node_cells_at n).2.2.2
  have ql := hQ3.lt
  have t1 : decide ((off : Int) < 0) = false := by simp
  have t2 : decide ((many : Int) < 0) = false := by simp
  generalize n.size.toNat = sz at *
  clear hq hb3 hQ3 HA2 HT2
  have c1 : IntKind.i64.wrap (sz : Int) = (sz : Int) := IntWalk.i64_in _ (by omega)
  obtain ⟨mm, hmm⟩ : ∃ mm, min many 16384 = mm := ⟨_, rfl⟩
  have m1 : min (many : Int) 16384 = (mm : Int) := by omega
  have c2 : IntKind.i64.wrap ((off : Int) + (mm : Int)) = (off : Int) + (mm : Int) := IntWalk.i64_in _ (by omega)
  have m2 : min (sz : Int) ((off : Int) + (mm : Int)) = (en : Int) := by rw [hmm] at hen; omega
  have hen16 : en ≤ 16384 := by omega
  clear hmm hen
  go_wp2_with fail
  clear q0 q3 ql m1 m2 c1 c2 tk t1 t2
  have HEO := hide (show en - off ≤ 16384 from by omega)
  go_loopg [12, 14] (en - off) (fun gh x12 x14 wr => ∃ (a : Nat) (A : Option Addr) (c : Nat), off ≤ a ∧ (a ≤ en ∨ a = off) ∧ gh = en - a ∧ x14 = .int .i64 (a : Int) ∧ x12 = .slice A (a - off) c ∧ Hid (wr.ownsRow w.heap.size 5 1 (.slice A (a - off) c) (a - off) (bvs (fbytes G n off (a - off)))) ∧ Hid (GAt wr i s gg g lab G) ∧ Hid (Tch w.heap.size i.own w wr) ∧ Hid (Blk wr q 130 n.cells.toArray))
  case atStart => exact ⟨off, none, 0, Nat.le_refl _, .inr rfl, rfl, rfl, by rw [Nat.sub_self], hide (by rw [Nat.sub_self]; exact World.ownsRow_nil _ _ _ _), HA3, HT3, HQ3⟩
  case round =>
    obtain ⟨a, A, c, hoa, hae, hgh, rfl, rfl, HO, HA, HT, HQ⟩ := hrel
    have HGH := hide hgh
    clear hgh
    rcases Nat.lt_or_ge a en with hal | hal
    · have haz : decide ((a : Int) < (en : Int)) = true := by simp; omega
      have e1 : (a : Int).tdiv 64 = ((a / 64 : Nat) : Int) := by rw [Int.tdiv_eq_ediv_of_nonneg (by omega)]; omega
      have e2 : (a : Int).tmod 64 = ((a % 64 : Nat) : Int) := by rw [Int.tmod_eq_emod_of_nonneg (by omega)]; omega
      have hrd := HR.out (a / 64) (by omega) (by omega)
      have hbk := block_ok (b := a / 64) HA.out (by omega) HD.out hrd.ok
      have hge := hrd.ge
      have hle := hrd.le
      have hget := fun W (hW : GAt W i s gg g lab G) => gs_get' (k := dataP G n (a / 64) - 1) hW (by omega)
      have hbl := HA.out.gok.len (dataP G n (a / 64) - 1)
      have hfb := fun m (hm : a % 64 + m ≤ 64) => fbytes_block (G := G) (n := n) (a := a) hm hbl
      have hadd := fun m => fbytes_add G n off (a - off) m
      rw [show off + (a - off) = a from by omega] at hadd
      rw [show blkGo G (wayOf (a / 64)).idx (n.rootV (wayOf (a / 64))).toNat = dataP G n (a / 64) from rfl] at hbk
      obtain ⟨p, hp⟩ : ∃ p, dataP G n (a / 64) = p := ⟨_, rfl⟩
      rw [hp] at hbk hge hle hget hbl hfb
      rw [show ((p - 1 + 1 : Nat) : Int) = (p : Int) from by omega] at hget
      generalize G.by_ (p - 1) = bk at hget hbl hfb
      obtain ⟨kk, hkk⟩ : ∃ kk, min (64 - a % 64) (en - a) = kk := ⟨_, rfl⟩
      have hu := hfb kk (by omega)
      have hv := hadd kk
      rw [hu] at hv
      have m1 : min (64 - ((a % 64 : Nat) : Int)) ((en : Int) - (a : Int)) = (kk : Int) := by omega
      have e3 : IntKind.i64.wrap (64 - ((a % 64 : Nat) : Int)) = 64 - ((a % 64 : Nat) : Int) := IntWalk.i64_in _ (by omega)
      have e4 : IntKind.i64.wrap ((en : Int) - (a : Int)) = (en : Int) - (a : Int) := IntWalk.i64_in _ (by omega)
      have e5 : IntKind.i64.wrap ((a : Int) + (kk : Int)) = (a : Int) + (kk : Int) := IntWalk.i64_in _ (by omega)
      have hk1 : 1 ≤ kk ∧ a % 64 + kk ≤ 64 ∧ a + kk ≤ en := by omega
      have HBK := hide hbk
      have HGT := hide hget
      have HBL := hide hbl
      have HV := hide hv
      have HKK := hide hk1
      have hm64 : a % 64 < 64 := Nat.mod_lt _ (by decide)
      have e6 : IntKind.i64.wrap ((a / 64 : Nat) : Int) = ((a / 64 : Nat) : Int) := IntWalk.i64_in _ (by omega)
      have e7 : IntKind.i64.wrap ((a % 64 : Nat) : Int) = ((a % 64 : Nat) : Int) := IntWalk.i64_in _ (by omega)
      have HOA := hide hoa
      have HAL := hide hal
      generalize a / 64 = ad at *
      generalize a % 64 = ar at *
      clear hrd hbk hge hle hget hbl hfb hadd hp hu hv hkk hk1 hae hoa hal
      go_wp2_with (first | ((with_reducible refine at_load 130 (.tmp 10) ?_); refine wpList_load_blk rfl 130 (.tmp 10) rfl q _ _ _ (by rfl) HQ.out Tryz.underlying130 rfl (size_nodeOf HD.out) ?_) | fail)
      refine HBK.out.mono ?_
      rintro e w5 ⟨rfl, ha5, ht5⟩
      have hget5 := HGT.out
      have HA5 := hide ha5
      have HT5 := hide (HT.out.trans (ht5.mono HT.out.size fun _ _ h => h))
      have HQ5 := hide (HQ.out.tch ht5 HQ.out.lt HQO.out)
      have HO5 := hide (own_tch HO.out ht5 (fun k hk => H.out.tx.other_new hk))
      clear ha5 ht5 HBK HA HT HQ HO hget5
      go_wp2_with fail
      refine (HGT.out w5 HA5.out).mono ?_
      rintro e w6 ⟨rfl, ha6, ht6⟩
      have HA6 := hide ha6
      have HT6 := hide (HT5.out.trans (ht6.mono HT5.out.size fun _ _ h => h))
      have HQ6 := hide (HQ5.out.tch ht6 HQ5.out.lt HQO.out)
      have HO6 := hide (own_tch HO5.out ht6 (fun k hk => H.out.tx.other_new hk))
      clear ha6 ht6 HGT HA5 HT5 HQ5 HO5
      go_upto_region 16 with (first | ((with_reducible refine at_alloc 106 ?_); refine wpList_alloc_as rfl 106 rfl _ (zero_block _) ?_) | ((with_reducible refine at_store 106 (.tmp 17) (.tmp 67) ?_); refine wpList_store_blk rfl 106 (.tmp 17) (.tmp 67) rfl w6.heap.size 106 _ _ (by rfl) (by rfl) (Blk.new _ _ _) (size_blockOf HBL.out) ((bvs_size zeroB_length).trans (bvs_size HBL.out).symm) (bvs_oneCell _) (fun _ => ?_)) | fail)
      refine at_world (fun W => ∃ z, z = w6.heap.size ∧ Below w6.heap.size w6 W ∧ Blk W z 106 (bvs bk).toArray) ⟨_, rfl, below_setRow ((Below.refl _ _).alloc (Nat.le_refl _) _) (Nat.le_refl _) _, (Blk.new _ _ _).setRow_same _⟩ (fun w7 hw7 => ?_)
      obtain ⟨z, hz, hb7, hZ7⟩ := hw7
      rw [← hz]
      have HA7 := hide (HA6.out.below hb7)
      have HT7 := hide (HT6.out.trans ((Tch.of_below hb7).mono HT6.out.size fun _ _ h => h))
      have HQ7 := hide (HQ6.out.below hb7 HQ6.out.lt)
      have HO7 := hide (own_below HO6.out hb7)
      have HZ7 := hide hZ7
      clear hz hb7 hZ7 HA6 HT6 HQ6 HO6
      go_upto_region 19 with (fail)
      obtain ⟨hk1, hk2, hk3⟩ := HKK.out
      have HK2 := hide (And.intro hk1 (And.intro hk2 hk3))
      have hlen : (bvs ((bk.drop ar).take kk)).length = kk := by rw [bvs_length, List.length_take, List.length_drop, HBL.out]; omega
      have hR : Rd w7 w7.heap.size 1 (some ⟨z, ar, none⟩) kk (bvs ((bk.drop ar).take kk)) := ⟨by rw [hlen, Nat.mul_one], fun _ => ⟨z, ar, rfl, HZ7.out.lt, fun j u hu => by
        have h1 := HZ7.out.cell (ar + j)
        have hj : j < kk := by have := (List.getElem?_eq_some_iff.1 hu).1; rw [hlen] at this; exact this
        rw [List.getElem?_toArray, bvs_get] at h1
        rw [bvs_get, List.getElem?_take, if_pos hj, List.getElem?_drop] at hu
        rw [← hu]; exact h1⟩⟩
      have HR7 := hide hR
      have hk3z : kk ≤ 64 - ar := by omega
      clear hk1 hk2 hk3 hlen hR m1 e3 e4 e1 e6
      have HI1 := HI.out
      go_wp2_with (first | ((with_reducible refine at_slice 106 (.tmp 17) (some (.tmp 81)) none ?_); refine wpList_run rfl _ (exec_slice_arr 106 5 (.tmp 17) (.tmp 81) rfl z 64 ar .i64 (by rfl) (by rfl) Tryz.underlying106 (by kernel_rfl) hm64) ?_) | ((with_reducible refine at_slice 24 (.tmp 82) none (some (.tmp 83)) ?_); refine wpList_run rfl _ (exec_slice_hi 24 5 (.tmp 82) (.tmp 83) rfl (some ⟨z, ar, none⟩) (64 - ar) (64 - ar) kk .i64 (by rfl) (by rfl) Tryz.underlying24 (by kernel_rfl) hk3z) ?_) | (at_builtin; refine wpList_append_rd _ rfl (.tmp 79) (.tmp 84) 24 rfl w.heap.size 5 i0 (.int .u8 0) 1 1 Tryz.underlying24 HI.out.1 HI.out.2.1 HI.out.2.2.1 HI.out.2.2.2 rfl (by decide) (.slice A (a - off) c) (a - off) _ rfl HO7.out w7.heap.size (some ⟨z, ar, none⟩) kk (64 - ar) (bvs ((bk.drop ar).take kk)) (by rfl) HR7.out (bvs_one _) (by have := HOA.out; have := HK2.out; have := HEO.out; simp only [maxLen]; omega) (by have := HOA.out; have := HK2.out; omega) (by have := HT7.out.size; omega) ?_; intro v' w8 hown hg hnil hat) | fail)
      obtain ⟨A', c', rfl, hnc, hcm, hn0⟩ := own_form hown
      have hw7 := HT7.out.size
      have hgt : Tch w7.heap.size (fun k => w.heap.size ≤ k ∧ (Value.slice A (a - off) c).ownBlock = some k) w7 w8 := Tch.grown hg (Nat.le_refl _) (fun k hk _ => ⟨(own_block_ge HO7.out hk).1, hk⟩)
      have hll := H.out.tx.log.log.lt
      have hgg := H.out.gp.lt
      have HA8 := hide (HA7.out.apart hgt (fun k hk => ⟨fun ho => H.out.tx.other_new hk.1 ho, by omega, by omega⟩))
      have HT8 := hide (HT7.out.trans (hgt.mono hw7 (fun k hk hs => by omega)))
      have HQ8 := hide (HQ7.out.tch hgt HQ7.out.lt (fun hk => row_not_blk HO7.out HQ7.out (by decide) hk.2))
      have HN := hide (show a - off + kk = a + kk - off from by have := HOA.out; omega)
      have HO8 : Hid (w8.ownsRow w.heap.size 5 1 (.slice A' (a + kk - off) c') (a + kk - off) (bvs (fbytes G n off (a + kk - off)))) := hide (by
        rw [← bvs_append, ← HV.out, HN.out] at hown
        exact hown)
      rw [HN.out]
      clear hown hg hnil hat hnc hcm hn0 hgt hll hgg hw7
      go_roundg (en - (a + kk))
      case rel => exact ⟨a + kk, A', c', by have := HOA.out; omega, .inl HK2.out.2.2, rfl, by first | rfl | go_num, rfl, HO8, HA8, HT8, HQ8⟩
      case measure => have := HGH.out; have := HAL.out; have := HK2.out.1; omega
    · have haz : decide ((a : Int) < (en : Int)) = false := by simp; omega
      have hea : a - off = en - off := by omega
      rw [hea] at HO
      rw [hea]
      clear hae hoa
      go_wp2
      go_returns
      exact ⟨A, c, rfl, Rd.of_own HO.out, HA.out, HT.out, fun b hb => (own_block_ge (g := b.block) HO.out (by subst hb; rfl)).1, own_le_cap HO.out, HO.out⟩
end
end Go.Proofs.YthmkgohfeahdhaaGreat
namespace Go.Proofs.YthmkgohfeahdhaaGreat
open Go.RowKit
set_option linter.unusedSimpArgs false
set_option linter.unusedVariables false

def NodeV.grow (n : NodeV) (x : Nat) : NodeV := { n with size := UInt32.ofNat (max n.size.toNat x) }
section
variable {w w' : World} {i : Ids} {s : Sto} {gg : Nat} {g : GeoN} {lab : Int} {G : GS} {K0 : List Nat}
end
end Go.Proofs.YthmkgohfeahdhaaGreat
namespace Go.Proofs.YthmkgohfeahdhaaGreat
open Go.RowKit
set_option linter.unusedSimpArgs false
set_option linter.unusedVariables false

/-- of a file's blocks by name (data: 0 to 255; 256: the single block of pointers; 257: the double one; from 258 on: those below it): where its pointer stands: in which block (none: in the node), at which place -/
def par (c : Nat) : Option (Nat × Nat) :=
  if c < 6 then none else if c < 38 then some (256, c - 6) else if c < 256 then some (258 + (c - 38) / 32, (c - 38) % 32) else if c < 258 then none else some (257, c - 258)
theorem par_lt {c p j : Nat} (hc : c < 265) (h : par c = some (p, j)) : p < 265 ∧ j < 32 ∧ 256 ≤ p ∧ p ≠ c := by
  unfold par at h
  split at h
  · cases h
  · split at h
    · simp only [Option.some.injEq, Prod.mk.injEq] at h; omega
    · split at h
      · simp only [Option.some.injEq, Prod.mk.injEq] at h; omega
      · split at h
        · cases h
        · simp only [Option.some.injEq, Prod.mk.injEq] at h; omega
theorem par_inj {c c' p j : Nat} (hc : c < 265) (hc' : c' < 265) (h : par c = some (p, j)) (h' : par c' = some (p, j)) : c = c' := by
  unfold par at h h'
  split at h
  · cases h
  split at h
  all_goals try (split at h)
  all_goals try (split at h)
  all_goals try (cases h; done)
  all_goals (split at h')
  all_goals try (cases h'; done)
  all_goals (split at h')
  all_goals try (split at h')
  all_goals try (split at h')
  all_goals try (cases h'; done)
  all_goals (simp only [Option.some.injEq, Prod.mk.injEq] at h h'; omega)
/-- a node's pointer of a name -/
def NodeV.slot (n : NodeV) (c : Nat) : Nat := if c < 6 then (n.dir.getD c 0).toNat else if c = 256 then n.single.toNat else n.double.toNat
/-- a file's blocks: which there are, where they are -/
structure Tree (G : GS) (m : Nat) (n : NodeV) (pr : Nat → Bool) (κ : Nat → Nat) : Prop where
  dir : n.dir.length = 6
  rng : ∀ c, pr c = true → c < 265
  cls : ∀ c p j, pr c = true → par c = some (p, j) → pr p = true
  top : ∀ c, c < 265 → par c = none → n.slot c = if pr c then κ c + 1 else 0
  sub : ∀ c p j, c < 265 → par c = some (p, j) → pr p = true → ptrB (G.by_ (κ p)) j = if pr c then κ c + 1 else 0
  own : ∀ c, pr c = true → κ c < m ∧ G.tk (κ c) = true
  inj : ∀ c c', pr c = true → pr c' = true → κ c = κ c' → c = c'
theorem free_spec {G : GS} {m k : Nat} (h : G.free m = some k) : k < m ∧ G.tk k = false := by
  refine ⟨gs_free_lt h, ?_⟩
  have := List.find?_some h
  simpa using this
theorem put_cnt (G : GS) (k : Nat) (b : BlkV) (m : Nat) : (G.put k b).cnt m = G.cnt m := rfl
/-- a block more, its pointer in a block -/
theorem Tree.add {G : GS} {m : Nat} {n : NodeV} {pr : Nat → Bool} {κ : Nat → Nat} {c p j k : Nat} (h : Tree G m n pr κ) (hG : G.Ok) (hm : m ≤ 512) (hc : c < 265) (hp : par c = some (p, j)) (hpp : pr p = true) (hnc : pr c = false) (hf : G.free m = some k) :
    Tree ((G.take k).put (κ p) (pointB (G.by_ (κ p)) j (k + 1))) m n (upd pr c true) (upd κ c k) := by
  obtain ⟨hk, hkf⟩ := free_spec hf
  obtain ⟨hp5, hj, -, hpc⟩ := par_lt hc hp
  have hkp : κ p ≠ k := fun e => by have := (h.own p hpp).2; rw [e, hkf] at this; cases this
  have hby : ∀ x, ((G.take k).put (κ p) (pointB (G.by_ (κ p)) j (k + 1))).by_ x = if x = κ p then pointB (G.by_ (κ p)) j (k + 1) else if x = k then zeroB else G.by_ x := fun x => rfl
  have htk : ∀ x, ((G.take k).put (κ p) (pointB (G.by_ (κ p)) j (k + 1))).tk x = if x = k then true else G.tk x := fun x => rfl
  refine ⟨h.dir, fun c' h' => ?_, fun c' p' j' h' hp' => ?_, fun c' hc' hp' => ?_, fun c' p' j' hc' hp' hpr => ?_, fun c' h' => ?_, fun c1 c2 h1 h2 he => ?_⟩
  · simp only [upd] at h'
    split at h'
    · omega
    · exact h.rng c' h'
  · simp only [upd] at h' ⊢
    split at h'
    · rename_i e; subst e; rw [hp] at hp'; cases hp'; rw [if_neg hpc]; exact hpp
    · have := h.cls c' p' j' h' hp'
      split
      · rfl
      · exact this
  · have hne : c' ≠ c := fun e => by rw [e, hp] at hp'; cases hp'
    simp only [upd, if_neg hne]
    exact h.top c' hc' hp'
  · rw [hby]
    by_cases e1 : p' = c
    · subst e1
      rw [upd_same, if_neg (fun e => hkp e.symm), if_pos rfl, ptr_zero]
      have hne : c' ≠ p' := (par_lt hc' hp').2.2.2.symm
      have hnp : pr c' = false := by
        cases hx : pr c' with
        | false => rfl
        | true => have := h.cls c' p' j' hx hp'; rw [hnc] at this; cases this
      simp only [upd, if_neg hne, hnp]
      rfl
    · rw [upd_other _ _ e1] at hpr
      rw [upd_other _ _ e1]
      by_cases e2 : p' = p
      · subst e2
        rw [if_pos rfl, ptr_point (hG.len _) hj (by omega)]
        by_cases e3 : j' = j
        · subst e3
          have := par_inj hc' hc hp' hp
          subst this
          rw [if_pos rfl, upd_same, upd_same]
          rfl
        · rw [if_neg e3]
          have hne : c' ≠ c := fun e => by subst e; rw [hp] at hp'; cases hp'; exact e3 rfl
          simp only [upd, if_neg hne]
          exact h.sub c' p' j' hc' hp' hpr
      · have e4 : κ p' ≠ κ p := fun e => e2 (h.inj p' p hpr hpp e)
        have e5 : κ p' ≠ k := fun e => by have := (h.own p' hpr).2; rw [e, hkf] at this; cases this
        rw [if_neg e4, if_neg e5]
        have hne : c' ≠ c := fun e => by subst e; rw [hp] at hp'; cases hp'; exact e2 rfl
        simp only [upd, if_neg hne]
        exact h.sub c' p' j' hc' hp' hpr
  · by_cases e : c' = c
    · have e1 : upd κ c k c' = k := by simp [upd, e]
      rw [e1, htk]
      exact ⟨hk, by rw [if_pos rfl]⟩
    · have e1 : upd κ c k c' = κ c' := by simp [upd, e]
      rw [upd_other _ _ e] at h'
      rw [e1, htk]
      have := h.own c' h'
      exact ⟨this.1, by split; rfl; exact this.2⟩
  · simp only [upd] at h1 h2 he
    by_cases e1 : c1 = c
    · by_cases e2 : c2 = c
      · rw [e1, e2]
      · rw [if_neg e2] at h2 he
        rw [if_pos e1] at he
        have := (h.own c2 h2).2
        rw [← he, hkf] at this
        cases this
    · rw [if_neg e1] at h1 he
      by_cases e2 : c2 = c
      · rw [if_pos e2] at he
        have := (h.own c1 h1).2
        rw [he, hkf] at this
        cases this
      · rw [if_neg e2] at h2 he
        exact h.inj c1 c2 h1 h2 he
end Go.Proofs.YthmkgohfeahdhaaGreat
namespace Go.Proofs.YthmkgohfeahdhaaGreat
open Go.RowKit
set_option linter.unusedSimpArgs false
set_option linter.unusedVariables false

/-- blocks, each the next one's block of pointers -/
def Chain : Nat → List (Nat × Nat) → Prop
  | _, [] => True
  | p, (j, c) :: r => c < 265 ∧ par c = some (p, j) ∧ Chain c r
/-- what getting a block leaves of a group, apart from the file -/
structure Grown (G G' : GS) (m : Nat) (pr pr' : Nat → Bool) (κ κ' : Nat → Nat) : Prop where
  nd : G'.nd = G.nd
  ok : G'.Ok
  eq : ∀ c, pr c = true → κ' c = κ c ∧ pr' c = true
  by_ : ∀ x, G.tk x = true → (∀ c, pr c = true → 256 ≤ c → κ c ≠ x) → G'.by_ x = G.by_ x
  tk : ∀ x, G.tk x = true → G'.tk x = true
  new : ∀ x, G'.tk x = true → G.tk x = true ∨ ∃ c, pr' c = true ∧ pr c = false ∧ κ' c = x
theorem Grown.refl {G : GS} (h : G.Ok) (m : Nat) (pr : Nat → Bool) (κ : Nat → Nat) : Grown G G m pr pr κ κ := ⟨rfl, h, fun _ h => ⟨rfl, h⟩, fun _ _ _ => rfl, fun _ h => h, fun _ h => .inl h⟩
theorem Grown.trans {G G' G'' : GS} {m : Nat} {pr pr' pr'' : Nat → Bool} {κ κ' κ'' : Nat → Nat} (h : Grown G G' m pr pr' κ κ') (h' : Grown G' G'' m pr' pr'' κ' κ'')
    (hf : ∀ c, pr' c = true → pr c = false → G.tk (κ' c) = false) : Grown G G'' m pr pr'' κ κ'' where
  nd := h'.nd.trans h.nd
  ok := h'.ok
  eq c hc := ⟨((h'.eq c (h.eq c hc).2).1).trans (h.eq c hc).1, (h'.eq c (h.eq c hc).2).2⟩
  by_ x hx hc := by
    rw [h'.by_ x (h.tk x hx) (fun c hc1 hc2 => ?_), h.by_ x hx hc]
    cases hp : pr c with
    | true => rw [(h.eq c hp).1]; exact hc c hp hc2
    | false => intro e; have := hf c hc1 hp; rw [e, hx] at this; cases this
  tk x hx := h'.tk x (h.tk x hx)
  new x hx := by
    rcases h'.new x hx with h1 | ⟨c, h1, h2, h3⟩
    · rcases h.new x h1 with h4 | ⟨c, h4, h5, h6⟩
      · exact .inl h4
      · exact .inr ⟨c, (h'.eq c h4).2, h5, by rw [(h'.eq c h4).1]; exact h6⟩
    · refine .inr ⟨c, h1, ?_, h3⟩
      cases hp : pr c with
      | false => rfl
      | true => rw [(h.eq c hp).2] at h2; cases h2
end Go.Proofs.YthmkgohfeahdhaaGreat
namespace Go.Proofs.YthmkgohfeahdhaaGreat
open Go.RowKit
set_option linter.unusedSimpArgs false
set_option linter.unusedVariables false

def rootK (b : Nat) : Nat := if b < 6 then b else if b < 38 then 256 else 257
def pathL (b : Nat) : List (Nat × Nat) := if b < 6 then [] else if b < 38 then [(b - 6, b)] else [((b - 38) / 32, 258 + (b - 38) / 32), ((b - 38) % 32, b)]
/-- the blocks gone through to a file's block -/
def pathK (b : Nat) : List Nat := rootK b :: (pathL b).map (·.2)
theorem path_idx (b : Nat) : (wayOf b).idx = (pathL b).map (·.1) := by
  unfold wayOf pathL WayV.idx
  split
  · rfl
  · split <;> rfl
theorem path_chain {b : Nat} (hb : b < 256) : Chain (rootK b) (pathL b) := by
  unfold rootK pathL
  split
  · trivial
  · split
    · refine ⟨by omega, ?_, trivial⟩
      unfold par
      rw [if_neg (by omega), if_pos (by omega)]
    · refine ⟨by omega, ?_, by omega, ?_, trivial⟩
      · unfold par
        rw [if_neg (by omega), if_neg (by omega), if_neg (by omega), if_neg (by omega)]
        rw [show 258 + (b - 38) / 32 - 258 = (b - 38) / 32 from by omega]
      · unfold par
        rw [if_neg (by omega), if_neg (by omega), if_pos (by omega)]
theorem par_root {b : Nat} (hb : b < 256) : par (rootK b) = none ∧ rootK b < 265 := by
  unfold rootK
  split
  · unfold par; rw [if_pos (by omega)]; exact ⟨rfl, by omega⟩
  · split <;> exact ⟨rfl, by omega⟩
theorem slot_root {b : Nat} (hb : b < 256) (n : NodeV) : (n.rootV (wayOf b)).toNat = n.slot (rootK b) := by
  unfold NodeV.rootV NodeV.slot wayOf rootK
  split
  · rename_i h; simp [h]
  · split
    · simp
    · simp
theorem lastP_path (b : Nat) (f : Nat → Nat) : lastP ((pathK b).map f) = f b := by
  unfold lastP pathK rootK pathL
  split
  · rfl
  · split <;> rfl
/-- a node but for its pointers -/
def NodeV.same (n n' : NodeV) : Prop := n'.kind = n.kind ∧ n'.links = n.links ∧ n'.gen = n.gen ∧ n'.size = n.size
end Go.Proofs.YthmkgohfeahdhaaGreat
namespace Go.Proofs.YthmkgohfeahdhaaGreat
open Go.RowKit
set_option linter.unusedSimpArgs false
set_option linter.unusedVariables false

/-- the blocks of a file of so many data blocks -/
def prOf (c k : Nat) : Bool := decide (k < c ∨ (k = 256 ∧ 6 < c) ∨ (k = 257 ∧ 38 < c) ∨ (258 ≤ k ∧ k < 265 ∧ 38 + 32 * (k - 258) < c))
/-- how many -/
def nkeys (c : Nat) : Nat := c + (if 6 < c then 1 else 0) + (if 38 < c then 1 + (c - 38 + 31) / 32 else 0)
theorem pathK_eq (b : Nat) : pathK b = if b < 6 then [b] else if b < 38 then [256, b] else [257, 258 + (b - 38) / 32, b] := by
  unfold pathK rootK pathL
  split
  · rfl
  · split <;> rfl
theorem pr_old {b c : Nat} (hb : b < c) (hc : c ≤ 256) : ∀ k ∈ pathK b, prOf c k = true := by
  intro k hk
  rw [pathK_eq] at hk
  unfold prOf
  rw [decide_eq_true_iff]
  split at hk
  · simp at hk; omega
  · split at hk
    · simp at hk; omega
    · simp at hk; omega
theorem blk_tree {G : GS} {m : Nat} {n : NodeV} {pr : Nat → Bool} {κ : Nat → Nat} (h : Tree G m n pr κ) : ∀ (l : List (Nat × Nat)) (p : Nat), pr p = true → Chain p l → (∀ k ∈ l.map (·.2), pr k = true) →
    blkOk G m (l.map (·.1)) (κ p + 1) ∧ blkGo G (l.map (·.1)) (κ p + 1) = κ (((p :: l.map (·.2)).getLast?).getD 0) + 1
  | [], p, hp, _, _ => ⟨trivial, rfl⟩
  | (j, c) :: r, p, hp, hch, hall => by
    obtain ⟨hc, hpar, hch⟩ := hch
    have hpc : pr c = true := hall c (by simp)
    have hsub := h.sub c p j hc hpar hp
    rw [hpc, if_pos rfl] at hsub
    have ih := blk_tree h r c hpc hch (fun k hk => hall k (by simp at hk ⊢; exact .inr hk))
    have hown := (h.own p hp).1
    simp only [List.map_cons]
    rw [blkOk, blkGo, show κ p + 1 - 1 = κ p from rfl, hsub, if_neg (by omega)]
    refine ⟨fun _ => ⟨by omega, ih.1⟩, ?_⟩
    rw [ih.2]
    simp
theorem tree_data {G : GS} {m b : Nat} {n : NodeV} {pr : Nat → Bool} {κ : Nat → Nat} (hb : b < 256) (h : Tree G m n pr κ) (hp : ∀ k ∈ pathK b, pr k = true) : Rdy G m n b ∧ dataP G n b = κ b + 1 := by
  obtain ⟨hr1, hr2⟩ := par_root hb
  have hpr : pr (rootK b) = true := hp _ (by simp [pathK])
  have hbt := blk_tree h (pathL b) (rootK b) hpr (path_chain hb) (fun k hk => hp k (by unfold pathK; exact List.mem_cons_of_mem _ hk))
  have htop := h.top _ hr2 hr1
  rw [hpr, if_pos rfl] at htop
  have hlast : ((rootK b :: (pathL b).map (·.2)).getLast?).getD 0 = b := by
    have := lastP_path b id
    unfold lastP pathK at this
    simpa using this
  have hd : dataP G n b = κ b + 1 := by
    unfold dataP
    rw [slot_root hb, htop, path_idx, hbt.2, hlast]
  have hbm : b ∈ pathK b := by rw [pathK_eq]; split; simp; split <;> simp
  have hown := (h.own b (hp b hbm)).1
  refine ⟨⟨?_, by omega, by omega⟩, hd⟩
  rw [slot_root hb, htop, path_idx]
  exact hbt.1
/-- what is done to a file leaves of a group's other blocks -/
structure Kept (G G' : GS) (pr pr' : Nat → Bool) (κ κ' : Nat → Nat) : Prop where
  nd : G'.nd = G.nd
  ok : G'.Ok
  eq : ∀ c, pr c = true → κ' c = κ c ∧ pr' c = true
  by_ : ∀ x, G.tk x = true → (∀ c, pr c = true → κ c ≠ x) → G'.by_ x = G.by_ x
  tk : ∀ x, G.tk x = true → G'.tk x = true
  new : ∀ x, G'.tk x = true → G.tk x = true ∨ ∃ c, pr' c = true ∧ pr c = false ∧ κ' c = x
theorem Kept.refl {G : GS} (h : G.Ok) (pr : Nat → Bool) (κ : Nat → Nat) : Kept G G pr pr κ κ := ⟨rfl, h, fun _ h => ⟨rfl, h⟩, fun _ _ _ => rfl, fun _ h => h, fun _ h => .inl h⟩
theorem Kept.grown {G G' G'' : GS} {m : Nat} {pr pr' pr'' : Nat → Bool} {κ κ' κ'' : Nat → Nat} (h : Kept G G' pr pr' κ κ') (ht : ∀ c, pr' c = true → pr c = false → G.tk (κ' c) = false) (h' : Grown G' G'' m pr' pr'' κ' κ'') : Kept G G'' pr pr'' κ κ'' where
  nd := h'.nd.trans h.nd
  ok := h'.ok
  eq c hc := ⟨((h'.eq c (h.eq c hc).2).1).trans (h.eq c hc).1, (h'.eq c (h.eq c hc).2).2⟩
  by_ x hx hc := by
    rw [h'.by_ x (h.tk x hx) (fun c hc1 hc2 => ?_), h.by_ x hx hc]
    cases hp : pr c with
    | true => rw [(h.eq c hp).1]; exact hc c hp
    | false => intro e; have := ht c hc1 hp; rw [e, hx] at this; cases this
  tk x hx := h'.tk x (h.tk x hx)
  new x hx := by
    rcases h'.new x hx with h1 | ⟨c, h1, h2, h3⟩
    · rcases h.new x h1 with h4 | ⟨c, h4, h5, h6⟩
      · exact .inl h4
      · exact .inr ⟨c, (h'.eq c h4).2, h5, by rw [(h'.eq c h4).1]; exact h6⟩
    · refine .inr ⟨c, h1, ?_, h3⟩
      cases hp : pr c with
      | false => rfl
      | true => rw [(h.eq c hp).2] at h2; cases h2
theorem Kept.put {G G' : GS} {pr pr' : Nat → Bool} {κ κ' : Nat → Nat} (h : Kept G G' pr pr' κ κ') (ht : ∀ c, pr' c = true → pr c = false → G.tk (κ' c) = false) {b : Nat} (hp : pr' b = true) {x : BlkV} (hx : x.length = 64) : Kept G (G'.put (κ' b) x) pr pr' κ κ' where
  nd := h.nd
  ok := h.ok.put _ hx
  eq := h.eq
  by_ y hy hc := by
    have : y ≠ κ' b := fun e => by
      cases hpb : pr b with
      | true => exact hc b hpb (by rw [← (h.eq b hpb).1]; exact e.symm)
      | false => have := ht b hp hpb; rw [← e, hy] at this; cases this
    exact (upd_other _ _ this).trans (h.by_ y hy hc)
  tk := h.tk
  new := h.new
end Go.Proofs.YthmkgohfeahdhaaGreat
namespace Go.Proofs.YthmkgohfeahdhaaGreat
open Go.RowKit
set_option linter.unusedSimpArgs false
set_option linter.unusedVariables false

/-- a file lies in a group: so many data blocks, where they are, so many bytes -/
structure FileAt (G : GS) (m : Nat) (n : NodeV) (c : Nat) (κ : Nat → Nat) (len : Nat) (f : Nat → UInt8) : Prop where
  tree : Tree G m n (prOf c) κ
  cle : c ≤ 256
  fit : len ≤ 64 * c
  byte : ∀ j, j < len → (G.by_ (κ (j / 64))).getD (j % 64) 0 = f j
/-- so many blocks a length takes -/
def blks (len : Nat) : Nat := (len + 63) / 64
theorem FileAt.rdy {G : GS} {m c len : Nat} {n : NodeV} {κ : Nat → Nat} {f : Nat → UInt8} (h : FileAt G m n c κ len f) {b : Nat} (hb : b < c) : Rdy G m n b ∧ dataP G n b = κ b + 1 :=
  tree_data (by have := h.cle; omega) h.tree (pr_old hb h.cle)
theorem FileAt.fbyte {G : GS} {m c len : Nat} {n : NodeV} {κ : Nat → Nat} {f : Nat → UInt8} (h : FileAt G m n c κ len f) {j : Nat} (hj : j < len) : fbyte G n j = f j := by
  have := h.fit
  unfold Go.Proofs.YthmkgohfeahdhaaGreat.fbyte
  rw [(h.rdy (b := j / 64) (by omega)).2]
  exact h.byte j hj
theorem FileAt.bytes {G : GS} {m c len : Nat} {n : NodeV} {κ : Nat → Nat} {f : Nat → UInt8} (h : FileAt G m n c κ len f) {off l : Nat} (hl : off + l ≤ len) : fbytes G n off l = (List.range l).map fun k => f (off + k) := by
  unfold fbytes
  apply List.map_congr_left
  intro k hk
  exact h.fbyte (by have := List.mem_range.1 hk; omega)
/-- bytes written into bytes, at each place -/
def over (f : Nat → UInt8) (off : Nat) (data : List UInt8) (a j : Nat) : UInt8 := if off ≤ j ∧ j < off + a then data.getD (j - off) 0 else f j
theorem NodeV.same.trans {a b c : NodeV} (h : a.same b) (h' : b.same c) : a.same c := ⟨h'.1.trans h.1, h'.2.1.trans h.2.1, h'.2.2.1.trans h.2.2.1, h'.2.2.2.trans h.2.2.2⟩
end Go.Proofs.YthmkgohfeahdhaaGreat
namespace Go.Proofs.YthmkgohfeahdhaaGreat
open Go.RowKit
set_option linter.unusedSimpArgs false
set_option linter.unusedVariables false

theorem Tree.grow {G : GS} {m : Nat} {n : NodeV} {pr : Nat → Bool} {κ : Nat → Nat} (h : Tree G m n pr κ) (num x : Nat) : Tree (G.set num (n.grow x)) m (n.grow x) pr κ :=
  ⟨h.dir, h.rng, h.cls, h.top, h.sub, h.own, h.inj⟩
/-- what a call on a file leaves of the group's other blocks and nodes -/
structure Left (G G' : GS) (num : Nat) (pr pr' : Nat → Bool) (κ κ' : Nat → Nat) : Prop where
  nd : ∀ k, k ≠ num → G'.nd k = G.nd k
  by_ : ∀ x, G.tk x = true → (∀ c, pr c = true → κ c ≠ x) → G'.by_ x = G.by_ x
  tk : ∀ x, G.tk x = true → G'.tk x = true
  new : ∀ x, G'.tk x = true → G.tk x = true ∨ ∃ c, pr' c = true ∧ pr c = false ∧ κ' c = x
  fresh : ∀ c, pr' c = true → pr c = false → G.tk (κ' c) = false
  old : ∀ c, pr c = true → κ' c = κ c ∧ pr' c = true
/-- what a call in a transaction leaves of it -/
structure Stay (s s' : Sto) (g : GeoN) : Prop where
  D : s'.D = s.D
  bad : s'.bad = s.bad
  far : ∀ m, (m < g.base ∨ g.data + g.blocks ≤ m) → s'.at_ m = s.at_ m
section
variable {w w' : World} {i : Ids} {s : Sto} {gg : Nat} {g : GeoN} {lab : Int} {G : GS} {K0 : List Nat}
theorem read_file {num off many en c sz : Nat} {κ : Nat → Nat} {f : Nat → UInt8} (h : GAt w i s gg g lab G) (h1 : 1 ≤ num) (h2 : num ≤ g.nodes) (hk : (G.nd num).kind ≠ 0) (hsz : (G.nd num).size.toNat = sz) (hf : FileAt G g.blocks (G.nd num) c κ sz f)
    (hoff : off ≤ 65536) (hmany : many ≤ 4611686018427387904) (hs16 : sz ≤ 16384) (hen : en = min sz (off + min many 16384)) :
    Calls Tryz.prog 36 #[.pointer (some ⟨gg, 0, none⟩), .int .i64 (num : Int), .int .i64 (off : Int), .int .i64 (many : Int)] w fun e w' => ∃ (A : Option Addr) (cp : Nat), e = .returned (.tuple #[.slice A (en - off) cp, .int .i64 0]) ∧ Rd w' w'.heap.size 1 A (en - off) (bvs ((List.range (en - off)).map fun k => f (off + k))) ∧ GAt w' i s gg g lab G ∧ Tch w.heap.size i.own w w' ∧ (∀ b, A = some b → w.heap.size ≤ b.block) ∧ en - off ≤ cp ∧ w'.ownsRow w.heap.size 5 1 (.slice A (en - off) cp) (en - off) (bvs ((List.range (en - off)).map fun k => f (off + k))) := by
  have hfit := hf.fit
  have := read_walk (num := num) (en := en) (n := G.nd num) h h1 h2 rfl hk hoff hmany (by rw [hsz]; exact hen) (by rw [hsz]; exact hs16) (fun b hb1 hb2 => (hf.rdy (b := b) (by omega)).1)
  have e : fbytes G (G.nd num) off (en - off) = (List.range (en - off)).map fun k => f (off + k) := by
    rcases Nat.lt_or_ge off en with h1 | h1
    · exact hf.bytes (by omega)
    · rw [show en - off = 0 from by omega]; rfl
  rw [e] at this
  exact this
end
end Go.Proofs.YthmkgohfeahdhaaGreat
namespace Go.Proofs.YthmkgohfeahdhaaGreat
open Go.RowKit
set_option linter.unusedSimpArgs false
set_option linter.unusedVariables false

theorem give_cnt {G : GS} {k : Nat} (hk : G.tk k = true) : ∀ m, (G.give k).cnt m + (if k < m then 1 else 0) = G.cnt m
  | 0 => rfl
  | m + 1 => by
    have ih := give_cnt hk m
    unfold GS.cnt at ih ⊢
    rw [List.range_succ, List.filter_append, List.filter_append, List.length_append, List.length_append]
    by_cases e : m = k
    · subst e
      have h1 : (G.give m).tk m = false := by simp [GS.give, upd]
      rw [if_neg (show ¬ m < m by omega)] at ih
      rw [if_pos (show m < m + 1 by omega)]
      simp only [List.filter_cons, h1, hk, List.filter_nil]
      simp
      omega
    · have h1 : (G.give k).tk m = G.tk m := by simp [GS.give, upd, e]
      simp only [List.filter_cons, h1, List.filter_nil]
      by_cases h2 : k < m
      · rw [if_pos h2] at ih
        rw [if_pos (show k < m + 1 by omega)]
        omega
      · rw [if_neg h2] at ih
        rw [if_neg (show ¬ k < m + 1 by omega)]
        omega
/-- a block goes, its pointer in a block -/
theorem Tree.del {G : GS} {m : Nat} {n : NodeV} {pr : Nat → Bool} {κ : Nat → Nat} {c p j : Nat} (h : Tree G m n pr κ) (hG : G.Ok) (hc : c < 265) (hpc : pr c = true) (hp : par c = some (p, j))
    (hch : ∀ c' j', c' < 265 → par c' = some (c, j') → pr c' = false) : Tree ((G.give (κ c)).put (κ p) (pointB (G.by_ (κ p)) j 0)) m n (upd pr c false) κ := by
  have hpp := h.cls c p j hpc hp
  obtain ⟨hp5, hj, hp256, hpc'⟩ := par_lt hc hp
  have hby : ∀ x, ((G.give (κ c)).put (κ p) (pointB (G.by_ (κ p)) j 0)).by_ x = if x = κ p then pointB (G.by_ (κ p)) j 0 else G.by_ x := fun x => rfl
  have htk : ∀ x, ((G.give (κ c)).put (κ p) (pointB (G.by_ (κ p)) j 0)).tk x = if x = κ c then false else G.tk x := fun x => rfl
  have hne : ∀ {c'}, upd pr c false c' = true → c' ≠ c ∧ pr c' = true := fun {c'} h' => by
    simp only [upd] at h'
    split at h'
    · cases h'
    · rename_i e; exact ⟨e, h'⟩
  refine ⟨h.dir, fun c' h' => h.rng c' (hne h').2, fun c' p' j' h' hp' => ?_, fun c' hc' hp' => ?_, fun c' p' j' hc' hp' hpr => ?_, fun c' h' => ?_, fun c1 c2 h1 h2 he => h.inj c1 c2 (hne h1).2 (hne h2).2 he⟩
  · have h1 := h.cls c' p' j' (hne h').2 hp'
    have h2 : p' ≠ c := fun e => by subst e; have := hch c' j' (h.rng c' (hne h').2) hp'; rw [(hne h').2] at this; cases this
    rw [upd_other _ _ h2]; exact h1
  · have : c' ≠ c := fun e => by rw [e, hp] at hp'; cases hp'
    rw [upd_other _ _ this]
    exact h.top c' hc' hp'
  · obtain ⟨h1, h2⟩ := hne hpr
    rw [hby]
    by_cases e2 : p' = p
    · subst e2
      rw [if_pos rfl, ptr_point (hG.len _) hj (by omega)]
      by_cases e3 : j' = j
      · subst e3
        have := par_inj hc' hc hp' hp
        subst this
        rw [if_pos rfl, upd_same]
        rfl
      · have : c' ≠ c := fun e => by subst e; rw [hp] at hp'; cases hp'; exact e3 rfl
        rw [if_neg e3, upd_other _ _ this]
        exact h.sub c' p' j' hc' hp' h2
    · have e4 : κ p' ≠ κ p := fun e => e2 (h.inj p' p h2 hpp e)
      have : c' ≠ c := fun e => by subst e; rw [hp] at hp'; cases hp'; exact e2 rfl
      rw [if_neg e4, upd_other _ _ this]
      exact h.sub c' p' j' hc' hp' h2
  · obtain ⟨h1, h2⟩ := hne h'
    rw [htk, if_neg (fun e => h1 (h.inj c' c h2 hpc e))]
    exact h.own c' h2
/-- what goes of a file's blocks, and what else stays -/
structure Del (G0 G : GS) (m : Nat) (n0 n : NodeV) (pr0 pr : Nat → Bool) (κ : Nat → Nat) (d : Nat) : Prop where
  tree : Tree G m n pr κ
  ok : G.Ok
  nd : G.nd = G0.nd
  same : n0.same n
  sub : ∀ k, pr k = true → pr0 k = true
  by_ : ∀ x, (∀ k, pr0 k = true → 256 ≤ k → κ k ≠ x) → G.by_ x = G0.by_ x
  tk : ∀ x, (∀ k, pr0 k = true → κ k ≠ x) → G.tk x = G0.tk x
  cnt : G.cnt m + d = G0.cnt m
theorem Del.refl {G : GS} {m : Nat} {n : NodeV} {pr : Nat → Bool} {κ : Nat → Nat} (h : Tree G m n pr κ) (hG : G.Ok) : Del G G m n n pr pr κ 0 :=
  ⟨h, hG, rfl, ⟨rfl, rfl, rfl, rfl⟩, fun _ h => h, fun _ _ => rfl, fun _ _ => rfl, rfl⟩
theorem upd_sub {pr pr0 : Nat → Bool} {c : Nat} (h : ∀ k, pr k = true → pr0 k = true) : ∀ k, upd pr c false k = true → pr0 k = true := fun k hk => by
  simp only [upd] at hk
  split at hk
  · cases hk
  · exact h k hk
theorem Del.step {G0 G : GS} {m : Nat} {n0 n : NodeV} {pr0 pr : Nat → Bool} {κ : Nat → Nat} {d c p j : Nat} (h : Del G0 G m n0 n pr0 pr κ d) (hc : c < 265) (hpc : pr c = true) (hp : par c = some (p, j))
    (hch : ∀ c' j', c' < 265 → par c' = some (c, j') → pr c' = false) : Del G0 ((G.give (κ c)).put (κ p) (pointB (G.by_ (κ p)) j 0)) m n0 n pr0 (upd pr c false) κ (d + 1) where
  tree := h.tree.del h.ok hc hpc hp hch
  ok := (h.ok.give _).put _ (by rw [pointB_length]; exact h.ok.len _)
  nd := h.nd
  same := h.same
  sub := upd_sub h.sub
  by_ x hx := by
    have hpp := h.tree.cls c p j hpc hp
    have : x ≠ κ p := fun e => hx p (h.sub p hpp) (par_lt hc hp).2.2.1 e.symm
    exact (upd_other _ _ this).trans (h.by_ x hx)
  tk x hx := by
    have : x ≠ κ c := fun e => hx c (h.sub c hpc) e.symm
    exact (upd_other _ _ this).trans (h.tk x hx)
  cnt := by
    have h1 := h.tree.own c hpc
    have h2 := give_cnt h1.2 m
    rw [if_pos h1.1] at h2
    have := h.cnt
    rw [put_cnt]
    omega
theorem prOf_true {c k : Nat} : prOf c k = true ↔ (k < c ∨ (k = 256 ∧ 6 < c) ∨ (k = 257 ∧ 38 < c) ∨ (258 ≤ k ∧ k < 265 ∧ 38 + 32 * (k - 258) < c)) := by
  unfold prOf; rw [decide_eq_true_iff]
end Go.Proofs.YthmkgohfeahdhaaGreat
namespace Go.Proofs.YthmkgohfeahdhaaGreat
open Go.RowKit
set_option linter.unusedSimpArgs false
set_option linter.unusedVariables false

section
variable {w0 w w' : World} {i : Ids} {s0 s : Sto} {gg : Nat} {g : GeoN} {lab : Int} {G G' : GS} {K : List Nat}
theorem Stay.trans {s1 s2 s3 : Sto} (h : Stay s1 s2 g) (h' : Stay s2 s3 g) : Stay s1 s3 g := ⟨h'.D.trans h.D, h'.bad.trans h.bad, fun m hm => (h'.far m hm).trans (h.far m hm)⟩
/-- how a group lies open behind calls on a file's blocks: those to be written are among a list's -/
def CutR (w0 w : World) (i : Ids) (s0 : Sto) (gg : Nat) (g : GeoN) (lab : Int) (G : GS) (K : List Nat) : Prop :=
  ∃ s, GAt w i s gg g lab G ∧ Stay s0 s g ∧ s.In K ∧ Tch w0.heap.size i.own w0 w
theorem CutR.refl (h : GAt w i s gg g lab G) (hK : s.In K) : CutR w w i s gg g lab G K := ⟨s, h, ⟨rfl, rfl, fun _ _ => rfl⟩, hK, Tch.refl _ _ _⟩
theorem CutR.below (h : CutR w0 w i s0 gg g lab G K) (hb : Below w.heap.size w w') : CutR w0 w' i s0 gg g lab G K := by
  obtain ⟨s', h1, h2, h3, h4⟩ := h
  exact ⟨s', h1.below hb, h2, h3, h4.trans ((Tch.of_below hb).mono h4.size fun _ _ h => h)⟩
theorem CutR.drew (h : CutR w0 w i s0 gg g lab G K) : CutR w0 w.drew i s0 gg g lab G K := h.below (Below.refl _ _).drew
theorem CutR.tch (h : CutR w0 w i s0 gg g lab G K) : Tch w0.heap.size i.own w0 w := by
  obtain ⟨s', h1, h2, h3, h4⟩ := h
  exact h4
theorem CutR.gok (h : CutR w0 w i s0 gg g lab G K) : G.Ok := by
  obtain ⟨s', h1, h2, h3, h4⟩ := h
  exact h1.gok
theorem CutR.step {L : List Nat} (h : CutR w0 w i s0 gg g lab G K) (hg : GAt w' i s gg g lab G') (hs : ∃ s1, s1.In K ∧ Stay s0 s1 g ∧ s1.Step s g L) (hL : ∀ x ∈ L, x ∈ K) (ht : Tch w.heap.size i.own w w') : CutR w0 w' i s0 gg g lab G' K := by
  obtain ⟨s', h1, h2, h3, h4⟩ := h
  obtain ⟨s1, k1, k2, k3⟩ := hs
  exact ⟨s, hg, k2.trans ⟨k3.D, k3.bad, k3.far⟩, (k3.in_ k1).mono (fun x hx => by rcases List.mem_append.1 hx with h | h; exact h; exact hL x h), h4.trans (ht.mono h4.size fun _ _ h => h)⟩
theorem CutR.setNode {nb r : Nat} {cs : Array Value} {u : Value} (h : CutR w0 w i s0 gg g lab G K) (hnb : w0.heap.size ≤ nb) (hN : Blk w nb 130 cs) : CutR w0 (w.setCell ⟨nb, r, none⟩ u) i s0 gg g lab G K := by
  obtain ⟨s, h1, h2, h3, h4⟩ := h
  have ht : Tch w.heap.size (· = nb) w (w.setCell ⟨nb, r, none⟩ u) := Tch.setCell fun _ => rfl
  have e1 : ¬ i.own nb := h1.tx.other hN (by decide) (by decide) (by decide)
  have e2 : nb ≠ i.ll := hN.ne h1.tx.log.log (by decide)
  have e3 : gg ≠ nb := h1.gp.ne hN (by decide)
  exact ⟨s, ⟨h1.tx.apart ht (fun k hk => by subst hk; exact ⟨e1, e2⟩), Blk.tch h1.gp ht h1.gp.lt e3, h1.ok, h1.is, h1.gok⟩, h2, h3, h4.trans (ht.mono h4.size fun k hk hs => by omega)⟩
end
end Go.Proofs.YthmkgohfeahdhaaGreat
namespace Go.Proofs.YthmkgohfeahdhaaGreat
open Go.RowKit
set_option linter.unusedSimpArgs false
set_option linter.unusedVariables false

theorem Del.trans {G0 G1 G2 : GS} {m : Nat} {n0 n1 n2 : NodeV} {p0 p1 p2 : Nat → Bool} {κ : Nat → Nat} {d d' : Nat} (h : Del G0 G1 m n0 n1 p0 p1 κ d) (h' : Del G1 G2 m n1 n2 p1 p2 κ d') : Del G0 G2 m n0 n2 p0 p2 κ (d + d') where
  tree := h'.tree
  ok := h'.ok
  nd := h'.nd.trans h.nd
  same := h.same.trans h'.same
  sub k hk := h.sub k (h'.sub k hk)
  by_ x hx := (h'.by_ x fun k hk => hx k (h.sub k hk)).trans (h.by_ x hx)
  tk x hx := (h'.tk x fun k hk => hx k (h.sub k hk)).trans (h.tk x hx)
  cnt := by have := h.cnt; have := h'.cnt; omega
section
variable {w0 w w' : World} {i : Ids} {s0 s : Sto} {gg : Nat} {g : GeoN} {lab : Int} {G G' : GS} {K : List Nat}
/-- what a cut leaves of a group's other blocks and nodes -/
structure Lost (G G' : GS) (num : Nat) (pr : Nat → Bool) (κ : Nat → Nat) : Prop where
  nd : ∀ k, k ≠ num → G'.nd k = G.nd k
  by_ : ∀ x, (∀ c, pr c = true → κ c ≠ x) → G'.by_ x = G.by_ x
  tk : ∀ x, (∀ c, pr c = true → κ c ≠ x) → G'.tk x = G.tk x
end
end Go.Proofs.YthmkgohfeahdhaaGreat
namespace Go.Proofs.YthmkgohfeahdhaaGreat
open Go.RowKit
set_option linter.unusedSimpArgs false
set_option linter.unusedVariables false

/-- an entry of a directory -/
structure EntV where
  name : ByteArray
  num : UInt16
def EntV.cells (e : EntV) : List Value := [.string e.name, .int .u16 (e.num.toNat : Int)]
def flat2 (l : List EntV) : List Value := l.flatMap EntV.cells
/-- a node as it is meant, as it lies -/
structure RNd where
  kind : UInt8
  links : Nat
  gen : UInt16
  A : Option Addr
  l : List UInt8
  c : Nat
  P : Option Addr
  ps : List EntV
  pc : Nat
def RNd.cells (n : RNd) : List Value := [.int .u8 (n.kind.toNat : Int), .int .i64 (n.links : Int), .int .u16 (n.gen.toNat : Int), .slice n.A n.l.length n.c, .slice n.P n.ps.length n.pc]
def flat5 (L : List RNd) : List Value := L.flatMap RNd.cells
def RNd.zero : RNd := ⟨0, 0, 0, none, [], 0, none, [], 0⟩
theorem flat5_length (L : List RNd) : (flat5 L).length = L.length * 5 := by
  induction L with
  | nil => rfl
  | cons n r ih => unfold flat5 at ih ⊢; rw [List.flatMap_cons, List.length_append, ih, List.length_cons]; simp [RNd.cells]; omega
theorem flat5_get : ∀ {L : List RNd} {k j : Nat} {n : RNd}, L[k]? = some n → j < 5 → (flat5 L)[k * 5 + j]? = n.cells[j]?
  | [], k, j, n, h, _ => by simp at h
  | a :: r, 0, j, n, h, hj => by
    obtain rfl : a = n := by simpa using h
    unfold flat5
    rw [List.flatMap_cons, Nat.zero_mul, Nat.zero_add, List.getElem?_append_left (by simp [RNd.cells]; omega)]
  | a :: r, k + 1, j, n, h, hj => by
    have := flat5_get (L := r) (k := k) (j := j) (n := n) (by simpa using h) hj
    unfold flat5 at this ⊢
    rw [List.flatMap_cons, List.getElem?_append_right (by simp [RNd.cells]; omega), ← this]
    congr 1
    simp [RNd.cells]; omega
/-- a node's bytes and places lie in memory -/
structure RNd.At (w : World) (n : RNd) : Prop where
  b : w.ownsRow 0 5 1 (.slice n.A n.l.length n.c) n.l.length (bvs n.l)
  p : w.ownsRow 0 125 2 (.slice n.P n.ps.length n.pc) n.ps.length (flat2 n.ps)
theorem own_from {w w' : World} {n sz : Nat} {e : TypeId} {v : Value} {xs : List Value} {S : Nat → Prop} (h : w.ownsRow 0 e sz v n xs) (ht : Tch w.heap.size S w w') (hS : ∀ g cur, Blk w g e cur → ¬ S g) : w'.ownsRow 0 e sz v n xs :=
  own_keep h fun g hg => by
    rcases h.2 with ⟨rfl, _⟩ | ⟨g', cap, cur, rfl, _, hh, _⟩
    · cases hg
    · have e : g' = g := by simpa [Value.ownBlock] using hg
      subst e
      exact ht.block g' (Array.getElem?_eq_some_iff.1 hh).1 (hS g' cur hh)
theorem RNd.At.tch {w w' : World} {n : RNd} {S : Nat → Prop} (h : n.At w) (ht : Tch w.heap.size S w w') (h1 : ∀ g cur, Blk w g 5 cur → ¬ S g) (h2 : ∀ g cur, Blk w g 125 cur → ¬ S g) : n.At w' :=
  ⟨own_from h.b ht h1, own_from h.p ht h2⟩
theorem RNd.At.zero (w : World) : RNd.zero.At w := ⟨World.ownsRow_nil _ _ _ _, World.ownsRow_nil _ _ _ _⟩
/-- a group's nodes lie in a row -/
structure Row5 (w : World) (nb : Nat) (L : List RNd) (cN : Nat) : Prop where
  row : w.ownsRow 0 62 5 (.slice (some ⟨nb, 0, none⟩) L.length cN) L.length (flat5 L)
  all : ∀ n ∈ L, n.At w
/-- a group as it is meant -/
structure GrAt (w : World) (mb nb : Nat) (L : List RNd) (cN : Nat) (T : Option Addr) (tn tc blocks : Nat) : Prop where
  m : Blk w mb 47 #[.slice (some ⟨nb, 0, none⟩) L.length cN, .slice T tn tc, .int .i64 (blocks : Int)]
  r : Row5 w nb L cN
section
variable {w w' : World} {mb nb cN tn tc blocks : Nat} {L : List RNd} {T : Option Addr} {S : Nat → Prop}
theorem Row5.tch (h : Row5 w nb L cN) (ht : Tch w.heap.size S w w') (h0 : ∀ g cur, Blk w g 62 cur → ¬ S g) (h1 : ∀ g cur, Blk w g 5 cur → ¬ S g) (h2 : ∀ g cur, Blk w g 125 cur → ¬ S g) : Row5 w' nb L cN :=
  ⟨own_from h.row ht h0, fun n hn => (h.all n hn).tch ht h1 h2⟩
theorem Row5.below (h : Row5 w nb L cN) (hb : Below w.heap.size w w') : Row5 w' nb L cN := h.tch (Tch.of_below (S := fun _ => False) hb) (fun _ _ _ h => h) (fun _ _ _ h => h) (fun _ _ _ h => h)
theorem GrAt.below (h : GrAt w mb nb L cN T tn tc blocks) (hb : Below w.heap.size w w') : GrAt w' mb nb L cN T tn tc blocks := ⟨h.m.below hb h.m.lt, h.r.below hb⟩
/-- a transaction's calls leave it -/
theorem GrAt.own {i : Ids} {s : Sto} (h : GrAt w mb nb L cN T tn tc blocks) (hx : TxAt w i s) (ht : Tch w.heap.size i.own w w') : GrAt w' mb nb L cN T tn tc blocks :=
  ⟨h.m.tch ht h.m.lt (hx.other h.m (by decide) (by decide) (by decide)), h.r.tch ht (fun g cur hB => hx.other hB (by decide) (by decide) (by decide)) (fun g cur hB => hx.other hB (by decide) (by decide) (by decide)) (fun g cur hB => hx.other hB (by decide) (by decide) (by decide))⟩
theorem Row5.blk (h : Row5 w nb L cN) : ∃ cur : Array Value, Blk w nb 62 cur ∧ ∀ (j : Nat) (v : Value), (flat5 L)[j]? = some v → cur[j]? = some v := by
  rcases h.row.2 with ⟨h0, _⟩ | ⟨g, cap, cur, hv, _, hh, _, _, _, htake⟩
  · cases h0
  · simp only [Value.slice.injEq, Option.some.injEq, Addr.mk.injEq] at hv
    obtain ⟨⟨rfl, _⟩, _, rfl⟩ := hv
    refine ⟨cur, hh, fun j v hj => ?_⟩
    have hjl : j < L.length * 5 := by rw [← flat5_length]; exact (List.getElem?_eq_some_iff.1 hj).1
    have h2 : (cur.toList.take (L.length * 5))[j]? = some v := by rw [htake]; exact hj
    rw [List.getElem?_take, if_pos hjl, Array.getElem?_toList] at h2
    exact h2
theorem Row5.cell (h : Row5 w nb L cN) {k j : Nat} {n : RNd} (hk : L[k]? = some n) (hj : j < 5) : w.cell? ⟨nb, k * 5 + j, none⟩ = n.cells[j]? := by
  obtain ⟨cur, hB, hc⟩ := h.blk
  have h1 := flat5_get hk hj
  have h2 : j < n.cells.length := by simp [RNd.cells]; omega
  rw [List.getElem?_eq_getElem h2] at h1 ⊢
  rw [hB.cell]
  exact hc _ _ h1
theorem Row5.lt (h : Row5 w nb L cN) : nb < w.heap.size := by
  obtain ⟨cur, hB, _⟩ := h.blk
  exact hB.lt
theorem Row5.frozen (h : Row5 w nb L cN) (i : Nat) : w.frozen? ⟨nb, i, none⟩ = false := by
  obtain ⟨cur, hB, _⟩ := h.blk
  exact hB.frozen i
theorem Row5.range (h : Row5 w nb L cN) {k : Nat} {n : RNd} (hk : L[k]? = some n) : w.rangeAt nb (k * 5) n.cells := fun j v hj => by
  have h2 : j < 5 := by have := (List.getElem?_eq_some_iff.1 hj).1; simpa [RNd.cells] using this
  rw [h.cell hk h2]; exact hj
theorem Row5.cap (h : Row5 w nb L cN) : L.length ≤ cN := own_le_cap h.row
end
/-- how long a node is -/
def RNd.size (n : RNd) : Nat := if n.kind = 2 then 16 * n.ps.length else n.l.length
end Go.Proofs.YthmkgohfeahdhaaGreat
namespace Go.Proofs.YthmkgohfeahdhaaGreat
open Go.RowKit
set_option linter.unusedSimpArgs false
set_option linter.unusedVariables false

section
variable {w w' : World} {mb nb cN tn tc blocks : Nat} {L : List RNd} {T : Option Addr}
theorem Row5.there (h : Row5 w nb L cN) {k : Nat} (hk : k < L.length) : w.there nb (k * 5) 5 := by
  obtain ⟨cur, hB, hc⟩ := h.blk
  refine hB.there ?_
  have h1 := flat5_get (List.getElem?_eq_getElem hk) (show 4 < 5 by omega)
  have h2 := hc _ _ h1
  have := (Array.getElem?_eq_some_iff.1 h2).1
  omega
end
end Go.Proofs.YthmkgohfeahdhaaGreat
namespace Go.Proofs.YthmkgohfeahdhaaGreat
open Go.RowKit
set_option linter.unusedSimpArgs false
set_option linter.unusedVariables false

/-- a group's own node -/
def RNd.own (k : UInt8) : RNd := ⟨k, 1, 1, none, [], 0, none, [], 0⟩
/-- a node with other bytes -/
def RNd.with (n : RNd) (A : Option Addr) (l : List UInt8) (c : Nat) : RNd := { n with A := A, l := l, c := c }
section
variable {w w' : World} {mb nb cN tn tc blocks : Nat} {L : List RNd} {T : Option Addr}
end
end Go.Proofs.YthmkgohfeahdhaaGreat
namespace Go.Proofs.YthmkgohfeahdhaaGreat
open Go.RowKit
set_option linter.unusedSimpArgs false
set_option linter.unusedVariables false

theorem build_size (w : World) : (Instr.build 26 #[]).run Tryz.prog w = .ok (.agg (szCells 0 (List.replicate 25 0) none 0 0)) w := by kernel_rfl
/-- a configuration of small numbers: what the laws need of it -/
structure SzFacts (R : List RegV) (n : Nat) : Prop where
  tot : totalOf 32 R = (n : Int)
  ge : 32 ≤ n
  le : n ≤ 65536
  two : 2 ≤ R.length
  five : R.length ≤ 5
  geo : ∀ (k : Nat), k < R.length → ∃ (v : GeoV) (r : RegV), (geosOf 32 R)[k]? = some v ∧ R[k]? = some r ∧ (geoN v).Ok n ∧ (geoN v).val = .agg v.cells.toArray ∧ ((geoN v).blocks : Int) = r.blocks ∧ ((geoN v).nodes : Int) = r.nodes ∧ 4 ≤ (geoN v).blocks ∧ (geoN v).blocks ≤ 512 ∧ 4 ≤ (geoN v).nodes ∧ (geoN v).nodes ≤ 128
theorem sz_facts {m : UInt8} {H : List UInt8} (hok : ∀ r ∈ szRegs m H, okReg r) : ∃ n, SzFacts (szRegs m H) n := by
  have h2 := szMany_ge m
  have h5 := szMany_le m
  have hl := szRegs_length m H
  have htb := total_bounds hok 32 (by omega)
  have hge := tot_ge hok 32
  generalize szRegs m H = R at *
  refine ⟨(totalOf 32 R).toNat, by omega, by omega, by omega, by omega, by omega, fun k hk => ?_⟩
  have hv : (geosOf 32 R)[k]? = some ((geosOf 32 R)[k]'(by rw [geosOf_length]; exact hk)) := List.getElem?_eq_getElem _
  obtain ⟨h1, h2, r, hr, h3, h4⟩ := geos_ok hok 32 k _ (by omega) (by omega) hv
  obtain ⟨_, b1, b2, b3, b4⟩ := hok r (List.mem_of_getElem? hr)
  exact ⟨_, r, hv, hr, h1, h2, h3, h4, by omega, by omega, by omega, by omega⟩

end Go.Proofs.YthmkgohfeahdhaaGreat
namespace Go.Proofs.YthmkgohfeahdhaaGreat
open Go.RowKit
set_option linter.unusedSimpArgs false
set_option linter.unusedVariables false

/-- a node that is there from the beginning -/
def freshN (k : UInt8) : NodeV := { NodeV.zero with kind := k, links := 1, gen := 1 }
def GS.freshTo : Nat → GS
  | 0 => GS.none
  | 1 => GS.none.set 1 (freshN 2)
  | 2 => (GS.none.set 1 (freshN 2)).set 2 (freshN 1)
  | _ => ((GS.none.set 1 (freshN 2)).set 2 (freshN 1)).set 3 (freshN 1)
/-- a group with its own nodes -/
def GS.fresh : GS := GS.freshTo 3
theorem GS.freshTo_ok : ∀ q, (GS.freshTo q).Ok
  | 0 => none_ok
  | 1 => none_ok.set 1 rfl rfl
  | 2 => (none_ok.set 1 rfl rfl).set 2 rfl rfl
  | _ + 3 => ((none_ok.set 1 rfl rfl).set 2 rfl rfl).set 3 rfl rfl
theorem GS.fresh_ok : GS.fresh.Ok := GS.freshTo_ok 3
theorem build_fresh (w : World) (k : UInt8) : (Instr.build 130 #[(0, .int .u8 (k.toNat : Int)), (1, .int .u8 1), (2, .int .u16 1)]).run Tryz.prog w = .ok (freshN k).val w := by kernel_rfl

/-- a configuration: what the laws need of it -/
structure CfFacts (R : List RegV) (n : Nat) : Prop where
  tot : totalOf 32 R = (n : Int)
  ge : 32 ≤ n
  le : n ≤ 65536
  geo : ∀ (k : Nat), k < R.length → ∃ (v : GeoV) (r : RegV), (geosOf 32 R)[k]? = some v ∧ R[k]? = some r ∧ (geoN v).Ok n ∧ (geoN v).val = .agg v.cells.toArray ∧ ((geoN v).blocks : Int) = r.blocks ∧ ((geoN v).nodes : Int) = r.nodes ∧ 4 ≤ (geoN v).blocks ∧ (geoN v).blocks ≤ 512 ∧ 4 ≤ (geoN v).nodes ∧ (geoN v).nodes ≤ 128
  apart : ∀ (j k : Nat) (v v' : GeoV), (geosOf 32 R)[j]? = some v → (geosOf 32 R)[k]? = some v' → j < k → (geoN v).data + (geoN v).blocks ≤ (geoN v').base
theorem geos_from {R : List RegV} (hok : ∀ r ∈ R, okReg r) : ∀ (a : Int) (k : Nat) (v : GeoV), (geosOf a R)[k]? = some v → a ≤ v.base := by
  induction R with
  | nil => intro a k v h; simp [geosOf] at h
  | cons r R ih =>
    intro a k v h
    cases k with
    | zero => simp only [geosOf, List.getElem?_cons_zero, Option.some.injEq] at h; subst h; exact Int.le_refl _
    | succ k =>
      simp only [geosOf, List.getElem?_cons_succ] at h
      have h1 := ih (fun x hx => hok x (by simp [hx])) _ k v h
      obtain ⟨_, k1, k2, k3, k4⟩ := hok r (by simp)
      have h2 : a ≤ (geoOf a r).end_ := by simp only [geoOf, GeoV.end_]; omega
      omega
theorem geos_apart {R : List RegV} (hok : ∀ r ∈ R, okReg r) : ∀ (a : Int) (j k : Nat) (v v' : GeoV), 0 ≤ a → (geosOf a R)[j]? = some v → (geosOf a R)[k]? = some v' → j < k → (geoN v).data + (geoN v).blocks ≤ (geoN v').base := by
  induction R with
  | nil => intro a j k v v' _ h; simp [geosOf] at h
  | cons r R ih =>
    intro a j k v v' ha h h' hjk
    obtain ⟨_, k1, k2, k3, k4⟩ := hok r (by simp)
    have h2 : a ≤ (geoOf a r).end_ := by simp only [geoOf, GeoV.end_]; omega
    obtain ⟨k, rfl⟩ : ∃ m, k = m + 1 := ⟨k - 1, by omega⟩
    simp only [geosOf, List.getElem?_cons_succ] at h'
    cases j with
    | zero =>
      simp only [geosOf, List.getElem?_cons_zero, Option.some.injEq] at h
      subst h
      have h3 := geos_from (fun x hx => hok x (by simp [hx])) _ k v' h'
      simp only [geoN, geoOf, GeoV.end_] at h3 ⊢
      omega
    | succ j =>
      simp only [geosOf, List.getElem?_cons_succ] at h
      exact ih (fun x hx => hok x (by simp [hx])) _ j k v v' (by omega) h h' (by omega)
theorem cf_facts {R : List RegV} (hok : ∀ r ∈ R, okReg r) (hl : R.length ≤ 5) : ∃ n, CfFacts R n := by
  have htb := total_bounds hok 32 (by omega)
  have hge := tot_ge hok 32
  refine ⟨(totalOf 32 R).toNat, by omega, by omega, by omega, fun k hk => ?_, fun j k v v' h h' hjk => geos_apart hok 32 j k v v' (by omega) h h' hjk⟩
  have hv : (geosOf 32 R)[k]? = some ((geosOf 32 R)[k]'(by rw [geosOf_length]; exact hk)) := List.getElem?_eq_getElem _
  obtain ⟨h1, h2, r, hr, h3, h4⟩ := geos_ok hok 32 k _ (by omega) (by omega) hv
  obtain ⟨_, b1, b2, b3, b4⟩ := hok r (List.mem_of_getElem? hr)
  exact ⟨_, r, hv, hr, h1, h2, h3, h4, by omega, by omega, by omega, by omega⟩
/-- the groups of a disk are what is said of each -/
def AllIs (R : List RegV) (D : List BlkV) (F : Nat → GS) : Prop := ∀ (k : Nat) (v : GeoV), (geosOf 32 R)[k]? = some v → Sto.Is ⟨D, [], 0⟩ (geoN v) (F k)
theorem CfFacts.sep {R : List RegV} {n : Nat} (h : CfFacts R n) {j k : Nat} {v v' : GeoV} (hv : (geosOf 32 R)[j]? = some v) (hv' : (geosOf 32 R)[k]? = some v') (hjk : j ≠ k) :
    (geoN v').data + (geoN v').blocks ≤ (geoN v).base ∨ (geoN v).data + (geoN v).blocks ≤ (geoN v').base := by
  rcases Nat.lt_or_gt_of_ne hjk with h1 | h1
  · exact .inr (h.apart j k v v' hv hv' h1)
  · exact .inl (h.apart k j v' v hv' hv h1)
theorem CfFacts.geo_ok {R : List RegV} {n : Nat} (h : CfFacts R n) {k : Nat} {v : GeoV} (hv : (geosOf 32 R)[k]? = some v) : (geoN v).Ok n := by
  have hk : k < R.length := by have := (List.getElem?_eq_some_iff.1 hv).1; rwa [geosOf_length] at this
  obtain ⟨v', r, hv', _, h1, _⟩ := h.geo k hk
  rw [hv] at hv'
  cases hv'
  exact h1
/-- a transaction in one group is written: the others are what they were -/
theorem AllIs.commit {R : List RegV} {n : Nat} {D : List BlkV} {F : Nat → GS} {s : Sto} {j : Nat} {v : GeoV} {G : GS} {L : List Nat} {l : List Nat} (h : AllIs R D F) (hc : CfFacts R n) (hs : s.Ok) (hv : (geosOf 32 R)[j]? = some v)
    (hst : Sto.Step ⟨D, [], 0⟩ s (geoN v) L) (hi : s.Is (geoN v) G) (hp : l.Perm (s.M.map (·.1))) : AllIs R (commitD s l) (upd F j G) := by
  intro k v' hv'
  have hu := hc.geo_ok hv'
  by_cases hjk : k = j
  · subst hjk
    rw [hv] at hv'
    cases hv'
    rw [upd_same]
    exact hi.commit hu hs hp
  · rw [upd_other _ _ hjk]
    exact ((h k v' hv').far hu hst (hc.sep hv hv' (fun e => hjk e.symm))).commit hu hs hp
theorem Tch.txn {B : Nat} {w0 w w' : World} {i : Ids} (h : Tch B (fun x => x = i.dd ∨ x = i.rr) w0 w) (ht : Tch w.heap.size i.own w w') (h1 : w.heap.size ≤ i.tt) (h2 : w.heap.size ≤ i.mm) (hB : B ≤ w.heap.size) : Tch B (fun x => x = i.dd ∨ x = i.rr) w0 w' :=
  h.trans (ht.mono hB fun k hk hs => by
    rcases hs with e | e | e | e
    · omega
    · omega
    · exact .inl e
    · exact .inr e)

def GeoN.zero : GeoN := ⟨0, 0, 0, 0, 0, 0⟩
theorem zero_geo (w : World) : (zeroValue 169).run Tryz.prog w = .ok (.agg GeoN.zero.cells.toArray) w := by kernel_rfl
/-- the kinds of a group's own nodes -/
def freshK (q : Nat) : UInt8 := if q = 0 then 2 else 1
theorem freshTo_succ : ∀ q, q < 3 → GS.freshTo (q + 1) = (GS.freshTo q).set (q + 1) (freshN (freshK q)) ∧ checkN (freshN (freshK q)) = true
  | 0, _ => ⟨rfl, rfl⟩
  | 1, _ => ⟨rfl, rfl⟩
  | 2, _ => ⟨rfl, rfl⟩
section
variable {B : Nat} {w w' : World} {c : Nat} {R : List RegV} {K : List MarkV} {tb nb lb : Nat} {A1 A2 A3 : Option Addr} {c1 c2 c3 : Nat}
end
end Go.Proofs.YthmkgohfeahdhaaGreat
namespace Go.Proofs.YthmkgohfeahdhaaGreat
open Go.RowKit
set_option linter.unusedSimpArgs false
set_option linter.unusedVariables false

/-- an empty file -/
theorem file_empty {G : GS} {m : Nat} {n : NodeV} (κ : Nat → Nat) (f : Nat → UInt8) (hd : n.dir.length = 6) (h0 : ∀ c, n.slot c = 0) : FileAt G m n 0 κ 0 f := by
  have hp : ∀ c, prOf 0 c = false := fun c => by unfold prOf; rw [decide_eq_false_iff_not]; omega
  refine ⟨⟨hd, fun c h => ?_, fun c p j h _ => ?_, fun c _ _ => ?_, fun c p j _ _ h => ?_, fun c h => ?_, fun c c' h _ _ => ?_⟩, by omega, by omega, fun j hj => by omega⟩
  · rw [hp] at h; cases h
  · rw [hp] at h; cases h
  · rw [hp, h0]; rfl
  · rw [hp] at h; cases h
  · rw [hp] at h; cases h
  · rw [hp] at h; cases h
theorem fresh_slot (k : UInt8) (c : Nat) : (freshN k).slot c = 0 := by
  unfold NodeV.slot freshN NodeV.zero
  split
  · rename_i h
    obtain rfl | rfl | rfl | rfl | rfl | rfl : c = 0 ∨ c = 1 ∨ c = 2 ∨ c = 3 ∨ c = 4 ∨ c = 5 := by omega
    all_goals rfl
  · split <;> rfl
end Go.Proofs.YthmkgohfeahdhaaGreat
namespace Go.Proofs.YthmkgohfeahdhaaGreat
open Go.RowKit
set_option linter.unusedSimpArgs false
set_option linter.unusedVariables false

/-- a record, as it lies -/
structure RecV where
  s : Nat
  f : Nat
  t : Nat
  A : Option Addr
  l : List UInt8
  c : Nat
structure RecV.Ok (r : RecV) : Prop where
  s : r.s < 4294967296
  f : r.f < 256
  t : r.t < 256
def RecV.cells (r : RecV) : List Value := [.int .u32 (r.s : Int), .int .u8 (r.f : Int), .int .u8 (r.t : Int), .slice r.A r.l.length r.c]
def RecV.enc (r : RecV) : List UInt8 := encB r.s r.f r.t r.l
theorem FileAt.congr {G : GS} {m c len : Nat} {n : NodeV} {κ : Nat → Nat} {f f' : Nat → UInt8} (h : FileAt G m n c κ len f) (hf : ∀ j, j < len → f j = f' j) : FileAt G m n c κ len f' :=
  ⟨h.tree, h.cle, h.fit, fun j hj => (h.byte j hj).trans (hf j hj)⟩
section
variable {w w' : World} {i : Ids} {s : Sto} {gg : Nat} {g : GeoN} {lab : Int} {G : GS}
end
end Go.Proofs.YthmkgohfeahdhaaGreat
namespace Go.Proofs.YthmkgohfeahdhaaGreat
open Go.RowKit
set_option linter.unusedSimpArgs false
set_option linter.unusedVariables false

/-- an address lies in a row of bytes -/
def BT (w : World) (A : Option Addr) : Prop := ∀ b, A = some b → ∃ cur, Blk w b.block 5 cur
theorem BT.of_own {w : World} {B n c sz : Nat} {A : Option Addr} {xs : List Value} (h : w.ownsRow B 5 sz (.slice A n c) n xs) : BT w A := fun b hb => by
  subst hb
  rcases h.2 with ⟨h0, _⟩ | ⟨g, cap, cur, hv, _, hh, _⟩
  · cases h0
  · simp only [Value.slice.injEq, Option.some.injEq] at hv
    obtain ⟨rfl, _⟩ := hv
    exact ⟨cur, hh⟩
theorem BT.tch {w w' : World} {A : Option Addr} {S : Nat → Prop} (h : BT w A) (ht : Tch w.heap.size S w w') (hS : ∀ g cur, Blk w g 5 cur → ¬ S g) : BT w' A := fun b hb => by
  obtain ⟨cur, hB⟩ := h b hb
  exact ⟨cur, hB.tch ht hB.lt (hS _ _ hB)⟩
theorem BT.below {w w' : World} {A : Option Addr} (h : BT w A) (hb : Below w.heap.size w w') : BT w' A := h.tch (Tch.of_below (S := fun _ => False) hb) (fun _ _ _ h => h)
theorem BT.slA {w : World} {A : Option Addr} {c l : Nat} (h : BT w A) : BT w (slA A c l) := fun b hb => by
  unfold Go.Proofs.YthmkgohfeahdhaaGreat.slA at hb
  split at hb
  · exact h b hb
  · cases A with
    | none => cases hb
    | some a =>
      simp only [Option.map_some, Option.some.injEq] at hb
      obtain ⟨cur, hB⟩ := h a rfl
      have : b.block = a.block := by rw [← hb]; unfold Addr.add; split <;> rfl
      rw [this]
      exact ⟨cur, hB⟩
theorem Rd.keepT {w w' : World} {B n : Nat} {A : Option Addr} {xs : List Value} {S : Nat → Prop} (h : Rd w B 1 A n xs) (hA : BT w A) (ht : Tch w.heap.size S w w') (hS : ∀ g cur, Blk w g 5 cur → ¬ S g) : Rd w' w'.heap.size 1 A n xs :=
  ⟨h.1, fun hn => by
    obtain ⟨b, o, e, hb, hc⟩ := h.2 hn
    obtain ⟨cur, hB⟩ := hA _ e
    refine ⟨b, o, e, Nat.lt_of_lt_of_le hB.lt ht.size, fun j u hu => ?_⟩
    exact (World.cell?_of_block (w := w) (a := ⟨b, o + j, none⟩) (ht.block b hB.lt (hS _ _ hB))).trans (hc j u hu)⟩
section
variable {w w' : World} {i : Ids} {s : Sto} {gg : Nat} {g : GeoN} {lab : Int} {G : GS}
end
end Go.Proofs.YthmkgohfeahdhaaGreat
namespace Go.Proofs.YthmkgohfeahdhaaGreat
open Go.RowKit
set_option linter.unusedSimpArgs false
set_option linter.unusedVariables false

/-- what a call says of a node's error, or of a node that is free -/
def GoneR (r : Int) (n : NodeV) (r' : Int) : Prop := (r ≠ 0 ∧ r' = r) ∨ (r = 0 ∧ n.kind = 0 ∧ r' = 14)
section
variable {w : World} {A : Value} {num : Int} {n : NodeV} {r r' : Int} {P : World → Prop}
set_option maxRecDepth 100000 in
theorem read_gone (off many : Int) (hd : n.dir.length = 6) (hr : GoneR r n r') (hP : ∀ a b : World, P a → Below a.heap.size a b → P b) (hn : Calls Tryz.prog 56 #[A, .int .i64 num] w fun e w' => e = .returned (.tuple #[n.val, .int .i64 r]) ∧ P w') :
    Calls Tryz.prog 36 #[A, .int .i64 num, .int .i64 off, .int .i64 many] w fun e w' => e = .returned (.tuple #[.slice none 0 0, .int .i64 r']) ∧ P w' := by
  have HP := hide hP
  have HD := hide hd
  have HN := hide hn
  clear hP hd hn
  go_enter Tryz.func36, Tryz.ntmps36
  go_wp2_with fail
  refine HN.out.mono ?_
  rintro e w1 ⟨rfl, hp1⟩
  go_upto_region 2 with (first | ((with_reducible refine at_alloc 130 ?_); refine wpList_alloc_as rfl 130 rfl _ (zero_node _) ?_) | ((with_reducible refine at_store 130 (.tmp 10) (.tmp 23) ?_); refine wpList_store_blk rfl 130 (.tmp 10) (.tmp 23) rfl w1.heap.size _ _ _ (by rfl) (by rfl) (Blk.new _ _ _) (size_nodeOf HD.out) (by rw [List.size_toArray, List.size_toArray, NodeV.cells_length HD.out]; rfl) (NodeV.cells_one _) (fun _ => ?_)) | fail)
  refine at_world (fun W => ∃ q, q = w1.heap.size ∧ Below w1.heap.size w1 W ∧ Blk W q 130 n.cells.toArray) ⟨_, rfl, below_setRow ((Below.refl _ _).alloc (Nat.le_refl _) _) (Nat.le_refl _) _, (Blk.new _ _ _).setRow_same _⟩ (fun w2 h2 => ?_)
  obtain ⟨q, hq, hb2, hQ2⟩ := h2
  rw [← hq]
  have HP2 := hide (HP.out _ _ hp1 hb2)
  have q0 := (hQ2.cell 0).trans (node_cells_at n).1
  have ql := hQ2.lt
  clear hq hb2 hQ2 hp1 HN
  rcases hr with ⟨h0, rfl⟩ | ⟨rfl, hk, rfl⟩
  · have t0 : (r' != 0) = true := by simp [h0]
    have t0' : (r' == 0) = false := by simp [h0]
    clear q0 ql
    go_wp2
    go_returns
    exact ⟨rfl, HP2.out⟩
  · rw [hk] at q0
    go_wp2
    go_returns
    exact ⟨rfl, HP2.out⟩
end
end Go.Proofs.YthmkgohfeahdhaaGreat
namespace Go.Proofs.YthmkgohfeahdhaaGreat
open Go.RowKit
set_option linter.unusedSimpArgs false
set_option linter.unusedVariables false

def u16k (k : Fin 65536) : Value := .int .u16 (k.val : Int)
theorem uEnc : KeyEnc Tryz.prog 37 u16k where
  keyed := Go.Maps.int_keyed Tryz.underlying37
  reads a := ⟨_, Go.Maps.keyOf_int_mk Tryz.underlying37 (by
    have := a.isLt
    simp [Lit.wf, IntKind.min, IntKind.max, IntKind.signed, IntKind.bits]
    omega)⟩
  inj a b h := by
    simp only [u16k, Value.int.injEq, true_and] at h
    exact Fin.ext (by omega)
theorem info_u16 : ∃ i, Tryz.prog.info? 37 = some i ∧ i.zero = some (.int .u16 0) ∧ i.size = 1 ∧ i.bytes = 2 := by
  have h : (Tryz.prog.info? 37).map (fun i => (i.zero, i.size, i.bytes)) = some (some (.int .u16 0), 1, 2) := by kernel_rfl
  cases hi : Tryz.prog.info? 37 with
  | none => rw [hi] at h; cases h
  | some i =>
    rw [hi] at h
    simp only [Option.map_some, Option.some.injEq, Prod.mk.injEq] at h
    exact ⟨i, rfl, h.1, h.2.1, h.2.2⟩
end Go.Proofs.YthmkgohfeahdhaaGreat
namespace Go.Proofs.YthmkgohfeahdhaaGreat
open Go.RowKit Go.ChangeShapes Go.WideShapes Go.ChangeAt Go.Joins Go.Deep
set_option linter.unusedSimpArgs false
set_option linter.unusedVariables false

section
variable {H : Type} {enc : TypeId × Value → H} {P : Program} {w : World} {base : Nat} {held : Bool} {fuel : Nat} {t e : TypeId} {v : Value} {y : DataW H × List MemPlace}

theorem awf_u8 {n : Int} (h : (Lit.int .u8 n).wf = true) : ∃ k : Nat, n = k ∧ k < 256 := by
  have h : IntKind.u8.min ≤ n ∧ n ≤ IntKind.u8.max := by simpa [Lit.wf] using h
  have h1 : IntKind.u8.min = 0 := by decide
  have h2 : IntKind.u8.max = 255 := by decide
  exact ⟨n.toNat, by omega, by omega⟩


theorem open_bytes_cell (ht : P.underlying t = some (.slice e)) (he : P.underlying e = some (.int .u8)) (hc : P.cellsOf e = 1) (h : DataW.trod enc P w base (fun _ => true) held fuel t [v] = some y) :
    ∃ (A : Option Addr) (n c : Nat) (l : List UInt8), v = .slice A n c ∧ Rd w w.heap.size 1 A n (bvs l) ∧ n ≤ c := by
  rcases open_ints ht he hc h with ⟨hcs, _⟩ | ⟨x, n, c, zs, hcs, _, hl, _, hz, _, hcell, hwz⟩
  · exact ⟨none, 0, 0, [], by simpa using hcs, Rd.nil _ _ _ _, Nat.le_refl _⟩
  · simp only [if_true] at hz
    refine ⟨some x, n, c, (zs.take n).map fun z => UInt8.ofNat z.toNat, by simpa using hcs, ⟨by simp [bvs]; omega, fun hn => ?_⟩, hl⟩
    have h0 := hcell 0 (by omega)
    have hspot : x.spot = none := by simpa [Addr.add] using World.cell?_spot h0
    obtain ⟨b, o, spot⟩ := x
    simp only at hspot
    subst hspot
    have hb : b < w.heap.size := by
      have := World.block_lt_of_cell? w _ h0
      simpa [Addr.add] using this
    refine ⟨b, o, rfl, hb, fun j u hu => ?_⟩
    have hj : j < n := by
      rcases Nat.lt_or_ge j n with h | h
      · exact h
      · rw [List.getElem?_eq_none (by simp [bvs]; omega)] at hu; cases hu
    have hc := hcell j (by omega)
    have hadd : (⟨b, o, none⟩ : Addr).add j = ⟨b, o + j, none⟩ := by unfold Addr.add; split <;> simp_all
    rw [hadd] at hc
    rw [hc, ← hu]
    have hjz : j < zs.length := by omega
    have hw := hwz (zs[j]) (List.getElem_mem hjz)
    obtain ⟨k, hk, hk2⟩ := awf_u8 hw
    have e1 : zs.getD j 0 = (k : Int) := by simp [List.getD_eq_getElem?_getD, List.getElem?_eq_getElem hjz, hk]
    rw [e1]
    rw [bvs_get, List.getElem?_map, List.getElem?_take, if_pos hj, List.getElem?_eq_getElem hjz, hk]
    simp only [Option.map_some, Int.toNat_natCast]
    rw [bv_ofNat hk2]

variable {r : Reach} {b0 : Nat} {d : DataW H} {ps : List MemPlace}
end

end Go.Proofs.YthmkgohfeahdhaaGreat
namespace Go.Proofs.YthmkgohfeahdhaaGreat
open Go.RowKit Go.ChangeShapes Go.WideShapes Go.ChangeAt Go.Joins Go.Deep
set_option linter.unusedSimpArgs false
set_option linter.unusedVariables false

section
variable {H : Type} {enc : TypeId × Value → H} {P : Program} {w : World} {base : Nat} {held : Bool} {t e : TypeId} {v : Value} {r : Reach} {b0 : Nat} {d : DataW H} {ps : List MemPlace}
theorem slice_max {A : Option Addr} {n c fuel : Nat} {y : DataW H × List MemPlace} (ht : P.underlying t = some (.slice e)) (hf : DataW.trod enc P w base (fun _ => true) held fuel t [.slice A n c] = some y) : n ≤ 9223372036854775807 := by
  rcases open_slice ht hf with ⟨hcs, _⟩ | ⟨a, len, cap, m, n', D, Pl, hcs, _, hl, hm, _⟩
  · obtain ⟨_, rfl, _⟩ : A = none ∧ n = 0 ∧ c = 0 := by simpa using hcs
    exact Nat.zero_le _
  · obtain ⟨_, rfl, _⟩ : A = some a ∧ n = len ∧ c = cap := by simpa using hcs
    unfold maxLen at hm
    omega
theorem bvs_of {M : List Value} (h : ∀ x ∈ M, ∃ b : UInt8, x = bv b) : ∃ H, M = bvs H := by
  induction M with
  | nil => exact ⟨[], rfl⟩
  | cons x rest ih =>
    obtain ⟨b, hb⟩ := h x (by simp)
    obtain ⟨H, hH⟩ := ih fun y hy => h y (by simp [hy])
    exact ⟨b :: H, by rw [hb, hH]; rfl⟩
theorem drop_take_one {M : List Value} {i : Nat} {x : Value} (h : (M.drop i).take 1 = [x]) : M[i]? = some x := by
  have := congrArg (·[0]?) h
  simpa [List.getElem?_take, List.getElem?_drop] using this
/-- five times five bytes -/
theorem open_five {fuel : Nat} {M : List Value} {y : DataW H × List MemPlace} {b : TypeId} (ht : P.underlying t = some (.array 5 e)) (he : P.underlying e = some (.array 5 b)) (hb : P.underlying b = some (.int .u8)) (hce : P.cellsOf e = 5) (hcb : P.cellsOf b = 1) (hct : P.cellsOf t = 25)
    (h : DataW.trod enc P w base (fun _ => true) held fuel t M = some y) : ∃ H, M = bvs H ∧ H.length = 25 := by
  obtain ⟨xs, m, _, _, hl, hxs, hx⟩ := DataW.trod_array ht h
  rw [hct] at hl
  have hall : ∀ x ∈ M, ∃ b : UInt8, x = bv b := by
    intro x hm
    obtain ⟨p, hp, rfl⟩ := List.mem_iff_getElem.1 hm
    have hi : p / 5 < 5 := by omega
    have h1 := hx (p / 5) hi
    rw [hce, List.getElem?_eq_getElem (by omega)] at h1
    obtain ⟨ys, m2, _, _, hl2, hys, hy⟩ := DataW.trod_array he h1
    have h2 := hy (p % 5) (Nat.mod_lt _ (by omega))
    rw [hcb, List.getElem?_eq_getElem (by have := Nat.mod_lt p (show 0 < 5 by omega); omega)] at h2
    obtain ⟨n, hn, _, hw⟩ := DataW.trod_int hb h2
    obtain ⟨k, rfl, hk⟩ := awf_u8 hw
    have h3 := drop_take_one hn
    rw [Nat.mul_one, List.getElem?_take, if_pos (Nat.mod_lt _ (by omega)), List.getElem?_drop] at h3
    have e5 : p / 5 * 5 + p % 5 = p := by omega
    rw [e5, List.getElem?_eq_getElem hp] at h3
    injection h3 with h3
    exact ⟨UInt8.ofNat k, by rw [h3, bv_ofNat hk]⟩
  obtain ⟨H, rfl⟩ := bvs_of hall
  exact ⟨H, rfl, by rw [bvs_length] at hl; exact hl⟩

/-- a size -/
theorem open_size {f0 f1 f2 : Field} {a5 b b2 : TypeId} (hs : P.underlying t = some (.struct #[f0, f1, f2])) (ho0 : f0.offset = 0) (ho1 : f1.offset = 1) (ho2 : f2.offset = 26) (hc0 : P.cellsOf f0.type = 1) (hc1 : P.cellsOf f1.type = 25) (hc2 : P.cellsOf f2.type = 1) (hC : P.cellsOf t = 27)
    (t0 : P.underlying f0.type = some (.int .u8)) (t1 : P.underlying f1.type = some (.array 5 a5)) (t1a : P.underlying a5 = some (.array 5 b)) (t1b : P.underlying b = some (.int .u8)) (hca : P.cellsOf a5 = 5) (hcb : P.cellsOf b = 1)
    (t2 : P.underlying f2.type = some (.slice b2)) (t2b : P.underlying b2 = some (.int .u8)) (hcb2 : P.cellsOf b2 = 1)
    (hval : Value.okWide P w r b0 t v) (h : DataW.Trod enc P w base (fun _ => true) held t v d ps) :
    ∃ (m : UInt8) (H : List UInt8) (A : Option Addr) (n c : Nat) (T : List UInt8), v = .agg (szCells m H A n c) ∧ H.length = 25 ∧ Rd w w.heap.size 1 A n (bvs T) ∧ n ≤ 9223372036854775807 := by
  obtain ⟨cs, rfl, hsz⟩ := okWide_struct hs hval
  obtain ⟨fuel, hf⟩ := h
  obtain ⟨y0, y1, y2, k, _, hl, h0, h1, h2⟩ := trod_struct3 hs hf
  obtain ⟨l⟩ := cs
  simp only [Value.cells] at hl h0 h1 h2
  rw [hC] at hl
  rw [ho0, hc0] at h0
  rw [ho1, hc1] at h1
  rw [ho2, hc2] at h2
  obtain ⟨n0, e0, _, hw0⟩ := DataW.trod_int t0 h0
  obtain ⟨k0, rfl, hk0⟩ := awf_u8 hw0
  obtain ⟨H, e1, hH⟩ := open_five t1 t1a t1b hca hcb hc1 h1
  obtain ⟨z, hz⟩ : ∃ z, (l.drop 26).take 1 = [z] := by
    have hl2 : l.length = 27 := by simpa using hl
    exact ⟨l[26], by rw [List.drop_eq_getElem_cons (by omega)]; rfl⟩
  have h2' : DataW.trod enc P w base (fun _ => true) held k f2.type [z] = some y2 := by
    have : (List.take 1 (List.drop 26 l)) = [z] := hz
    simpa [this] using h2
  obtain ⟨A, n, c, T, rfl, hr, hnc⟩ := open_bytes_cell t2 t2b hcb2 h2'
  refine ⟨UInt8.ofNat k0, H, A, n, c, T, ?_, hH, hr, slice_max t2 h2'⟩
  congr 1
  unfold szCells
  have hl2 : l.length = 27 := by simpa using hl
  have e0' : l.take 1 = [.int .u8 (k0 : Int)] := by simpa using e0
  have e1' : (l.drop 1).take 25 = bvs H := by simpa using e1
  have e3 : l = l.take 1 ++ ((l.drop 1).take 25 ++ (l.drop 26).take 1) := by
    have a1 : l = l.take 1 ++ l.drop 1 := (List.take_append_drop 1 l).symm
    have a2 : l.drop 1 = (l.drop 1).take 25 ++ (l.drop 1).drop 25 := (List.take_append_drop 25 _).symm
    have a3 : (l.drop 1).drop 25 = (l.drop 26).take 1 := by rw [List.drop_drop, List.take_of_length_le (by simp; omega)]
    rw [← a3, ← a2, ← a1]
  rw [e3, e0', e1', hz]
  have hb := bv_ofNat hk0
  simp only [bv] at hb
  rw [hb]
  rfl
end
end Go.Proofs.YthmkgohfeahdhaaGreat
namespace Go.Proofs.YthmkgohfeahdhaaGreat
open Go.RowKit Go.ChangeShapes Go.WideShapes Go.ChangeAt Go.Joins Go.Deep
set_option linter.unusedSimpArgs false
set_option linter.unusedVariables false

/-- an act on a directory -/
structure DAct where
  kind : Nat
  name : Nat
  num : Nat
  text : ByteArray
  raw : Bool
structure DAct.Ok (a : DAct) : Prop where
  k : a.kind < 256
  n : a.name < 256
  m : a.num < 65536
def DAct.cells (a : DAct) : List Value := [.int .u8 (a.kind : Int), .int .u8 (a.name : Int), .int .u16 (a.num : Int), .string a.text, .bool a.raw]
section
variable {H : Type} {enc : TypeId × Value → H} {P : Program} {w : World} {base : Nat} {held : Bool} {fuel : Nat} {t e eb : TypeId} {v : Value} {r : Reach} {b0 : Nat} {d : DataW H} {ps : List MemPlace}
abbrev DActIn := {a : DAct // a.Ok}
instance : Inhabited DActIn := ⟨⟨⟨0, 0, 0, ⟨#[]⟩, false⟩, ⟨by decide, by decide, by decide⟩⟩⟩
end
end Go.Proofs.YthmkgohfeahdhaaGreat
namespace Go.Proofs.YthmkgohfeahdhaaGreat

abbrev BL := List UInt8

/-- a byte of a name -/
def nc (c : UInt8) : Bool := decide (33 ≤ c.toNat) && decide (c.toNat ≤ 126) && !(c.toNat == 47) && !(c.toNat == 64)
/-- a name's error -/
def nameErr (l : BL) : Int := if l = [] ∨ l = [46] ∨ l = [46, 46] then 7 else if 14 < l.length then 8 else if l.all nc then 0 else 7


/-- a text cut at each slash, behind what is read already -/
def pieces : BL → BL → List BL
  | acc, [] => [acc]
  | acc, c :: r => if c = 47 then acc :: pieces [] r else pieces (acc ++ [c]) r





end Go.Proofs.YthmkgohfeahdhaaGreat
namespace Go.Proofs.YthmkgohfeahdhaaGreat
open Go.RowKit

theorem dn_sz (s : ByteArray) : s.size = s.data.toList.length := by cases s; rfl
theorem dn_get_byte (s : ByteArray) (k : Nat) (h : k < s.size) : s.data.toList[k]? = some s[k] := Lib.data_getElem? s k h
theorem dn_all_upto {p : UInt8 → Bool} {l : BL} (h : ∀ k, k < l.length → ∀ c, l[k]? = some c → p c = true) : l.all p = true := by
  rw [List.all_eq_true]
  intro x hx
  obtain ⟨k, hk, rfl⟩ := List.mem_iff_getElem.1 hx
  exact h k hk _ (List.getElem?_eq_getElem hk)
theorem dn_not_all {p : UInt8 → Bool} {l : BL} {k : Nat} {c : UInt8} (h : l[k]? = some c) (hp : p c = false) : l.all p = false := by
  rw [List.all_eq_false]
  exact ⟨c, List.mem_of_getElem? h, by simp [hp]⟩

set_option maxRecDepth 100000 in
set_option maxHeartbeats 1000000 in
theorem dirname_ok (s : ByteArray) (w : World) :
    Calls Tryz.prog 120 #[.string s] w fun e w' => e = .returned (.int .i64 (nameErr s.data.toList)) ∧ w' = w := by
  go_enter Tryz.func120, Tryz.ntmps120
  by_cases e0 : s.data.toList = [] ∨ s.data.toList = [46] ∨ s.data.toList = [46, 46]
  · have hm := Lib.mk_data s
    rcases e0 with e0 | e0 | e0 <;> rw [e0] at hm <;> rw [← hm] <;> clear e0 hm <;> go_wp2 <;> go_returns <;> exact ⟨rfl, rfl⟩
  · have n1 : ¬ s.toList = [] := by rw [Lib.toList_data]; exact fun h => e0 (Or.inl h)
    have n2 : ¬ s.toList = [46] := by rw [Lib.toList_data]; exact fun h => e0 (Or.inr (Or.inl h))
    have n3 : ¬ s.toList = [46, 46] := by rw [Lib.toList_data]; exact fun h => e0 (Or.inr (Or.inr h))
    have b1 : s.toList.isEmpty = false := by simpa using n1
    have b2 : (s.toList == [46]) = false := by simpa using n2
    have b3 : (s.toList == [46, 46]) = false := by simpa using n3
    have e : nameErr s.data.toList = if 14 < s.size then 8 else if s.data.toList.all nc then 0 else 7 := by
      rw [dn_sz]; unfold nameErr; rw [if_neg e0]
    clear e0
    by_cases h14 : 14 < s.size
    · have t14 : decide ((14 : Int) < s.size) = true := by simp; omega
      rw [if_pos h14] at e
      go_wp2
      go_returns
      exact ⟨by rw [e]; rfl, rfl⟩
    have t14 : decide ((14 : Int) < s.size) = false := by simp; omega
    rw [if_neg h14] at e
    have E := hide e
    clear e
    go_wp2
    go_loopg [22] s.size (fun g i wr => ∃ k : Nat, k ≤ s.size ∧ g = s.size - k ∧ i = .int .i64 k ∧ wr = w ∧ ∀ j, j < k → ∀ c, s.data.toList[j]? = some c → nc c = true)
    case atStart => exact ⟨0, Nat.zero_le _, rfl, rfl, rfl, fun j hj => absurd hj (Nat.not_lt_zero _)⟩
    case round =>
      obtain ⟨k, hk, hg, rfl, rfl, hA⟩ := hrel
      by_cases hkm : k < s.size
      · have hkz : (k : Int) < s.size := by omega
        have hb := dn_get_byte s k hkm
        by_cases hp : nc s[k] = true
        · have hp' := hp
          simp only [nc, Bool.and_eq_true, decide_eq_true_eq, Bool.not_eq_true', beq_eq_false_iff_ne] at hp'
          have a1 : decide (((s[k].toNat : Nat) : Int) < 33) = false := by simp; omega
          have a2 : decide ((126 : Int) < ((s[k].toNat : Nat) : Int)) = false := by simp; omega
          have a3 : (((s[k].toNat : Nat) : Int) == 47) = false := by simp; omega
          have a4 : (((s[k].toNat : Nat) : Int) == 64) = false := by simp; omega
          have hA' : ∀ j, j < k + 1 → ∀ c, s.data.toList[j]? = some c → nc c = true := fun j hj c hc => by
            rcases Nat.lt_succ_iff_lt_or_eq.1 hj with h | rfl
            · exact hA j h c hc
            · obtain rfl : s[j] = c := by rw [hb] at hc; simpa using hc
              exact hp
          clear hA hp hp' hb
          go_wp2
          go_roundg (s.size - (k + 1))
          case measure => omega
          case rel => exact ⟨k + 1, by omega, rfl, by go_num, rfl, hA'⟩
        · have hp' : nc s[k] = false := by simpa using hp
          have e : nameErr s.data.toList = 7 := by rw [E.out, dn_not_all hb hp']; rfl
          have hq : ((s[k].toNat : Nat) : Int) < 33 ∨ (126 : Int) < ((s[k].toNat : Nat) : Int) ∨ ((s[k].toNat : Nat) : Int) = 47 ∨ ((s[k].toNat : Nat) : Int) = 64 := by
            by_cases q1 : s[k].toNat < 33
            · left; omega
            · by_cases q2 : 126 < s[k].toNat
              · right; left; omega
              · by_cases q3 : s[k].toNat = 47
                · right; right; left; omega
                · by_cases q4 : s[k].toNat = 64
                  · right; right; right; omega
                  · exact absurd (show nc s[k] = true by simp [nc, q3, q4]; omega) hp
          clear hA hp hp' hb
          go_wp2
          all_goals first
            | (go_returns; exact ⟨rfl, rfl⟩)
            | (go_returns; exact ⟨by rw [e]; rfl, rfl⟩)
            | (exfalso; simp_all; omega)
      · have hkz : decide ((k : Int) < s.size) = false := by simp; omega
        have e : nameErr s.data.toList = 0 := by
          have := dn_sz s
          rw [E.out, dn_all_upto (p := nc) (l := s.data.toList) (fun j hj c hc => hA j (by omega) c hc)]; rfl
        clear hA
        go_wp2
        go_returns
        exact ⟨by rw [e]; rfl, rfl⟩


end Go.Proofs.YthmkgohfeahdhaaGreat
namespace Go.Proofs.YthmkgohfeahdhaaGreat
open Go.RowKit
set_option linter.unusedSimpArgs false
set_option linter.unusedVariables false

/-- an entry's bytes -/
def packB (e : EntV) : List UInt8 := UInt8.ofNat e.num.toNat :: UInt8.ofNat (e.num.toNat / 256) :: (e.name.data.toList ++ List.replicate 14 0).take 14
theorem packB_length (e : EntV) : (packB e).length = 16 := by simp [packB]
theorem packB_eq (name : ByteArray) (num : UInt16) (hn : name.size ≤ 14) : packB ⟨name, num⟩ = UInt8.ofNat num.toNat :: UInt8.ofNat (num.toNat / 256) :: (name.data.toList ++ List.replicate (14 - name.size) 0) := by
  have hl : name.data.toList.length = name.size := (dn_sz name).symm
  unfold packB
  congr 2
  show (name.data.toList ++ List.replicate 14 0).take 14 = _
  rw [List.take_append, List.take_of_length_le (by omega), hl, List.take_replicate]
  congr 2
  omega
end Go.Proofs.YthmkgohfeahdhaaGreat

/- A transaction is written: Blocks, Drop, install, Commit. -/
import Derived.Test.YtoeejeieplhifaaFsTxn
import Derived.Test.YtoeejeieplhifaaFsShelf
import Derived.Test.YtoeejeieplhifaaGrow
import Derived.Sort.OwnSortedInts
namespace Go.Proofs.Ytoeejeieplhifaa
open Go.RowKit
set_option linter.unusedSimpArgs false
set_option linter.unusedVariables false

theorem info_int : ∃ i, Try.prog.info? 3 = some i ∧ i.zero = some (.int .i64 0) ∧ i.size = 1 ∧ i.bytes = 8 := by
  have h : (Try.prog.info? 3).map (fun i => (i.zero, i.size, i.bytes)) = some (some (.int .i64 0), 1, 8) := by kernel_rfl
  cases hi : Try.prog.info? 3 with
  | none => rw [hi] at h; cases h
  | some i =>
    rw [hi] at h
    simp only [Option.map_some, Option.some.injEq, Prod.mk.injEq] at h
    exact ⟨i, rfl, h.1, h.2.1, h.2.2⟩
theorem keys_vals {M : List (Nat × BlkV)} (hM : ∀ x ∈ M, x.1 < 65536) {done : List NKey} (h : done.Perm ((dm M).map (·.1))) : (done.map (·.val)).Perm (M.map (·.1)) := by
  have := h.map (fun k : NKey => k.val)
  rw [List.map_map] at this
  rw [← dm_keys hM]
  exact this
theorem nkv_val (k : NKey) : nkv k = .int .i64 ((k.val : Nat) : Int) := rfl

theorem wpList_next_nkv {P : Program} {ops : Array Oper} {rest : List Oper} {o : Oper} {a : Act} {w : World} {Q : Exit → Act → World → Prop} {m r : Nat} {L : List (NKey × Value)} {done : List NKey} (hg : o.guard = none) (it : Operand) (hop : o.op = Op.next it false)
    (hit : a.eval it = .pointer (some ⟨r, 0, none⟩)) (h : Iter nkv w m r L done) (hk : ∀ a b, nkv a = nkv b → a = b)
    (hDone : (∀ k ∈ L.map (·.1), k ∈ done) → wpList P ops Q rest (a.put o.dst (.tuple #[.bool false])) w)
    (hMore : ∀ (k : NKey) (v : Value) (w' : World), (k, v) ∈ L → k ∉ done → Iter nkv w' m r L (done ++ [k]) → w.grownBy w' (some r) →
      (Instr.entry (.pointer (some ⟨r, 0, none⟩))).run P w' = .ok (.tuple #[.int .i64 (k.val : Int), v]) w' → wpList P ops Q rest (a.put o.dst (.tuple #[.bool true, .int .i64 (k.val : Int), v])) w') :
    wpList P ops Q (o :: rest) a w := wpList_next_map hg it hop hit h hk hDone fun k v w' h1 h2 h3 h4 _ h5 => hMore k v w' h1 h2 h3 h4 h5

section
variable {w w' : World} {i : Ids} {s : Sto}
set_option maxRecDepth 100000 in
set_option maxHeartbeats 1600000 in
theorem blocks_ok (h : TxAt w i s) :
    Calls Try.prog 54 #[.pointer (some ⟨i.tt, 0, none⟩)] w fun e w' => ∃ (A : Option Addr) (c : Nat) (l : List Nat), e = .returned (.slice A l.length c) ∧ Rd w' w'.heap.size 1 A l.length (nvs l) ∧ l.Perm (s.M.map (·.1)) ∧ Below w.heap.size w w' ∧ (∀ b, A = some b → w.heap.size ≤ b.block) := by
  obtain ⟨i0, hi0, i1, i2, i3⟩ := info_int
  have c1 := h.txn.cell 1
  have cl := h.txn.lt
  have HI := hide (And.intro hi0 (And.intro i1 (And.intro i2 i3)))
  have H := hide h
  clear hi0 i1 i2 i3 h
  go_enter Try.func54, Try.ntmps54
  go_wp2_with (first | (at_range; refine wpList_range_map rfl (.tmp 10) 130 rfl Try.underlying130 (by rfl) H.out.map (fun w1 hit hb1 hs1 => ?_)) | fail)
  go_frame
  have hr1 : w.heap.size < w1.heap.size := by omega
  have HIT := hide (And.intro hit hb1)
  clear hs1 hit hb1
  go_loopg [3] (s.M.length + 1) (fun gh x3 wr => ∃ (A : Option Addr) (c : Nat) (done : List NKey), gh = s.M.length + 1 - done.length ∧ x3 = .slice A done.length c ∧ Hid (Iter nkv wr i.mm w.heap.size (dm s.M) done) ∧ Hid (wr.ownsRow (w.heap.size + 1) 3 1 (.slice A done.length c) done.length (nvs (done.map (·.val)))) ∧ Hid (Below w.heap.size w wr))
  case atStart => exact ⟨none, 0, [], rfl, rfl, hide HIT.out.1, hide ⟨by simp [nvs], .inl ⟨rfl, rfl⟩⟩, hide HIT.out.2⟩
  case round =>
    obtain ⟨A, c, done, hg, rfl, HIR, HO, HBR⟩ := hrel
    have HG := hide hg
    clear hg HIT
    have hsub := HIR.out.sub
    rw [dm_length] at hsub
    have hfew := H.out.ok.few
    have hrl := HIR.out.lt
    go_wp2_with (first | (at_next; refine wpList_next_nkv rfl (.tmp 11) rfl (by rfl) HIR.out nEnc.inj (fun hdone => ?_) (fun k v w2 hkv hknd hit2 hg2 hen => ?_)) | (at_builtin; have ho2 := own_keep HO.out (fun g hv => hg2.block g (own_block_ge HO.out hv).2 (fun e => by have := (own_block_ge HO.out hv).1; cases e; omega)); have hs2' : w.heap.size + 1 ≤ w2.heap.size := (by have := hg2.size; omega); refine wpList_append_one rfl (.tmp 16) (.tmp 18) 138 rfl (w.heap.size + 1) 3 i0 (.int .i64 0) 1 8 Try.underlying138 HI.out.1 HI.out.2.1 HI.out.2.2.1 HI.out.2.2.2 rfl (by decide) A c done.length (nvs (done.map (·.val))) (nvs [k.val]) w2 rfl ho2 rfl rfl rfl (by simp [nvs, Value.oneCell']) (by omega) (by decide) hs2' ?_; intro A' c' w5 hown5 hg5 hb5 hat5) | fail)
    · have hperm := keys_vals H.out.ok.small (HIR.out.perm hdone)
      have hlen : (done.map (·.val)).length = done.length := List.length_map _
      have HP := hide hperm
      have HL := hide hlen
      clear hdone hperm hlen
      rcases HO.out.2 with ⟨hnil, h0⟩ | ⟨q, cap, cur, hv, hq, hh, hnc, hcm, hcs, htk⟩
      · have hA : A = none ∧ done.length = 0 ∧ c = 0 := by simpa using hnil
        obtain ⟨rfl, h1, rfl⟩ := hA
        have hd : done = [] := List.eq_nil_of_length_eq_zero h1
        subst hd
        refine (Try.slices_Sort_int_none none 0 wr).mono ?_
        rintro e w3 ⟨rfl, rfl⟩
        have HPP := HP.out
        clear hnil h0 h1
        go_wp2
        go_returns
        exact ⟨none, 0, [], rfl, Rd.nil _ _ _ _, HPP, HBR.out, fun b hb => by cases hb⟩
      · simp only [Value.slice.injEq] at hv
        obtain ⟨rfl, hdl, rfl⟩ := hv
        obtain ⟨zs, hzs⟩ : ∃ zs : List Int, (done.map (·.val)).map (fun n : Nat => (n : Int)) = zs := ⟨_, rfl⟩
        have hzl : zs.length = done.length := by rw [← hzs]; simp
        have hzv : zs.map (Value.int .i64) = nvs (done.map (·.val)) := by rw [← hzs]; simp [nvs, Function.comp_def]
        have hH := holds_of_blockI (ss := zs) hh (by rw [hzv, hzl]; simpa using htk)
        have hsort := Try.slices_Sort_int q 0 c zs wr hH (Array.getElem?_eq_some_iff.1 hh).1 (by omega)
        rw [hzl] at hsort
        have HSO := hide hsort
        have HZ := hide (And.intro hzs (And.intro hzl hzv))
        have HH := hide (And.intro hq (And.intro hh (And.intro hnc (And.intro hcm hcs))))
        clear hzs hzl hzv hH hsort hq hh hnc hcm hcs htk
        refine HSO.out.mono ?_
        rintro e w3 ⟨rfl, n3, os, hw3⟩
        have hsl : (zs.mergeSort fun x y => decide (x ≤ y)).length = zs.length := List.length_mergeSort _
        have hown := ownsRow_sortedI (w := wr) (base := w.heap.size + 1) (g := q) (cap := c) (n := n3) (os := os) (ss := zs) (ts := zs.mergeSort fun x y => decide (x ≤ y)) hsl HH.out.1 HH.out.2.1 (by rw [HZ.out.2.1]; exact HH.out.2.2.1) HH.out.2.2.2.1 HH.out.2.2.2.2
        have hgb := grownBy_sortedI (w := wr) (g := q) (n := n3) (os := os) (zs.mergeSort fun x y => decide (x ≤ y)).toArray
        rw [← hw3] at hown hgb
        have hb3 : Below w.heap.size w w3 := HBR.out.trans ((Tch.grown (S := fun _ => False) hgb HBR.out.size (fun k hk hlt => by cases hk; have := HH.out.1; omega)).below fun _ _ h => h)
        -- the sorted numbers as natural ones
        have hpz : (zs.mergeSort fun x y => decide (x ≤ y)).Perm zs := List.mergeSort_perm _ _
        obtain ⟨l, hl⟩ : ∃ l : List Nat, (zs.mergeSort fun x y => decide (x ≤ y)).map Int.toNat = l := ⟨_, rfl⟩
        have hnn : ∀ z ∈ zs.mergeSort fun x y => decide (x ≤ y), 0 ≤ z := fun z hz => by
          have := hpz.mem_iff.1 hz
          rw [← HZ.out.1] at this
          obtain ⟨m, _, rfl⟩ := List.mem_map.1 this
          omega
        have hlv : (zs.mergeSort fun x y => decide (x ≤ y)).map (Value.int .i64) = nvs l := by
          rw [← hl, nvs, List.map_map]
          apply List.map_congr_left
          intro z hz
          have := hnn z hz
          simp only [Function.comp, Value.int.injEq, true_and]
          omega
        have hlp : l.Perm (s.M.map (·.1)) := by
          rw [← hl]
          refine (hpz.map Int.toNat).trans ?_
          rw [← HZ.out.1, List.map_map]
          refine List.Perm.trans (List.Perm.of_eq ?_) HP.out
          conv => rhs; rw [← List.map_id (done.map (·.val))]
          apply List.map_congr_left
          intro m _
          simp
        have hll : l.length = done.length := by rw [← hl, List.length_map, hsl]; exact HZ.out.2.1
        rw [hlv] at hown
        rw [HZ.out.2.1, ← hll] at hown
        have HF := hide (And.intro (Rd.of_own hown) (And.intro hlp (And.intro hb3 hll)))
        clear hw3 hsl hown hgb hb3 hpz hl hnn hlv hlp hll HSO
        go_wp2
        go_returns
        exact ⟨_, c, l, by rw [HF.out.2.2.2]; rfl, HF.out.1, HF.out.2.1, HF.out.2.2.1, fun b hb => by cases hb; have := HH.out.1; simp only; omega⟩
    · have hbr5 : Below w.heap.size w w5 := HBR.out.trans ((Tch.grown (S := fun _ => False) hg2 HBR.out.size (fun k hk hlt => by cases hk; omega)).below (fun _ _ h => h) |>.trans (hb5.mono (by omega)))
      have hit5 : Iter nkv w5 i.mm w.heap.size (dm s.M) (done ++ [k]) := hit2.kept hg5 (fun e => hit2.map.is.not_own ho2 e.symm) (fun e => by have := (own_block_ge ho2 e.symm).1; omega)
      have hown6 : w5.ownsRow (w.heap.size + 1) 3 1 (.slice A' (done.length + 1) c') (done.length + 1) (nvs ((done ++ [k]).map (·.val))) := by
        have : nvs ((done ++ [k]).map (·.val)) = nvs (done.map (·.val)) ++ nvs [k.val] := by simp [nvs]
        rw [this]; exact hown5
      go_roundg (s.M.length + 1 - (done ++ [k]).length)
      case rel => exact ⟨A', c', done ++ [k], rfl, by rw [List.length_append]; rfl, hide hit5, hide (by rw [List.length_append]; exact hown6), hide hbr5⟩
      case measure => have := HG.out; rw [List.length_append]; simp; omega

theorem at_call1 {P : Program} {ops : Array Oper} {rest : List Oper} {a : Act} {w : World} {Q : Exit → Act → World → Prop} (b : Builtin) (x : Operand) (t : TypeId) {d : Option Tmp} {k : TypeId} {p : String} {f : Array Edge} {g : Option (Nat × Bool)} (h : wpList P ops Q (⟨d, .call { callee := .builtin b, args := #[x], argTypes := #[t] }, k, p, f, g⟩ :: rest) a w) : wpList P ops Q (⟨d, .call { callee := .builtin b, args := #[x], argTypes := #[t] }, k, p, f, g⟩ :: rest) a w := h
theorem wpList_clear_map {P : Program} {ops : Array Oper} {rest : List Oper} {o : Oper} {a : Act} {w : World} {Q : Exit → Act → World → Prop} {κ : Type} {kv : κ → Value} {K E : TypeId} {m : Nat} {L : List (κ × Value)} (hgd : o.guard = none) (x : Operand) (t : TypeId)
    (ho : o.op = .call { callee := .builtin .clear, args := #[x], argTypes := #[t] }) (hm : a.eval x = .map (some m)) (h : MapR kv w m L) (ht : P.underlying t = some (.map K E))
    (hK : ∀ w', MapR kv w' m ([] : List (κ × Value)) → OnlyMap w w' m → wpList P ops Q rest (a.put o.dst (.tuple #[])) w') : wpList P ops Q (o :: rest) a w := by
  obtain ⟨w', hrun, h1, h2⟩ := h.clear (P := P) (t := t) (ty := o.type) ht
  refine wpList_plain hgd fun K' hK' => ?_
  unfold Oper.wp execOp
  simp only [ho, resolve, invoke, builtin, Sem.run_bind, Sem.run_pure, Result.andThen_ok, List.map_toArray, List.map_cons, List.map_nil, hm, hrun]
  exact hK' _ _ (hK w' h1 h2)

set_option maxRecDepth 100000 in
theorem drop_ok (h : TxAt w i s) :
    Calls Try.prog 57 #[.pointer (some ⟨i.tt, 0, none⟩)] w fun e w' => e = .returned (.tuple #[]) ∧ TxAt w' i ⟨s.D, [], 0⟩ ∧ Tch w.heap.size i.own w w' := by
  have c1 := h.txn.cell 1
  have cl := h.txn.lt
  have H := hide h
  clear h
  go_enter Try.func57, Try.ntmps57
  go_upto_region 2 with (first | ((with_reducible refine at_call1 .clear (.tmp 7) 130 ?_); refine wpList_clear_map rfl (.tmp 7) 130 rfl (by rfl) H.out.map Try.underlying130 (fun w1 hm1 ho1 => ?_)) | fail)
  have hx := H.out
  have hg1 := ho1.1
  have a1 := hx.txn.lt
  have a2 := hx.log.log.lt
  have a3 := hx.log.disk.dlt
  have a4 := hx.log.disk.row.lt
  have ht1 : Blk w1 i.tt 132 #[.pointer (some ⟨i.ll, 0, none⟩), .map (some i.mm), .int .i64 s.bad] := (hg1.block _ a1 (fun e => hx.ntm (Option.some.inj e))).trans hx.txn
  have hl1 : LogAt w1 i.ll i.dd i.rr s.D := ⟨(hg1.block _ a2 (fun e => hx.nml (Option.some.inj e).symm)).trans hx.log.log, hx.log.disk.keep (hg1.block _ a3 (fun e => hx.nmd (Option.some.inj e).symm)) (hg1.block _ a4 (fun e => hx.nmr (Option.some.inj e).symm))⟩
  have htc : Tch w.heap.size i.own w w1 := (Tch.of_only ho1 (Nat.le_refl _)).sub fun _ h => Ids.own_mm h
  have HT := hide (And.intro ht1 (And.intro hl1 (And.intro hm1 htc)))
  clear hx hg1 a1 a2 a3 a4 ht1 hl1 htc hm1 ho1 c1 cl
  have c2 := HT.out.1.cell 2
  have f2 := HT.out.1.frozen 2
  have cl := HT.out.1.lt
  go_wp2
  go_returns
  obtain ⟨ht1, hl1, hm1, htc⟩ := HT.out
  have hx := H.out
  refine ⟨rfl, ⟨ht1.set_ 2 _, hm1.keep (heap_setCell_other _ _ _ _ hx.ntm.symm), ⟨hl1.log.far hx.ntl.symm _, hl1.disk.keep (heap_setCell_other _ _ _ _ hx.ntd.symm) (heap_setCell_other _ _ _ _ hx.ntr.symm)⟩, ⟨hx.ok.dlen, by simp, by simp, hx.ok.many, hx.ok.most, by simp, by simp, by simp⟩⟩, htc.trans (Tch.setCell (p := ⟨i.tt, 2, none⟩) fun _ => Ids.own_tt rfl)⟩
end
end Go.Proofs.Ytoeejeieplhifaa

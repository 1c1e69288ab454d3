/- A transaction is written: Commit, walked. -/
import Derived.Test.YtoeejeieplhifaaFsInst
namespace Go.Proofs.Ytoeejeieplhifaa
open Go.RowKit
set_option linter.unusedSimpArgs false
set_option linter.unusedVariables false

theorem Rd.tch {w w' : World} {S : Nat → Prop} {A : Option Addr} {n sz : Nat} {xs : List Value} (h : Rd w w.heap.size sz A n xs) (ht : Tch w.heap.size S w w') (hA : ∀ b, A = some b → ¬ S b.block) : Rd w' w'.heap.size sz A n xs :=
  ⟨h.1, fun hn => by
    obtain ⟨b, o, e, hb, hc⟩ := h.2 hn
    exact ⟨b, o, e, Nat.lt_of_lt_of_le hb ht.size, fun j u hu => (World.cell?_of_block (w := w) (ht.block b hb (hA _ e))).trans (hc j u hu)⟩⟩
section
variable {w w' : World} {i : Ids} {s : Sto}
theorem TxAt.write (h : TxAt w i s) {D' : List BlkV} (hl : LogAt w' i.ll i.dd i.rr D') (ht : Tch w.heap.size (fun x => x = i.dd ∨ x = i.rr) w w') (hn : D'.length = s.D.length) : TxAt w' i { s with D := D' } :=
  ⟨h.txn.tch ht h.txn.lt (by rintro (e | e); exact h.ntd e; exact h.ntr e), h.map.keep (ht.block _ h.map.lt (by rintro (e | e); exact h.nmd e; exact h.nmr e)), hl,
    ⟨hl.disk.len, h.ok.mlen, fun x hx => by rw [hn]; exact h.ok.keys x hx, by rw [hn]; exact h.ok.many, by rw [hn]; exact h.ok.most, h.ok.few, h.ok.nodup, h.ok.off⟩⟩

set_option maxRecDepth 100000 in
set_option maxHeartbeats 1600000 in
theorem commit_ok (h : TxAt w i s) (hb : s.bad = 0) :
    Calls Try.prog 22 #[.pointer (some ⟨i.tt, 0, none⟩)] w fun e w' => ∃ l, e = .returned (.int .i64 0) ∧ l.Perm (s.M.map (·.1)) ∧ TxAt w' i ⟨commitD s l, [], 0⟩ ∧ Tch w.heap.size i.own w w' := by
  have c2 := h.txn.cell 2
  simp only [hb] at c2
  have cl := h.txn.lt
  have H := hide h
  have HB := hide hb
  have h11 : IntKind.i64.wrap 2 = 2 := rfl
  clear h hb
  go_enter Try.func22, Try.ntmps22
  go_wp2_with fail
  refine (blocks_ok H.out).mono ?_
  rintro e w1 ⟨A, c, l, rfl, hR, hp, hb1, hAn⟩
  have hx1 := H.out.below hb1
  have hlen : l.length ≤ 30 := by rw [hp.length_eq, List.length_map]; exact H.out.ok.few
  have hmem : ∀ n ∈ l, n < s.D.length ∧ Sto.free n := fun n hn => by
    obtain ⟨x, hx, rfl⟩ := List.mem_map.1 (hp.mem_iff.1 hn)
    exact ⟨H.out.ok.keys x hx, H.out.ok.off x hx⟩
  have hmost := H.out.ok.most
  have h32 := H.out.ok.many
  have HX1 := hide hx1
  have HR := hide hR
  have HP := hide hp
  have HB1 := hide hb1
  have HA := hide (show ∀ b, A = some b → ¬ i.own b.block from fun b e hk => H.out.other_new (hAn b e) hk)
  have HM := hide hmem
  clear hR hp hb1 hx1 hmem hAn c2 cl
  by_cases hl0 : l = []
  · have hz : ((l.length : Int) == 0) = true := by rw [hl0]; rfl
    have HL0 := hide hl0
    clear hl0
    go_wp2
    go_returns
    refine ⟨l, rfl, HP.out, ?_, Tch.of_below HB1.out⟩
    have hM : s.M = [] := by
      have := HP.out.length_eq
      rw [HL0.out] at this
      simp at this
      exact List.eq_nil_of_length_eq_zero this.symm
    have he : (⟨commitD s l, [], 0⟩ : Sto) = s := by
      unfold commitD
      rw [if_pos HL0.out]
      obtain ⟨D, M, bad⟩ := s
      simp only at hM ⊢
      rw [hM, ← HB.out]
    rw [he]
    exact HX1.out
  · have hz : ((l.length : Int) == 0) = false := by
      have : 0 < l.length := List.length_pos_iff.2 hl0
      simp; omega
    have HL0 := hide hl0
    clear hl0
    go_upto_region 8 with (fail)
    have c0 := HX1.out.txn.cell 0
    have c1 := HX1.out.txn.cell 1
    have cl := HX1.out.txn.lt
    have e0 := HX1.out.log.log.cell 0
    have e1 := HX1.out.log.log.cell 1
    have el := HX1.out.log.log.lt
    go_quiet (fail)
    refine at_world (fun W => TxAt W i s ∧ Rd W W.heap.size 1 A l.length (nvs l) ∧ Tch w.heap.size i.own w W) ⟨HX1.out.below (by first | exact below_drewN (Below.refl _ _) _ | exact (Below.refl _ _).drew), by exact HR.out, (Tch.of_below HB1.out).trans ((Tch.of_below (by first | exact below_drewN (Below.refl _ _) _ | exact (Below.refl _ _).drew)))⟩ (fun w2 h2 => ?_)
    obtain ⟨hx2, hR2, hT2⟩ := h2
    have HX2 := hide hx2
    have HR2 := hide hR2
    have HT2 := hide hT2
    clear c0 c1 cl e0 e1 el hx2 hR2 hT2 HX1 HR HB1
    go_wp2_with fail
    go_loopg [44] l.length (fun gh x44 wr => ∃ (k : Nat) (Dk : List BlkV), k ≤ l.length ∧ gh = l.length - k ∧ x44 = .int .i64 (k : Int) ∧ Hid (TxAt wr i { s with D := Dk }) ∧ Hid (Tch w2.heap.size (fun x => x = i.dd ∨ x = i.rr) w2 wr) ∧ Hid (logD s.M Dk k (l.drop k) = logD s.M s.D 0 l ∧ Dk.length = s.D.length))
    case atStart => exact ⟨0, s.D, Nat.zero_le _, rfl, rfl, HX2, hide (Tch.refl _ _ _), hide ⟨by simp, rfl⟩⟩
    case round =>
      obtain ⟨k, Dk, hk, hg, rfl, HX, HT, HI⟩ := hrel
      have HGH := hide hg
      clear hg
      have HRr := hide (HR2.out.tch HT.out (fun b e hs => HA.out b e (by rcases hs with h | h; exact .inr (.inr (.inl h)); exact .inr (.inr (.inr h)))))
      rcases Nat.lt_or_ge k l.length with hkl | hkl
      · have hkz : (k : Int) < l.length := by omega
        obtain ⟨bA, o, hAe, hbA, hc⟩ := HRr.out.2 (by omega)
        subst hAe
        have y := hc k _ (nvs_get (List.getElem?_eq_getElem hkl))
        have hx := HM.out _ (List.getElem_mem hkl)
        have hin : l[k] ∈ s.M.map (·.1) := HP.out.mem_iff.1 (List.getElem_mem hkl)
        have HX3 : Hid (logD s.M (Dk.set (2 + k) ((mget s.M l[k]).getD zeroB)) (k + 1) (l.drop (k + 1)) = logD s.M s.D 0 l) := hide (by
          have := HI.out.1
          rw [List.drop_eq_getElem_cons hkl, logD] at this
          exact this)
        have hb64 := mget_lens H.out.ok.mlen l[k]
        generalize l[k] = x at y hx HX3 hin hb64
        have hx16 : x < 65536 := Nat.lt_of_lt_of_le hx.1 hmost
        have hkv : (.int .i64 (x : Int) : Value) = nkv (nk x) := (nkv_nk hx16).symm
        have hv : (if false = true then .tuple #[(mget (dm s.M) (nk x)).getD (.agg (bvs zeroB).toArray), .bool (mget (dm s.M) (nk x)).isSome] else (mget (dm s.M) (nk x)).getD (.agg (bvs zeroB).toArray)) = bval ((mget s.M x).getD zeroB) := by
          rw [dm_get H.out.ok.small hx16]
          cases mget s.M x <;> rfl
        generalize (mget s.M x).getD zeroB = b at hv HX3 hb64
        have e2 : IntKind.i64.wrap (2 + (k : Int)) = ((2 + k : Nat) : Int) := by rw [IntWalk.i64_in _ (by omega)]; omega
        have hjk : 2 + k < Dk.length := by rw [HI.out.2]; omega
        have HLN := hide HI.out.2
        have HKV := hide hkv
        have HV := hide hv
        have HB64 := hide hb64
        have HMP := hide HX.out.map.is
        clear hc hx hin hkv hv hb64 HI
        have c1 := HX.out.txn.cell 1
        have cl := HX.out.txn.lt
        generalize hj : 2 + k = j at e2 hjk HX3
        have HJ := hide hj
        clear hj
        go_wp2_with (first | ((with_reducible refine at_look 130 (.tmp 57) (.tmp 58) false ?_); refine wpList_lookup_map rfl 130 (.tmp 57) (.tmp 58) false rfl (nk x) (by rfl) HKV.out HMP.out nEnc Try.underlying130 (zero_block _) _ HV.out ?_) | fail)
        refine (disk_write HX.out.log.disk hjk HB64.out).mono ?_
        rintro e w3 ⟨rfl, hd3, ht3⟩
        have hL3 := HX.out.log.two hd3 ht3
        have hx3 := HX.out.write hL3 ht3 (by rw [List.length_set])
        have HX4 := hide hx3
        have HT4 := hide (HT.out.trans (ht3.mono HT.out.size fun _ _ h => h))
        clear hd3 ht3 hL3 hx3 c1 cl
        go_wp2
        go_roundg (l.length - (k + 1))
        case rel => exact ⟨k + 1, Dk.set j b, by omega, rfl, by go_num, HX4, HT4, hide ⟨HX3.out, by rw [List.length_set]; exact HLN.out⟩⟩
        case measure => have := HGH.out; omega
      · have hD2 : logD s.M s.D 0 l = Dk := by rw [← HI.out.1, List.drop_of_length_le hkl]; rfl
        have HE := hide (And.intro hD2 HI.out.2)
        have hkf : decide ((k : Int) < l.length) = false := by simp; omega
        have hDl : 1 < Dk.length := by rw [HI.out.2]; omega
        clear hD2 HI
        go_wp2_with fail
        refine (head_ok wr HRr.out hlen (fun x hx => Nat.lt_of_lt_of_le (HM.out x hx).1 hmost)).mono ?_
        rintro e w3 ⟨rfl, hb3⟩
        have hx3 := HX.out.below hb3
        have HX3 := hide hx3
        have HT3 := hide (HT.out.trans ((Tch.of_below hb3).mono HT.out.size fun _ _ h => h))
        clear hb3 hx3
        go_wp2_with fail
        refine (disk_write HX3.out.log.disk (k := 1) hDl (headB_length l)).mono ?_
        rintro e w4 ⟨rfl, hd4, ht4⟩
        have hx4 := HX3.out.write (HX3.out.log.two hd4 ht4) ht4 (by rw [List.length_set])
        have HX4 := hide hx4
        have HT4 := hide (HT3.out.trans (ht4.mono HT3.out.size fun _ _ h => h))
        clear hd4 ht4 hx4 HX3 HT3
        go_wp2_with fail
        refine (drop_ok HX4.out).mono ?_
        rintro e w5 ⟨rfl, hx5, ht5⟩
        have hsub : ∀ k, (k = i.dd ∨ k = i.rr) → i.own k := fun k h => by rcases h with h | h; exact .inr (.inr (.inl h)); exact .inr (.inr (.inr h))
        have HT5 := hide ((HT4.out.sub hsub).trans (ht5.mono HT4.out.size fun _ _ h => h))
        have hR5 := HR2.out.tch HT5.out (fun b e hs => HA.out b e hs)
        have HX5 := hide hx5
        have hins := install_ok (c := c) HX5.out.log hR5 (fun b e hs => HA.out b e (hsub _ hs)) (fun x hx => by simp only [List.length_set]; rw [HE.out.2]; exact (HM.out x hx).1) (by simp only [List.length_set]; rw [HE.out.2]; omega) hlen (by simp only [List.length_set]; rw [HE.out.2]; exact h32)
        have HINS := hide hins
        have c0 := HX5.out.txn.cell 0
        have cl := HX5.out.txn.lt
        clear hx5 ht5 hR5 hins HT4 HX4
        go_wp2_with fail
        refine HINS.out.mono ?_
        rintro e w6 ⟨rfl, hL6, ht6⟩
        have hx6 := HX5.out.write hL6 ht6 (by simp only [instAll]; split; rfl; rw [List.length_set, instD_length])
        have hT6 := HT2.out.trans ((HT5.out.trans ((ht6.sub hsub).mono HT5.out.size fun _ _ h => h)).mono HT2.out.size fun _ _ h => h)
        have HF := hide (And.intro hx6 hT6)
        clear hL6 ht6 hx6 hT6 HINS c0 cl
        go_wp2
        go_returns
        refine ⟨l, rfl, HP.out, ?_, HF.out.2⟩
        have he : instAll (Dk.set 1 (headB l)) l = commitD s l := by
          unfold instAll commitD
          rw [if_neg HL0.out, if_neg HL0.out, HE.out.1]
        rw [← he]
        exact HF.out.1
end
end Go.Proofs.Ytoeejeieplhifaa

/- Configurations' texts: label.Parse. -/
import Derived.Test.YtniboffmdkeacaaDoorConfTxt
import Derived.Test.YtniboffmdkeacaaDoorGrow
import Derived.Deep.Cut
import Derived.Deep.CutRange
namespace Go.Proofs.YtniboffmdkeacaaDoor
open Go.RowKit Go.WideMaps
set_option linter.unusedSimpArgs false
set_option linter.unusedVariables false

theorem catsP_step {f : Nat} {sign : UInt8} {cats : List Nat} {a : UInt8} {t : List UInt8} : catsP (f + 1) sign cats (a :: t) = if a ≠ sign then none
    else
      match numP t with
      | none => none
      | some (c, more) => if (cats.getLast?).any (fun x => decide (c ≤ x)) then none else catsP f 44 (cats ++ [c]) more := rfl

theorem info_int : (Tryd.prog.info? 3).map (fun i => (i.zero, i.size, i.bytes)) = some (some (.int .i64 0), 1, 8) := by kernel_rfl
section
attribute [-go_sem] Instr.build
attribute [local go_sem] build_labl build_lab0
set_option maxRecDepth 100000 in
set_option maxHeartbeats 2000000 in
theorem labparse_ok (s : ByteArray) (w : World) (hs : s.size < 4294967281) :
    Calls Tryd.prog 60 #[.string s] w fun e w' => e = labAns (labP s.data.toList).1 (labP s.data.toList).2 ∧ Below w.heap.size w w' := by
  have hb0 : Below w.heap.size w (w.alloc (.cells #[.int .u8 0, .int .u16 0] 36)) := (Below.refl _ _).alloc (Nat.le_refl _) _
  have B0 := Blk.new w 36 #[.int .u8 0, .int .u16 0]
  go_enter Tryd.func60, Tryd.ntmps60
  go_wp2_with fail
  refine (number_ok s _ hs).mono ?_
  cases hn : numP s.data.toList with
  | none =>
    have hm : Hid (labP s.data.toList = (none, 28)) := by unfold labP; rw [hn]; exact hide rfl
    rintro e w1 ⟨rfl, hb⟩
    have B1 := B0.below hb B0.lt
    have hb1 := Below.then_ hb0 hb0.size hb
    have HB := hide hb1
    have c0 := B1.cell 0
    have c1 := B1.cell 1
    have l1 := B1.lt
    have z0 := B1.frozen 0
    have z1 := B1.frozen 1
    have H1 := hide B1
    clear hb hb1 B1 B0 hb0 hn
    simp only [numAns]
    go_wp2
    refine bodyPost_ret (results_run2 rfl (ResV.struct rfl ((H1.out.set_ 0 _).set_ 1 _) Tryd.underlying36 (by kernel_rfl)) rfl) rfl ?_
    rw [hm.out]
    exact ⟨rfl, (HB.out.setCell (Nat.le_refl _) _).setCell (Nat.le_refl _) _⟩
  | some q =>
    obtain ⟨lv, rest0⟩ := q
    have hlv := numP_lt hn
    have hm : Hid (labP s.data.toList = match catsP (rest0.length + 1) 58 [] rest0 with | none => (none, 28) | some cats => (makeP lv cats, 27)) := by unfold labP; rw [hn]; exact hide rfl
    rintro e w1 ⟨rfl, hb⟩
    have B1 := B0.below hb B0.lt
    have hb1 := Below.then_ hb0 hb0.size hb
    have hsr : rest0.length < 4294967281 := by have := hlv.1; rw [← sz] at this; omega
    have hlv9 := hlv.2
    clear hb B0 hb0 hn hlv hs
    simp only [numAns]
    refine at_world (fun W => ∃ b2, b2 = w.heap.size ∧ Below w.heap.size w W ∧ Blk W b2 36 #[.int .u8 0, .int .u16 0]) ⟨_, rfl, hb1, B1⟩ (fun w1 h1 => ?_)
    obtain ⟨b2, e2, hb, h2⟩ := h1
    rw [← e2]
    have E2 := hide e2
    have H2 := hide h2
    have HB := hide hb
    clear e2 h2 hb hb1 B1
    go_wp2
    go_loopg [5, 7, 8, 9, 10, 11, 12] rest0.length (fun g x5 x7 x8 x9 x10 x11 x12 wr => ∃ (x : ByteArray) (cats : List Nat) (sign : UInt8) (A : Option Addr) (cA f : Nat), g = x.size ∧ x5 = .string x ∧ x7 = .slice A cats.length cA ∧ x8 = .int .u8 (sign.toNat : Int) ∧
      Below w.heap.size w wr ∧ Blk wr b2 36 #[.int .u8 0, .int .u16 0] ∧ wr.ownsRow w1.heap.size 3 1 (.slice A cats.length cA) cats.length (ivs cats) ∧
      Hid (catsP f sign cats x.data.toList = catsP (rest0.length + 1) 58 [] rest0 ∧ x.size < f ∧ x.size < 4294967281 ∧ (∀ c ∈ cats, c ≤ 99) ∧ (∀ c, cats.getLast? = some c → cats.length ≤ c + 1)) ∧ w1.heap.size ≤ wr.heap.size)
    case atStart =>
      refine ⟨⟨rest0.toArray⟩, [], 58, none, 0, rest0.length + 1, by simp [ByteArray.size], rfl, rfl, rfl, HB.out, H2.out, ?_, hide ⟨rfl, by simp [ByteArray.size], by simpa [ByteArray.size] using hsr, by simp, by simp⟩, Nat.le_refl _⟩
      exact ⟨rfl, .inl ⟨rfl, rfl⟩⟩
    case round =>
      obtain ⟨x, cats, sign, A, cA, f, hg, rfl, rfl, rfl, hbr, h2, hown, hI, hw1r⟩ := hrel
      have hwr := hbr.size
      by_cases hx0 : x.data.toList = []
      · have n1 : x.toList = [] := by rw [Lib.toList_data]; exact hx0
        have b1 : x.toList.isEmpty = true := by simp [n1]
        obtain ⟨hc, hf, hs4, h99, hl9⟩ := hI.out
        have hm2 : Hid (labP s.data.toList = (makeP lv cats, 27)) := by
          rw [hx0] at hc
          obtain ⟨f', rfl⟩ : ∃ f', f = f' + 1 := ⟨f - 1, by omega⟩
          rw [hm.out, ← hc]
          exact hide rfl
        have hn6 : cats.length ≤ 60000 := by
          cases hq : cats.getLast? with
          | none => rw [List.getLast?_eq_none_iff] at hq; simp [hq]
          | some c => have := hl9 c hq; have := h99 c (List.mem_of_getLast? hq); omega
        have hr := Rd.of_own hown
        have l2 := h2.lt
        have HR := hide hbr
        have HH2 := hide h2
        have e2 := E2.out
        clear hm hc hf hs4 hl9 hx0 hbr h2 hown hI e2
        go_wp2_with fail
        refine (make_ok lv hlv9 h99 hn6 hr).mono ?_
        rintro e w3 ⟨rfl, hb3⟩
        have h3 := HH2.out.below hb3 l2
        have hb4 := Below.then_ HR.out HR.out.size hb3
        have c0 := h3.cell 0
        have c1 := h3.cell 1
        have z0 := h3.frozen 0
        have z1 := h3.frozen 1
        have l3 := h3.lt
        have H3 := hide h3
        have H4 := hide hb4
        clear hr hb3 h3 hb4
        cases hmk : makeP lv cats with
        | none =>
          simp only [labAns]
          go_wp2
          refine bodyPost_ret (results_run2 rfl (ResV.struct rfl ((H3.out.set_ 0 _).set_ 1 _) Tryd.underlying36 (by kernel_rfl)) rfl) rfl ?_
          rw [hm2.out, hmk]
          exact ⟨rfl, (H4.out.setCell (Nat.le_of_eq E2.out.symm) _).setCell (Nat.le_of_eq E2.out.symm) _⟩
        | some q =>
          simp only [labAns]
          go_wp2
          refine bodyPost_ret (results_run2 rfl (ResV.struct rfl ((H3.out.set_ 0 _).set_ 1 _) Tryd.underlying36 (by kernel_rfl)) rfl) rfl ?_
          rw [hm2.out, hmk]
          exact ⟨rfl, (H4.out.setCell (Nat.le_of_eq E2.out.symm) _).setCell (Nat.le_of_eq E2.out.symm) _⟩
      · have n1 : ¬ x.toList = [] := by rw [Lib.toList_data]; exact hx0
        have b1 : x.toList.isEmpty = false := by simpa using n1
        have hxs : 0 < x.size := by
          rw [sz]
          exact List.length_pos_iff.2 hx0
        have hxz : (0 : Int) < x.size := by omega
        have hb := get_byte x 0 hxs
        obtain ⟨t, ht⟩ : ∃ t, x.data.toList = x[0] :: t := by
          cases hxl : x.data.toList with
          | nil => exact absurd hxl hx0
          | cons a t => rw [hxl] at hb; injection hb with hb; exact ⟨t, by rw [hb]⟩
        obtain ⟨hc, hf, hs4, h99, hl9⟩ := hI.out
        obtain ⟨f', rfl⟩ : ∃ f', f = f' + 1 := ⟨f - 1, by omega⟩
        rw [ht, catsP_step] at hc
        have l2 := h2.lt
        have c0 := h2.cell 0
        have c1 := h2.cell 1
        have z0 := h2.frozen 0
        have z1 := h2.frozen 1
        have HR := hide hbr
        have HH2 := hide h2
        by_cases hsg : x[0] = sign
        · have t1 : (((x[0].toNat : Nat) : Int) == ((sign.toNat : Nat) : Int)) = true := by simp [hsg]
          have t1s : (1 : Int) ≤ x.size := by omega
          rw [if_neg (by simp [hsg])] at hc
          have hex : (x.extract 1 x.size).data.toList = t := by
            rw [Lib.extract_data, List.take_of_length_le (by rw [List.length_drop, ← sz]; exact Nat.le_refl _), ht]; rfl
          have hxe : (x.extract 1 x.size).size < 4294967281 := by simp; omega
          have htl : t.length + 1 = x.size := by rw [sz, ht]; rfl
          have HCC := hide hc
          have HOWN := hide hown
          have HEX := hide hex
          clear hc hx0 hbr h2 hown hI hb ht hsg c0 c1 z0 z1 l2 hex
          go_wp2_with fail
          refine (number_ok _ _ hxe).mono ?_
          rw [HEX.out]
          have hc := HCC.out
          cases hn : numP t with
          | none =>
            rintro e w3 ⟨rfl, hb3⟩
            have h3 := HH2.out.below hb3 HH2.out.lt
            have hb4 := Below.then_ HR.out HR.out.size hb3
            have c0 := h3.cell 0
            have c1 := h3.cell 1
            have z0 := h3.frozen 0
            have z1 := h3.frozen 1
            have l3 := h3.lt
            have H3 := hide h3
            have H4 := hide hb4
            simp only [hn] at hc
            have hm2 : Hid (labP s.data.toList = (none, 28)) := by
              rw [hm.out, ← hc]
              exact hide rfl
            clear hb3 h3 hb4 hc hm h99 hl9 hn HCC
            simp only [numAns]
            go_wp2
            refine bodyPost_ret (results_run2 rfl (ResV.struct rfl ((H3.out.set_ 0 _).set_ 1 _) Tryd.underlying36 (by kernel_rfl)) rfl) rfl ?_
            rw [hm2.out]
            exact ⟨rfl, (H4.out.setCell (Nat.le_of_eq E2.out.symm) _).setCell (Nat.le_of_eq E2.out.symm) _⟩
          | some q =>
            obtain ⟨c, more⟩ := q
            have hnl := numP_lt hn
            rintro e w3 ⟨rfl, hb3⟩
            have h3 := HH2.out.below hb3 HH2.out.lt
            have hb4 := Below.then_ HR.out HR.out.size hb3
            have hown3 := own_below HOWN.out hb3
            have h13' := Nat.le_trans hw1r hb3.size
            simp only [hn] at hc
            have hc9 := hnl.2
            have hml := hnl.1
            have H3 := hide h3
            have H4 := hide hb4
            simp only [numAns]
            have hbad : (∃ z, cats.getLast? = some z ∧ c ≤ z) → Hid (labP s.data.toList = (none, 28)) := fun ⟨z, h, hcz⟩ => by
              rw [h] at hc
              have : (Option.any (fun x => decide (c ≤ x)) (some z)) = true := by simpa using hcz
              rw [if_pos this] at hc
              rw [hm.out, ← hc]
              exact hide rfl
            have hgood : (∀ z, cats.getLast? = some z → z < c) → Hid (catsP f' 44 (cats ++ [c]) more = catsP (rest0.length + 1) 58 [] rest0 ∧ more.length < f' ∧ more.length < 4294967281 ∧ (∀ k ∈ cats ++ [c], k ≤ 99) ∧ (∀ k, (cats ++ [c]).getLast? = some k → (cats ++ [c]).length ≤ k + 1) ∧ cats.length ≤ 100) := fun h => by
              refine ⟨?_, by omega, by omega, ?_, ?_, ?_⟩
              · rw [← hc]
                cases hq : cats.getLast? with
                | none => simp
                | some z => have := h z hq; rw [if_neg (by simp; omega)]
              · intro k hk
                rcases List.mem_append.1 hk with hk | hk
                · exact h99 k hk
                · simp at hk; omega
              · intro k hk
                rw [List.getLast?_concat] at hk
                injection hk with hk
                rw [← hk, List.length_append]
                cases hq : cats.getLast? with
                | none => rw [List.getLast?_eq_none_iff] at hq; simp [hq]
                | some z => have := h z hq; have := hl9 z hq; simp; omega
              · cases hq : cats.getLast? with
                | none => rw [List.getLast?_eq_none_iff] at hq; simp [hq]
                | some z => have := hl9 z hq; have := h99 z (List.mem_of_getLast? hq); omega
            have HOWN3 := hide hown3
            have hmx : more.length < x.size := by omega
            have hl9' : ∀ z, cats.getLast? = some z → cats.length ≤ 100 := fun z h => by have := hl9 z h; have := h99 z (List.mem_of_getLast? h); omega
            have h1w : w.heap.size ≤ w1.heap.size := HB.out.size
            have h13 : w1.heap.size ≤ w3.heap.size := h13'
            clear h13'
            clear hb3 hown3 HCC hc hm h99 hl9 hn HEX hb4 h3 hnl htl hxe t1s t1 b1 n1 hxz HR HOWN HH2 hf hs4
            have hmsz : more.length < x.size := hmx
            clear hmx
            rcases Nat.eq_zero_or_pos cats.length with hl0 | hlp
            · have t5 : decide ((0 : Int) < (cats.length : Int)) = false := by rw [hl0]; rfl
              have t6 : ¬ 0 < cats.length := by omega
              have hI2 := hgood (by have hcn := List.eq_nil_of_length_eq_zero hl0; rw [hcn]; intro z h; cases h)
              clear hgood hbad hl0
              obtain ⟨i0, hi0, i1, i2, i3⟩ := info_parts info_int
              go_wp2_with (at_builtin; refine wpList_append_one rfl (.tmp 53) (.tmp 55) 97 rfl w1.heap.size 3 i0 (.int .i64 0) 1 8 Tryd.underlying97 hi0 i1 i2 i3 rfl (by decide) A cA cats.length (ivs cats) (ivs [c]) w3 rfl HOWN3.out rfl rfl rfl (by simp [ivs, Value.oneCell']) (by have := hI2.out.2.2.2.2.2; omega) (by decide) h13 ?_; intro A' c' w5 hown5 hg5 hb5 hat5)
              go_roundg more.length
              case measure => have := hmsz; omega
              case rel =>
                have hI3 := hI2.out
                refine ⟨⟨more.toArray⟩, cats ++ [c], 44, A', c', f', by simp [ByteArray.size], rfl, by simp, rfl, H4.out.trans (hb5.mono h1w), ?_, by rw [ivs_snoc, List.length_append, List.length_singleton]; exact hown5, hide ⟨hI3.1, by simpa [ByteArray.size] using hI3.2.1, by simpa [ByteArray.size] using hI3.2.2.1, hI3.2.2.2.1, hI3.2.2.2.2.1⟩, Nat.le_trans h13 hb5.size⟩
                exact H3.out.grown hg5 (fun e => blk_not_own H3.out HOWN3.out (by decide) e.symm)
            · have t5 : decide ((0 : Int) < (cats.length : Int)) = true := by simp; omega
              obtain ⟨d, z, hdz⟩ : ∃ d z, cats = d ++ [z] := ⟨_, _, (List.dropLast_concat_getLast (List.length_pos_iff.1 hlp)).symm⟩
              obtain ⟨m, hm⟩ : ∃ m, m = d.length := ⟨_, rfl⟩
              have hcl : cats.length = m + 1 := by rw [hdz, hm]; simp
              have hgl : cats.getLast? = some z := by rw [hdz]; simp
              have hcz : cats[m]? = some z := by rw [hdz, hm]; simp
              obtain ⟨g, hA, hg1, hg2, hcell⟩ := own_base HOWN3.out hlp
              have a0 := hcell m _ (by rw [ivs_get, hcz]; rfl)
              have hm100 : m ≤ 100 := by have := hl9' z hgl; omega
              have t7 : wrap64 ((cats.length : Int) - 1) = (m : Int) := by rw [hcl]; unfold wrap64; omega
              have t8 : (m : Int) < cats.length := by omega
              subst hA
              clear hcell hdz hm hcz
              by_cases hzc : c ≤ z
              · have hm2 := hbad ⟨z, hgl, hzc⟩
                have t9 : decide ((c : Int) ≤ (z : Int)) = true := by simpa using hzc
                have c0 := H3.out.cell 0
                have c1 := H3.out.cell 1
                have z0 := H3.out.frozen 0
                have z1 := H3.out.frozen 1
                have l3 := H3.out.lt
                have HGL := hide hcl
                clear hgood hbad hgl hcl
                go_wp2
                refine bodyPost_ret (results_run2 rfl (ResV.struct rfl ((H3.out.set_ 0 _).set_ 1 _) Tryd.underlying36 (by kernel_rfl)) rfl) rfl ?_
                rw [hm2.out]
                exact ⟨rfl, (H4.out.setCell (Nat.le_of_eq E2.out.symm) _).setCell (Nat.le_of_eq E2.out.symm) _⟩
              · have hI2 := hgood (fun y hy => by rw [hgl] at hy; injection hy with hy; omega)
                have t9 : decide ((c : Int) ≤ (z : Int)) = false := by simpa using hzc
                have HGL := hide hcl
                clear hgood hbad hgl hcl
                obtain ⟨i0, hi0, i1, i2, i3⟩ := info_parts info_int
                go_wp2_with (at_builtin; refine wpList_append_one rfl (.tmp 53) (.tmp 55) 97 rfl w1.heap.size 3 i0 (.int .i64 0) 1 8 Tryd.underlying97 hi0 i1 i2 i3 rfl (by decide) (some ⟨g, 0, none⟩) cA cats.length (ivs cats) (ivs [c]) w3 rfl HOWN3.out rfl rfl rfl (by simp [ivs, Value.oneCell']) (by have := hI2.out.2.2.2.2.2; omega) (by decide) h13 ?_; intro A' c' w5 hown5 hg5 hb5 hat5)
                go_roundg more.length
                case measure => have := hmsz; omega
                case rel =>
                  have hI3 := hI2.out
                  refine ⟨⟨more.toArray⟩, cats ++ [c], 44, A', c', f', by simp [ByteArray.size], rfl, by simp, rfl, H4.out.trans (hb5.mono h1w), ?_, by rw [ivs_snoc, List.length_append, List.length_singleton]; exact hown5, hide ⟨hI3.1, by simpa [ByteArray.size] using hI3.2.1, by simpa [ByteArray.size] using hI3.2.2.1, hI3.2.2.2.1, hI3.2.2.2.2.1⟩, Nat.le_trans h13 hb5.size⟩
                  exact H3.out.grown hg5 (fun e => blk_not_own H3.out HOWN3.out (by decide) e.symm)
        · have t1 : (((x[0].toNat : Nat) : Int) == ((sign.toNat : Nat) : Int)) = false := by
            have : x[0].toNat ≠ sign.toNat := fun h => hsg (UInt8.toNat_inj.1 h)
            simp; omega
          rw [if_pos hsg] at hc
          have hm2 : Hid (labP s.data.toList = (none, 28)) := by
            rw [hm.out, ← hc]
            exact hide rfl
          clear hm hc hf hs4 h99 hl9 hx0 hbr h2 hown hI hb ht hsg
          go_wp2
          refine bodyPost_ret (results_run2 rfl (ResV.struct rfl ((HH2.out.set_ 0 _).set_ 1 _) Tryd.underlying36 (by kernel_rfl)) rfl) rfl ?_
          rw [hm2.out]
          exact ⟨rfl, (HR.out.setCell (Nat.le_of_eq E2.out.symm) _).setCell (Nat.le_of_eq E2.out.symm) _⟩
end
end Go.Proofs.YtniboffmdkeacaaDoor

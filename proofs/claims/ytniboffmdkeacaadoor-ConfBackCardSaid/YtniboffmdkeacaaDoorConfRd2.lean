/- The document's answer for texts: numbers printed, labels read. -/
import Derived.Test.YtniboffmdkeacaaDoorConfRd1
import Derived.Test.YtniboffmdkeacaaDoorConfRefL
namespace Go.Proofs.YtniboffmdkeacaaDoor
open Go.RowKit Go.WideMaps
set_option linter.unusedSimpArgs false
set_option linter.unusedVariables false

/-- 'string([]byte{d})' -/
theorem str_one (w : World) (d : Nat) (x : UInt8) (e : x.toNat = 48 + d) : (convert 24 9 (.slice (some ⟨w.heap.size, 0, none⟩) 1 1)).run Tryd.prog (w.alloc (.cells #[.int .u8 (48 + (d : Int))] 5)) = .ok (.string ⟨#[x]⟩) (w.alloc (.cells #[.int .u8 (48 + (d : Int))] 5)) := by
  have hr : Rd (w.alloc (.cells #[.int .u8 (48 + (d : Int))] 5)) (w.heap.size + 1) 1 (some ⟨w.heap.size, 0, none⟩) 1 (bvs [x]) :=
    Rd.lit (cs := #[.int .u8 (48 + (d : Int))]) rfl rfl (by simp only [bvs, bv, e, List.map_cons, List.map_nil]; simp) rfl
  exact run_string_rd (P := Tryd.prog) 24 5 9 Tryd.underlying24 Tryd.underlying5 Tryd.underlying9 hr
set_option maxRecDepth 100000 in
theorem itoa_small (n : Nat) (h : n < 10) (w : World) :
    Calls Tryd.prog 61 #[.int .i64 (n : Int)] w fun e w' => e = .returned (.string ⟨(itoaL n).toArray⟩) ∧ Below w.heap.size w w' := by
  have t1 : decide ((n : Int) < 0) = false := by simp
  have t2 : decide ((9 : Int) < (n : Int)) = false := by simp; omega
  have t3 : (n : Int).tmod 10 = n := by rw [IntWalk.rem_in _ _ (by omega)]; omega
  have t3' : (n : Int) % 10 = n := by omega
  obtain ⟨x, hx⟩ : ∃ x, x = UInt8.ofNat (48 + n) := ⟨_, rfl⟩
  have kc := str_one w n x (by rw [hx]; simp; omega)
  have HI := hide (show itoaL n = [x] by rw [itoaL, if_pos h, hx])
  clear hx
  have hB := hide (show Below w.heap.size w (w.alloc (.cells #[.int .u8 (48 + (n : Int))] 5)) from (Below.refl _ _).alloc (Nat.le_refl _) _)
  go_enter Tryd.func61, Tryd.ntmps61
  go_wp2
  go_returns
  exact ⟨by rw [HI.out]; rfl, hB.out⟩
set_option maxRecDepth 100000 in
theorem itoa_ref (n : Nat) (h : n < 100) (w : World) :
    Calls Tryd.prog 61 #[.int .i64 (n : Int)] w fun e w' => e = .returned (.string ⟨(itoaL n).toArray⟩) ∧ Below w.heap.size w w' := by
  by_cases h10 : n < 10
  · exact itoa_small n h10 w
  obtain ⟨a, ha⟩ : ∃ a, a = n / 10 := ⟨_, rfl⟩
  obtain ⟨d, hd⟩ : ∃ d, d = n % 10 := ⟨_, rfl⟩
  have ha10 : a < 10 := by omega
  have hd10 : d < 10 := by omega
  have t1 : decide ((n : Int) < 0) = false := by simp
  have t2 : decide ((9 : Int) < (n : Int)) = true := by simp; omega
  have t3 : (n : Int).tmod 10 = (d : Int) := by rw [IntWalk.rem_in _ _ (by omega)]; omega
  have t3' : (n : Int) % 10 = (d : Int) := by omega
  have t4 : (n : Int).tdiv 10 = (a : Int) := by rw [Int.tdiv_eq_ediv_of_nonneg (by omega)]; omega
  have t4' : (n : Int) / 10 = (a : Int) := by omega
  obtain ⟨x, hx⟩ : ∃ x, x = UInt8.ofNat (48 + d) := ⟨_, rfl⟩
  have kc := str_one w d x (by rw [hx]; simp; omega)
  have HI := hide (show itoaL n = itoaL a ++ [x] by rw [itoaL, if_neg h10, itoaL, if_pos ha10, ← ha, ← hd, hx]; rfl)
  clear hx
  have hB := hide (show Below w.heap.size w (w.alloc (.cells #[.int .u8 (48 + (d : Int))] 5)) from (Below.refl _ _).alloc (Nat.le_refl _) _)
  have hl := hide (itoaL_len a)
  clear ha hd
  go_enter Tryd.func61, Tryd.ntmps61
  go_wp2_with fail
  refine (itoa_small a ha10 _).mono ?_
  rintro e w5 ⟨rfl, hb5⟩
  have hB5 := hide (hB.out.trans (hb5.mono hB.out.size))
  have hl2 : ¬ 9223372036854775807 < (itoaL a).length + 1 := by have := hl.out; omega
  clear hb5 kc
  go_wp2
  go_returns
  exact ⟨by rw [HI.out]; simp; rfl, hB5.out⟩

/-! ### rising numbers -/
theorem head_cases (s : ByteArray) (L : List UInt8) (sign : UInt8) (h1 : ¬ s.data.toList = L) (h2 : ¬ ∃ t, s.data.toList = L ++ sign :: t) :
    s.size ≤ L.length ∨ (L.length < s.size ∧ ¬ (s.extract 0 L.length).data.toList = L) ∨ ∃ h : L.length < s.size, (s.extract 0 L.length).data.toList = L ∧ s[L.length] ≠ sign := by
  rcases Nat.lt_or_ge L.length s.size with h | h
  · by_cases hx : (s.extract 0 L.length).data.toList = L
    · refine .inr (.inr ⟨h, hx, fun hs => h2 ⟨s.data.toList.drop (L.length + 1), ?_⟩⟩)
      have e : s.data.toList = s.data.toList.take L.length ++ s.data.toList.drop L.length := (List.take_append_drop _ _).symm
      rw [Lib.extract_data, List.drop_zero, Nat.sub_zero] at hx
      have hd : s.data.toList.drop L.length = sign :: s.data.toList.drop (L.length + 1) := by
        rw [List.drop_eq_getElem_cons (by rw [← sz]; exact h), ← hs]; rfl
      rw [hx, hd] at e
      exact e
    · exact .inr (.inl ⟨h, hx⟩)
  · exact .inl h
theorem head_more {s : ByteArray} {L t : List UInt8} {sign : UInt8} (h : s.data.toList = L ++ sign :: t) : ∃ hl : L.length < s.size, (s.extract 0 L.length).data.toList = L ∧ s[L.length] = sign ∧ (s.extract (L.length + 1) s.size).data.toList = t := by
  have hsz := sz s
  have hlen : s.size = L.length + (t.length + 1) := by rw [hsz, h]; simp
  have hl : L.length < s.size := by omega
  refine ⟨hl, ?_, ?_, ?_⟩
  · rw [Lib.extract_data, h]; simp
  · have := get_byte s L.length hl
    rw [h, List.getElem?_append_right (Nat.le_refl _)] at this
    simpa using this.symm
  · rw [Lib.extract_data, h, List.take_of_length_le (by simp; omega)]
    simp
theorem ivs_one (l : List Nat) : ∀ u ∈ ivs l, u.oneCell' = true := by
  intro u hu
  simp only [ivs, List.mem_map] at hu
  obtain ⟨x, _, rfl⟩ := hu
  rfl
theorem below_own1 {W w' : World} {o : Obj} {n c : Nat} (h : (W.alloc o).grownBy w' (Value.slice (some ⟨W.heap.size, 0, none⟩) n c).ownBlock) : Below W.heap.size W w' :=
  have hg := grown_alloc h
  ⟨hg.os, hg.tape, hg.output, hg.size, fun k hk => hg.block k hk fun e => by simp [Value.ownBlock] at e; omega⟩
section
variable {w : World}
set_option maxRecDepth 100000 in
set_option maxHeartbeats 2000000 in
theorem list_ref : ∀ (f : Nat) (s : ByteArray) (lo : Nat) (w : World), s.size < f → f ≤ 60000 → lo ≤ 100 →
    Calls Tryd.prog 63 #[.string s, .int .i64 ((lo : Int) - 1)] w fun e w' => ∃ (cats : List Nat) (A : Option Addr) (c : Nat), e = .returned (.tuple #[.slice A cats.length c, .bool (listR f lo s.data.toList).isSome]) ∧ Below w.heap.size w w' ∧
      w'.ownsRow w.heap.size 3 1 (.slice A cats.length c) cats.length (ivs cats) ∧ cats.length ≤ f ∧ ∀ x, listR f lo s.data.toList = some x → cats = x
  | 0, s, lo, w, h, _, _ => by omega
  | f + 1, s, lo, w, hf, hf6, hlo => by
    have t0 : IntKind.i64.wrap ((lo : Int) - 1 + 1) = (lo : Int) := by rw [IntWalk.i64_in _ (by omega)]; omega
    have t0' : (lo : Int) - 1 + 1 = (lo : Int) := by omega
    go_enter Tryd.func63, Tryd.ntmps63
    go_wp2_with fail
    clear t0 t0'
    go_loopg [6] (100 - lo) (fun g x6 wr => ∃ c : Nat, lo ≤ c ∧ c ≤ 100 ∧ g = 100 - c ∧ x6 = .int .i64 (c : Int) ∧ Below w.heap.size w wr ∧ Hid (∀ c', lo ≤ c' → c' < c → ¬ headIs s.data.toList c' 44))
    case atStart => exact ⟨lo, Nat.le_refl _, hlo, rfl, rfl, Below.refl _ _, hide fun c' h1 h2 => by omega⟩
    case round =>
      obtain ⟨c, hcl, hc, hg, rfl, hbr, hA⟩ := hrel
      rcases Nat.lt_or_ge c 100 with hc1 | hc1
      · have hcz : (c : Int) < 100 := by omega
        go_wp2_with fail
        refine (itoa_ref c hc1 _).mono ?_
        rintro e w5 ⟨rfl, hb5⟩
        have B5 := hide (hbr.trans (hb5.mono hbr.size))
        obtain ⟨L, hL⟩ : ∃ L, L = itoaL c := ⟨_, rfl⟩
        have hlen := itoaL_len c
        rw [← hL] at hlen ⊢
        have HL := hide hL
        clear hL hbr hb5
        by_cases hs1 : s.data.toList = L
        · have t1 : (s.toList == L) = true := by rw [Lib.toList_data]; exact beq_iff_eq.2 hs1
          have HR := hide (listR_hit (f := f) hcl hc1 (hs1.trans HL.out))
          clear hs1
          go_wp2
          go_returns
          refine ⟨[c], some ⟨w5.heap.size, 0, none⟩, 1, by rw [HR.out]; rfl, B5.out.alloc B5.out.size _, ?_, by simp, fun x hx => by rw [HR.out] at hx; injection hx⟩
          exact own_lit (w := w5) rfl rfl B5.out.size (by simp [maxLen]) rfl
        have t1 : (s.toList == L) = false := by rw [Lib.toList_data]; exact beq_eq_false_iff_ne.2 hs1
        by_cases hs2 : ∃ t, s.data.toList = L ++ 44 :: t
        · obtain ⟨t, ht⟩ := hs2
          obtain ⟨hl, e1, e2, e3⟩ := head_more ht
          have hlz : (L.length : Int) < s.size := by omega
          have hlz2 : (L.length : Int) + 1 ≤ s.size := by omega
          have hlz3 : (L.length : Int) ≤ s.size := by omega
          have t2 : decide (L.length < s.size) = true := by simpa using hl
          have t3 : ((s.extract 0 L.length).toList == L) = true := by rw [Lib.toList_data]; exact beq_iff_eq.2 e1
          have t4 : ((s[L.length].toNat : Int) == 44) = true := by rw [e2]; rfl
          have HR := hide (listR_more (f := f) hcl hc1 (ht.trans (by rw [HL.out])))
          have hsz := hide (show (s.extract (L.length + 1) s.size).size < f by
            have := sz (s.extract (L.length + 1) s.size)
            have h2 := sz s
            rw [e3] at this
            rw [ht] at h2
            simp at h2
            omega)
          have E3 := hide e3
          have ih := list_ref f (s.extract (L.length + 1) s.size) (c + 1) w5 hsz.out (by omega) (by omega)
          rw [e3, show (((c + 1 : Nat) : Int) - 1) = (c : Int) by omega] at ih
          clear e1 e2 e3 ht hs1
          go_wp2_with fail
          refine ih.mono ?_
          rintro e w8 ⟨cats, A, cc, rfl, hb8, o8, hl8, hx8⟩
          have B8 := hide (B5.out.trans (hb8.mono B5.out.size))
          have O8 := hide o8
          have H8 := hide hx8
          have hcl6 : cats.length ≤ 60000 := by omega
          obtain ⟨j0, hj0, j1, j2, j3⟩ := info_parts info_int
          clear hb8 o8 hx8 ih
          go_wp2_with (at_builtin; refine wpList_append_rd _ rfl (.tmp 54) (.tmp 55) 97 rfl w.heap.size 3 j0 (.int .i64 0) 1 8 Tryd.underlying97 hj0 j1 j2 j3 rfl (by decide) (.slice (some ⟨w8.heap.size, 0, none⟩) 1 1) 1 [.int .i64 (c : Int)] rfl (own_lit (w := w8) rfl rfl B8.out.size (by simp [maxLen]) rfl) w8.heap.size A cats.length cc (ivs cats) rfl ((Rd.of_own O8.out).alloc (Nat.le_refl _) _) (ivs_one cats) (by unfold maxLen; omega) (by omega) (by have := B8.out.size; simp; omega) ?_; intro v' w9 hown hg3 _ hat; obtain ⟨A', c', rfl⟩ := own_at hown)
          go_returns
          refine ⟨c :: cats, A', c', ?_, ?_, ?_, by simp; omega, fun x hx => ?_⟩
          · rw [HR.out, Option.isSome_map, List.length_cons, Nat.add_comm cats.length 1]; rfl
          · exact B8.out.trans (Below.mono (below_own1 hg3) B8.out.size)
          · rw [List.length_cons, Nat.add_comm cats.length 1]; exact hown
          · rw [HR.out] at hx
            obtain ⟨y, hy, rfl⟩ := Option.map_eq_some_iff.1 hx
            rw [H8.out y hy]
        have hA2 := hide (show ∀ c', lo ≤ c' → c' < c + 1 → ¬ headIs s.data.toList c' 44 from fun c' h1 h2 hh => by
          rcases Nat.lt_succ_iff_lt_or_eq.1 h2 with h | rfl
          · exact hA.out c' h1 h hh
          · rcases hh with hh | ⟨t, ht⟩
            · exact hs1 (by rw [HL.out]; exact hh)
            · exact hs2 ⟨t, by rw [HL.out]; exact ht⟩)
        rcases head_cases s L 44 hs1 hs2 with h1 | ⟨h1, h2⟩ | ⟨h1, h2, h3⟩
        · have t2 : decide (L.length < s.size) = false := by simp; omega
          clear hs1 hs2
          go_wp2
          go_roundg (100 - (c + 1))
          case measure => omega
          case rel => exact ⟨c + 1, by omega, by omega, rfl, by go_num, B5.out, hA2⟩
        · have t2 : decide (L.length < s.size) = true := by simpa using h1
          have t3 : ((s.extract 0 L.length).toList == L) = false := by rw [Lib.toList_data]; exact beq_eq_false_iff_ne.2 h2
          have hlz3 : (L.length : Int) ≤ s.size := by omega
          clear hs1 hs2 h2
          go_wp2
          go_roundg (100 - (c + 1))
          case measure => omega
          case rel => exact ⟨c + 1, by omega, by omega, rfl, by go_num, B5.out, hA2⟩
        · have t2 : decide (L.length < s.size) = true := by simpa using h1
          have t3 : ((s.extract 0 L.length).toList == L) = true := by rw [Lib.toList_data]; exact beq_iff_eq.2 h2
          have t4 : ((s[L.length].toNat : Int) == 44) = false := beq_eq_false_iff_ne.2 fun h => h3 (UInt8.toNat_inj.1 (by have : (44 : UInt8).toNat = 44 := rfl; omega))
          have hlz : (L.length : Int) < s.size := by omega
          have hlz3 : (L.length : Int) ≤ s.size := by omega
          clear hs1 hs2 h2 h3
          go_wp2
          go_roundg (100 - (c + 1))
          case measure => omega
          case rel => exact ⟨c + 1, by omega, by omega, rfl, by go_num, B5.out, hA2⟩
      · obtain rfl : c = 100 := by omega
        have HR := hide (listR_none (f := f + 1) (lo := lo) (s := s.data.toList) fun c' h1 h2 => hA.out c' h1 h2)
        go_wp2
        go_returns
        exact ⟨[], none, 0, by rw [HR.out]; rfl, hbr, World.ownsRow_nil _ _ _ _, by simp, fun x hx => by rw [HR.out] at hx; cases hx⟩
end
end Go.Proofs.YtniboffmdkeacaaDoor

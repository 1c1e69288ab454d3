/- Configurations as texts: numbers, categories, labels, printed. -/
import Derived.Test.YtniboffmdkeacaaDoorConfRd2
import Derived.Test.YtniboffmdkeacaaDoorShelf3
import Derived.ShutString
namespace Go.Proofs.YtniboffmdkeacaaDoor
open Go.RowKit Go.WideMaps
set_option linter.unusedSimpArgs false
set_option linter.unusedVariables false

/-! ### the Builder -/
theorem ws_ok (B b : Nat) (l : List UInt8) (s : ByteArray) (w : World) (h : Lib.IsBuilderF 111 5 B b (Lib.byteCells l) w) (hlen : l.length + s.size ≤ 1000000) (hBw : B ≤ w.heap.size) :
    Calls Tryd.prog 45 #[.pointer (some ⟨b, 0, none⟩), .string s] w fun e w' => e = .returned (.tuple #[.int .i64 s.size, .nilIface]) ∧
      Lib.IsBuilderF 111 5 B b (Lib.byteCells (l ++ s.data.toList)) w' ∧ Below B w w' ∧ Lib.OthersKept 5 (some b) w w' := by
  refine (Any.Builder_WriteString_k Tryd.lays166 Tryd.Builder_Extra_166 B b (Lib.byteCells l) s w h (by rw [Lib.byteCells_length]; omega) hBw).mono ?_
  rintro e w' ⟨rfl, h1, h2, h3⟩
  refine ⟨rfl, Or.inr ?_, h2, h3⟩
  rw [show Lib.byteCells (l ++ s.data.toList) = Lib.byteCells l ++ Lib.strCells s by simp [Lib.byteCells, Lib.strCells]]
  exact h1
theorem st_ok (B b : Nat) (l : List UInt8) (w : World) (h : Lib.IsBuilderF 111 5 B b (Lib.byteCells l) w) (hBw : B ≤ w.heap.size) :
    Calls Tryd.prog 49 #[.pointer (some ⟨b, 0, none⟩)] w fun e w' => e = .returned (.string ⟨l.toArray⟩) ∧ Below B w w' := by
  refine (Any.Builder_String_any_k Tryd.lays169 Tryd.Builder_Extra_169 B b l w h hBw).mono ?_
  rintro e w' ⟨rfl, _, h2, _⟩
  exact ⟨rfl, h2⟩
theorem Blk.others {w w' : World} {g b : Nat} {t : TypeId} {cs : Array Value} (h : Blk w g t cs) (ho : Lib.OthersKept 5 (some b) w w') (hb : g ≠ b) (ht : t ≠ 5) : Blk w' g t cs :=
  ho g _ h (fun e => hb (Option.some.inj e)) (fun c fz e => ht (by injection e))
theorem new_builder (w : World) (B : Nat) (hB : B ≤ w.heap.size) : Lib.IsBuilderF 111 5 B w.heap.size (Lib.byteCells []) (w.alloc (.cells #[.pointer none, .slice none 0 0] 111)) :=
  Lib.IsBuilderF.of (Or.inl ⟨hB, .slice none 0 0, Blk.new w 111 #[.pointer none, .slice none 0 0], World.ownsRow_nil _ _ _ _, by simp [Value.ownBlock]⟩)
theorem isb_lt {T e : TypeId} {B b : Nat} {bs : List Value} {w : World} (h : Lib.IsBuilderF T e B b bs w) : b < w.heap.size := h.elim Lib.BuilderAtF.lt Lib.BuilderAtF.lt

/-! ### numbers -/
set_option maxRecDepth 100000 in
theorem printed_small (n : Nat) (h : n < 10) (w : World) :
    Calls Tryd.prog 48 #[.int .i64 (n : Int)] w fun e w' => e = .returned (.string ⟨(itoaL n).toArray⟩) ∧ Below w.heap.size w w' := by
  have t2 : decide ((9 : Int) < (n : Int)) = false := by simp; omega
  obtain ⟨x, hx⟩ : ∃ x, x = UInt8.ofNat (48 + n) := ⟨_, rfl⟩
  have kc := str_one w n x (by rw [hx]; simp; omega)
  have HI := hide (show itoaL n = [x] by rw [itoaL, if_pos h, hx])
  clear hx
  have hB := hide (show Below w.heap.size w (w.alloc (.cells #[.int .u8 (48 + (n : Int))] 5)) from (Below.refl _ _).alloc (Nat.le_refl _) _)
  go_enter Tryd.func48, Tryd.ntmps48
  go_wp2
  go_returns
  exact ⟨by rw [HI.out]; rfl, hB.out⟩
set_option maxRecDepth 100000 in
theorem printed_ok (n : Nat) (h : n < 100) (w : World) :
    Calls Tryd.prog 48 #[.int .i64 (n : Int)] w fun e w' => e = .returned (.string ⟨(itoaL n).toArray⟩) ∧ Below w.heap.size w w' := by
  by_cases h10 : n < 10
  · exact printed_small n h10 w
  obtain ⟨a, ha⟩ : ∃ a, a = n / 10 := ⟨_, rfl⟩
  obtain ⟨d, hd⟩ : ∃ d, d = n % 10 := ⟨_, rfl⟩
  have ha10 : a < 10 := by omega
  have hd10 : d < 10 := by omega
  have t2 : decide ((9 : Int) < (n : Int)) = true := by simp; omega
  have t3 : (n : Int).tmod 10 = (d : Int) := by rw [IntWalk.rem_in _ _ (by omega)]; omega
  have t3' : (n : Int) % 10 = (d : Int) := by omega
  have t4 : (n : Int).tdiv 10 = (a : Int) := by rw [Int.tdiv_eq_ediv_of_nonneg (by omega)]; omega
  have t4' : (n : Int) / 10 = (a : Int) := by omega
  have HI := hide (show itoaL n = itoaL a ++ itoaL d by rw [itoaL, if_neg h10, itoaL, if_pos ha10, itoaL, if_pos hd10, ← ha, ← hd]; rfl)
  have hl := hide (itoaL_len a)
  have hl' := hide (itoaL_len d)
  clear ha hd
  go_enter Tryd.func48, Tryd.ntmps48
  go_wp2_with fail
  refine (printed_small a ha10 _).mono ?_
  rintro e w5 ⟨rfl, hb5⟩
  have B5 := hide hb5
  clear hb5 t4 t4'
  go_wp2_with fail
  refine (printed_small d hd10 _).mono ?_
  rintro e w6 ⟨rfl, hb6⟩
  have B6 := hide (B5.out.trans (hb6.mono B5.out.size))
  have hl2 : ¬ 9223372036854775807 < (itoaL a).length + (itoaL d).length := by have := hl.out; have := hl'.out; omega
  clear hb6 t3 t3'
  go_wp2
  go_returns
  exact ⟨by rw [HI.out]; simp; rfl, B6.out⟩
set_option maxRecDepth 100000 in
theorem digits_small (n : Nat) (h : n < 10) (w : World) :
    Calls Tryd.prog 65 #[.int .i64 (n : Int)] w fun e w' => e = .returned (.string ⟨(itoaL n).toArray⟩) ∧ Below w.heap.size w w' := by
  have t2 : decide ((9 : Int) < (n : Int)) = false := by simp; omega
  obtain ⟨x, hx⟩ : ∃ x, x = UInt8.ofNat (48 + n) := ⟨_, rfl⟩
  have kc := str_one w n x (by rw [hx]; simp; omega)
  have HI := hide (show itoaL n = [x] by rw [itoaL, if_pos h, hx])
  clear hx
  have hB := hide (show Below w.heap.size w (w.alloc (.cells #[.int .u8 (48 + (n : Int))] 5)) from (Below.refl _ _).alloc (Nat.le_refl _) _)
  go_enter Tryd.func65, Tryd.ntmps65
  go_wp2
  go_returns
  exact ⟨by rw [HI.out]; rfl, hB.out⟩

/-! ### categories -/
/-- the library's table of places, as far as it is read here -/
def Db (w : World) : Prop := 2 < w.heap.size ∧ w.cell? ⟨2, 0, none⟩ = some (.int .u8 0) ∧ w.cell? ⟨2, 1, none⟩ = some (.int .u8 1) ∧ w.cell? ⟨2, 3, none⟩ = some (.int .u8 2)
theorem Db.below {w w' : World} {B : Nat} (h : Db w) (hb : Below B w w') (h2 : 2 < B) : Db w' := ⟨Nat.lt_of_lt_of_le h.1 hb.size, (hb.cell (p := ⟨2, 0, none⟩) h2).trans h.2.1, (hb.cell (p := ⟨2, 1, none⟩) h2).trans h.2.2.1, (hb.cell (p := ⟨2, 3, none⟩) h2).trans h.2.2.2⟩
theorem Db.below' {w w' : World} (h : Db w) (hb : Below w.heap.size w w') : Db w' := h.below hb h.1
def tailC : Nat → List Nat
  | 1 => [0]
  | 2 => [1]
  | 3 => [0, 1]
  | 4 => [2]
  | 6 => [1, 2]
  | 7 => [0, 1, 2]
  | _ => []
def nextC : Nat → Nat
  | 7 => 6
  | 6 => 4
  | 3 => 2
  | _ => 0
def okC' (c : Nat) : Prop := c = 1 ∨ c = 2 ∨ c = 3 ∨ c = 4 ∨ c = 6 ∨ c = 7
set_option maxRecDepth 100000 in
theorem tz_ok (c : Nat) (hc : okC' c) (w : World) (hD : Db w) :
    Calls Tryd.prog 76 #[.int .u16 (c : Int)] w fun e w' => e = .returned (.int .i64 (((tailC c).headD 0 : Nat) : Int)) ∧ Below w.heap.size w w' := by
  obtain ⟨hl, d0, d1, d3⟩ := hD
  have B0 := hide (Below.refl w.heap.size w)
  rcases hc with rfl | rfl | rfl | rfl | rfl | rfl
  · have hb : bits .and .u16 1 (IntKind.u16.wrap (-1)) = 1 := by decide +kernel
    go_enter Tryd.func76, Tryd.ntmps76
    go_wp2
    go_returns
    exact ⟨rfl, B0.out⟩
  · have hb : bits .and .u16 2 (IntKind.u16.wrap (-2)) = 2 := by decide +kernel
    go_enter Tryd.func76, Tryd.ntmps76
    go_wp2
    go_returns
    exact ⟨rfl, B0.out⟩
  · have hb : bits .and .u16 3 (IntKind.u16.wrap (-3)) = 1 := by decide +kernel
    go_enter Tryd.func76, Tryd.ntmps76
    go_wp2
    go_returns
    exact ⟨rfl, B0.out⟩
  · have hb : bits .and .u16 4 (IntKind.u16.wrap (-4)) = 4 := by decide +kernel
    go_enter Tryd.func76, Tryd.ntmps76
    go_wp2
    go_returns
    exact ⟨rfl, B0.out⟩
  · have hb : bits .and .u16 6 (IntKind.u16.wrap (-6)) = 2 := by decide +kernel
    go_enter Tryd.func76, Tryd.ntmps76
    go_wp2
    go_returns
    exact ⟨rfl, B0.out⟩
  · have hb : bits .and .u16 7 (IntKind.u16.wrap (-7)) = 1 := by decide +kernel
    go_enter Tryd.func76, Tryd.ntmps76
    go_wp2
    go_returns
    exact ⟨rfl, B0.out⟩
theorem tailC_len (n : Nat) : (tailC n).length ≤ 3 := by unfold tailC; split <;> simp
def catsC (n : Nat) : List Nat := tailC n
set_option maxRecDepth 100000 in
set_option maxHeartbeats 1000000 in
theorem cats_ok (lv : UInt8) (ct : UInt16) (hc : ct.toNat = 0 ∨ okC' ct.toNat) (w : World) (hD : Db w) :
    Calls Tryd.prog 66 #[.agg #[.int .u8 (lv.toNat : Int), .int .u16 (ct.toNat : Int)]] w fun e w' => ∃ A c, e = .returned (.slice A (tailC ct.toNat).length c) ∧ Below w.heap.size w w' ∧ w'.ownsRow w.heap.size 3 1 (.slice A (tailC ct.toNat).length c) (tailC ct.toNat).length (ivs (tailC ct.toNat)) := by
  go_enter Tryd.func66, Tryd.ntmps66
  obtain ⟨n0, hn0⟩ : ∃ n0, n0 = ct.toNat := ⟨_, rfl⟩
  rw [← hn0] at hc ⊢
  obtain ⟨i0, hi0, i1, i2, i3⟩ := info_parts info_int
  have hb := hide (show Below w.heap.size w (w.alloc (.cells #[.int .u8 (lv.toNat : Int), .int .u16 (n0 : Int)] 36)) from (Below.refl _ _).alloc (Nat.le_refl _) _)
  clear hn0
  go_wp2_with fail
  refine at_world (fun W => Below w.heap.size w W) hb.out (fun w1 h1 => ?_)
  have B1 := hide h1
  clear h1 hb
  go_loopg [3, 4] n0 (fun g x3 x4 wr => ∃ (n : Nat) (out : List Nat) (A : Option Addr) (c : Nat), g = n ∧ (n = 0 ∨ okC' n) ∧ x3 = .slice A out.length c ∧ x4 = .int .u16 (n : Int) ∧ Below w.heap.size w wr ∧ wr.ownsRow w.heap.size 3 1 (.slice A out.length c) out.length (ivs out) ∧ Hid (out ++ tailC n = tailC n0))
  case atStart => exact ⟨n0, [], none, 0, rfl, hc, rfl, rfl, B1.out, World.ownsRow_nil _ _ _ _, hide rfl⟩
  case round =>
    obtain ⟨n, out, A, c, hg, hn, rfl, rfl, hbr, o, hO⟩ := hrel
    have hol : out.length ≤ 3 := by have h1 := congrArg List.length hO.out; have h2 := tailC_len n0; simp at h1; omega
    have BR := hide hbr
    have OO := hide o
    have hBW := hbr.size
    have ho6 : out.length ≤ 1000000 := by omega
    clear hbr o
    rcases hn with rfl | hn
    · have HE := hide (show out = tailC n0 by have := hO.out; simpa [tailC] using this)
      clear hO
      go_wp2
      go_returns
      exact ⟨A, c, by rw [← HE.out]; rfl, BR.out, by rw [← HE.out]; exact OO.out⟩
    · rcases hn with rfl | rfl | rfl | rfl | rfl | rfl
      · have hb2 : bits .and .u16 1 0 = 0 := by decide +kernel
        go_wp2_with fail
        refine (tz_ok 1 (by unfold okC'; omega) _ (hD.below BR.out hD.1)).mono ?_
        rintro e w6 ⟨rfl, hb6⟩
        have B6 := hide (BR.out.trans (hb6.mono BR.out.size))
        have O6 := hide (own_below OO.out hb6)
        have hBW := B6.out.size
        clear hb6
        simp only [tailC, List.headD_cons]
        go_wp2_with (at_builtin; refine wpList_append_one rfl (.tmp 13) (.tmp 16) 97 rfl w.heap.size 3 i0 (.int .i64 0) 1 8 Tryd.underlying97 hi0 i1 i2 i3 rfl (by decide) A c out.length (ivs out) [.int .i64 0] w6 rfl O6.out rfl rfl rfl (by simp [Value.oneCell']) ho6 (by decide) hBW ?_; intro A' c' w9 hown hg3 hb3 hat)
        go_roundg 0
        case measure => omega
        case rel => exact ⟨0, out ++ [0], A', c', rfl, .inl rfl, by simp, rfl, B6.out.trans hb3, by rw [ivs_snoc, List.length_append]; exact hown, hide (by have := hO.out; simpa [tailC] using this)⟩
      · have hb2 : bits .and .u16 2 1 = 0 := by decide +kernel
        go_wp2_with fail
        refine (tz_ok 2 (by unfold okC'; omega) _ (hD.below BR.out hD.1)).mono ?_
        rintro e w6 ⟨rfl, hb6⟩
        have B6 := hide (BR.out.trans (hb6.mono BR.out.size))
        have O6 := hide (own_below OO.out hb6)
        have hBW := B6.out.size
        clear hb6
        simp only [tailC, List.headD_cons]
        go_wp2_with (at_builtin; refine wpList_append_one rfl (.tmp 13) (.tmp 16) 97 rfl w.heap.size 3 i0 (.int .i64 0) 1 8 Tryd.underlying97 hi0 i1 i2 i3 rfl (by decide) A c out.length (ivs out) [.int .i64 1] w6 rfl O6.out rfl rfl rfl (by simp [Value.oneCell']) ho6 (by decide) hBW ?_; intro A' c' w9 hown hg3 hb3 hat)
        go_roundg 0
        case measure => omega
        case rel => exact ⟨0, out ++ [1], A', c', rfl, .inl rfl, by simp, rfl, B6.out.trans hb3, by rw [ivs_snoc, List.length_append]; exact hown, hide (by have := hO.out; simpa [tailC] using this)⟩
      · have hb2 : bits .and .u16 3 2 = 2 := by decide +kernel
        go_wp2_with fail
        refine (tz_ok 3 (by unfold okC'; omega) _ (hD.below BR.out hD.1)).mono ?_
        rintro e w6 ⟨rfl, hb6⟩
        have B6 := hide (BR.out.trans (hb6.mono BR.out.size))
        have O6 := hide (own_below OO.out hb6)
        have hBW := B6.out.size
        clear hb6
        simp only [tailC, List.headD_cons]
        go_wp2_with (at_builtin; refine wpList_append_one rfl (.tmp 13) (.tmp 16) 97 rfl w.heap.size 3 i0 (.int .i64 0) 1 8 Tryd.underlying97 hi0 i1 i2 i3 rfl (by decide) A c out.length (ivs out) [.int .i64 0] w6 rfl O6.out rfl rfl rfl (by simp [Value.oneCell']) ho6 (by decide) hBW ?_; intro A' c' w9 hown hg3 hb3 hat)
        go_roundg 2
        case measure => omega
        case rel => exact ⟨2, out ++ [0], A', c', rfl, .inr (by unfold okC'; omega), by simp, rfl, B6.out.trans hb3, by rw [ivs_snoc, List.length_append]; exact hown, hide (by have := hO.out; simpa [tailC] using this)⟩
      · have hb2 : bits .and .u16 4 3 = 0 := by decide +kernel
        go_wp2_with fail
        refine (tz_ok 4 (by unfold okC'; omega) _ (hD.below BR.out hD.1)).mono ?_
        rintro e w6 ⟨rfl, hb6⟩
        have B6 := hide (BR.out.trans (hb6.mono BR.out.size))
        have O6 := hide (own_below OO.out hb6)
        have hBW := B6.out.size
        clear hb6
        simp only [tailC, List.headD_cons]
        go_wp2_with (at_builtin; refine wpList_append_one rfl (.tmp 13) (.tmp 16) 97 rfl w.heap.size 3 i0 (.int .i64 0) 1 8 Tryd.underlying97 hi0 i1 i2 i3 rfl (by decide) A c out.length (ivs out) [.int .i64 2] w6 rfl O6.out rfl rfl rfl (by simp [Value.oneCell']) ho6 (by decide) hBW ?_; intro A' c' w9 hown hg3 hb3 hat)
        go_roundg 0
        case measure => omega
        case rel => exact ⟨0, out ++ [2], A', c', rfl, .inl rfl, by simp, rfl, B6.out.trans hb3, by rw [ivs_snoc, List.length_append]; exact hown, hide (by have := hO.out; simpa [tailC] using this)⟩
      · have hb2 : bits .and .u16 6 5 = 4 := by decide +kernel
        go_wp2_with fail
        refine (tz_ok 6 (by unfold okC'; omega) _ (hD.below BR.out hD.1)).mono ?_
        rintro e w6 ⟨rfl, hb6⟩
        have B6 := hide (BR.out.trans (hb6.mono BR.out.size))
        have O6 := hide (own_below OO.out hb6)
        have hBW := B6.out.size
        clear hb6
        simp only [tailC, List.headD_cons]
        go_wp2_with (at_builtin; refine wpList_append_one rfl (.tmp 13) (.tmp 16) 97 rfl w.heap.size 3 i0 (.int .i64 0) 1 8 Tryd.underlying97 hi0 i1 i2 i3 rfl (by decide) A c out.length (ivs out) [.int .i64 1] w6 rfl O6.out rfl rfl rfl (by simp [Value.oneCell']) ho6 (by decide) hBW ?_; intro A' c' w9 hown hg3 hb3 hat)
        go_roundg 4
        case measure => omega
        case rel => exact ⟨4, out ++ [1], A', c', rfl, .inr (by unfold okC'; omega), by simp, rfl, B6.out.trans hb3, by rw [ivs_snoc, List.length_append]; exact hown, hide (by have := hO.out; simpa [tailC] using this)⟩
      · have hb2 : bits .and .u16 7 6 = 6 := by decide +kernel
        go_wp2_with fail
        refine (tz_ok 7 (by unfold okC'; omega) _ (hD.below BR.out hD.1)).mono ?_
        rintro e w6 ⟨rfl, hb6⟩
        have B6 := hide (BR.out.trans (hb6.mono BR.out.size))
        have O6 := hide (own_below OO.out hb6)
        have hBW := B6.out.size
        clear hb6
        simp only [tailC, List.headD_cons]
        go_wp2_with (at_builtin; refine wpList_append_one rfl (.tmp 13) (.tmp 16) 97 rfl w.heap.size 3 i0 (.int .i64 0) 1 8 Tryd.underlying97 hi0 i1 i2 i3 rfl (by decide) A c out.length (ivs out) [.int .i64 0] w6 rfl O6.out rfl rfl rfl (by simp [Value.oneCell']) ho6 (by decide) hBW ?_; intro A' c' w9 hown hg3 hb3 hat)
        go_roundg 6
        case measure => omega
        case rel => exact ⟨6, out ++ [0], A', c', rfl, .inr (by unfold okC'; omega), by simp, rfl, B6.out.trans hb3, by rw [ivs_snoc, List.length_append]; exact hown, hide (by have := hO.out; simpa [tailC] using this)⟩
end Go.Proofs.YtniboffmdkeacaaDoor

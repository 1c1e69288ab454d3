/- Law AuditBytes, the walk: any record as bytes; any bytes as a record. -/
import Derived.Test.YtkjgieehiimiiaaAudit
import Derived.Deep.RegionWith
import Derived.Test.YtkjgieehiimiiaaRegion
import Derived.Deep.DrawnRows
namespace Go.Proofs.Ytkjgieehiimiiaa
open Go.RowKit
attribute [local go_sem ↓] Go.wp_at_zero Go.wp_at_succ

set_option maxHeartbeats 400000 in
theorem awake27 (w : World) : Calls Try.prog 8 #[] w fun e w' => e = .returned (.bool true) ∧ Below w.heap.size w w' := by
  have kc := fun (w : World) (C : Array Value) (n c : Nat) => Lib.run_convert_bytes_const (P := Try.prog) w 23 5 C n c Try.underlying23 Try.underlying5
  go_enter Try.func8, Try.ntmps8
  go_wp2_with fail
  clear kc
  refine (encode_ok 3 1 0 (some ⟨w.heap.size, 0, none⟩) 1 1 [120] _ (by omega) (by omega) (by omega) (by omega) ((Rd.lit (w := w) (xs := bvs [120]) rfl rfl rfl rfl).more (by simp))).mono ?_
  rintro e w1 ⟨A', c', rfl, hown, hb⟩
  have k : (convert 23 9 (.slice A' (7 + 1) c')).run Try.prog w1 = .ok (.string ⟨#[3, 0, 0, 0, 1, 0, 1, 120]⟩) w1 := run_string_rd _ _ _ Try.underlying23 Try.underlying5 Try.underlying9 (Rd.of_own hown)
  go_wp2
  go_ret
  exact ⟨rfl, Below.trans ((Below.refl _ _).alloc (Nat.le_refl _) _) (hb.mono (by simp))⟩

set_option maxRecDepth 100000 in
set_option maxHeartbeats 400000 in
theorem audit_long1 (s f t : Nat) (A A2 : Option Addr) (n c n2 c2 : Nat) (cut : Int) (w : World) (hn : 300 < n) :
    Calls Try.prog 3 #[.agg #[.int .u32 s, .int .u8 f, .int .u8 t, .slice A n c], .slice A2 n2 c2, .int .u8 cut] w fun e w' => e = .returned (.bool true) ∧ Below w.heap.size w w' := by
  have h : (300 : Int) < n := by omega
  go_enter Try.func3, Try.ntmps3
  go_wp2_with (go_at_call 8; refine (awake27 _).mono ?_; rintro e w1 ⟨rfl, hb1⟩; obtain ⟨hc1, hf1⟩ := bcell hb1)
  go_ret
  exact ⟨rfl, Below.trans ((Below.refl _ _).alloc (Nat.le_refl _) _) (hb1.mono (by simp))⟩

set_option maxRecDepth 100000 in
set_option maxHeartbeats 400000 in
theorem audit_long2 (s f t : Nat) (A A2 : Option Addr) (n c n2 c2 : Nat) (cut : Int) (w : World) (hn : n ≤ 300) (hn2 : 300 < n2) :
    Calls Try.prog 3 #[.agg #[.int .u32 s, .int .u8 f, .int .u8 t, .slice A n c], .slice A2 n2 c2, .int .u8 cut] w fun e w' => e = .returned (.bool true) ∧ Below w.heap.size w w' := by
  have h : (n : Int) ≤ 300 := by omega
  have h2 : (300 : Int) < n2 := by omega
  go_enter Try.func3, Try.ntmps3
  go_wp2_with (go_at_call 8; refine (awake27 _).mono ?_; rintro e w1 ⟨rfl, hb1⟩; obtain ⟨hc1, hf1⟩ := bcell hb1)
  go_ret
  exact ⟨rfl, Below.trans ((Below.refl _ _).alloc (Nat.le_refl _) _) (hb1.mono (by simp))⟩

set_option maxRecDepth 100000 in
set_option maxHeartbeats 400000 in
theorem audit_long3 (s f t : Nat) (A A2 : Option Addr) (n c n2 c2 : Nat) (cut : Int) (w : World) (hn : n ≤ 300) (hn2 : n2 ≤ 300) (hn3 : 128 < n) :
    Calls Try.prog 3 #[.agg #[.int .u32 s, .int .u8 f, .int .u8 t, .slice A n c], .slice A2 n2 c2, .int .u8 cut] w fun e w' => e = .returned (.bool true) ∧ Below w.heap.size w w' := by
  have h : (n : Int) ≤ 300 := by omega
  have h2 : (n2 : Int) ≤ 300 := by omega
  have h3 : (128 : Int) < n := by omega
  go_enter Try.func3, Try.ntmps3
  go_wp2_with (first | (go_at_call 8; refine (awake27 _).mono ?_; rintro e w1 ⟨rfl, hb1⟩; obtain ⟨hc1, hf1⟩ := bcell hb1; have hz1 : w.heap.size < w1.heap.size := (by have := hb1.size; simp at this; omega)) | (go_at_call 9; refine (encode_long s f t A n c _ hn3).mono ?_; rintro e w2 ⟨rfl, hb2⟩; obtain ⟨hc2, hf2⟩ := bcell hb2))
  go_ret
  exact ⟨rfl, Below.trans ((Below.refl _ _).alloc (Nat.le_refl _) _) (Below.trans (hb1.mono (by simp)) (hb2.mono (by omega)))⟩

set_option maxRecDepth 100000 in
set_option maxHeartbeats 1000000 in
theorem audit_main (s f t : Nat) (A A2 : Option Addr) (n c n2 c2 : Nat) (cut : Nat) (l l2 : List UInt8) (w : World) (hs : s < 4294967296) (hf : f < 256) (ht : t < 256) (hcut : cut < 256) (hn : n ≤ 128) (hn2 : n2 ≤ 300)
    (hr : Rd w w.heap.size 1 A n (bvs l)) (hr2 : Rd w w.heap.size 1 A2 n2 (bvs l2)) (hnc2 : n2 ≤ c2) :
    Calls Try.prog 3 #[.agg #[.int .u32 s, .int .u8 f, .int .u8 t, .slice A n c], .slice A2 n2 c2, .int .u8 cut] w fun e w' => e = .returned (.bool true) ∧ Below w.heap.size w w' := by
  have h : (n : Int) ≤ 128 := by omega
  have h2 : (n2 : Int) ≤ 300 := by omega
  have hl : Hid (l.length = n) := hide (by have := hr.1; simpa [bvs] using this)
  have hl2 : Hid (l2.length = n2) := hide (by have := hr2.1; simpa [bvs] using this)
  obtain ⟨i0, hi0, i1, i2, i3⟩ := info_parts info_u8
  go_enter Try.func3, Try.ntmps3
  go_wp2_with (go_at_call 8; refine (awake27 _).mono ?_; rintro e w1 ⟨rfl, hb1⟩; obtain ⟨hc1, hf1⟩ := bcell hb1; have hz1 : w.heap.size < w1.heap.size := (by have := hb1.size; simp at this; omega))
  have HB1 : Below w.heap.size w w1 := Below.trans ((Below.refl _ _).alloc (Nat.le_refl _) _) (hb1.mono (by simp))
  refine (encode_ok s f t A n c l _ hs hf ht hn ((hr.below HB1).more HB1.size)).mono ?_
  rintro e w2 ⟨A', c', rfl, hown2, hb2⟩
  obtain ⟨hc2, hf2⟩ := bcell hb2
  have hz2 : w.heap.size < w2.heap.size := by have := hb2.size; omega
  have HB2 : Below w.heap.size w w2 := HB1.trans (hb2.mono (by omega))
  have hnc : 7 + n ≤ c' := by obtain ⟨_, _, h, h', _⟩ := own_form hown2; cases h; exact h'
  have hR2 := (hr2.below HB2)
  go_wp2_with (first | (at_builtin; refine wpList_append_rd _ rfl (.tmp 48) (.tmp 49) 23 rfl w2.heap.size 5 i0 (.int .u8 0) 1 1 Try.underlying23 hi0 i1 i2 i3 rfl (by decide) (.slice (some ⟨w2.heap.size, 0, none⟩) 0 0) 0 _ rfl (own_lit rfl (by simp) (by simp) (by simp [maxLen]) rfl) w2.heap.size A' (7 + n) c' (bvs (encB s f t l)) rfl ((Rd.of_own hown2).alloc (by simp) _) (bvs_one _) (by simp only [maxLen]; omega) (by omega) (by simp) ?_; intro v3 w3 hown3 hg3 hnil3 hat3; obtain ⟨A3, c3, rfl, hnc3, _, _⟩ := own_form hown3; have hb3 : Below w2.heap.size w2 w3 := (((Below.refl _ _).alloc (Nat.le_refl _) _).grown hg3 (by simp) (by simp [Value.ownBlock])); clear hg3 hnil3 hat3; simp only [Nat.zero_add, List.nil_append] at hown3 hnc3) | (at_builtin; refine wpList_append_rd _ rfl (.tmp 50) (.tmp 51) 23 rfl w2.heap.size 5 i0 (.int .u8 0) 1 1 Try.underlying23 hi0 i1 i2 i3 rfl (by decide) (.slice A3 (7 + n) c3) (7 + n) _ rfl hown3 w.heap.size A2 n2 c2 (bvs l2) rfl (hR2.below (hb3.mono HB2.size)) (bvs_one _) (by simp only [maxLen]; omega) (by omega) hb3.size ?_; intro v4 w4 hown4 hg4 hnil4 hat4; obtain ⟨A4, c4, rfl, hnc4, _, _⟩ := own_form hown4; have hb4 : Below w2.heap.size w2 w4 := hb3.grown hg4 hb3.size (fun k hk => (hown3.lt k hk).1); clear hg4 hnil4 hat4) | fail)
  have hz4 : w.heap.size < w4.heap.size := by have := hb4.size; omega
  obtain ⟨hc4, hf4⟩ := bcell hb4
  have D5 := decode_enc s f t l l2 A4 (7 + n + n2) c4 w4 hs hf ht (by rw [hl.out]; exact hn) (by rw [bvs_append]; exact Rd.of_own hown4) (by omega) hnc4
  rw [hl.out] at D5
  refine D5.mono ?_
  clear D5 hown3 hown4 hnc3 hnc4
  rintro e w5 ⟨A5, c5, rfl, hown5, hb5⟩
  obtain ⟨hc5, hf5⟩ := bcell hb5
  have hz5 : w.heap.size < w5.heap.size := by have := hb5.size; omega
  have hcm : ((cut : Int)).tmod ((7 : Int) + n) = ((cut % (7 + n) : Nat) : Int) := by rw [Int.tmod_eq_emod_of_nonneg (by omega), Int.natCast_emod]; rfl
  have hlt := Nat.mod_lt cut (show 0 < 7 + n by omega)
  obtain ⟨m, hm⟩ : ∃ m, m = cut % (7 + n) := ⟨_, rfl⟩
  rw [← hm] at hcm hlt
  clear hm
  have hmc : m ≤ c' := by omega
  go_wp2_with fail
  have hR6 : Rd w2 w2.heap.size 1 A' m (bvs ((encB s f t l).take m)) := by
    have := (Rd.of_own hown2).take (m := m) (by omega)
    rwa [Nat.mul_one, bvs_take] at this
  have HB5 : Below w2.heap.size w2 w5 := hb4.trans (hb5.mono hb4.size)
  refine (decode_prefix s f t l A' m c' _ (by rw [hl.out]; exact hn) (by rw [hl.out]; exact hlt) (((hR6.below HB5).alloc HB5.size _).more (by simp; have := HB5.size; omega))).mono ?_
  rintro e w6 ⟨rfl, hb6⟩
  obtain ⟨hc6, hf6⟩ := bcell hb6
  have hz6 : w5.heap.size < w6.heap.size := by have := hb6.size; simp at this; omega
  have hz60 : w.heap.size < w6.heap.size := by omega
  clear hcm hlt hmc
  go_wp2_with fail
  have HB6 : Below w2.heap.size w2 w6 := HB5.trans ((((Below.refl _ _).alloc (Nat.le_refl _) _).trans (hb6.mono (by simp))).mono HB5.size)
  have B9 : Below w5.heap.size w5 w6 := ((Below.refl _ _).alloc (Nat.le_refl _) _).trans (hb6.mono (by simp))
  have HW6 : Below w.heap.size w w6 := HB2.trans (HB6.mono HB2.size)
  obtain ⟨w7, hw7⟩ : ∃ w7, w7 = w6.alloc (Obj.cells #[Value.int .u32 0, .int .u8 0, .int .u8 0, .slice none 0 0] 25) := ⟨_, rfl⟩
  have hR5 : Rd w7 w7.heap.size 1 A5 n (bvs l) := by subst hw7; exact ((((Rd.of_own hown5).below B9).more B9.size).alloc (Nat.le_refl _) _).more (by simp)
  have hR1 : Rd w7 w7.heap.size 1 A n (bvs l) := by subst hw7; exact (((hr.below HW6).more HW6.size).alloc (Nat.le_refl _) _).more (by simp)
  have hRx : Rd w7 w7.heap.size 1 A' (7 + n) (bvs (encB s f t l)) := by subst hw7; exact ((((Rd.of_own hown2).below HB6).more HB6.size).alloc (Nat.le_refl _) _).more (by simp)
  have hRb : Rd w7 w7.heap.size 1 A2 n2 (bvs l2) := by subst hw7; exact (((hr2.below HW6).more HW6.size).alloc (Nat.le_refl _) _).more (by simp)
  have HB7 : Below w.heap.size w w7 := by subst hw7; exact HW6.alloc HW6.size _
  have yB : Blk w7 w5.heap.size 25 #[.int .u32 s, .int .u8 f, .int .u8 t, .slice A5 n c5] := by
    subst hw7
    exact ((Blk.new w5 25 _).below hb6 (by simp)).alloc _
  have y0 : w7.cell? ⟨w5.heap.size, 0, none⟩ = some (.int .u32 s) := yB.cell 0
  have y1 : w7.cell? ⟨w5.heap.size, 1, none⟩ = some (.int .u8 f) := yB.cell 1
  have y2 : w7.cell? ⟨w5.heap.size, 2, none⟩ = some (.int .u8 t) := yB.cell 2
  have y3 : w7.cell? ⟨w5.heap.size, 3, none⟩ = some (.slice A5 n c5) := yB.cell 3
  have rB : Blk w7 w.heap.size 25 #[.int .u32 s, .int .u8 f, .int .u8 t, .slice A n c] := by
    subst hw7
    have q0 := Blk.new w 25 #[.int .u32 s, .int .u8 f, .int .u8 t, .slice A n c]
    have q2 := (q0.below hb1 (by simp)).below hb2 hz1
    exact (((q2.below (HB6) hz2)).alloc _)
  have r0 : w7.cell? ⟨w.heap.size, 0, none⟩ = some (.int .u32 s) := rB.cell 0
  have r1 : w7.cell? ⟨w.heap.size, 1, none⟩ = some (.int .u8 f) := rB.cell 1
  have r2 : w7.cell? ⟨w.heap.size, 2, none⟩ = some (.int .u8 t) := rB.cell 2
  have r3 : w7.cell? ⟨w.heap.size, 3, none⟩ = some (.slice A n c) := rB.cell 3
  have z7 : w.heap.size < w7.heap.size := rB.lt
  have z5 : w5.heap.size < w7.heap.size := yB.lt
  have kx : ∀ W, Below w7.heap.size w7 W → (convert 23 9 (.slice A' (7 + n) c')).run Try.prog W = .ok (.string (str (encB s f t l))) W := fun W hW => run_string_rd _ _ _ Try.underlying23 Try.underlying5 Try.underlying9 (hRx.below hW)
  have k7 := kx w7.drew (Below.refl _ _).drew
  rw [← hw7]
  generalize w5.heap.size = g5 at *
  clear hw7 rB yB HB6 B9 HW6 hown5 hown2 hc1 hf1 hc2 hf2 hc4 hf4 hc5 hf5 hc6 hf6 hb1 hb2 hb3 hb4 hb5 hb6 HB1 HB2 HB5 hR2 hR6 hz1 hz2 hz4 hz5 hz6 hz60 hr hr2
  refine wp_region_text [true, true, true, true, true, true, true, true, true, true, true, true, true, true, true, false, true, true, true, true, true, true, true, true, true, true, true, true, true, true, true, true, true, true, true, true, true, false, true, true, true] (fun W => W.cell? ⟨g5, 0, none⟩ = some (.int .u32 s) ∧ W.cell? ⟨g5, 1, none⟩ = some (.int .u8 f) ∧ W.cell? ⟨g5, 2, none⟩ = some (.int .u8 t) ∧ W.cell? ⟨g5, 3, none⟩ = some (.slice A5 n c5) ∧ W.cell? ⟨w.heap.size, 0, none⟩ = some (.int .u32 s) ∧ W.cell? ⟨w.heap.size, 1, none⟩ = some (.int .u8 f) ∧ W.cell? ⟨w.heap.size, 2, none⟩ = some (.int .u8 t) ∧ W.cell? ⟨w.heap.size, 3, none⟩ = some (.slice A n c) ∧ (convert 23 9 (.slice A' (7 + n) c')).run Try.prog W = .ok (.string (str (encB s f t l))) W) (by kernel_rfl) (by kernel_rfl) ⟨y0, y1, y2, y3, r0, r1, r2, r3, k7⟩ ?_
  iterate 15 (refine wpOrd_q (v := ?_) (by rfl) (fun W hW => ?_) ?_; rotate_left; (focus ((try dsimp only at hW); go_simp; try with_reducible rfl)); try simp only [Act.put, List.setIfInBounds_toArray, List.set_cons_zero, List.set_cons_succ])
  refine wpOrd_x (by rfl) (fun K hK => ?_)
  go_simp
  refine (same_yes s f t A5 A n c5 n c l w7.drew hR5.drew hR1.drew).mono ?_
  rintro e w8 ⟨rfl, hb8'⟩
  have hb8 : Below w7.heap.size w7 w8 := (Below.refl _ _).drew.trans hb8'
  obtain ⟨hc8, hf8⟩ := bcell hb8
  refine hK _ _ _ (fun _ h => h) ⟨(hc8 _ _ z5).trans y0, (hc8 _ _ z5).trans y1, (hc8 _ _ z5).trans y2, (hc8 _ _ z5).trans y3, (hc8 _ _ z7).trans r0, (hc8 _ _ z7).trans r1, (hc8 _ _ z7).trans r2, (hc8 _ _ z7).trans r3, kx w8 hb8⟩ ?_
  clear hK K hc8 hf8
  try simp only [Act.put, List.setIfInBounds_toArray, List.set_cons_zero, List.set_cons_succ]
  iterate 21 (refine wpOrd_q (v := ?_) (by rfl) (fun W hW => ?_) ?_; rotate_left; (focus ((try dsimp only at hW); go_simp; try with_reducible rfl)); try simp only [Act.put, List.setIfInBounds_toArray, List.set_cons_zero, List.set_cons_succ])
  refine wpOrd_x (by rfl) (fun K hK => ?_)
  go_simp
  refine (record_ok s f t A n c l w8 hs hf ht hn ((hR1.below hb8).more hb8.size)).mono ?_
  rintro e w9 ⟨A9, c9, rfl, hown9, hb9⟩
  obtain ⟨hc8, hf8⟩ := bcell (hb8.trans (hb9.mono hb8.size))
  refine hK (fun W => (convert 23 9 (.slice A9 (7 + n) c9)).run Try.prog W = .ok (.string (str (encB s f t l))) W ∧ _) _ _ (fun _ h => h.2) ⟨run_string_rd _ _ _ Try.underlying23 Try.underlying5 Try.underlying9 (Rd.of_own hown9), (hc8 _ _ z5).trans y0, (hc8 _ _ z5).trans y1, (hc8 _ _ z5).trans y2, (hc8 _ _ z5).trans y3, (hc8 _ _ z7).trans r0, (hc8 _ _ z7).trans r1, (hc8 _ _ z7).trans r2, (hc8 _ _ z7).trans r3, kx w9 (hb8.trans (hb9.mono hb8.size))⟩ ?_
  clear hK K hc8 hf8
  try simp only [Act.put, List.setIfInBounds_toArray, List.set_cons_zero, List.set_cons_succ]
  iterate 3 (refine wpOrd_q (v := ?_) (by rfl) (fun W hW => ?_) ?_; rotate_left; (focus ((try dsimp only at hW); go_simp; try with_reducible rfl)); try simp only [Act.put, List.setIfInBounds_toArray, List.set_cons_zero, List.set_cons_succ])
  refine wpOrd_nil ?_
  go_wp2_with fail
  have HB9 : Below w7.heap.size w7 w9 := hb8.trans (hb9.mono hb8.size)
  have HW9 : Below w.heap.size w w9 := HB7.trans (HB9.mono HB7.size)
  have hR9 : Rd w9 w9.heap.size 1 A2 n2 (bvs l2) := (hRb.below HB9).more HB9.size
  clear hR5 hR1 hRx hRb kx k7 hown9 hb8 hb8' hb9 HB9 HB7 y0 y1 y2 y3 r0 r1 r2 r3 z7 z5 hnc
  by_cases hc1 : n2 < 7
  · have hi : (n2 : Int) < 7 := by omega
    refine (decode_short A2 n2 c2 w9 hc1).mono ?_
    rintro e w10 ⟨rfl, hb10⟩
    go_wp2
    go_ret
    exact ⟨rfl, (HW9.trans (hb10.mono HW9.size)).alloc (Nat.le_trans HW9.size hb10.size) _⟩
  have hi : (7 : Int) ≤ n2 := by omega
  have hl2' : l2.length = n2 := hl2.out
  have hlt := (l2.getD 6 0).toNat_lt
  by_cases hc2 : 128 < (l2.getD 6 0).toNat ∨ n2 < 7 + (l2.getD 6 0).toNat
  · refine (decode_form A2 n2 c2 l2 w9 (by omega) hR9 (by omega) hc2).mono ?_
    rintro e w10 ⟨rfl, hb10⟩
    have hR10 := hR9.below hb10
    obtain ⟨b, o, rfl, hb, hcell⟩ := hR10.byte (i := 6) (by omega)
    have c6 := hcell 6 (by omega)
    have g6 : (6 : Int) < n2 := by omega
    have hb' : b < w10.heap.size := Nat.lt_of_lt_of_le hb hb10.size
    clear hcell hR10 hR9 hl2'
    generalize (l2.getD 6 0).toNat = k at c6 hc2 hlt
    rcases hc2 with hc2 | hc2
    · have hk : (128 : Int) < k := by omega
      go_wp2
      go_ret
      exact ⟨rfl, (HW9.trans (hb10.mono HW9.size)).alloc (Nat.le_trans HW9.size hb10.size) _⟩
    · have hk : (n2 : Int) < 7 + k := by omega
      by_cases hk' : 128 < k
      · have hk'' : (128 : Int) < k := by omega
        go_wp2
        go_ret
        exact ⟨rfl, (HW9.trans (hb10.mono HW9.size)).alloc (Nat.le_trans HW9.size hb10.size) _⟩
      · have hk'' : (k : Int) ≤ 128 := by omega
        go_wp2
        go_ret
        exact ⟨rfl, (HW9.trans (hb10.mono HW9.size)).alloc (Nat.le_trans HW9.size hb10.size) _⟩
  have hm1 : (l2.getD 6 0).toNat ≤ 128 := by omega
  have hm2 : 7 + (l2.getD 6 0).toNat ≤ n2 := by omega
  have hED := hide (enc_dec l2 (by omega) hm1)
  have h0 := (l2.getD 0 0).toNat_lt
  have h1 := (l2.getD 1 0).toNat_lt
  have h2' := (l2.getD 2 0).toNat_lt
  have h3 := (l2.getD 3 0).toNat_lt
  have h4 := (l2.getD 4 0).toNat_lt
  have h5 := (l2.getD 5 0).toNat_lt
  refine (decode_ok A2 n2 c2 l2 w9 (by omega) hR9 (by omega) hnc2 hm1 hm2).mono ?_
  rintro e w10 ⟨A10, c10, rfl, hown10, hb10⟩
  generalize (l2.getD 0 0).toNat = k0 at hED h0 ⊢
  generalize (l2.getD 1 0).toNat = k1 at hED h1 ⊢
  generalize (l2.getD 2 0).toNat = k2 at hED h2' ⊢
  generalize (l2.getD 3 0).toNat = k3 at hED h3 ⊢
  generalize (l2.getD 4 0).toNat = k4 at hED h4 ⊢
  generalize (l2.getD 5 0).toNat = k5 at hED h5 ⊢
  generalize (l2.getD 6 0).toNat = k at hED hm1 hm2 hlt hown10 hc2 ⊢
  have HW10 := HW9.trans (hb10.mono HW9.size)
  clear hc2 hl2' hi hc1
  go_wp2_with fail
  refine (encode_ok (k0 + k1 * 256 + k2 * 65536 + k3 * 16777216) k4 k5 A10 k c10 ((l2.drop 7).take k) _ (by omega) h4 h5 hm1 (((Rd.of_own hown10).alloc (Nat.le_refl _) _).more (by simp))).mono ?_
  rintro e w11 ⟨A11, c11, rfl, hown11, hb11⟩
  have HB11 : Below w10.heap.size w10 w11 := ((Below.refl _ _).alloc (Nat.le_refl _) _).trans (hb11.mono (by simp))
  rw [hED.out] at hown11
  have q1 : (convert 23 9 (.slice A11 (7 + k) c11)).run Try.prog w11.drew = .ok (.string (str (l2.take (7 + k)))) w11.drew := run_string_rd _ _ _ Try.underlying23 Try.underlying5 Try.underlying9 (Rd.of_own hown11).drew
  have q2 : (convert 23 9 (.slice A2 (7 + k) c2)).run Try.prog w11.drew = .ok (.string (str (l2.take (7 + k)))) w11.drew := by
    have := ((hR9.below (hb10.trans (HB11.mono hb10.size))).take (m := 7 + k) hm2).drew
    rw [Nat.mul_one, bvs_take] at this
    exact run_string_rd _ _ _ Try.underlying23 Try.underlying5 Try.underlying9 this
  have e7 : ((7 : Int) + k).toNat = 7 + k := by omega
  have e8 : (0 : Int) ≤ 7 + k := by omega
  have e9 : (7 : Int) + k ≤ c2 := by omega
  clear hown11 hED hR9 hown10
  go_wp2_with fail
  refine wp_region_text [true, true, true, true, true, true, true, true, true, true, true, true] (fun W => (convert 23 9 (.slice A11 (7 + k) c11)).run Try.prog W = .ok (.string (str (l2.take (7 + k)))) W ∧ (convert 23 9 (.slice A2 (7 + k) c2)).run Try.prog W = .ok (.string (str (l2.take (7 + k)))) W) (by kernel_rfl) (by kernel_rfl) ⟨q1, q2⟩ ?_
  iterate 12 (refine wpOrd_q (v := ?_) (by rfl) (fun W hW => ?_) ?_; rotate_left; (focus ((try dsimp only at hW); go_simp; try with_reducible rfl)); try simp only [Act.put, List.setIfInBounds_toArray, List.set_cons_zero, List.set_cons_succ])
  refine wpOrd_nil ?_
  go_wp2
  go_ret
  exact ⟨by simp, (HW10.trans (HB11.mono HW10.size)).drew⟩

theorem audit_all (s f t : Nat) (A A2 : Option Addr) (n c n2 c2 : Nat) (cut : Nat) (l l2 : List UInt8) (w : World) (hs : s < 4294967296) (hf : f < 256) (ht : t < 256) (hcut : cut < 256)
    (hr : Rd w w.heap.size 1 A n (bvs l)) (hr2 : Rd w w.heap.size 1 A2 n2 (bvs l2)) (hnc2 : n2 ≤ c2) :
    Calls Try.prog 3 #[.agg #[.int .u32 s, .int .u8 f, .int .u8 t, .slice A n c], .slice A2 n2 c2, .int .u8 cut] w fun e w' => e = .returned (.bool true) ∧ Below w.heap.size w w' := by
  by_cases h1 : 300 < n
  · exact audit_long1 s f t A A2 n c n2 c2 cut w h1
  · by_cases h2 : 300 < n2
    · exact audit_long2 s f t A A2 n c n2 c2 cut w (by omega) h2
    · by_cases h3 : 128 < n
      · exact audit_long3 s f t A A2 n c n2 c2 cut w (by omega) (by omega) h3
      · exact audit_main s f t A A2 n c n2 c2 cut l l2 w hs hf ht hcut (by omega) (by omega) hr hr2 hnc2

end Go.Proofs.Ytkjgieehiimiiaa
